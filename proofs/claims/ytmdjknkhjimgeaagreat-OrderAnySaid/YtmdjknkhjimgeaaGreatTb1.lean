/- Parts of the walk and of the plain law, joined for this claim alone by a program of this session. -/
import Derived.Test.YtmdjknkhjimgeaaGreatProg
import Derived.Test.YtmdjknkhjimgeaaGreatChecked
import Derived.WalkKit
import Derived.ProofKit
import Derived.OpenShut
import Derived.Lib.Strings
import Derived.Shelf.Abstract
import Derived.Laws.Strings
import Derived.Lib.Overlaps
import Derived.Laws.CopyOwn
import Derived.WalkSpells
import Derived.Test.YtmdjknkhjimgeaaGreatTb0
import Derived.Maps.RangeWalk
import Derived.Sort.Grow
import Derived.Laws.EntriesVeiled
import Derived.StillTailTactics
import Derived.Lib.RowBridge
import Derived.Lib.SlicesCompact
import Derived.Lib.SlKept
import Derived.Lib.SliceRun
import Derived.WideKeyEntry
import Derived.DeepKeys5
import Derived.Deep.RegionLaw
import Derived.Shelf.SlSortCmp.NoneTotal
import Derived.RangeFuncBox
import Derived.RangeFuncLeaves
import Derived.RangeFuncNested
import Derived.OwnWalkIn
import Derived.TacticsInMore
import Derived.LoopNIn
import Derived.LoopIn
import Derived.Maps.AppendAt
import Derived.Shelf.Sort.Plain
import Derived.Shelf.Slices.In.SortNone
import Derived.Ground.Names2Prog
import Derived.Shelf.Slices.CompactI
import Derived.Shelf.Small.Wraps
import Derived.Ground.SlsgProg
import Derived.Shelf.SlCmpFuncs.MinMaxFunc
import Derived.Ground.SlsfProg
import Derived.Below
import Derived.Deep.Draws
import Derived.Deep.AppendLies
import Derived.OwnWalk
import Derived.Laws.BytesArg
import Derived.Laws.MakeOwn
import Derived.Laws.OwnMore
import Derived.Deep.OwnRows
import Derived.Tactics
import Derived.Lib.ConvBytes
import Derived.Laws.Slices
import Derived.KernelRfl
import Derived.RowKit3
import Derived.Deep.LoopGhost
import Derived.Deep.QuietTactic
import Derived.BigQuiet
import Derived.WideLaws
import Derived.Deep.DeepCutAuto
import Derived.Deep.CutBlock
import Derived.Deep.RegionHeld3
import Derived.Laws.Rows
import Derived.Lib.AppendStr
import Derived.ArgAppend
import Derived.Laws.IdiomCopy
import Derived.OrdersHeld
import Derived.Laws.BitsLemmas
import Derived.RowKit
section
namespace Go.Proofs.YtmdjknkhjimgeaaGreat.Facts
theorem and_mk {a b : Bool} (ha : a = true) (hb : b = true) : (a && b) = true := by rw [ha, hb]; rfl
theorem words_one (b : List Char) : ∀ a : List Char, (∀ c ∈ a, c ≠ Char.ofNat 32) → wordsSigns (a ++ Char.ofNat 32 :: b) = a :: wordsSigns b
  | [], _ => rfl
  | c :: a, h => by
    rw [List.cons_append, wordsSigns]
    · rw [words_one b a (fun x hx => h x (List.mem_cons_of_mem _ hx))]
    · exact h c (List.mem_cons_self ..)
def w0 : List Char := [104, 97, 114, 110, 101, 115, 115].map Char.ofNat
def w1 : List Char := [49, 100, 102, 53, 99, 54, 57, 101, 100, 56, 99, 49, 54, 102, 56, 98, 51, 51, 102, 49, 100, 56, 49, 97, 98, 51, 55, 99, 101, 99, 54, 100, 100, 48, 57, 101, 50, 98, 51, 98, 50, 98, 100, 51, 51, 53, 102, 102, 56, 50, 97, 48, 100, 57, 56, 98, 50, 50, 51, 51, 57, 100, 50, 97].map Char.ofNat
def w2 : List Char := [99, 117, 116].map Char.ofNat
set_option maxRecDepth 100000 in
def w3 : List Char := [97, 116, 32, 104, 101, 108, 105, 97, 115, 116, 47, 104, 101, 108, 105, 97, 115, 116, 108, 97, 119, 49, 55, 46, 79, 114, 100, 101, 114, 82, 97, 110, 107, 101, 100, 32, 104, 101, 108, 105, 97, 115, 116, 47, 104, 101, 108, 105, 97, 115, 116, 108, 97, 119, 49, 55, 46, 79, 114, 100, 101, 114, 80, 108, 97, 99, 101, 115, 32, 104, 101, 108, 105, 97, 115, 116, 47, 104, 101, 108, 105, 97, 115, 116, 108, 97, 119, 49, 55, 46, 79, 114, 100, 101, 114, 65, 115, 107, 115, 32, 104, 101, 108, 105, 97, 115, 116, 47, 104, 101, 108, 105, 97, 115, 116, 108, 97, 119, 49, 55, 46, 79, 114, 100, 101, 114, 65, 110, 121].map Char.ofNat
theorem n0 : ∀ c ∈ w0, c ≠ Char.ofNat 32 := by decide +kernel
theorem n1 : ∀ c ∈ w1, c ≠ Char.ofNat 32 := by decide +kernel
theorem n2 : ∀ c ∈ w2, c ≠ Char.ofNat 32 := by decide +kernel
theorem init_is : Tryz.prog.initOrder = String.ofList (w0 ++ Char.ofNat 32 :: (w1 ++ Char.ofNat 32 :: (w2 ++ Char.ofNat 32 :: w3))) := by kernel_rfl
theorem init_signs : ∃ X, behindMainWord (wordsSigns Tryz.prog.initOrder.toList) = w2 :: X := by
  refine ⟨wordsSigns w3, ?_⟩
  rw [init_is, String.toList_ofList, words_one _ w0 n0, words_one _ w1 n1, words_one _ w2 n2]
  generalize wordsSigns w3 = X
  kernel_rfl
theorem lifts0 (X : List (List Char)) : stripLifts liftWords (w2 :: X) = ([], w2 :: X) := by kernel_rfl
theorem isCut : (w2 == "cut".toList) = true := by kernel_rfl
theorem noGc : (w2 == "gc".toList || w2 == "spec".toList) = false := by kernel_rfl
theorem noFin : (w2 == "finals".toList) = false := by kernel_rfl
theorem noCar : (w2 == "carried".toList) = false := by kernel_rfl
theorem make_of (P : Program) (X : List (List Char)) (h : behindMainWord (wordsSigns P.initOrder.toList) = w2 :: X) : P.make = some .cut := by
  unfold Program.make
  rw [h]
  simp only [noGc, isCut, noFin, Bool.false_eq_true, if_false, Bool.true_or, if_true]
theorem enter_of (P : Program) (X : List (List Char)) (h : behindMainWord (wordsSigns P.initOrder.toList) = w2 :: X) (h1 : P.laysLater = false) (h2 : P.bearsReflect = false) (h3 : P.doorFits [] = true) : P.mayEnter = true := by
  unfold Program.mayEnter
  rw [h]
  simp only [lifts0, noGc, noCar, Bool.false_and, Bool.false_or, List.head?_cons, h1, h2, h3]
  rfl
theorem finals_of (P : Program) (X : List (List Char)) (h : behindMainWord (wordsSigns P.initOrder.toList) = w2 :: X) : P.liftsFinal = false := by
  unfold Program.liftsFinal Program.headLifts
  rw [h]
  simp only [lifts0]
  rfl
theorem k1 : Tryz.prog.laysLater = false := by kernel_rfl
theorem k2 : Tryz.prog.bearsReflect = false := by kernel_rfl
theorem k3 : Tryz.prog.doorFits [] = true := by kernel_rfl
theorem made : Tryz.prog.make = some .cut := init_signs.elim fun X h => make_of _ X h
theorem enters : Tryz.prog.mayEnter = true := init_signs.elim fun X h => enter_of _ X h k1 k2 k3
theorem finals : Tryz.prog.liftsFinal = false := init_signs.elim fun X h => finals_of _ X h
theorem laidOut : laidOutB Tryz.prog = true := by kernel_rfl
theorem rowed : mapsRowed Tryz.prog = true := by kernel_rfl
theorem heard : Tryz.prog.stopsHeard = true := by kernel_rfl
theorem plain : Tryz.prog.plainKeys = true := by kernel_rfl
end Go.Proofs.YtmdjknkhjimgeaaGreat.Facts
end
section
namespace Go.Proofs.He
open Go
theorem bytesLess_eq : ∀ (x y : List UInt8), Op.bytesLess x y = decide (x < y)
  | [], [] => by simp [Op.bytesLess]
  | [], _ :: _ => by simp [Op.bytesLess]
  | _ :: _, [] => by simp [Op.bytesLess]
  | a :: x, b :: y => by
    rw [Op.bytesLess, bytesLess_eq x y]
    by_cases h : a < b <;> by_cases h' : a = b <;> simp [h, h', List.cons_lt_cons_iff]
theorem bytesLess_gtr (a b : List UInt8) : (!(Op.bytesLess a b || a == b)) = Op.bytesLess b a := by
  rw [bytesLess_eq, bytesLess_eq]
  by_cases h1 : a < b
  · have := List.lt_asymm h1; simp [h1, this]
  · by_cases h2 : a = b
    · subst h2; simp
    · have : b < a := by
        rcases List.le_iff_lt_or_eq.1 (List.not_lt.1 h1) with h | h
        · exact h
        · exact absurd h.symm h2
      simp [h1, h2, this]
theorem binOp_string_gtr (t : TypeId) (a b : ByteArray) : binOp .gtr t (.string a) (.string b) = pure (.bool (Op.bytesLess b.toList a.toList)) := by
  rw [← bytesLess_gtr]; simp [binOp, Op.stringOp]
attribute [go_sem] binOp_string_gtr
theorem u8_tmod (a n : Int) : (IntKind.u8.wrap a).tmod n = (a % 256) % n := by
  rw [show IntKind.u8.wrap a = a % 256 from by simp [IntKind.wrap, IntKind.signed, IntKind.bits]]
  exact Int.tmod_eq_emod_of_nonneg (by omega)
attribute [go_sem] u8_tmod
def idxOf {α : Type} (p : α → Bool) (l : List α) : Int := match l.findIdx? p with | some i => i | none => -1
theorem idxOf_hit {α : Type} {p : α → Bool} {l : List α} {k : Nat} (hk : k < l.length) (h0 : ∀ j, j < k → ∀ x, l[j]? = some x → p x = false) (h1 : p l[k] = true) : idxOf p l = k := by
  have : l.findIdx? p = some k := by
    rw [List.findIdx?_eq_some_iff_getElem]
    refine ⟨hk, h1, fun j hj => ?_⟩
    rw [h0 j hj _ (List.getElem?_eq_getElem (by omega))]; simp
  simp [idxOf, this]
theorem idxOf_miss {α : Type} {p : α → Bool} {l : List α} (h0 : ∀ j, j < l.length → ∀ x, l[j]? = some x → p x = false) : idxOf p l = -1 := by
  have : l.findIdx? p = none := by
    rw [List.findIdx?_eq_none_iff]
    intro x hx
    obtain ⟨j, hj, rfl⟩ := List.getElem_of_mem hx
    exact h0 j hj _ (List.getElem?_eq_getElem hj)
  simp [idxOf, this]
theorem ba_ext {a b : ByteArray} (h : a.toList = b.toList) : a = b := by
  have := congrArg List.toArray h
  rw [Lib.toList_data, Lib.toList_data] at h
  cases a; cases b; simp_all
def cmpS (a b : ByteArray) : Int := if a.toList < b.toList then -1 else if b.toList < a.toList then 1 else 0
end Go.Proofs.He
end
section
set_option linter.unusedVariables false
set_option linter.unusedSimpArgs false
namespace Go.Proofs.He
open Go Go.RowKit Go.Proofs.YtmdjknkhjimgeaaGreatW.PrintWords
structure Flat {α : Type} (d : Kd α) (enc : α → List Value) : Prop where
  len : ∀ x, (enc x).length = d.sz
  one : ∀ x, ∀ u ∈ enc x, u.oneCell' = true
  M : ∀ w base ok x cs, d.M w base ok x cs ↔ cs = enc x
  K : ∀ w x cs, d.K w x cs ↔ cs = enc x
section
variable {α : Type} {d : Kd α} {enc : α → List Value} (F : Flat d enc)
include F
theorem Flat.flen : ∀ l : List α, (l.flatMap enc).length = l.length * d.sz
  | [] => by simp
  | x :: l => by rw [List.flatMap_cons, List.length_append, F.len, Flat.flen l, List.length_cons, Nat.succ_mul, Nat.add_comm]
theorem Flat.fdrop : ∀ (l : List α) (i : Nat), (l.drop i).flatMap enc = (l.flatMap enc).drop (i * d.sz)
  | [], i => by simp
  | x :: l, 0 => by simp
  | x :: l, i + 1 => by
    have e1 : (enc x).drop ((i + 1) * d.sz) = [] := List.drop_eq_nil_of_le (by rw [F.len, Nat.succ_mul]; omega)
    have e2 : (i + 1) * d.sz - d.sz = i * d.sz := by rw [Nat.succ_mul]; omega
    rw [List.drop_succ_cons, Flat.fdrop l i, List.flatMap_cons, List.drop_append, F.len, e1, e2, List.nil_append]
theorem Flat.seg {l : List α} {j : Nat} {p : α} (h : l[j]? = some p) : ((l.flatMap enc).drop (j * d.sz)).take d.sz = enc p := by
  have hj := (List.getElem?_eq_some_iff.1 h).1
  rw [← Flat.fdrop F, List.drop_eq_getElem_cons hj, List.flatMap_cons]
  have : l[j] = p := (List.getElem?_eq_some_iff.1 h).2
  rw [this, ← F.len p, List.take_left]
theorem Flat.reps {w : World} {base : Nat} {ok : Nat → Prop} (l : List α) : Reps (d.M w base ok) d.sz l (l.flatMap enc) :=
  ⟨Flat.flen F l, fun j p hj => by rw [Flat.seg F hj]; exact (F.M _ _ _ _ _).2 rfl⟩
omit F in
theorem Flat.of_reps {R : α → List Value → Prop} (hR : ∀ x cs, R x cs → cs = enc x) : ∀ (l : List α) (cs : List Value), Reps R d.sz l cs → cs = l.flatMap enc
  | [], cs, h => by
    have := h.1
    simp at this
    simp [this]
  | x :: l, cs, h => by
    have h0 := hR _ _ (h.2 0 x rfl)
    rw [Nat.zero_mul, List.drop_zero] at h0
    have ih := Flat.of_reps hR l (cs.drop d.sz) ⟨by rw [List.length_drop, h.1, List.length_cons, Nat.succ_mul]; omega, fun j p hj => by
      have := h.2 (j + 1) p (by simpa using hj)
      rwa [List.drop_drop, show d.sz + j * d.sz = (j + 1) * d.sz by rw [Nat.succ_mul]; omega]⟩
    rw [List.flatMap_cons, ← h0, ← ih, List.take_append_drop]
theorem Flat.own {w : World} {e base : Nat} {ok : Nat → Prop} {v : Value} {l : List α} (h : d.R e w base ok v l) : w.ownsRow base e d.sz v l.length (l.flatMap enc) ∧ ∀ k, v.ownBlock = some k → ok k := by
  obtain ⟨h0, inner, ho, hr⟩ := h
  rw [← Flat.of_reps (d := d) (fun x cs hx => (F.M _ _ _ _ _).1 hx) l inner hr]
  exact ⟨ho, h0⟩
theorem Flat.put {w : World} {e base : Nat} {ok : Nat → Prop} {v : Value} {l : List α} (h : w.ownsRow base e d.sz v l.length (l.flatMap enc)) (hok : ∀ k, v.ownBlock = some k → ok k) : d.R e w base ok v l :=
  ⟨hok, _, h, Flat.reps F l⟩
theorem Flat.C_mk {w : World} {ad : Addr} {l : List α} (hm : l.length ≤ 9223372036854775807) (h : ∀ j u, (l.flatMap enc)[j]? = some u → w.cell? (ad.add j) = some u) : d.C w (some ad) l.length l :=
  ⟨rfl, hm, fun _ => ⟨ad, rfl, fun j p hj => ⟨enc p, F.len p, (F.K _ _ _).2 rfl, fun i u hu => h _ _ (by
    have hs := Flat.seg F hj
    have hi := (List.getElem?_eq_some_iff.1 hu).1
    rw [F.len] at hi
    rw [← hs, List.getElem?_take, if_pos hi, List.getElem?_drop] at hu
    exact hu)⟩⟩⟩
end
theorem cut_up {P : Program} (t e : TypeId) {i : TypeInfo} (ht : P.underlying t = some (.slice e)) (hi : P.info? e = some i) (A : Option Addr) (n c j : Nat) (ji : Int) (hj : ji = j) (hc : j ≤ c) :
    ∀ W : World, (Instr.slice t (.slice A n c) none (some (.int .i64 ji)) none).run P W = .ok (.slice A j c) W := by
  intro W
  subst hj
  have hel : P.elem t = e := by simp [Program.elem, ht]
  have hu : P.underlying t = some (.slice (P.elem t)) := by rw [hel]; exact ht
  have ha : (A.map fun x => x.add 0) = A := by cases A <;> simp [Addr.add]
  rw [run_slice_h W t A n c hu .i64 j (by omega) (by omega), hel]
  simp [sizeOf, typeInfo, hi, sliced, Result.andThen, ha]
end Go.Proofs.He
end
section
set_option linter.unusedVariables false
set_option linter.unusedSimpArgs false
namespace Go.Proofs.He
open Go Go.RowKit Go.Maps
structure KK (P : Program) (k : TypeId) (α : Type) where
  K : Keyed P k
  val : α → Value
  kl : α → Lit
  ok : α → Prop
  of : ∀ {x : α}, ok x → keyOf P k (val x) = some (kl x)
  inv : ∀ {v : Value} {l : Lit}, keyOf P k v = some l → ∃ x, ok x ∧ v = val x ∧ l = kl x
  inj : ∀ {x y : α}, kl x = kl y → x = y
structure VK (β : Type) where
  R : Value → Option (DataW Unit × List MemPlace)
  val : β → Value
  dat : β → DataW Unit
  ok : β → Prop
  of : ∀ {y : β}, ok y → R (val y) = some (dat y, [])
  inv : ∀ {v : Value} {z : DataW Unit × List MemPlace}, R v = some z → ∃ y, ok y ∧ v = val y ∧ z = (dat y, [])
  inj : ∀ {x y : β}, dat x = dat y → x = y
def intK {P : Program} {k : TypeId} (hk : P.underlying k = some (.int .i64)) : KK P k Int where
  K := int_keyed hk
  val := Value.int .i64
  kl := Lit.int .i64
  ok x := (Lit.int .i64 x).wf = true
  of h := keyOf_int_mk hk h
  inv h := by obtain ⟨x, h1, h2, h3⟩ := Maps.keyOf_int_inv hk h; exact ⟨x, h3, h1, h2⟩
  inj h := by injection h
def unitV : VK Unit where
  R := unitElem
  val _ := .agg #[]
  dat _ := .agg []
  ok _ := True
  of _ := unitElem_mk
  inv h := by obtain ⟨h1, h2⟩ := unitElem_inv h; exact ⟨(), trivial, h1, h2⟩
  inj _ := rfl
def rawMap : Value → Option (DataW Unit × List MemPlace)
  | .map (some b) => some (.lit (.int .i64 b), [])
  | _ => none
def mapV : VK Nat where
  R := rawMap
  val b := .map (some b)
  dat b := .lit (.int .i64 b)
  ok _ := True
  of _ := rfl
  inv {v z} h := by
    unfold rawMap at h
    split at h
    · cases h; exact ⟨_, trivial, rfl, rfl⟩
    · cases h
  inj h := by injection h with h; injection h with _ h; exact Int.ofNat.inj h
section
variable {P : Program} {k : TypeId} {α β : Type} [DecidableEq α]
theorem KK.same' (κ : KK P k α) {x : α} (hx : κ.ok x) (y : α) : (κ.kl y).sameKey (κ.kl x) = decide (y = x) := by
  by_cases h : y = x
  · subst h; rw [WideAt.sameKey_self (κ.K.key (κ.of hx))]; simp
  · rw [Maps.sameKey_ne (fun e => h (κ.inj e))]; simp [h]
structure Says (κ : KK P k α) (ν : VK β) (D : DataW Unit) (M : List (α × β)) : Prop where
  nodup : (M.map (·.1)).Nodup
  okk : ∀ p ∈ M, κ.ok p.1
  okv : ∀ p ∈ M, ν.ok p.2
  has : ∀ x, Maps.has D (κ.kl x) = decide (x ∈ M.map (·.1))
  at_ : ∀ p ∈ M, ∀ z, D.atKey (κ.kl p.1) z = ν.dat p.2
def strikeL (l : List α) (x : α) : List α := l.filter fun z => decide (z ≠ x)
def delM (M : List (α × β)) (x : α) : List (α × β) := M.filter fun p => decide (p.1 ≠ x)
def putM (M : List (α × β)) (x : α) (y : β) : List (α × β) := (x, y) :: delM M x
theorem mem_delM {M : List (α × β)} {x : α} {p : α × β} : p ∈ delM M x ↔ p ∈ M ∧ p.1 ≠ x := by simp [delM]
theorem keys_delM {M : List (α × β)} {x z : α} : z ∈ (delM M x).map (·.1) ↔ z ∈ M.map (·.1) ∧ z ≠ x := by
  simp only [List.mem_map, mem_delM]
  constructor
  · rintro ⟨p, ⟨h1, h2⟩, rfl⟩; exact ⟨⟨p, h1, rfl⟩, h2⟩
  · rintro ⟨⟨p, h1, rfl⟩, h2⟩; exact ⟨p, ⟨h1, h2⟩, rfl⟩
theorem keys_putM {M : List (α × β)} {x z : α} {y : β} : z ∈ (putM M x y).map (·.1) ↔ z = x ∨ z ∈ M.map (·.1) := by
  unfold putM
  rw [List.map_cons, List.mem_cons, keys_delM]
  constructor
  · rintro (h | ⟨h, _⟩)
    · exact .inl h
    · exact .inr h
  · rintro (h | h)
    · exact .inl h
    · by_cases e : z = x
      · exact .inl e
      · exact .inr ⟨h, e⟩
theorem nodup_delM {M : List (α × β)} (h : (M.map (·.1)).Nodup) (x : α) : ((delM M x).map (·.1)).Nodup := h.sublist ((List.filter_sublist).map _)
theorem nodup_putM {M : List (α × β)} (h : (M.map (·.1)).Nodup) (x : α) (y : β) : ((putM M x y).map (·.1)).Nodup :=
  List.nodup_cons.2 ⟨fun h' => (keys_delM.1 h').2 rfl, nodup_delM h x⟩
variable {κ : KK P k α} {ν : VK β} {D : DataW Unit} {M : List (α × β)} {w w1 : World} {b r n : Nat} {todo : List α}
theorem Says.nil (κ : KK P k α) (ν : VK β) : Says κ ν (.map []) [] := ⟨by simp, by simp, by simp, by simp [Maps.has], by simp⟩
theorem Says.put (h : Says κ ν D M) (hD : IsMap D) {x : α} {y : β} (hx : κ.ok x) (hy : ν.ok y) : Says κ ν (D.put (κ.kl x) (ν.dat y)) (putM M x y) where
  nodup := nodup_putM h.nodup x y
  okk p hp := by
    rcases List.mem_cons.1 hp with rfl | hp
    · exact hx
    · exact h.okk p (mem_delM.1 hp).1
  okv p hp := by
    rcases List.mem_cons.1 hp with rfl | hp
    · exact hy
    · exact h.okv p (mem_delM.1 hp).1
  has z := by
    by_cases e : z = x
    · subst e
      rw [has_put_same hD (κ.K.key (κ.of hx))]
      exact (decide_eq_true (keys_putM.2 (.inl rfl))).symm
    · rw [has_put_other (fun e' => e (κ.inj e')), h.has]
      have : z ∈ (putM M x y).map (·.1) ↔ z ∈ M.map (·.1) := by rw [keys_putM]; simp [e]
      simp only [this]
  at_ p hp z := by
    rcases List.mem_cons.1 hp with rfl | hp
    · exact atKey_put_same hD (κ.K.key (κ.of hx)) _ _
    · obtain ⟨h1, h2⟩ := mem_delM.1 hp
      rw [atKey_put_other (fun e' => h2 (κ.inj e'))]
      exact h.at_ p h1 z
theorem Says.del (h : Says κ ν D M) (x : α) : Says κ ν (D.del (κ.kl x)) (delM M x) where
  nodup := nodup_delM h.nodup x
  okk p hp := h.okk p (mem_delM.1 hp).1
  okv p hp := h.okv p (mem_delM.1 hp).1
  has z := by
    by_cases e : z = x
    · subst e
      rw [has_del_same]
      exact (decide_eq_false (fun h' => (keys_delM.1 h').2 rfl)).symm
    · rw [has_del_other (fun e' => e (κ.inj e')), h.has]
      have : z ∈ (delM M x).map (·.1) ↔ z ∈ M.map (·.1) := by rw [keys_delM]; simp [e]
      simp only [this]
  at_ p hp z := by
    obtain ⟨h1, h2⟩ := mem_delM.1 hp
    rw [atKey_del_other (fun e' => h2 (κ.inj e'))]
    exact h.at_ p h1 z
theorem tight {R : Value → Option (DataW Unit × List MemPlace)} (h : w.ownsMap P k R b n D) : w.ownsMap P k R b (Maps.size D) D := by
  obtain ⟨es, clock, hb, F, hs, rfl⟩ := h
  exact ⟨es, clock, hb, F, by simp [Maps.size, length_sorted], rfl⟩
theorem Says.size (h : Says κ ν D M) (ho : w.ownsMap P k ν.R b n D) : Maps.size D = M.length := by
  have hap := ho.entries κ.K
  obtain ⟨es, clock, hb, F, hs, rfl⟩ := ho
  obtain ⟨l, hl, hp, _⟩ := hap
  obtain ⟨rfl⟩ : ((es.toList.map (WideElems.rg P k ν.R)).foldr DataW.insert []) = l := by injection hl
  generalize hS : ((es.toList.map (WideElems.rg P k ν.R)).foldr DataW.insert []) = S at *
  have hkey : ∀ p ∈ S, ∃ x, κ.ok x ∧ p.1 = κ.kl x := by
    intro p hp'
    rw [← hS] at hp'
    obtain ⟨e, he, rfl⟩ := List.mem_map.1 (mem_sorted.1 hp')
    obtain ⟨y, hy⟩ := F.reads e he
    obtain ⟨x, h1, _, h2⟩ := κ.inv (WideElems.rd_key hy)
    exact ⟨x, h1, by rw [WideElems.rg_of hy]; exact h2⟩
  have hn1 : (S.map (·.1)).Nodup := by
    rw [List.Nodup, List.pairwise_map]; exact hp
  have hn2 : ((M.map (·.1)).map κ.kl).Nodup := by
    rw [List.Nodup, List.pairwise_map]
    exact h.nodup.imp (fun hne e => hne (κ.inj e))
  have hperm : (S.map (·.1)).Perm ((M.map (·.1)).map κ.kl) := by
    rw [List.perm_ext_iff_of_nodup hn1 hn2]
    intro l
    constructor
    · intro hl'
      obtain ⟨p, hp', rfl⟩ := List.mem_map.1 hl'
      obtain ⟨x, hx, e⟩ := hkey p hp'
      have : Maps.has (DataW.map S) (κ.kl x) = true := List.any_eq_true.2 ⟨p, hp', by rw [e]; exact WideAt.sameKey_self (κ.K.key (κ.of hx))⟩
      rw [h.has] at this
      rw [e]
      exact List.mem_map.2 ⟨x, of_decide_eq_true this, rfl⟩
    · intro hl'
      obtain ⟨x, hx, rfl⟩ := List.mem_map.1 hl'
      have : Maps.has (DataW.map S) (κ.kl x) = true := by rw [h.has]; exact decide_eq_true hx
      obtain ⟨p, hp', hs'⟩ := List.any_eq_true.1 this
      exact List.mem_map.2 ⟨p, hp', WideAt.sameKey_eq hs'⟩
  have := hperm.length_eq
  simpa [Maps.size] using this
def Own (κ : KK P k α) (ν : VK β) (w : World) (b : Nat) (M : List (α × β)) : Prop := ∃ D, w.ownsMap P k ν.R b M.length D ∧ Says κ ν D M
theorem Own.of (h : w.ownsMap P k ν.R b n D) (hs : Says κ ν D M) : Own κ ν w b M := ⟨D, by rw [← hs.size h]; exact tight h, hs⟩
theorem Own.made (κ : KK P k α) (ν : VK β) (w : World) : Own κ ν (w.alloc (.map #[] 0)) w.heap.size [] := ⟨_, World.ownsMap_made _ _ _ _, Says.nil _ _⟩
theorem Own.lt (h : Own κ ν w b M) : b < w.heap.size := by obtain ⟨D, ho, _⟩ := h; exact ho.lt
theorem Own.move (h : Own κ ν w b M) (hm : w1.heap[b]? = w.heap[b]?) : Own κ ν w1 b M := by
  obtain ⟨D, ⟨es, clock, hb, F, hs, hD⟩, hS⟩ := h
  exact ⟨D, ⟨es, clock, hm.trans hb, F, hs, hD⟩, hS⟩
theorem Own.below (h : Own κ ν w b M) (hb : Below w.heap.size w w1) : Own κ ν w1 b M := h.move (hb.block b h.lt)
theorem Own.grown (h : Own κ ν w b M) {row : Option Nat} (hg : w.grownBy w1 row) (hne : some b ≠ row) : Own κ ν w1 b M := h.move (hg.block b h.lt hne)
theorem Own.nodup (h : Own κ ν w b M) : (M.map (·.1)).Nodup := by obtain ⟨D, _, hS⟩ := h; exact hS.nodup
def Iter (κ : KK P k α) (ν : VK β) (w : World) (b r : Nat) (M : List (α × β)) (todo : List α) : Prop :=
  ∃ n D left cnt, w.ranges P k ν.R b r n D left cnt ∧ Says κ ν D M ∧ todo.Nodup ∧ (∀ x, left (κ.kl x) = decide (x ∈ todo)) ∧ (∀ x ∈ todo, x ∈ M.map (·.1))
theorem Iter.own (h : Iter κ ν w b r M todo) : Own κ ν w b M := by obtain ⟨n, D, left, cnt, hr, hs, _⟩ := h; exact Own.of hr.owns hs
theorem Iter.lt (h : Iter κ ν w b r M todo) : r < w.heap.size := by obtain ⟨n, D, left, cnt, hr, hs, _⟩ := h; exact hr.lt
theorem Iter.move (h : Iter κ ν w b r M todo) (hm : w1.heap[b]? = w.heap[b]?) (hm' : w1.heap[r]? = w.heap[r]?) : Iter κ ν w1 b r M todo := by
  obtain ⟨n, D, left, cnt, ⟨es, clock, since, seen, c0, hb, F, hs, hD, hr, hx⟩, hS⟩ := h
  exact ⟨n, D, left, cnt, ⟨es, clock, since, seen, c0, hm.trans hb, F, hs, hD, hm'.trans hr, hx⟩, hS⟩
theorem Iter.below (h : Iter κ ν w b r M todo) (hb : Below w.heap.size w w1) : Iter κ ν w1 b r M todo := h.move (hb.block b h.own.lt) (hb.block r h.lt)
theorem Iter.grown (h : Iter κ ν w b r M todo) {row : Option Nat} (hg : w.grownBy w1 row) (hne : some b ≠ row) (hne' : some r ≠ row) : Iter κ ν w1 b r M todo :=
  h.move (hg.block b h.own.lt hne) (hg.block r h.lt hne')
def getM (M : List (α × β)) (x : α) (y0 : β) : β := match M.find? (fun p => decide (p.1 = x)) with | some p => p.2 | none => y0
theorem getM_mem {M : List (α × β)} {x : α} {y : β} (hn : (M.map (·.1)).Nodup) (h : (x, y) ∈ M) (y0 : β) : getM M x y0 = y := by
  unfold getM
  cases hf : M.find? (fun p => decide (p.1 = x)) with
  | none => rw [List.find?_eq_none] at hf; exact absurd (decide_eq_true (rfl : ((x, y) : α × β).1 = x)) (hf _ h)
  | some p =>
    have h1 := List.find?_some hf
    have h2 := List.mem_of_find?_eq_some hf
    simp only [decide_eq_true_eq] at h1
    have : ∀ (l : List (α × β)), (l.map (·.1)).Nodup → ∀ p ∈ l, ∀ q ∈ l, p.1 = q.1 → p = q := by
      intro l
      induction l with
      | nil => simp
      | cons a l ih =>
        intro hn p hp q hq he
        rw [List.map_cons, List.nodup_cons] at hn
        rcases List.mem_cons.1 hp with e1 | hp' <;> rcases List.mem_cons.1 hq with e2 | hq'
        · rw [e1, e2]
        · exact absurd (List.mem_map.2 ⟨q, hq', by rw [← he, e1]⟩) hn.1
        · exact absurd (List.mem_map.2 ⟨p, hp', by rw [he, e2]⟩) hn.1
        · exact ih hn.2 p hp' q hq' he
    rw [this M hn p h2 (x, y) h h1]
theorem Own.off (h : Own κ ν w b M) {c : Nat} {cells : Array Value} {e : TypeId} {fr : Nat × Nat} (hc : w.heap[c]? = some (.cells cells e fr)) : c ≠ b := by
  obtain ⟨D, ⟨es, clock, hb, _⟩, _⟩ := h
  rintro rfl
  rw [hb] at hc; cases hc
theorem Iter.off (h : Iter κ ν w b r M todo) {c : Nat} {cells : Array Value} {e : TypeId} {fr : Nat × Nat} (hc : w.heap[c]? = some (.cells cells e fr)) : c ≠ r := by
  obtain ⟨n, D, left, cnt, ⟨es, clock, since, seen, c0, hb, F, hs, hD, hr, hx⟩, hS⟩ := h
  rintro rfl
  rw [hr] at hc; cases hc
theorem Own.obj (h : Own κ ν w b M) : ∃ es c, w.heap[b]? = some (.map es c) := by
  obtain ⟨D, ⟨es, clock, hb, _⟩, _⟩ := h
  exact ⟨es, clock, hb⟩
theorem Iter.obj (h : Iter κ ν w b r M todo) : ∃ a s n c, w.heap[r]? = some (.mapIter a s n c) := by
  obtain ⟨n, D, left, cnt, ⟨es, clock, since, seen, c0, hb, F, hs, hD, hr, hx⟩, hS⟩ := h
  exact ⟨_, _, _, _, hr⟩
theorem Own.ne_iter {k' : TypeId} {α' β' : Type} [DecidableEq α'] {κ' : KK P k' α'} {ν' : VK β'} {b' : Nat} {M' : List (α' × β')} {todo' : List α'} (h : Own κ ν w b M) (h' : Iter κ' ν' w b' r M' todo') : b ≠ r := by
  obtain ⟨es, c, h1⟩ := h.obj
  obtain ⟨_, _, _, _, h2⟩ := h'.obj
  rintro rfl
  rw [h1] at h2; cases h2
theorem Iter.left_grown (h : Iter κ ν w b r M todo) {row : Option Nat} (hg : w.grownBy w1 row) (hne : some b ≠ row) (hne' : some r ≠ row) : w1.rangeLeft b r = w.rangeLeft b r := by
  simp only [World.rangeLeft, hg.block b h.own.lt hne, hg.block r h.lt hne']
theorem Iter.nodup (h : Iter κ ν w b r M todo) : todo.Nodup := by obtain ⟨n, D, left, cnt, hr, hs, hn, _⟩ := h; exact hn
theorem Iter.sub (h : Iter κ ν w b r M todo) : ∀ x ∈ todo, x ∈ M.map (·.1) := by obtain ⟨n, D, left, cnt, hr, hs, hn, _, h⟩ := h; exact h
theorem mem_strikeL {l : List α} {x z : α} : z ∈ strikeL l x ↔ z ∈ l ∧ z ≠ x := by simp [strikeL]
theorem nodup_strikeL {l : List α} (h : l.Nodup) (x : α) : (strikeL l x).Nodup := h.sublist List.filter_sublist
theorem length_strike1 : ∀ {l : List α} {x : α}, l.Nodup → x ∈ l → (strikeL l x).length + 1 = l.length
  | [], _, _, h => by simp at h
  | y :: l, x, hn, h => by
    obtain ⟨h1, h2⟩ := List.nodup_cons.1 hn
    by_cases e : y = x
    · subst e
      have : l.filter (fun z => decide (z ≠ y)) = l := List.filter_eq_self.2 (fun z hz => by simp; rintro rfl; exact h1 hz)
      unfold strikeL
      rw [List.filter_cons_of_neg (by simp), this, List.length_cons]
    · rcases List.mem_cons.1 h with rfl | h
      · exact absurd rfl e
      · have ih := length_strike1 h2 h
        unfold strikeL at ih ⊢
        rw [List.filter_cons_of_pos (by simpa using e), List.length_cons, List.length_cons, ih]
variable {ops : Array Oper} {rest : List Oper} {o : Oper} {a : Act} {Q : Exit → Act → World → Prop}
theorem wpList_mput (hg : o.guard = none) (m x v : Operand) (t : TypeId) (hop : o.op = Op.mapUpdate t m x v) (κ : KK P k α) (ν : VK β) (e : TypeId) (ht : P.underlying t = some (.map k e)) (b : Nat) (M : List (α × β))
    (hm : a.eval m = .map (some b)) (hown : Own κ ν w b M) (hn : M.length < maxLen) (kx : α) (y : β) (hx : a.eval x = κ.val kx) (hv : a.eval v = ν.val y) (hkx : κ.ok kx) (hy : ν.ok y)
    (hK : ∀ w', Own κ ν w' b (putM M kx y) → w.grownBy w' (some b) → wpList P ops Q rest (a.put o.dst undef) w') : wpList P ops Q (o :: rest) a w := by
  obtain ⟨D, ho, hS⟩ := hown
  exact wpList_mapUpdate_own w hg m x v t hop k e κ.K ht ν.R b M.length D hm ho hn _ _ _ hx hv (κ.of hkx) _ [] (ν.of hy) (fun w' h1 h2 => hK w' (Own.of h1 (hS.put ho.isMap hkx hy)) h2)
theorem wpList_mhas (hg : o.guard = none) (m x : Operand) (t : TypeId) (hop : o.op = Op.lookup t m x true) (κ : KK P k α) (e : TypeId) (ht : P.underlying t = some (.map k e)) (hz : (zeroValue e).run P w = .ok (.agg #[]) w) (b : Nat) (M : List (α × Unit))
    (hm : a.eval m = .map (some b)) (hown : Own κ unitV w b M) (kx : α) (hx : a.eval x = κ.val kx) (hkx : κ.ok kx)
    (hK : wpList P ops Q rest (a.put o.dst (.tuple #[.agg #[], .bool (decide (kx ∈ M.map (·.1)))])) w) : wpList P ops Q (o :: rest) a w := by
  obtain ⟨D, ho, hS⟩ := hown
  exact wpList_lookup_own_unit w hg m x t hop k e κ.K ht hz b M.length D hm ho _ _ hx (κ.of hkx) (by rw [hS.has]; exact hK)
theorem wpList_mdel (hg : o.guard = none) (m x : Operand) (t : TypeId) (hop : o.op = Op.call { callee := Callee.builtin Builtin.delete, args := #[m, x], argTypes := #[t, k] }) (κ : KK P k α) (ν : VK β) (e : TypeId) (ht : P.underlying t = some (.map k e)) (b : Nat) (M : List (α × β))
    (hm : a.eval m = .map (some b)) (hown : Own κ ν w b M) (kx : α) (hx : a.eval x = κ.val kx) (hkx : κ.ok kx)
    (hK : ∀ w', Own κ ν w' b (delM M kx) → w.grownBy w' (some b) → w'.heap.size = w.heap.size → wpList P ops Q rest (a.put o.dst (.tuple #[])) w') : wpList P ops Q (o :: rest) a w := by
  obtain ⟨D, ho, hS⟩ := hown
  refine wpList_delete_own w hg m x t k hop e κ.K ht ν.R b M.length D hm ho _ _ hx (κ.of hkx) (fun w' h1 h2 => hK w' (Own.of h1 (hS.del kx)) h2.grown ?_)
  obtain ⟨es, clock, es', clock', hb, rfl⟩ := h2
  simp [ChangeMaps.setBlock]
theorem wpList_mlen (hg : o.guard = none) (m : Operand) (t : TypeId) (hop : o.op = Op.call { callee := Callee.builtin Builtin.len, args := #[m], argTypes := #[t] }) (κ : KK P k α) (ν : VK β) (e : TypeId) (ht : P.underlying t = some (.map k e)) (b : Nat) (M : List (α × β))
    (hm : a.eval m = .map (some b)) (hown : Own κ ν w b M) (hK : wpList P ops Q rest (a.put o.dst (.int .i64 M.length)) w) : wpList P ops Q (o :: rest) a w := by
  obtain ⟨D, ho, hS⟩ := hown
  exact wpList_len_own w hg m t hop k e ht ν.R b M.length D hm ho (by rw [hS.size ho]; exact hK)
theorem wpList_mrange (hg : o.guard = none) (m : Operand) (t : TypeId) (hop : o.op = Op.range t m) (κ : KK P k α) (ν : VK β) (e : TypeId) (ht : P.underlying t = some (.map k e)) (b : Nat) (M : List (α × β))
    (hm : a.eval m = .map (some b)) (hown : Own κ ν w b M)
    (hK : ∀ w', Iter κ ν w' b w.heap.size M (M.map (·.1)) → w.grownBy w' none → w'.heap.size = w.heap.size + 1 → wpList P ops Q rest (a.put o.dst (.pointer (some ⟨w.heap.size, 0, none⟩))) w') : wpList P ops Q (o :: rest) a w := by
  obtain ⟨D, ho, hS⟩ := hown
  exact wpList_range_own w hg m t hop k e κ.K ht ν.R b M.length D hm ho (fun w' h1 h2 h3 => hK w' ⟨_, D, _, _, h1, hS, hS.nodup, hS.has, fun x hx => hx⟩ h2 h3)
theorem wpList_mnext (hg : o.guard = none) (it : Operand) (hop : o.op = Op.next it false) (κ : KK P k α) (ν : VK β) (b r : Nat) (M : List (α × β))
    (hit : a.eval it = .pointer (some ⟨r, 0, none⟩)) (h : Iter κ ν w b r M todo)
    (hDone : todo = [] → wpList P ops Q rest (a.put o.dst (.tuple #[.bool false])) w)
    (hMore : ∀ (x : α) (y : β) (w' : World), x ∈ todo → (x, y) ∈ M → Iter κ ν w' b r M (strikeL todo x) → w'.rangeLeft b r < w.rangeLeft b r →
      w.grownBy w' (some r) → w'.heap.size = w.heap.size → (Instr.entry (.pointer (some ⟨r, 0, none⟩))).run P w' = .ok (.tuple #[κ.val x, ν.val y]) w' → wpList P ops Q rest (a.put o.dst (.tuple #[.bool true, κ.val x, ν.val y])) w') :
    wpList P ops Q (o :: rest) a w := by
  obtain ⟨n, D, left, cnt, hr, hS, hnd, hleft, hsub⟩ := h
  refine wpList_next_ranges w hg it hop k κ.K ν.R κ.val ν.val (fun key kl hkey => by obtain ⟨x, _, h, _⟩ := κ.inv hkey; exact ⟨x, h⟩) (fun v y hv => by obtain ⟨c, _, h, _⟩ := ν.inv hv; exact ⟨c, h⟩) b r n D left cnt hit hr ?_ ?_
  · intro _ hl
    refine hDone (List.eq_nil_iff_forall_not_mem.2 (fun x hx => ?_))
    have := hleft x
    rw [hl, decide_eq_true hx] at this
    cases this
  · intro x c kl y w' cnt' hkey hlk hv hat hrg hlt hgr hsz hen
    obtain ⟨x', hx', e1, rfl⟩ := κ.inv hkey
    have hxx : x = x' ∨ True := .inr trivial
    obtain ⟨c', hc', e2, rfl⟩ := ν.inv hv
    rw [e1, e2] at hen ⊢
    have hmem : x' ∈ todo := by rw [hleft] at hlk; exact of_decide_eq_true hlk
    have hM : (x', c') ∈ M := by
      obtain ⟨p, hp, rfl⟩ := List.mem_map.1 (hsub x' hmem)
      have := (hS.at_ p hp (.agg [])).symm.trans (hat (.agg []))
      rw [← ν.inj this]; exact hp
    refine hMore x' c' w' hmem hM ⟨n, D, _, cnt', hrg, hS, nodup_strikeL hnd _, fun z => ?_, fun z hz => hsub z (mem_strikeL.1 hz).1⟩ (by rw [hrg.left_eq, hr.left_eq]; exact hlt) hgr hsz hen
    rw [hleft, κ.same' hx' z]
    by_cases h1 : z ∈ todo <;> by_cases h2 : z = x' <;> simp [mem_strikeL, h1, h2]
theorem wpList_mdelr (hg : o.guard = none) (m x : Operand) (t : TypeId) (hop : o.op = Op.call { callee := Callee.builtin Builtin.delete, args := #[m, x], argTypes := #[t, k] }) (κ : KK P k α) (ν : VK β) (e : TypeId) (ht : P.underlying t = some (.map k e)) (b r : Nat) (M : List (α × β))
    (hm : a.eval m = .map (some b)) (h : Iter κ ν w b r M todo) (kx : α) (hx : a.eval x = κ.val kx) (hkx : κ.ok kx)
    (hK : ∀ w', Iter κ ν w' b r (delM M kx) (strikeL todo kx) → w'.rangeLeft b r ≤ w.rangeLeft b r → w.grownBy w' (some b) → w'.heap.size = w.heap.size → wpList P ops Q rest (a.put o.dst (.tuple #[])) w') : wpList P ops Q (o :: rest) a w := by
  obtain ⟨n, D, left, cnt, hr, hS, hnd, hleft, hsub⟩ := h
  refine wpList_delete_ranges w hg m x t k hop e κ.K ht ν.R b r n D left cnt hm hr _ _ hx (κ.of hkx) (fun w' cnt' h1 h2 h3 => hK w' ⟨n, _, _, cnt', h1, hS.del kx, nodup_strikeL hnd _, fun z => ?_, fun z hz => ?_⟩ (by rw [h1.left_eq, hr.left_eq]; exact h2) h3.grown ?_)
  · rw [hleft, κ.same' hkx z]
    by_cases h1 : z ∈ todo <;> by_cases h2 : z = kx <;> simp [mem_strikeL, h1, h2]
  · obtain ⟨h4, h5⟩ := mem_strikeL.1 hz
    exact keys_delM.2 ⟨hsub z h4, h5⟩
  · obtain ⟨es, clock, es', clock', hb, rfl⟩ := h3
    simp [ChangeMaps.setBlock]
end
end Go.Proofs.He
end
section
set_option linter.unusedVariables false
set_option linter.unusedSimpArgs false
set_option linter.unusedSectionVars false
namespace Go.Proofs.He
open Go Go.RowKit Go.Sort Go.Proofs.YtmdjknkhjimgeaaGreatW.PrintWords
section
variable {α : Type} [Inhabited α] {enc : α → Value} {h1 : ∀ x, (enc x).oneCell' = true}
theorem flatScalar (enc : α → Value) (h1 : ∀ x, (enc x).oneCell' = true) : Flat (Kd.scalar enc h1) (fun x => [enc x]) :=
  ⟨fun _ => rfl, fun x u hu => by rw [List.mem_singleton.1 hu]; exact h1 x, fun _ _ _ _ _ => Iff.rfl, fun _ _ _ => Iff.rfl⟩
theorem flatMap_one (l : List α) : l.flatMap (fun x => [enc x]) = l.map enc := by induction l with | nil => rfl | cons x l ih => simp [ih]
theorem scalar_own {e base : Nat} {w : World} {ok : Nat → Prop} {v : Value} {xs : List α} (h : (Kd.scalar enc h1).R e w base ok v xs) : w.ownsRow base e 1 v xs.length (xs.map enc) ∧ ∀ k, v.ownBlock = some k → ok k := by
  have := Flat.own (flatScalar enc h1) h
  rwa [flatMap_one] at this
theorem scalar_put {e base : Nat} {w : World} {ok : Nat → Prop} {v : Value} {xs : List α} (h : w.ownsRow base e 1 v xs.length (xs.map enc)) (hok : ∀ k, v.ownBlock = some k → ok k) : (Kd.scalar enc h1).R e w base ok v xs :=
  Flat.put (flatScalar enc h1) (by rw [flatMap_one]; exact h) hok
theorem holds_of_row {e base g n cap : Nat} {w : World} {xs : List α} (h : w.ownsRow base e 1 (.slice (some ⟨g, 0, none⟩) n cap) n (xs.map enc)) : Holds enc w g 0 xs.toArray ∧ g < w.heap.size ∧ n = xs.length ∧ n ≤ cap := by
  obtain ⟨hl, h⟩ := h
  rcases h with ⟨h, _⟩ | ⟨g', cap', cur, hv, hb, hh, hc, hm, hs, ht⟩
  · cases h
  · injection hv with ha hn hc'
    injection ha with ha
    injection ha with ha
    subst ha; subst hc'
    have hn : n = xs.length := by simpa using hl.symm
    refine ⟨fun j hj => ?_, (Array.getElem?_eq_some_iff.1 hh).1, hn, hc⟩
    have hj' : j < xs.length := by simpa using hj
    have hget : cur[j]? = some (enc xs[j]) := by
      have : (cur.toList.take (n * 1))[j]? = (xs.map enc)[j]? := by rw [ht]
      rw [List.getElem?_take, if_pos (by omega)] at this
      rw [← Array.getElem?_toList, this]
      simp [hj']
    have e1 : xs.toArray[j]! = xs[j] := by rw [getElem!_pos xs.toArray j (by simpa using hj')]; simp
    rw [e1]
    simp [World.cell?, World.frozen?, hh, hget]
theorem row_of_put {e base g n cap : Nat} {w : World} {cells : List Value} (h : w.ownsRow base e 1 (.slice (some ⟨g, 0, none⟩) n cap) n cells) (m : Nat) (os : Array Obj) (d : List α) (hd : d.length = n) :
    (grow (putRow enc (Sort.ahead w m) g 0 d.toArray) os).ownsRow base e 1 (.slice (some ⟨g, 0, none⟩) n cap) n (d.map enc) := by
  obtain ⟨hl, h⟩ := h
  rcases h with ⟨h, _⟩ | ⟨g', cap', cur, hv, hb, hh, hc, hm, hs, ht⟩
  · cases h
  · injection hv with ha hn hc'
    injection ha with ha
    injection ha with ha
    subst ha; subst hc'
    have hg : g < w.heap.size := (Array.getElem?_eq_some_iff.1 hh).1
    refine ⟨by simp [hd], .inr ⟨g, cap, putCells enc 0 d.toArray cur, rfl, hb, ?_, hc, hm, by simp [putCells]; simpa using hs, ?_⟩⟩
    · rw [heap_grow_old _ _ (by simpa using hg)]
      simp [putRow, mapBlock, Array.getElem?_modify, hh, onCells]
    · apply List.ext_getElem?
      intro j
      rw [List.getElem?_take]
      split
      · rename_i hj
        have hj' : j < d.length := by omega
        have hjc : j < cur.size := by omega
        simp [putCells, hj', hjc]
      · rename_i hj
        rw [List.getElem?_eq_none]; simp; omega
theorem grown_put {g : Nat} {w : World} (m : Nat) (os : Array Obj) (d : List α) : w.grownBy (grow (putRow enc (Sort.ahead w m) g 0 d.toArray) os) (some g) :=
  ⟨rfl, rfl, rfl, by simp, fun k hk hne => by
    rw [heap_grow_old _ _ (by simpa using hk)]
    have : g ≠ k := fun e => hne (by rw [e])
    simp [putRow, mapBlock, Array.getElem?_modify, this]⟩
end
theorem at_row {w : World} {e : Nat} {k : IntKind} {A : Option Addr} {n : Nat} {xs : List (List Int)} (h : Kd.C (Kd.slice e (Kd.int k)) w A n xs) (i : Int) (h0 : 0 ≤ i) (h1 : i < n) :
    ∃ ad A0 c0, A = some ad ∧ w.cell? (ad.add i.toNat) = some (.slice A0 (xs.getD i.toNat []).length c0) ∧ (xs.getD i.toNat []).length ≤ c0 ∧ (Kd.int k).C w A0 (xs.getD i.toNat []).length (xs.getD i.toNat []) := by
  obtain ⟨ad, c, e, _, hK, hc0⟩ := Kd.C_get h ([] : List Int) i h0 h1
  have hc : ∀ j u, c[j]? = some u → w.cell? (ad.add (i.toNat * 1 + j)) = some u := hc0
  obtain ⟨A0, c0, rfl, l0, g0⟩ := hK
  exact ⟨ad, A0, c0, e, by have hq := hc 0 _ rfl; rwa [Nat.mul_one, Nat.add_zero] at hq, l0, g0⟩
theorem row_last {e base : Nat} {w : World} {ok : Nat → Prop} {v : Value} {k : IntKind} {xs : List Int} {x : Int} (h : (Kd.int k).R e w base ok v (xs ++ [x])) :
    ∃ g cap, v = .slice (some ⟨g, 0, none⟩) (xs.length + 1) cap ∧ xs.length + 1 ≤ cap ∧ w.cell? ⟨g, xs.length, none⟩ = some (.int k x) ∧ (Kd.int k).R e w base ok (.slice (some ⟨g, 0, none⟩) xs.length cap) xs := by
  obtain ⟨ho, hok⟩ := scalar_own h
  obtain ⟨hl, h⟩ := ho
  rcases h with ⟨_, h⟩ | ⟨g, cap, cur, rfl, hb, hh, hc, hm, hs, ht⟩
  · simp at h
  · have hlen : (xs ++ [x]).length = xs.length + 1 := by simp
    rw [hlen] at hc ht hl
    refine ⟨g, cap, by rw [hlen], hc, ?_, ?_⟩
    · have : (cur.toList.take ((xs.length + 1) * 1))[xs.length]? = ((xs ++ [x]).map (Value.int k))[xs.length]? := by rw [ht]
      rw [List.getElem?_take, if_pos (by omega)] at this
      have e2 : cur[xs.length]? = some (.int k x) := by rw [← Array.getElem?_toList, this]; simp
      simp [World.cell?, hh, e2]
    · refine scalar_put ⟨by simp, .inr ⟨g, cap, cur, rfl, hb, hh, by omega, hm, hs, ?_⟩⟩ hok
      have : (cur.toList.take ((xs.length + 1) * 1)).take (xs.length * 1) = ((xs ++ [x]).map (Value.int k)).take (xs.length * 1) := by rw [ht]
      rw [List.take_take, Nat.min_eq_left (by omega)] at this
      rw [this]
      simp
theorem row_form {e base : Nat} {w : World} {ok : Nat → Prop} {v : Value} {k : IntKind} {xs : List Int} (h : (Kd.int k).R e w base ok v xs) (hp : 0 < xs.length) : ∃ g cap, v = .slice (some ⟨g, 0, none⟩) xs.length cap ∧ base ≤ g := by
  obtain ⟨ho, _⟩ := scalar_own h
  rcases ho.2 with ⟨_, h0⟩ | ⟨g, cap, cur, rfl, hg, _⟩
  · omega
  · exact ⟨g, cap, rfl, hg⟩
theorem cell_by {W w1 : World} {row : Option Nat} (hg : W.grownBy w1 row) {a : Addr} {v : Value} (h : W.cell? a = some v) (hne : some a.block ≠ row) : w1.cell? a = some v := by
  have := hg.block a.block (World.block_lt_of_cell? W a h) hne
  simpa [World.cell?, this] using h
theorem own_ne_row {P : Program} {k : TypeId} {α β γ : Type} [DecidableEq α] {κ : KK P k α} {ν : VK β} {M : List (α × β)} {w : World} {b e base : Nat} {ok : Nat → Prop} {d : Kd γ} {v : Value} {xs : List γ} (h : Own κ ν w b M) (hr : d.R e w base ok v xs) : some b ≠ v.ownBlock := by
  intro e
  obtain ⟨inner, ho⟩ := Kd.R_own hr
  obtain ⟨cells, hc⟩ := own_typed ho _ e.symm
  exact h.off hc rfl
theorem iter_ne_row {P : Program} {k : TypeId} {α β γ : Type} [DecidableEq α] {κ : KK P k α} {ν : VK β} {M : List (α × β)} {todo : List α} {w : World} {b r e base : Nat} {ok : Nat → Prop} {d : Kd γ} {v : Value} {xs : List γ} (h : Iter κ ν w b r M todo) (hr : d.R e w base ok v xs) : some r ≠ v.ownBlock := by
  intro e
  obtain ⟨inner, ho⟩ := Kd.R_own hr
  obtain ⟨cells, hc⟩ := own_typed ho _ e.symm
  exact h.off hc rfl
theorem sort_row {α : Type} [Inhabited α] {enc : α → Value} {h1 : ∀ x, (enc x).oneCell' = true} {P : Program} {f : Nat} {srt : List α → List α} (hlen : ∀ l, (srt l).length = l.length) (hnil : srt [] = [])
    (hnone : ∀ (p : Option Addr) (cap : Nat) (w : World), Calls P f #[.slice p 0 cap] w fun e w' => e = .returned (.tuple #[]) ∧ w' = w)
    (hsome : ∀ (blk off cap : Nat) (zs : List α) (w : World), Holds enc w blk off zs.toArray → blk < w.heap.size → zs.length < 4611686018427387904 → Calls P f #[.slice (some ⟨blk, off, none⟩) zs.length cap] w fun e w' => e = .returned (.tuple #[]) ∧ ∃ n os, w' = grow (putRow enc (Sort.ahead w n) blk off (srt zs).toArray) os)
    {e base : Nat} {ok : Nat → Prop} {v : Value} {xs : List α} {w : World} (h : (Kd.scalar enc h1).R e w base ok v xs) (hsz : xs.length < 4611686018427387904) :
    Calls P f #[v] w fun e' w' => e' = .returned (.tuple #[]) ∧ (Kd.scalar enc h1).R e w' base ok v (srt xs) ∧ w.grownBy w' v.ownBlock := by
  obtain ⟨ho, hok⟩ := scalar_own h
  have ho' := ho
  rcases ho.2 with ⟨rfl, h0⟩ | ⟨g, cap, cur, rfl, _⟩
  · have hx : xs = [] := List.eq_nil_of_length_eq_zero h0
    subst hx
    refine (hnone none 0 w).mono ?_
    rintro e' w' ⟨rfl, rfl⟩
    exact ⟨rfl, by rw [hnil]; exact h, World.grownBy.refl _ _⟩
  · obtain ⟨a1, a2, a3, a4⟩ := holds_of_row ho'
    refine (hsome g 0 cap xs w a1 a2 hsz).mono ?_
    rintro e' w' ⟨rfl, n, os, rfl⟩
    refine ⟨rfl, scalar_put (by rw [hlen]; exact row_of_put ho' n os (srt xs) (hlen xs)) hok, grown_put n os _⟩
end Go.Proofs.He
end
section
set_option linter.unusedVariables false
namespace Go.Proofs.He
open Go Go.RowKit Go.Proofs.YtmdjknkhjimgeaaGreatW.PrintWords
theorem compact_row {P : Program} {f : Nat} (hnone : ∀ (a : Option Addr) (cap : Nat) (w : World), Calls P f #[.slice a 0 cap] w fun e w' => e = .returned (.slice a 0 cap) ∧ w' = w)
    (hsome : ∀ (blk off cap : Nat) (zs : List Int) (w : World), Sort.Holds (Value.int .i64) w blk off zs.toArray → zs.length ≤ 9223372036854775807 → zs.length ≤ cap → Calls P f #[.slice (some ⟨blk, off, none⟩) zs.length cap] w fun e w' => e = .returned (.slice (some ⟨blk, off, none⟩) (Lib.compact zs).length cap) ∧ ∃ q, w' = Sort.putRow (Value.int .i64) (Sort.ahead w q) blk off (Lib.compact zs ++ List.replicate (zs.length - (Lib.compact zs).length) 0).toArray)
    {e base : Nat} {ok : Nat → Prop} {v : Value} {xs : List Int} {w : World} (h : (Kd.int .i64).R e w base ok v xs) :
    Calls P f #[v] w fun e' w' => ∃ v', e' = .returned v' ∧ (Kd.int .i64).R e w' base ok v' (Lib.compact xs) ∧ w.grownBy w' v.ownBlock := by
  obtain ⟨ho, hok⟩ := scalar_own h
  have ho' := ho
  rcases ho.2 with ⟨rfl, h0⟩ | ⟨g, cap, cur, rfl, _⟩
  · have hx : xs = [] := List.eq_nil_of_length_eq_zero h0
    subst hx
    refine (hnone none 0 w).mono ?_
    rintro e' w' ⟨rfl, rfl⟩
    exact ⟨_, rfl, h, World.grownBy.refl _ _⟩
  · obtain ⟨a1, a2, a3, a4⟩ := holds_of_row ho'
    have hm : xs.length ≤ 9223372036854775807 := (Kd.R_reads' h).2.2.2.1
    refine (hsome g 0 cap xs w a1 hm a4).mono ?_
    rintro e' w' ⟨rfl, q, rfl⟩
    have hl := Lib.compact_length_le xs
    have hd : (Lib.compact xs ++ List.replicate (xs.length - (Lib.compact xs).length) 0).length = xs.length := by rw [List.length_append, List.length_replicate]; omega
    have hr := row_of_put (enc := Value.int .i64) ho' q #[] _ hd
    have hg := grown_put (g := g) (w := w) (enc := Value.int .i64) q #[] (Lib.compact xs ++ List.replicate (xs.length - (Lib.compact xs).length) 0)
    rw [Sort.grow_empty] at hr hg
    have ht := own_take hr hl
    refine ⟨_, rfl, scalar_put ?_ (fun k hk => hok k (by simpa [Value.ownBlock] using hk)), hg⟩
    rw [Nat.mul_one, ← List.map_take, List.take_left] at ht
    exact ht
end Go.Proofs.He
end
section
set_option linter.unusedVariables false
set_option linter.unusedSimpArgs false
set_option linter.unusedSectionVars false
namespace Go.Proofs.He
open Go Go.RowKit Go.Sort Go.Lib Go.Proofs.YtmdjknkhjimgeaaGreatW.PrintWords
def RowAt (w : World) (e g n cap : Nat) (xs : List Value) : Prop := ∃ cur, w.heap[g]? = some (.cells cur e (0, 0)) ∧ n ≤ cap ∧ cap ≤ maxLen ∧ cur.size = cap ∧ xs.length = n ∧ cur.toList.take n = xs
theorem RowAt.of {e base g n cap : Nat} {w : World} {xs : List Value} (h : w.ownsRow base e 1 (.slice (some ⟨g, 0, none⟩) n cap) n xs) : RowAt w e g n cap xs ∧ base ≤ g := by
  obtain ⟨hl, h⟩ := h
  rcases h with ⟨h, _⟩ | ⟨g', cap', cur, hv, hb, hh, hc, hm, hs, ht⟩
  · cases h
  · injection hv with ha hn hc'
    injection ha with ha
    injection ha with ha
    subst ha; subst hc'
    exact ⟨⟨cur, hh, hc, hm, by simpa using hs, by simpa using hl, by simpa using ht⟩, hb⟩
theorem RowAt.put {e base g n cap : Nat} {w : World} {xs : List Value} (h : RowAt w e g n cap xs) (hb : base ≤ g) : w.ownsRow base e 1 (.slice (some ⟨g, 0, none⟩) n cap) n xs := by
  obtain ⟨cur, hh, hc, hm, hs, hl, ht⟩ := h
  exact ⟨by simpa using hl, .inr ⟨g, cap, cur, rfl, hb, hh, hc, hm, by simpa using hs, by simpa using ht⟩⟩
theorem RowAt.lt {e g n cap : Nat} {w : World} {xs : List Value} (h : RowAt w e g n cap xs) : g < w.heap.size := by obtain ⟨cur, hh, _⟩ := h; exact (Array.getElem?_eq_some_iff.1 hh).1
theorem RowAt.at {e g n cap : Nat} {w : World} {xs : List Value} (h : RowAt w e g n cap xs) (j : Nat) (hj : j < n) (u : Value) (hu : xs[j]? = some u) : w.cell? ⟨g, j, none⟩ = some u ∧ w.frozen? ⟨g, j, none⟩ = false := by
  obtain ⟨cur, hh, hc, hm, hs, hl, ht⟩ := h
  have hget : cur[j]? = some u := by
    rw [← Array.getElem?_toList, ← List.getElem?_take_of_lt hj, ht, hu]
  simp [World.cell?, World.frozen?, hh, hget]
theorem RowAt.move {e g n cap : Nat} {w w1 : World} {xs : List Value} (h : RowAt w e g n cap xs) (hb : w1.heap[g]? = w.heap[g]?) : RowAt w1 e g n cap xs := by
  obtain ⟨cur, hh, r⟩ := h; exact ⟨cur, by rw [hb, hh], r⟩
theorem RowAt.grown {e g n cap : Nat} {w w1 : World} {xs : List Value} (h : RowAt w e g n cap xs) (hg : w.grownBy w1 none) : RowAt w1 e g n cap xs := h.move (hg.block g h.lt (by simp))
theorem RowAt.set {e g n cap : Nat} {w : World} {xs : List Value} (h : RowAt w e g n cap xs) (i : Nat) (hi : i < n) (u : Value) : RowAt (w.setCell ⟨g, i, none⟩ u) e g n cap (xs.set i u) := by
  obtain ⟨cur, hh, hc, hm, hs, hl, ht⟩ := h
  obtain ⟨cur', h1, h2, h3⟩ := setCells_row [u] i w cur hh (by simp; omega)
  refine ⟨cur', h1, hc, hm, by omega, by simp [hl], ?_⟩
  have hz : i < cur.toList.length := by rw [Array.length_toList]; omega
  have h4 : cur'.toList = cur.toList.set i u := by
    rw [h3, List.set_eq_take_append_cons_drop, if_pos hz]; simp
  rw [h4, ← ht, List.take_set]
theorem RowAt.strike {e g n cap : Nat} {w : World} {xs : List Value} (h : RowAt w e g n cap xs) (i : Nat) (hi : i ≤ n) (vs : List Value) (hv : vs.length = n - i) : RowAt (w.setCells g i vs) e g i cap (xs.take i) := by
  obtain ⟨cur, hh, hc, hm, hs, hl, ht⟩ := h
  obtain ⟨cur', h1, h2, h3⟩ := setCells_row vs i w cur hh (by omega)
  refine ⟨cur', h1, by omega, hm, by omega, by rw [List.length_take]; omega, ?_⟩
  rw [h3, List.append_assoc, List.take_append_of_le_length (by rw [List.length_take, Array.length_toList]; omega), List.take_take, ← ht, List.take_take, Nat.min_self, Nat.min_eq_left hi]
theorem grown_setCell (w : World) (a : Addr) (u : Value) : w.grownBy (w.setCell a u) (some a.block) :=
  ⟨rfl, rfl, rfl, by simp [World.setCell], fun k hk hne => Below.heap_setCell w a u k (fun e => hne (by rw [e]))⟩
theorem grown_setCells (w : World) (g o : Nat) (vs : List Value) : w.grownBy (w.setCells g o vs) (some g) := by
  obtain ⟨h1, h2, h3, h4⟩ := setCells_same g vs o w
  exact ⟨h1, h2, h3, by omega, fun k hk hne => setCells_far vs o k (fun e => hne (by rw [e]))⟩
theorem grown_none {w w1 : World} (h : w.grownBy w1 none) (row : Option Nat) : w.grownBy w1 row := ⟨h.os, h.tape, h.output, h.size, fun k hk _ => h.block k hk (by simp)⟩
theorem drop_kept {xs : List Int} {kp : Int → Bool} : keptUpTo (fun j => kp xs.toArray[j]!) xs.toArray xs.length = xs.filter kp := by
  have := keptUpTo_filter kp xs.toArray; simpa using this
end Go.Proofs.He
end
section
set_option linter.unusedVariables false
set_option linter.unusedSimpArgs false
namespace Go.Proofs.He
def goesTo (g : List (List Int)) (a b : Int) : Prop := 0 ≤ a ∧ b ∈ g.getD a.toNat [] ∧ 0 ≤ b ∧ b < a
inductive Rch (g : List (List Int)) (l : List Int) : Int → Prop
  | base {x : Int} : x ∈ l → 0 ≤ x → x < g.length → Rch g l x
  | step {a b : Int} : Rch g l a → goesTo g a b → Rch g l b
theorem Rch.valid {g : List (List Int)} {l : List Int} {x : Int} (h : Rch g l x) : 0 ≤ x ∧ x < g.length := by
  induction h with
  | base _ h1 h2 => exact ⟨h1, h2⟩
  | step _ h ih => exact ⟨h.2.2.1, by have := h.2.2.2; omega⟩
def okN (g : List (List Int)) (x : Int) : Bool := decide (0 ≤ x) && decide (x < g.length)
theorem okN_iff {g : List (List Int)} {x : Int} : okN g x = true ↔ 0 ≤ x ∧ x < g.length := by simp [okN]
def down (g : List (List Int)) : Nat → List Int → List Int
  | 0, S => S
  | n + 1, S => down g n (if (n : Int) ∈ S then S ++ (g.getD n []).filter (fun b => decide (0 ≤ b) && decide (b < (n : Int))) else S)
theorem down_sub (g : List (List Int)) : ∀ (n : Nat) (S : List Int) (x : Int), x ∈ S → x ∈ down g n S
  | 0, _, _, h => h
  | n + 1, S, x, h => down_sub g n _ x (by split; exact List.mem_append_left _ h; exact h)
theorem down_high (g : List (List Int)) : ∀ (n : Nat) (S : List Int) (x : Int), x ∈ down g n S → (n : Int) ≤ x → x ∈ S
  | 0, _, _, h, _ => h
  | n + 1, S, x, h, hx => by
    have := down_high g n _ x h (by omega)
    split at this
    · rcases List.mem_append.1 this with h | h
      · exact h
      · have := (List.mem_filter.1 h).2; simp at this; omega
    · exact this
theorem down_closed (g : List (List Int)) : ∀ (n : Nat) (S : List Int) (a b : Int), a ∈ down g n S → a < n → goesTo g a b → b ∈ down g n S
  | 0, _, _, _, _, h, h' => by have := h'.1; omega
  | n + 1, S, a, b, ha, hn, h => by
    by_cases e : a = n
    · subst e
      have h1 := down_high g n _ _ ha (by omega)
      have h2 : (n : Int) ∈ S := by
        split at h1
        · assumption
        · exact h1
      refine down_sub g n _ b ?_
      rw [if_pos h2]
      have h3 := h.2.1
      rw [Int.toNat_natCast] at h3
      exact List.mem_append_right _ (List.mem_filter.2 ⟨h3, by simp [h.2.2.1, h.2.2.2]⟩)
    · exact down_closed g n _ a b ha (by omega) h
theorem down_sound (g : List (List Int)) (l : List Int) : ∀ (n : Nat) (S : List Int), (∀ x ∈ S, Rch g l x) → ∀ x ∈ down g n S, Rch g l x
  | 0, _, h => h
  | n + 1, S, h => down_sound g l n _ (fun x hx => by
    split at hx
    · rcases List.mem_append.1 hx with hx | hx
      · exact h x hx
      · obtain ⟨h1, h2⟩ := List.mem_filter.1 hx
        simp at h2
        exact .step (h n ‹_›) ⟨by omega, by rw [Int.toNat_natCast]; exact h1, h2.1, h2.2⟩
    · exact h x hx)
def rchB (g : List (List Int)) (l : List Int) (x : Int) : Bool := decide (x ∈ down g g.length (l.filter (okN g)))
theorem rchB_iff {g : List (List Int)} {l : List Int} {x : Int} : rchB g l x = true ↔ Rch g l x := by
  unfold rchB
  rw [decide_eq_true_eq]
  constructor
  · exact down_sound g l _ _ (fun x hx => by
      obtain ⟨h1, h2⟩ := List.mem_filter.1 hx
      obtain ⟨h3, h4⟩ := okN_iff.1 h2
      exact .base h1 h3 h4) x
  · intro h
    induction h with
    | base h1 h2 h3 => exact down_sub _ _ _ _ (List.mem_filter.2 ⟨h1, okN_iff.2 ⟨h2, h3⟩⟩)
    | step h1 h2 ih => exact down_closed g _ _ _ _ ih h1.valid.2 h2
def pickL (g : List (List Int)) (p : Int → Bool) : List Int := ((List.range g.length).map Int.ofNat).filter p
theorem mem_pickL {g : List (List Int)} {p : Int → Bool} {x : Int} : x ∈ pickL g p ↔ (0 ≤ x ∧ x < g.length) ∧ p x = true := by
  unfold pickL
  rw [List.mem_filter, List.mem_map]
  constructor
  · rintro ⟨⟨n, h1, rfl⟩, h2⟩
    have := List.mem_range.1 h1
    exact ⟨⟨Int.natCast_nonneg n, by show (n : Int) < _; omega⟩, h2⟩
  · rintro ⟨⟨h1, h2⟩, h3⟩
    exact ⟨⟨x.toNat, List.mem_range.2 (by omega), by show (x.toNat : Int) = x; omega⟩, h3⟩
theorem pickL_rises (g : List (List Int)) (p : Int → Bool) : (pickL g p).Pairwise (· < ·) := by
  refine List.Pairwise.filter _ ?_
  rw [List.pairwise_map]
  exact List.pairwise_lt_range.imp (fun h => by show (_ : Int) < _; exact Int.ofNat_lt.2 h)
theorem rises_eq : ∀ {l l' : List Int}, l.Pairwise (· < ·) → l'.Pairwise (· < ·) → (∀ x, x ∈ l ↔ x ∈ l') → l = l'
  | [], [], _, _, _ => rfl
  | [], y :: l', _, _, h => absurd ((h y).2 (List.mem_cons_self ..)) (by simp)
  | x :: l, [], _, _, h => absurd ((h x).1 (List.mem_cons_self ..)) (by simp)
  | x :: l, y :: l', h1, h2, h => by
    obtain ⟨a1, a2⟩ := List.pairwise_cons.1 h1
    obtain ⟨b1, b2⟩ := List.pairwise_cons.1 h2
    have e : x = y := by
      rcases List.mem_cons.1 ((h x).1 (List.mem_cons_self ..)) with e | hx
      · exact e
      · rcases List.mem_cons.1 ((h y).2 (List.mem_cons_self ..)) with e | hy
        · exact e.symm
        · have := b1 x hx; have := a1 y hy; omega
    subst e
    rw [rises_eq a2 b2 (fun z => ?_)]
    constructor
    · intro hz
      rcases List.mem_cons.1 ((h z).1 (List.mem_cons_of_mem _ hz)) with e | hz'
      · have := a1 z hz; omega
      · exact hz'
    · intro hz
      rcases List.mem_cons.1 ((h z).2 (List.mem_cons_of_mem _ hz)) with e | hz'
      · have := b1 z hz; omega
      · exact hz'
theorem sort_rises {l : List Int} (h : l.Nodup) : (l.mergeSort fun x y => decide (x ≤ y)).Pairwise (· < ·) := by
  have h1 := List.pairwise_mergeSort (le := fun x y : Int => decide (x ≤ y)) (fun a b c => by simp; omega) (fun a b => by simp; omega) l
  have h2 : (l.mergeSort fun x y => decide (x ≤ y)).Nodup := (List.mergeSort_perm l _).nodup_iff.2 h
  exact (h1.and h2).imp (fun ⟨a, b⟩ => by simp at a; omega)
def rchL (g : List (List Int)) (l : List Int) : List Int := pickL g (rchB g l)
def setL (g : List (List Int)) (l : List Int) : List Int := pickL g (fun x => decide (x ∈ l))
theorem mem_rchL {g : List (List Int)} {l : List Int} {x : Int} : x ∈ rchL g l ↔ Rch g l x := by
  unfold rchL
  rw [mem_pickL, rchB_iff]
  exact ⟨fun h => h.2, fun h => ⟨h.valid, h⟩⟩
theorem mem_setL {g : List (List Int)} {l : List Int} {x : Int} : x ∈ setL g l ↔ (0 ≤ x ∧ x < g.length) ∧ x ∈ l := by
  unfold setL
  rw [mem_pickL, decide_eq_true_eq]
def rankAt (rank : List Int) (n : Int) : Int := if n ≥ rank.length then 0 else rank.getD n.toNat 0
def lessN (rank : List Int) (x y : Int) : Bool := decide (rankAt rank x < rankAt rank y) || (decide (rankAt rank x = rankAt rank y) && decide (x < y))
def freeIn (g : List (List Int)) (W : List Int) (n : Int) : Bool := !W.any fun k => rchB g (g.getD n.toNat []) k
def leastN (rank : List Int) : Int → List Int → Int
  | m, [] => m
  | m, x :: l => leastN rank (if lessN rank x m = true then x else m) l
theorem lessN_trans {rank : List Int} {x y z : Int} (h1 : lessN rank x y = true) (h2 : lessN rank y z = true) : lessN rank x z = true := by
  simp [lessN] at *; omega
theorem lessN_total {rank : List Int} {x y : Int} (h1 : lessN rank x y = false) (h2 : lessN rank y x = false) : x = y := by
  simp [lessN] at *; omega
theorem lessN_irrefl (rank : List Int) (x : Int) : lessN rank x x = false := by simp [lessN]
theorem leastN_spec (rank : List Int) : ∀ (l : List Int) (m : Int), leastN rank m l ∈ m :: l ∧ ∀ x ∈ m :: l, lessN rank x (leastN rank m l) = false
  | [], m => by simp [leastN, lessN_irrefl]
  | y :: l, m => by
    obtain ⟨h1, h2⟩ := leastN_spec rank l (if lessN rank y m = true then y else m)
    unfold leastN
    have key : ∀ z, lessN rank z (leastN rank (if lessN rank y m = true then y else m) l) = true → (z = m ∨ z = y) → False := by
      intro z hz hzz
      have h3 := h2 _ (List.mem_cons_self ..)
      by_cases hc : lessN rank y m = true
      · rw [if_pos hc] at *
        rcases hzz with rfl | rfl
        · rw [lessN_trans hc hz] at h3; cases h3
        · rw [hz] at h3; cases h3
      · rw [if_neg hc] at *
        rcases hzz with rfl | rfl
        · rw [hz] at h3; cases h3
        · have hc' : lessN rank z m = false := by simpa using hc
          cases hm : lessN rank m z with
          | true => rw [lessN_trans hm hz] at h3; cases h3
          | false => rw [lessN_total hc' hm] at hz; rw [hz] at h3; cases h3
    refine ⟨?_, fun x hx => ?_⟩
    · rcases List.mem_cons.1 h1 with h | h
      · rw [h]; split <;> simp
      · exact List.mem_cons_of_mem _ (List.mem_cons_of_mem _ h)
    · cases hb : lessN rank x (leastN rank (if lessN rank y m = true then y else m) l) with
      | false => rfl
      | true =>
        exfalso
        rcases List.mem_cons.1 hx with rfl | hx
        · exact key _ hb (.inl rfl)
        · rcases List.mem_cons.1 hx with rfl | hx
          · exact key _ hb (.inr rfl)
          · rw [h2 x (List.mem_cons_of_mem _ hx)] at hb; cases hb
theorem least_unique {rank : List Int} {l : List Int} {m m' : Int} (h1 : m ∈ l) (h2 : ∀ x ∈ l, lessN rank x m = false) (h1' : m' ∈ l) (h2' : ∀ x ∈ l, lessN rank x m' = false) : m = m' :=
  lessN_total (h2' m h1) (h2 m' h1')
def ordGo (g : List (List Int)) (rank : List Int) : Nat → List Int → List Int
  | 0, _ => []
  | f + 1, W => match W.filter (freeIn g W) with
    | [] => []
    | x :: l => leastN rank x l :: ordGo g rank f (W.filter fun k => decide (k ≠ leastN rank x l))
def ordL (g : List (List Int)) (l rank : List Int) : List Int := ordGo g rank (setL g l).length (setL g l)
end Go.Proofs.He
end
section
set_option linter.unusedVariables false
set_option linter.unusedSimpArgs false
set_option linter.unusedSectionVars false
namespace Go.Proofs.He
open Go Go.RowKit Go.Sort Go.Lib Go.Proofs.YtmdjknkhjimgeaaGreatW.PrintWords
def RowK (w : World) (e sz g n cap : Nat) (xs : List Value) : Prop := ∃ cur, w.heap[g]? = some (.cells cur e (0, 0)) ∧ n ≤ cap ∧ cap ≤ maxLen ∧ cur.size = cap * sz ∧ xs.length = n * sz ∧ cur.toList.take (n * sz) = xs
section
variable {e base sz g n cap : Nat} {w w1 : World} {xs : List Value}
theorem RowK.of (h : w.ownsRow base e sz (.slice (some ⟨g, 0, none⟩) n cap) n xs) : RowK w e sz g n cap xs ∧ base ≤ g := by
  obtain ⟨hl, h⟩ := h
  rcases h with ⟨h, _⟩ | ⟨g', cap', cur, hv, hb, hh, hc, hm, hs, ht⟩
  · cases h
  · injection hv with ha hn hc'
    injection ha with ha
    injection ha with ha
    subst ha; subst hc'
    exact ⟨⟨cur, hh, hc, hm, hs, hl, ht⟩, hb⟩
theorem RowK.put (h : RowK w e sz g n cap xs) (hb : base ≤ g) : w.ownsRow base e sz (.slice (some ⟨g, 0, none⟩) n cap) n xs := by
  obtain ⟨cur, hh, hc, hm, hs, hl, ht⟩ := h
  exact ⟨hl, .inr ⟨g, cap, cur, rfl, hb, hh, hc, hm, hs, ht⟩⟩
theorem RowK.lt (h : RowK w e sz g n cap xs) : g < w.heap.size := by obtain ⟨cur, hh, _⟩ := h; exact (Array.getElem?_eq_some_iff.1 hh).1
theorem RowK.at (h : RowK w e sz g n cap xs) (j : Nat) (hj : j < n * sz) : (w.cell? ⟨g, j, none⟩).isSome = true ∧ w.frozen? ⟨g, j, none⟩ = false ∧ w.cell? ⟨g, j, none⟩ = xs[j]? := by
  obtain ⟨cur, hh, hc, hm, hs, hl, ht⟩ := h
  have hget : cur[j]? = xs[j]? := by
    rw [← Array.getElem?_toList, ← List.getElem?_take_of_lt hj, ht]
  have hx : xs[j]? = some xs[j] := List.getElem?_eq_getElem (by omega)
  rw [hx] at hget
  refine ⟨?_, ?_, ?_⟩
  · simp [World.cell?, hh, hget]
  · simp [World.frozen?, hh]
  · simp [World.cell?, hh, hget, hx]
end
theorem at_rows {α : Type} {κ : Kd α} {w : World} {e : Nat} {A : Option Addr} {n : Nat} {xs : List (List α)} (h : Kd.C (Kd.slice e κ) w A n xs) (i : Int) (h0 : 0 ≤ i) (h1 : i < n) :
    ∃ ad A0 c0, A = some ad ∧ w.cell? (ad.add i.toNat) = some (.slice A0 (xs.getD i.toNat []).length c0) ∧ (xs.getD i.toNat []).length ≤ c0 ∧ κ.C w A0 (xs.getD i.toNat []).length (xs.getD i.toNat []) := by
  obtain ⟨ad, c, e, _, hK, hc0⟩ := Kd.C_get h ([] : List α) i h0 h1
  have hc : ∀ j u, c[j]? = some u → w.cell? (ad.add (i.toNat * 1 + j)) = some u := hc0
  obtain ⟨A0, c0, rfl, l0, g0⟩ := hK
  exact ⟨ad, A0, c0, e, by have hq := hc 0 _ rfl; rwa [Nat.mul_one, Nat.add_zero] at hq, l0, g0⟩
theorem C_lit_rows {α : Type} {κ : Kd α} {W : World} {e g : Nat} {t : TypeId} (R : List (Option Addr × Nat × List α)) (hg : W.heap[g]? = some (.cells (R.map fun q => Value.slice q.1 q.2.2.length q.2.1).toArray t (0, 0)))
    (hR : ∀ q ∈ R, q.2.2.length ≤ q.2.1 ∧ κ.C W q.1 q.2.2.length q.2.2) (hm : R.length ≤ 9223372036854775807) : Kd.C (Kd.slice e κ) W (some ⟨g, 0, none⟩) (R.map (·.2.2)).length (R.map (·.2.2)) := by
  refine ⟨rfl, by simpa using hm, fun _ => ⟨_, rfl, fun j p hp => ?_⟩⟩
  rw [List.getElem?_map] at hp
  obtain ⟨q, hq, rfl⟩ := Option.map_eq_some_iff.1 hp
  obtain ⟨h1, h2⟩ := hR q (List.mem_of_getElem? hq)
  refine ⟨[.slice q.1 q.2.2.length q.2.1], rfl, ⟨q.1, q.2.1, rfl, h1, h2⟩, fun i u hu => ?_⟩
  have hi : i = 0 := by
    have := (List.getElem?_eq_some_iff.1 hu).1
    simpa using this
  subst hi
  have hj := (List.getElem?_eq_some_iff.1 hq).1
  have hq2 : R[j] = q := (List.getElem?_eq_some_iff.1 hq).2
  show W.cell? ((⟨g, 0, none⟩ : Addr).add (j * 1 + 0)) = some u
  rw [add_plain, blk_cell hg]
  simp at hu
  subst hu
  simp [hj, hq2]
end Go.Proofs.He
end
section
set_option linter.unusedVariables false
set_option linter.unusedSimpArgs false
set_option linter.unusedSectionVars false
namespace Go.Proofs.He
open Go Go.RowKit Go.Maps Go.ChangeMaps Go.Proofs.YtmdjknkhjimgeaaGreatW.PrintWords
theorem compactUpTo_rise (d : Array Int) (hs : ∀ i j, i ≤ j → j < d.size → d[i]! ≤ d[j]!) : ∀ (m : Nat), m ≤ d.size → (Lib.compactUpTo d m).Pairwise (· < ·) ∧ (∀ x, x ∈ Lib.compactUpTo d m ↔ ∃ j, j < m ∧ d[j]! = x)
  | 0, _ => by simp [Lib.compactUpTo]
  | m + 1, hm => by
    obtain ⟨h1, h2⟩ := compactUpTo_rise d hs m (by omega)
    rw [Lib.compactUpTo_succ]
    cases hk : Lib.keeps d m with
    | true =>
      rw [if_pos rfl]
      have hne : m = 0 ∨ d[m]! ≠ d[m - 1]! := by simpa [Lib.keeps] using hk
      refine ⟨List.pairwise_append.2 ⟨h1, by simp, fun a ha b hb => ?_⟩, fun x => ?_⟩
      · rw [List.mem_singleton.1 hb]
        obtain ⟨j, hj, rfl⟩ := (h2 a).1 ha
        have e1 := hs j (m - 1) (by omega) (by omega)
        have e2 := hs (m - 1) m (by omega) (by omega)
        rcases hne with h | h <;> omega
      · rw [List.mem_append, List.mem_singleton, h2]
        constructor
        · rintro (⟨j, hj, rfl⟩ | rfl)
          · exact ⟨j, by omega, rfl⟩
          · exact ⟨m, by omega, rfl⟩
        · rintro ⟨j, hj, rfl⟩
          by_cases e : j = m
          · subst e; exact .inr rfl
          · exact .inl ⟨j, by omega, rfl⟩
    | false =>
      have hne : m ≠ 0 ∧ d[m]! = d[m - 1]! := by simpa [Lib.keeps] using hk
      rw [if_neg (by simp), List.append_nil]
      refine ⟨h1, fun x => ?_⟩
      rw [h2]
      constructor
      · rintro ⟨j, hj, rfl⟩; exact ⟨j, by omega, rfl⟩
      · rintro ⟨j, hj, rfl⟩
        by_cases e : j = m
        · subst e; exact ⟨j - 1, by omega, hne.2.symm⟩
        · exact ⟨j, by omega, rfl⟩
def riseL (l : List Int) : List Int := Lib.compact (l.mergeSort fun x y => decide (x ≤ y))
theorem riseL_spec (l : List Int) : (riseL l).Pairwise (· < ·) ∧ ∀ x, x ∈ riseL l ↔ x ∈ l := by
  unfold riseL Lib.compact
  obtain ⟨s, hs⟩ : ∃ s, s = l.mergeSort fun x y => decide (x ≤ y) := ⟨_, rfl⟩
  rw [← hs]
  have hp : s.Pairwise (fun x y => x ≤ y) := by
    have := List.pairwise_mergeSort (le := fun x y : Int => decide (x ≤ y)) (fun a b c h1 h2 => by simp at *; omega) (fun a b => by simp; omega) l
    rw [← hs] at this
    exact this.imp (fun h => by simpa using h)
  have hmem : ∀ x, x ∈ s ↔ x ∈ l := fun x => by rw [hs, (List.mergeSort_perm _ _).mem_iff]
  have hat : ∀ j, (h : j < s.length) → s.toArray[j]! = s[j] := fun j h => by rw [getElem!_pos s.toArray j (by simpa using h)]; simp
  obtain ⟨h1, h2⟩ := compactUpTo_rise s.toArray (fun i j hij hj => by
    have hj' : j < s.length := by simpa using hj
    rw [hat i (by omega), hat j hj']
    rcases Nat.lt_or_eq_of_le hij with h | rfl
    · exact List.pairwise_iff_getElem.1 hp i j (by omega) hj' h
    · omega) s.length (by simp)
  refine ⟨h1, fun x => ?_⟩
  rw [h2, ← hmem]
  constructor
  · rintro ⟨j, hj, rfl⟩; rw [hat j hj]; exact List.getElem_mem hj
  · intro hx; obtain ⟨j, hj, rfl⟩ := List.getElem_of_mem hx; exact ⟨j, hj, hat j hj⟩
theorem riseL_length (l : List Int) : (riseL l).length ≤ l.length := by
  unfold riseL; exact Nat.le_trans (Lib.compact_length_le _) (by rw [List.length_mergeSort]; exact Nat.le_refl _)
end Go.Proofs.He
end
section
set_option linter.unusedVariables false
set_option linter.unusedSimpArgs false
set_option linter.unusedSectionVars false
namespace Go.Proofs.He
open Go Go.RowKit Go.Maps Go.ChangeMaps Go.Proofs.YtmdjknkhjimgeaaGreatW.PrintWords
structure Kept (F : Nat → Prop) (w w' : World) : Prop where
  os : w'.os = w.os
  tape : w'.tape = w.tape
  output : w'.output = w.output
  size : w.heap.size ≤ w'.heap.size
  block : ∀ k, k < w.heap.size → ¬ F k → w'.heap[k]? = w.heap[k]?
theorem Kept.of_below {F : Nat → Prop} {w w' : World} (h : Below w.heap.size w w') : Kept F w w' := ⟨h.os, h.tape, h.output, h.size, fun k hk _ => h.block k hk⟩
theorem Kept.of_grown {F : Nat → Prop} {w w' : World} {row : Option Nat} (h : w.grownBy w' row) (hF : ∀ k, row = some k → F k) : Kept F w w' :=
  ⟨h.os, h.tape, h.output, h.size, fun k hk hn => h.block k hk (fun e => hn (hF k e.symm))⟩
theorem Kept.trans {F F' : Nat → Prop} {a b c : World} (h : Kept F a b) (h' : Kept F' b c) (hF : ∀ k, k < a.heap.size → F' k → F k) : Kept F a c :=
  ⟨h'.os.trans h.os, h'.tape.trans h.tape, h'.output.trans h.output, Nat.le_trans h.size h'.size, fun k hk hn => (h'.block k (Nat.lt_of_lt_of_le hk h.size) (fun e => hn (hF k hk e))).trans (h.block k hk hn)⟩
theorem Kept.below {F : Nat → Prop} {a w w' : World} {B : Nat} (hb : Below B a w) (h : Kept F w w') (hB : B ≤ w.heap.size) (hF : ∀ k, k < w.heap.size → F k → B ≤ k) : Below B a w' :=
  ⟨h.os.trans hb.os, h.tape.trans hb.tape, h.output.trans hb.output, Nat.le_trans hb.size h.size, fun k hk => (h.block k (by omega) (fun e => by have := hF k (by omega) e; omega)).trans (hb.block k hk)⟩
structure Ev where
  id : ByteArray
  ty : ByteArray
  time : Int
structure It where
  x : Ev
  blk : Nat
  mp : Nat
  lost : List ByteArray
instance : Inhabited It := ⟨⟨⟨⟨#[]⟩, ⟨#[]⟩, 0⟩, 0, 0, []⟩⟩
theorem C_str {w : World} {A : Option Addr} {n : Nat} {xs : List ByteArray} (h : Kd.string.C w A n xs) {k : Nat} (hk : k < xs.length) : ∃ ad, A = some ad ∧ w.cell? (ad.add k) = some (.string xs[k]) := by
  have hn : xs.length = n := h.1
  obtain ⟨ad, c, e, hcl, hK, hcell⟩ := Kd.C_get h xs[k] (k : Int) (by omega) (by omega)
  refine ⟨ad, e, ?_⟩
  have h1 : c = [Value.string (xs.getD (k : Int).toNat xs[k])] := hK
  have h2 := hcell 0 (.string xs[k]) (by rw [h1]; simp [List.getD_eq_getElem?_getD, hk])
  simpa [Kd.string, Kd.scalar] using h2
end Go.Proofs.He
end
section
set_option linter.unusedVariables false
set_option linter.unusedSimpArgs false
set_option linter.unusedSectionVars false
namespace Go.Proofs.He
open Go Go.RowKit Go.Sort Go.Lib Go.Shelf Go.Proofs.YtmdjknkhjimgeaaGreatW.PrintWords Go.Proofs.YtmdjknkhjimgeaaGreatW.PrintLast
section
variable {α : Type} [Inhabited α] {d : Kd α} {enc : α → List Value} (F : Flat d enc)
include F
theorem flatK_list (l : List α) : (flatK enc d.sz l.toArray).toList = l.flatMap enc := by
  apply List.ext_getElem?
  intro t
  by_cases ht : t < l.length * d.sz
  · have hsz : 0 < d.sz := by
      rcases Nat.eq_zero_or_pos d.sz with h0 | h0
      · rw [h0] at ht; omega
      · exact h0
    have hq : t / d.sz < l.length := Nat.div_lt_of_lt_mul (by rwa [Nat.mul_comm] at ht)
    have hs := Flat.seg F (List.getElem?_eq_getElem hq)
    have h2 : t % d.sz < (enc l[t / d.sz]).length := by rw [F.len]; exact Nat.mod_lt _ hsz
    have h1 : (l.flatMap enc)[t]? = (enc l[t / d.sz])[t % d.sz]? := by
      rw [← hs, List.getElem?_take, if_pos (Nat.mod_lt _ hsz), List.getElem?_drop, Nat.mul_comm (t / d.sz), Nat.div_add_mod]
    rw [h1, List.getElem?_eq_getElem h2]
    have e1 : l.toArray[t / d.sz]! = l[t / d.sz] := by rw [getElem!_pos l.toArray _ (by simpa using hq)]; simp
    rw [Array.getElem?_toList]
    have hf : t < (flatK enc d.sz l.toArray).size := by rw [size_flatK]; simpa using ht
    rw [Array.getElem?_eq_getElem hf, ← getElem!_pos (flatK enc d.sz l.toArray) t hf, get_flatK _ _ _ _ (by simpa using ht), e1, getElem!_pos (enc l[t / d.sz]) _ h2]
  · rw [List.getElem?_eq_none (by simp; omega), List.getElem?_eq_none (by rw [Flat.flen F]; omega)]
theorem holdsK_of {e g n cap : Nat} {w : World} {l : List α} (h : He.RowK w e d.sz g n cap (l.flatMap enc)) (hn : n = l.length) : HoldsK enc d.sz w g 0 l.toArray := by
  intro j hj
  rw [size_flatK] at hj
  have hj' : j < n * d.sz := by rw [hn]; simpa using hj
  obtain ⟨h1, h2, h3⟩ := h.at j hj'
  rw [Nat.zero_add]
  refine ⟨?_, h2⟩
  rw [h3, ← flatK_list F, Array.getElem?_toList, Array.getElem?_eq_getElem (by rw [size_flatK]; exact hj), getElem!_pos (flatK enc d.sz l.toArray) j (by rw [size_flatK]; exact hj)]
  rfl
theorem RowK_put {e g n cap : Nat} {w : World} {xs : List Value} (h : He.RowK w e d.sz g n cap xs) (m : Nat) (os : Array Obj) (l : List α) (hl : l.length = n) :
    He.RowK (sortWorldK enc d.sz w g 0 m l.toArray os) e d.sz g n cap (l.flatMap enc) := by
  obtain ⟨cur, hh, hc, hm, hs, hlen, ht⟩ := h
  have hg : g < w.heap.size := (Array.getElem?_eq_some_iff.1 hh).1
  have hle : n * d.sz ≤ cap * d.sz := Nat.mul_le_mul_right _ hc
  refine ⟨putCells id 0 (flatK enc d.sz l.toArray) cur, ?_, hc, hm, by simp [putCells]; simpa using hs, by rw [Flat.flen F, hl], ?_⟩
  · unfold sortWorldK putRowK
    rw [heap_grow_old _ _ (by simpa using hg)]
    simp [putRow, mapBlock, Array.getElem?_modify, hh, onCells]
  · apply List.ext_getElem?
    intro j
    rw [List.getElem?_take]
    split
    · rename_i hj
      have hjc : j < cur.size := by omega
      have hjl : j < l.length * d.sz := by rw [hl]; exact hj
      rw [← flatK_list F]
      have hjf : j < (flatK enc d.sz l.toArray).size := by rw [size_flatK]; simpa using hjl
      rw [Array.getElem?_toList, Array.getElem?_toList, Array.getElem?_eq_getElem hjf, ← getElem!_pos (flatK enc d.sz l.toArray) j hjf]
      simp [putCells, hjc, hjl]
    · rename_i hj
      rw [List.getElem?_eq_none]
      rw [Flat.flen F, hl]; omega
omit F in
theorem grown_putK {g k : Nat} {w : World} (m : Nat) (os : Array Obj) (l : List α) : w.grownBy (sortWorldK enc k w g 0 m l.toArray os) (some g) :=
  ⟨rfl, rfl, rfl, by simp [sortWorldK, putRowK], fun j hk hne => by
    unfold sortWorldK putRowK
    rw [heap_grow_old _ _ (by simpa using hk)]
    have : g ≠ j := fun e => hne (by rw [e])
    simp [putRow, mapBlock, Array.getElem?_modify, this]⟩
theorem sort_rowK {P : Program} {f : Nat} {fv : Value} {srt : List α → List α} (hlen : ∀ l, (srt l).length = l.length) (hnil : srt [] = [])
    (hnone : ∀ (p : Option Addr) (cap : Nat) (w : World), Calls P f #[.slice p 0 cap, fv] w fun e w' => e = .returned (.tuple #[]) ∧ w' = w)
    (hsome : ∀ (blk off cap : Nat) (zs : List α) (w : World), HoldsK enc d.sz w blk off zs.toArray → blk < w.heap.size → zs.length < 4611686018427387904 → Calls P f #[.slice (some ⟨blk, off, none⟩) zs.length cap, fv] w fun e w' => e = .returned (.tuple #[]) ∧ ∃ n os, w' = sortWorldK enc d.sz w blk off n (srt zs).toArray os)
    {e base : Nat} {ok : Nat → Prop} {v : Value} {xs : List α} {w : World} (h : d.R e w base ok v xs) (hsz : xs.length < 4611686018427387904) :
    Calls P f #[v, fv] w fun e' w' => e' = .returned (.tuple #[]) ∧ d.R e w' base ok v (srt xs) ∧ w.grownBy w' v.ownBlock := by
  obtain ⟨ho, hok⟩ := Flat.own F h
  have ho' := ho
  rcases ho.2 with ⟨rfl, h0⟩ | ⟨g, cap, cur, rfl, _⟩
  · have hx : xs = [] := List.eq_nil_of_length_eq_zero h0
    subst hx
    refine (hnone none 0 w).mono ?_
    rintro e' w' ⟨rfl, rfl⟩
    exact ⟨rfl, by rw [hnil]; exact h, World.grownBy.refl _ _⟩
  · obtain ⟨hrow, hbase⟩ := He.RowK.of ho'
    refine (hsome g 0 cap xs w (holdsK_of F hrow rfl) hrow.lt hsz).mono ?_
    rintro e' w' ⟨rfl, n, os, rfl⟩
    have hl := hlen xs
    refine ⟨rfl, Flat.put F ?_ hok, grown_putK n os _⟩
    have := (RowK_put F hrow n os (srt xs) hl).put hbase
    rw [hl]; exact this
end
def kdFlat {α : Type} (k : Nat) (enc : α → List Value) (hl : ∀ x, (enc x).length = k) (h1 : ∀ x, ∀ u ∈ enc x, u.oneCell' = true) : Kd α where
  sz := k
  E := []
  K := fun _ x cs => cs = enc x
  M := fun _ _ _ x cs => cs = enc x
  K_len := fun h => by rw [h]; exact hl _
  K_one := fun h u hu => by rw [h] at hu; exact h1 _ u hu
  K_below := fun _ h => h
  K_of_M := fun h => h
  M_mono := fun _ h => h
  M_bound := fun h => h
  M_move := fun _ h => h
  M_lower := fun _ h => h
theorem flat_kdFlat {α : Type} (k : Nat) (enc : α → List Value) (hl : ∀ x, (enc x).length = k) (h1 : ∀ x, ∀ u ∈ enc x, u.oneCell' = true) : Flat (kdFlat k enc hl h1) enc :=
  ⟨hl, h1, fun _ _ _ _ _ => Iff.rfl, fun _ _ _ => Iff.rfl⟩
theorem goesV_ {P : Program} {ops : Array Oper} {Q : Exit → Act → World → Prop} {oi : Oper} {N : Option Tmp} {a : Act} {w : World} {K : Act → World → Prop} {f : FuncId} {ot : Operand} {pre cb : Array Value} {as_ : Array Operand} {ts : Array TypeId} (eg : ∀ args w, (callFunc f args).run P w = .ok (.enter f args) w) (args : Array Value)
    (hw : Region.wanted oi (yielded ops a.tmps) = true) (hN : oi.dst = N) (hop : oi.op = .call { callee := .value ot, args := as_, argTypes := ts }) (hfv : a.eval ot = .func (.func f) pre cb) (hargs : as_.map a.eval = args)
    (h : Calls P f (pre ++ args ++ cb) w fun e w' => ∃ v, e = .returned v ∧ K (a.put N v) w') : if Region.wanted oi (yielded ops a.tmps) = true then Oper.wp P oi a w K Q else K (a.put N undef) w := by
  refine call_ f (pre ++ args ++ cb) hw hN ?_ h
  unfold execOp
  simp [hop, resolve, Deferred.ofValue, invoke, hfv, hargs, eg]
end Go.Proofs.He
end
section
set_option linter.unusedVariables false
set_option linter.unusedSimpArgs false
set_option linter.unusedSectionVars false
namespace Go.Proofs.He
open Go Go.RowKit Go.Shelf
section
open Go.Proofs.YtmdjknkhjimgeaaGreatW.PrintWords
theorem C_num {kd : IntKind} {w : World} {A : Option Addr} {n : Nat} {xs : List Int} (h : (Kd.int kd).C w A n xs) {k : Nat} (hk : k < xs.length) : ∃ ad, A = some ad ∧ w.cell? (ad.add k) = some (.int kd xs[k]) := by
  have hn : xs.length = n := h.1
  obtain ⟨ad, c, e, hcl, hK, hcell⟩ := Kd.C_get h xs[k] (k : Int) (by omega) (by omega)
  refine ⟨ad, e, ?_⟩
  have h1 : c = [Value.int kd (xs.getD (k : Int).toNat xs[k])] := hK
  have h2 := hcell 0 (.int kd xs[k]) (by rw [h1]; simp [List.getD_eq_getElem?_getD, hk])
  simpa [Kd.int, Kd.scalar] using h2
end
def CellOk (Bn : Nat) (J : List Int → World → Prop) : Prop := ∀ pre (A : World) v, J pre A → J pre (A.setCell ⟨Bn, 0, none⟩ v)
def SeqCell (F : Fence) (n : Nat) (P : Program) (gf : Nat) (lb : Array Value) (Bn B0 : Nat) (xs : List Int) (w : World) : Prop :=
  ∀ (l : Nat) (J Jx : List Int → World → Prop) (W : World), Below w.heap.size w W → CellOk Bn J →
    (∀ pre x (W1 : World), J pre W1 → pre ++ [x] <+: xs → YieldAt F (n - 1) P l #[.int .i64 x] W1 fun e W' => (e = .returned (.bool true) ∧ J (pre ++ [x]) W' ∧ Below B0 W1 W') ∨ (e = .returned (.bool false) ∧ Jx (pre ++ [x]) W')) →
    J [] W → CallsIn F n P gf (#[.func (.yield l) #[] #[]] ++ lb) W fun e W' => (∃ v, e = .returned v) ∧ (J xs W' ∨ ∃ pre, pre <+: xs ∧ Jx pre W')
def roundPost (B B0 : Nat) (I Ix : List Int → World → Prop) (ys : List Int) (W : World) : Exit → Act → World → Prop
  | .normal, _, W' => KeepsFrom B W W' ∧ Below B0 W W' ∧ I ys W'
  | .ret, _, W' => KeepsFrom B W W' ∧ Ix ys W'
  | .exit _, _, _ => False
  | .goto _, _, _ => False
  | .panic _, _, _ => False
  | .outgrown, _, _ => False
theorem rangeFunc_cell {P : Program} {F : Fence} {n : Nat} {g : Operand} {ps : Array Tmp} {assign body : Code} {Q : Exit → Act → World → Prop} {a : Act} {w : World}
    (hro : F.round = none) (h1 : 1 ≤ n) {gf : Nat} {lb : Array Value} (hg : a.eval g = .func (.func gf) #[] lb) (hFg : F.fn gf) (eg : ∀ args w, (callFunc gf args).run P w = .ok (.enter gf args) w)
    {Bn B0 : Nat} {xs : List Int} (hB0 : B0 ≤ w.heap.size) (hBn : Bn < w.heap.size) (hseq : SeqCell F (n - 1) P gf lb Bn B0 xs w) (hps : ps.size = 1)
    (I Ix : List Int → World → Prop) (hI : OwnFrom w.heap.size I) (hIx : OwnFrom w.heap.size Ix) (hIs : CellOk Bn I) (h0 : I [] w) (a₁ : Int → Act)
    (hassign : ∀ (l : Nat) (x : Int) (W : World) (K : Act → World → Prop), K (a₁ x) W →
      assign.wpIn (F.inRound l) (n - 1 - 1) P (Exit.then K (fun _ _ _ => False)) { tmps := (ps.zip #[Value.int .i64 x]).foldl (fun t (p, v) => t.setIfInBounds p v) a.tmps, defers := [] } W)
    (hbody : ∀ (l : Nat) (pre : List Int) (x : Int) (W : World), I pre W → pre ++ [x] <+: xs → body.wpIn (F.inRound l) (n - 1 - 1) P (roundPost w.heap.size B0 I Ix (pre ++ [x]) W) (a₁ x) W)
    (hdone : ∀ (D : Nat) (W : World), w.heap.size ≤ D → I xs W → W.heap[D]? = some (.deferred (some [])) → Q .normal { a with defers := { target := .collected D, args := #[] } :: a.defers } W)
    (hstop : ∀ (D : Nat) (pre : List Int) (W : World), w.heap.size ≤ D → pre <+: xs → Ix pre W → W.heap[D]? = some (.deferred (some [])) → Code.ret.wpIn F n P Q { a with defers := { target := .collected D, args := #[] } :: a.defers } W) :
    (Code.rangeFunc g ps assign body).wpIn F n P Q a w := by
  obtain ⟨s, hs⟩ : ∃ s, s = w.heap.size := ⟨_, rfl⟩
  refine wpIn_rangeFunc (fun fn hfn => ?_)
  rw [hro]
  obtain ⟨L, hL⟩ : ∃ L : LoopState → Option Code → Loop, L = fun st pe => { state := st, pending := pe, fn, tmps := a.tmps, params := ps, assign, body, defers := w.heap.size } := ⟨_, rfl⟩
  obtain ⟨V, hV⟩ : ∃ V, V = (w.alloc (.deferred (some []))).alloc (.loop (L .ready none)) := ⟨_, rfl⟩
  have v1 : V.heap[s + 1]? = some (.loop (L .ready none)) := by
    have := World.alloc_heap_new (w.alloc (.deferred (some []))) (.loop (L .ready none)); rw [World.size_alloc] at this; rw [hV, hs]; exact this
  have v0 : V.heap[s]? = some (.deferred (some [])) := by rw [hV, hs]; exact (Below.heap_alloc _ _ _ (by simp)).trans (World.alloc_heap_new w _)
  have vI : I [] V := by rw [hV]; exact hI.alloc _ (hI.alloc _ h0)
  have vB : Below w.heap.size w V := by rw [hV]; exact ((Below.refl _ w).alloc (Nat.le_refl _) _).alloc (by simp) _
  have put : ∀ (X : World) (o o' : Obj), X.heap[s + 1]? = some o → Below B0 X (X.putObj (s + 1) o') := fun X o o' ho =>
    (Below.refl B0 X).grown (grownBy_putObj' X (s + 1) o') (by have := (Array.getElem?_eq_some_iff.1 ho).1; omega) (fun k e => by cases e; omega)
  refine ⟨s + 1, [{ target := .collected s, args := #[] }], V, { target := .fn (.func gf) lb, args := #[.func (.yield (s + 1)) #[] #[]] }, V, gf, #[.func (.yield (s + 1)) #[] #[]] ++ lb, V, ?_, ?_, ?_, ?_, fun _ => h1, ?_⟩
  · rw [hV, hL, hs]; exact run_enterLoop_outer _ _ _ _ _
  · simp only [resolve, hg]
    simp [go_sem]
  · intro f' hf'; simp [Target.leads] at hf'; subst hf'; exact hFg
  · simp [invoke, go_sem, eg]
  · refine (hseq (s + 1) (fun pre W => I pre W ∧ W.heap[s + 1]? = some (.loop (L .ready none)) ∧ W.heap[s]? = some (.deferred (some []))) (fun pre W => Ix pre W ∧ W.heap[s + 1]? = some (.loop (L .done (some .ret))) ∧ W.heap[s]? = some (.deferred (some []))) V vB ?_ ?_ ⟨vI, v1, v0⟩).mono ?_
    · rintro pre A v ⟨i1, i2, i3⟩
      exact ⟨hIs pre A v i1, (Below.heap_setCell A ⟨Bn, 0, none⟩ v _ (show s + 1 ≠ Bn by omega)).trans i2, (Below.heap_setCell A ⟨Bn, 0, none⟩ v _ (show s ≠ Bn by omega)).trans i3⟩
    · rintro pre x W ⟨i1, i2, i3⟩ hpre
      have lt1 : s + 1 < W.heap.size := (Array.getElem?_eq_some_iff.1 i2).1
      have hy := run_yield (P := P) (args := #[Value.int .i64 x]) i2 (by rw [hL]; exact hps.symm)
      rw [hL] at hy
      refine ⟨fn, _, assign, body, hy, roundIn_of_wpIn hfn (hassign _ x W _ ⟨_, run_beginRound i2 (by rw [hL]), ?_⟩)⟩
      obtain ⟨W2, hW2⟩ : ∃ W2, W2 = W.putObj (s + 1) (.loop { L .ready none with state := .busy }) := ⟨_, rfl⟩
      have j1 : W2.heap[s + 1]? = some (.loop { L .ready none with state := .busy }) := by rw [hW2]; exact World.putObj_heap_same lt1
      have j0 : W2.heap[s]? = some (.deferred (some [])) := by rw [hW2]; exact (World.putObj_heap_other (by omega)).trans i3
      have jB : Below B0 W W2 := by rw [hW2]; exact put W _ _ i2
      have jI : I pre W2 := by rw [hW2]; exact hI.putObj _ i1 (by omega) i2 rfl
      rw [← hW2]
      refine wpIn_mono (hbody _ pre x W2 jI hpre) ?_
      have fin : ∀ (jump : Option Code) (W3 : World), KeepsFrom w.heap.size W2 W3 → W3.heap[s + 1]? = some (.loop { L .ready none with state := .busy }) ∧
          (Instr.endRound (s + 1) jump).run P W3 = .ok (.bool jump.isNone) (W3.putObj (s + 1) (.loop (L (if jump.isNone then .ready else .done) jump))) ∧
          (W3.putObj (s + 1) (.loop (L (if jump.isNone then .ready else .done) jump))).heap[s + 1]? = some (.loop (L (if jump.isNone then .ready else .done) jump)) ∧
          (W3.putObj (s + 1) (.loop (L (if jump.isNone then .ready else .done) jump))).heap[s]? = some (.deferred (some [])) := fun jump W3 hk3 => by
        have l3 := hk3.same _ _ (by omega) j1 rfl
        have hr := run_endRound (P := P) jump l3
        rw [hL] at hr ⊢
        exact ⟨by rw [hL] at l3; exact l3, hr, World.putObj_heap_same (Array.getElem?_eq_some_iff.1 l3).1, (World.putObj_heap_other (by omega)).trans (hk3.same _ _ (by omega) j0 rfl)⟩
      rintro e a3 W3 hp
      cases e with
      | normal =>
        obtain ⟨p1, p2, p3⟩ := hp
        obtain ⟨q1, q2, q3, q4⟩ := fin none W3 p1
        exact ⟨_, _, q2, .inl ⟨rfl, ⟨hI.putObj _ p3 (by omega) q1 rfl, q3, q4⟩, (jB.trans p2).trans (put W3 _ _ q1)⟩⟩
      | ret =>
        obtain ⟨p1, p3⟩ := hp
        obtain ⟨q1, q2, q3, q4⟩ := fin (some .ret) W3 p1
        exact ⟨_, _, q2, .inr ⟨rfl, hIx.putObj _ p3 (by omega) q1 rfl, q3, q4⟩⟩
      | exit id => exact hp.elim
      | goto t => exact hp.elim
      | panic ch => exact hp.elim
      | outgrown => exact hp.elim
    · rintro e W2 ⟨⟨v, rfl⟩, (⟨hi, hl, hk⟩ | ⟨pre, hpre, hi, hl, hk⟩)⟩
      · exact ⟨none, _, by have := run_endLoop (P := P) hl (by rw [hL]; simp); rw [hL] at this; exact this, hdone s _ (by omega) (hI.putObj _ hi (by omega) hl rfl) ((World.putObj_heap_other (by omega)).trans hk)⟩
      · exact ⟨some .ret, _, by have := run_endLoop (P := P) hl (by rw [hL]; simp); rw [hL] at this; exact this, hstop s pre _ (by omega) hpre (hIx.putObj _ hi (by omega) hl rfl) ((World.putObj_heap_other (by omega)).trans hk)⟩
end Go.Proofs.He
end
section
namespace Go.Proofs
open Go.Shelf
def Tryz.laysSort_ren : Go.Shelf.Ren := ⟨fun | 189 => 66 | 125 => 100 | 257 => 99 | 128 => 125 | 129 => 126 | 294 => 116 | 295 => 117 | 296 => 118 | 297 => 119 | 298 => 120 | 299 => 121 | 216 => 122 | 300 => 123 | 301 => 124 | 328 => 138 | 329 => 139 | 330 => 140 | 331 => 141 | 332 => 142 | 215 => 105 | 343 => 146 | n => n, fun | 28 => 27 | 3 => 3 | 46 => 123 | 0 => 0 | 51 => 147 | 53 => 149 | 4 => 4 | 183 => 139 | 182 => 138 | 131 => 144 | 5 => 5 | 9 => 9 | 218 => 159 | 222 => 163 | 228 => 167 | 229 => 168 | n => n, fun | n => n⟩
theorem Tryz.laysSort : Go.Proofs.Lays.n189 Tryz.prog Tryz.laysSort_ren := {
  mixed := by kernel_rfl
  f125 := Tryz.func100.trans (congrArg some (by kernel_rfl))
  f128 := Tryz.func125.trans (congrArg some (by kernel_rfl))
  f129 := Tryz.func126.trans (congrArg some (by kernel_rfl))
  f189 := Tryz.func66.trans (congrArg some (by kernel_rfl))
  f215 := Tryz.func105.trans (congrArg some (by kernel_rfl))
  f216 := Tryz.func122.trans (congrArg some (by kernel_rfl))
  f257 := Tryz.func99.trans (congrArg some (by kernel_rfl))
  f294 := Tryz.func116.trans (congrArg some (by kernel_rfl))
  f295 := Tryz.func117.trans (congrArg some (by kernel_rfl))
  f296 := Tryz.func118.trans (congrArg some (by kernel_rfl))
  f297 := Tryz.func119.trans (congrArg some (by kernel_rfl))
  f298 := Tryz.func120.trans (congrArg some (by kernel_rfl))
  f299 := Tryz.func121.trans (congrArg some (by kernel_rfl))
  f300 := Tryz.func123.trans (congrArg some (by kernel_rfl))
  f301 := Tryz.func124.trans (congrArg some (by kernel_rfl))
  f328 := Tryz.func138.trans (congrArg some (by kernel_rfl))
  f329 := Tryz.func139.trans (congrArg some (by kernel_rfl))
  f330 := Tryz.func140.trans (congrArg some (by kernel_rfl))
  f331 := Tryz.func141.trans (congrArg some (by kernel_rfl))
  f332 := Tryz.func142.trans (congrArg some (by kernel_rfl))
  f343 := Tryz.func146.trans (congrArg some (by kernel_rfl))
  t0 := Tryz.underlying0
  a0 := Tryz.isAgg0
  z0 := Tryz.sizeOf0
  v0 := Tryz.zeroValue0
  t3 := Tryz.underlying3
  a3 := Tryz.isAgg3
  z3 := Tryz.sizeOf3
  v3 := Tryz.zeroValue3
  t4 := Tryz.underlying4
  a4 := Tryz.isAgg4
  z4 := Tryz.sizeOf4
  v4 := Tryz.zeroValue4
  t5 := Tryz.underlying5
  a5 := Tryz.isAgg5
  z5 := Tryz.sizeOf5
  v5 := Tryz.zeroValue5
  t9 := Tryz.underlying9
  a9 := Tryz.isAgg9
  z9 := Tryz.sizeOf9
  v9 := Tryz.zeroValue9
  t28 := Tryz.underlying27
  a28 := Tryz.isAgg27
  z28 := Tryz.sizeOf27
  v28 := Tryz.zeroValue27
  t46 := Tryz.underlying123
  a46 := Tryz.isAgg123
  z46 := Tryz.sizeOf123
  v46 := Tryz.zeroValue123
  t51 := Tryz.underlying147
  a51 := Tryz.isAgg147
  z51 := Tryz.sizeOf147
  v51 := Tryz.zeroValue147
  t53 := Tryz.underlying149
  a53 := Tryz.isAgg149
  z53 := Tryz.sizeOf149
  v53 := Tryz.zeroValue149
  t131 := Tryz.underlying144
  a131 := Tryz.isAgg144
  z131 := Tryz.sizeOf144
  v131 := Tryz.zeroValue144
  t182 := Tryz.underlying138
  a182 := Tryz.isAgg138
  z182 := Tryz.sizeOf138
  v182 := Tryz.zeroValue138
  t183 := Tryz.underlying139
  a183 := Tryz.isAgg139
  z183 := Tryz.sizeOf139
  v183 := Tryz.zeroValue139
  t218 := Tryz.underlying159
  a218 := Tryz.isAgg159
  z218 := Tryz.sizeOf159
  v218 := Tryz.zeroValue159
  t222 := Tryz.underlying163
  a222 := Tryz.isAgg163
  z222 := Tryz.sizeOf163
  v222 := Tryz.zeroValue163
  t228 := Tryz.underlying167
  a228 := Tryz.isAgg167
  z228 := Tryz.sizeOf167
  v228 := Tryz.zeroValue167
  t229 := Tryz.underlying168
  a229 := Tryz.isAgg168
  z229 := Tryz.sizeOf168
  v229 := Tryz.zeroValue168 }
def Tryz.laysCompact_ren : Go.Shelf.Ren := ⟨fun | 20 => 67 | n => n, fun | 22 => 27 | 3 => 3 | 4 => 4 | 0 => 0 | n => n, fun | n => n⟩
theorem Tryz.laysCompact : Go.Proofs.Lays2.n20 Tryz.prog Tryz.laysCompact_ren := {
  mixed := by kernel_rfl
  f20 := Tryz.func67.trans (congrArg some (by kernel_rfl))
  t0 := Tryz.underlying0
  a0 := Tryz.isAgg0
  z0 := Tryz.sizeOf0
  v0 := Tryz.zeroValue0
  t3 := Tryz.underlying3
  a3 := Tryz.isAgg3
  z3 := Tryz.sizeOf3
  v3 := Tryz.zeroValue3
  t4 := Tryz.underlying4
  a4 := Tryz.isAgg4
  z4 := Tryz.sizeOf4
  v4 := Tryz.zeroValue4
  t22 := Tryz.underlying27
  a22 := Tryz.isAgg27
  z22 := Tryz.sizeOf27
  v22 := Tryz.zeroValue27
  i3 := by kernel_rfl }
def Tryz.laysCompare_ren : Go.Shelf.Ren := ⟨fun | 122 => 77 | 215 => 105 | n => n, fun | 3 => 3 | 4 => 4 | n => n, fun | n => n⟩
theorem Tryz.laysCompare : Go.Proofs.Lays.n122 Tryz.prog Tryz.laysCompare_ren := {
  mixed := by kernel_rfl
  f122 := Tryz.func77.trans (congrArg some (by kernel_rfl))
  f215 := Tryz.func105.trans (congrArg some (by kernel_rfl))
  t3 := Tryz.underlying3
  a3 := Tryz.isAgg3
  z3 := Tryz.sizeOf3
  v3 := Tryz.zeroValue3
  t4 := Tryz.underlying4
  a4 := Tryz.isAgg4
  z4 := Tryz.sizeOf4
  v4 := Tryz.zeroValue4 }
def Tryz.laysMin_ren : Go.Shelf.Ren := ⟨fun | 10 => 74 | n => n, fun | 22 => 27 | 24 => 3 | 25 => 100 | 3 => 3 | 4 => 4 | 9 => 9 | 20 => 20 | 0 => 0 | n => n, fun | n => n⟩
theorem Tryz.laysMin : Go.Proofs.SlLaysG2.n10 Tryz.prog Tryz.laysMin_ren := {
  mixed := by kernel_rfl
  f10 := ⟨Tryz.f74.name, by decide, Tryz.func74.trans (congrArg some (by kernel_rfl))⟩
  t0 := Tryz.underlying0
  a0 := Tryz.isAgg0
  z0 := Tryz.sizeOf0
  v0 := Tryz.zeroValue0
  t3 := Tryz.underlying3
  a3 := Tryz.isAgg3
  z3 := Tryz.sizeOf3
  v3 := Tryz.zeroValue3
  t4 := Tryz.underlying4
  a4 := Tryz.isAgg4
  z4 := Tryz.sizeOf4
  v4 := Tryz.zeroValue4
  t9 := Tryz.underlying9
  a9 := Tryz.isAgg9
  z9 := Tryz.sizeOf9
  v9 := Tryz.zeroValue9
  t20 := Tryz.underlying20
  a20 := Tryz.isAgg20
  z20 := Tryz.sizeOf20
  v20 := Tryz.zeroValue20
  t22 := Tryz.underlying27
  a22 := Tryz.isAgg27
  z22 := Tryz.sizeOf27
  v22 := Tryz.zeroValue27
  a24 := Tryz.isAgg3
  z24 := Tryz.sizeOf3
  t25 := Tryz.underlying100
  a25 := Tryz.isAgg100
  z25 := Tryz.sizeOf100
  v25 := Tryz.zeroValue100 }
def Tryz.laysSortF_ren : Go.Shelf.Ren := ⟨fun | 6 => 68 | 15 => 100 | 14 => 101 | 28 => 125 | 29 => 126 | 20 => 127 | 21 => 128 | 22 => 129 | 23 => 130 | 24 => 131 | 25 => 132 | 26 => 133 | 27 => 134 | 46 => 143 | 47 => 139 | 48 => 140 | 49 => 144 | 50 => 145 | 57 => 147 | n => n, fun | 22 => 87 | 24 => 89 | 25 => 91 | 3 => 3 | 39 => 123 | 0 => 0 | 53 => 147 | 55 => 149 | 4 => 4 | 46 => 139 | 45 => 138 | 50 => 144 | 5 => 5 | 9 => 9 | 66 => 159 | 70 => 163 | 76 => 167 | 77 => 168 | n => n, fun | n => n⟩
theorem Tryz.laysSortF : Go.Proofs.SlLaysF0.n6 Tryz.prog Tryz.laysSortF_ren := {
  mixed := by kernel_rfl
  f6 := ⟨Tryz.f68.name, by decide, Tryz.func68.trans (congrArg some (by kernel_rfl))⟩
  f14 := ⟨Tryz.f101.name, by decide, Tryz.func101.trans (congrArg some (by kernel_rfl))⟩
  f15 := Tryz.func100.trans (congrArg some (by kernel_rfl))
  f20 := ⟨Tryz.f127.name, by decide, Tryz.func127.trans (congrArg some (by kernel_rfl))⟩
  f21 := ⟨Tryz.f128.name, by decide, Tryz.func128.trans (congrArg some (by kernel_rfl))⟩
  f22 := ⟨Tryz.f129.name, by decide, Tryz.func129.trans (congrArg some (by kernel_rfl))⟩
  f23 := ⟨Tryz.f130.name, by decide, Tryz.func130.trans (congrArg some (by kernel_rfl))⟩
  f24 := ⟨Tryz.f131.name, by decide, Tryz.func131.trans (congrArg some (by kernel_rfl))⟩
  f25 := ⟨Tryz.f132.name, by decide, Tryz.func132.trans (congrArg some (by kernel_rfl))⟩
  f26 := ⟨Tryz.f133.name, by decide, Tryz.func133.trans (congrArg some (by kernel_rfl))⟩
  f27 := ⟨Tryz.f134.name, by decide, Tryz.func134.trans (congrArg some (by kernel_rfl))⟩
  f28 := Tryz.func125.trans (congrArg some (by kernel_rfl))
  f29 := Tryz.func126.trans (congrArg some (by kernel_rfl))
  f46 := ⟨Tryz.f143.name, by decide, Tryz.func143.trans (congrArg some (by kernel_rfl))⟩
  f47 := Tryz.func139.trans (congrArg some (by kernel_rfl))
  f48 := Tryz.func140.trans (congrArg some (by kernel_rfl))
  f49 := ⟨Tryz.f144.name, by decide, Tryz.func144.trans (congrArg some (by kernel_rfl))⟩
  f50 := ⟨Tryz.f145.name, by decide, Tryz.func145.trans (congrArg some (by kernel_rfl))⟩
  f57 := ⟨Tryz.f147.name, by decide, Tryz.func147.trans (congrArg some (by kernel_rfl))⟩
  t0 := Tryz.underlying0
  a0 := Tryz.isAgg0
  z0 := Tryz.sizeOf0
  v0 := Tryz.zeroValue0
  t3 := Tryz.underlying3
  a3 := Tryz.isAgg3
  z3 := Tryz.sizeOf3
  v3 := Tryz.zeroValue3
  t4 := Tryz.underlying4
  a4 := Tryz.isAgg4
  z4 := Tryz.sizeOf4
  v4 := Tryz.zeroValue4
  t5 := Tryz.underlying5
  a5 := Tryz.isAgg5
  z5 := Tryz.sizeOf5
  v5 := Tryz.zeroValue5
  t9 := Tryz.underlying9
  a9 := Tryz.isAgg9
  z9 := Tryz.sizeOf9
  v9 := Tryz.zeroValue9
  t22 := Tryz.underlying87
  a22 := Tryz.isAgg87
  z22 := Tryz.sizeOf87
  v22 := Tryz.zeroValue87
  t25 := Tryz.underlying91
  a25 := Tryz.isAgg91
  z25 := Tryz.sizeOf91
  v25 := Tryz.zeroValue91
  t39 := Tryz.underlying123
  a39 := Tryz.isAgg123
  z39 := Tryz.sizeOf123
  v39 := Tryz.zeroValue123
  t45 := Tryz.underlying138
  a45 := Tryz.isAgg138
  z45 := Tryz.sizeOf138
  v45 := Tryz.zeroValue138
  t46 := Tryz.underlying139
  a46 := Tryz.isAgg139
  z46 := Tryz.sizeOf139
  v46 := Tryz.zeroValue139
  t50 := Tryz.underlying144
  a50 := Tryz.isAgg144
  z50 := Tryz.sizeOf144
  v50 := Tryz.zeroValue144
  t53 := Tryz.underlying147
  a53 := Tryz.isAgg147
  z53 := Tryz.sizeOf147
  v53 := Tryz.zeroValue147
  t55 := Tryz.underlying149
  a55 := Tryz.isAgg149
  z55 := Tryz.sizeOf149
  v55 := Tryz.zeroValue149
  t66 := Tryz.underlying159
  a66 := Tryz.isAgg159
  z66 := Tryz.sizeOf159
  v66 := Tryz.zeroValue159
  t70 := Tryz.underlying163
  a70 := Tryz.isAgg163
  z70 := Tryz.sizeOf163
  v70 := Tryz.zeroValue163
  t76 := Tryz.underlying167
  a76 := Tryz.isAgg167
  z76 := Tryz.sizeOf167
  v76 := Tryz.zeroValue167
  t77 := Tryz.underlying168
  a77 := Tryz.isAgg168
  z77 := Tryz.sizeOf168
  v77 := Tryz.zeroValue168 }
end Go.Proofs
end
section
namespace Go.Proofs.YtmdjknkhjimgeaaGreat.S
open Go.RowKit Go.Proofs.YtmdjknkhjimgeaaGreatW.PrintWords Go.Proofs.YtmdjknkhjimgeaaGreatW.PrintLast Go.Proofs.YtmdjknkhjimgeaaGreatW.PrintMore
attribute [local go_sem] max2_int min2_int max_two min_two max_three min_three max_four min_four
set_option linter.unusedVariables false
set_option linter.unusedSimpArgs false
def errW : Option Int → Value
  | none => .nilIface
  | some c => .iface 0 (.int .i64 c)
theorem errW_none : errW none = .nilIface := rfl
theorem errW_some (c : Int) : errW (some c) = .iface 0 (.int .i64 c) := rfl
theorem info3 : (Tryz.prog.info? 3).map (fun i => (i.zero, i.size, i.bytes)) = some (some (.int .i64 0), 1, 8) := by kernel_rfl
theorem info122 : (Tryz.prog.info? 122).map (fun i => (i.zero, i.size, i.bytes)) = some (some (.agg #[(.string ⟨#[]⟩), (.string ⟨#[]⟩)]), 2, 32) := by kernel_rfl
structure S48 where
  f0 : Int
  f1 : Int
  f2 : ByteArray
  f3 : (List ByteArray)
  f4 : (List S48)
def z48 : S48 := ⟨(0 : Int), (0 : Int), (⟨#[]⟩ : ByteArray), ([] : List ByteArray), ([] : List S48)⟩
def F48 (d : Kd S48) : Kd S48 := Kd.iso (Kd.pair (Kd.int .i64) (Kd.pair (Kd.int .i64) (Kd.pair Kd.string (Kd.pair (Kd.slice 9 Kd.string) (Kd.slice 48 d))))) (fun x : S48 => (x.f0, x.f1, x.f2, x.f3, x.f4))
theorem mono48 : Kd.Mono F48 := Kd.mono_iso _ (Kd.mono_pair (Kd.mono_const _) (Kd.mono_pair (Kd.mono_const _) (Kd.mono_pair (Kd.mono_const _) (Kd.mono_pair (Kd.mono_const _) (Kd.mono_slice 48 Kd.mono_id)))))
theorem sub48 : Kd.Sub F48 [9, 48] := Kd.sub_iso _ (Kd.sub_pair (Kd.sub_const _ (by decide)) (Kd.sub_pair (Kd.sub_const _ (by decide)) (Kd.sub_pair (Kd.sub_const _ (by decide)) (Kd.sub_pair (Kd.sub_const _ (by decide)) (Kd.sub_slice 48 (by decide) Kd.sub_id)))))
theorem sz48 : ∀ n, (Kd.upto F48 5 [9, 48] n).sz = 5 := Kd.upto_sz (fun _ => rfl)
def k48 : Kd S48 := Kd.fix F48 5 [9, 48] sz48 (Kd.upto_E sub48)
theorem k48_heap : Kd.Heap k48 := Kd.heap_fix (fun _ h_ => Kd.heap_iso _ (Kd.heap_pair (Kd.heap_int .i64) (Kd.heap_pair (Kd.heap_int .i64) (Kd.heap_pair Kd.heap_string (Kd.heap_pair (Kd.heap_slice 9 Kd.heap_string) (Kd.heap_slice 48 h_))))))
theorem k48_open {w : World} {x : S48} {cs : List Value} (h : k48.K w x cs) : ∃ A3 c3 A4 c4, cs = [.int .i64 x.f0, .int .i64 x.f1, .string x.f2, .slice A3 x.f3.length c3, .slice A4 x.f4.length c4] ∧ x.f3.length ≤ c3 ∧ Kd.string.C w A3 x.f3.length x.f3 ∧ x.f4.length ≤ c4 ∧ k48.C w A4 x.f4.length x.f4 := by
  obtain ⟨n, h⟩ := h
  cases n with
  | zero => exact h.elim
  | succ n =>
    obtain ⟨_, _, rfl, rfl, ⟨_, _, rfl, rfl, ⟨_, _, rfl, rfl, ⟨_, _, rfl, ⟨A3, c3, rfl, l3, g3⟩, ⟨A4, c4, rfl, l4, g4⟩⟩⟩⟩⟩ := h
    exact ⟨A3, c3, A4, c4, rfl, l3, g3, l4, Kd.fix_C g4⟩
theorem k48_mk (w : World) (x : S48) {A3 : Option Addr} {c3 : Nat} (l3 : x.f3.length ≤ c3) (g3 : Kd.string.C w A3 x.f3.length x.f3) {A4 : Option Addr} {c4 : Nat} (l4 : x.f4.length ≤ c4) (g4 : k48.C w A4 x.f4.length x.f4) : k48.K w x [.int .i64 x.f0, .int .i64 x.f1, .string x.f2, .slice A3 x.f3.length c3, .slice A4 x.f4.length c4] := by
  obtain ⟨n4, q4⟩ := Kd.fix_C_back mono48 g4
  have r4 := Kd.upto_C_le mono48 sz48 (show n4 ≤ n4 by omega) q4
  exact ⟨n4 + 1, ⟨[.int .i64 x.f0], [.int .i64 x.f1, .string x.f2, .slice A3 x.f3.length c3, .slice A4 x.f4.length c4], rfl, rfl, ⟨[.int .i64 x.f1], [.string x.f2, .slice A3 x.f3.length c3, .slice A4 x.f4.length c4], rfl, rfl, ⟨[.string x.f2], [.slice A3 x.f3.length c3, .slice A4 x.f4.length c4], rfl, rfl, ⟨[.slice A3 x.f3.length c3], [.slice A4 x.f4.length c4], rfl, ⟨A3, c3, rfl, l3, g3⟩, ⟨A4, c4, rfl, l4, r4⟩⟩⟩⟩⟩⟩
theorem k48_mkM (w : World) (base : Nat) (ok : Nat → Prop) (x : S48) {v3 : Value} (g3 : Kd.string.R 9 w base ok v3 x.f3) {v4 : Value} (g4 : k48.R 48 w base ok v4 x.f4) : k48.M w base ok x [.int .i64 x.f0, .int .i64 x.f1, .string x.f2, v3, v4] := by
  obtain ⟨n4, q4⟩ := Kd.fix_R_back mono48 g4
  have r4 := Kd.upto_R_le mono48 sz48 (show n4 ≤ n4 by omega) q4
  exact ⟨n4 + 1, ⟨[.int .i64 x.f0], [.int .i64 x.f1, .string x.f2, v3, v4], rfl, rfl, ⟨[.int .i64 x.f1], [.string x.f2, v3, v4], rfl, rfl, ⟨[.string x.f2], [v3, v4], rfl, rfl, ⟨[v3], [v4], rfl, ⟨v3, rfl, g3⟩, ⟨v4, rfl, r4⟩⟩⟩⟩⟩⟩
theorem k48_openF {W : World} {ok : Nat → Prop} {x : S48} {cs : List Value} (h : Kd.FK k48 W ok x cs) : ∃ A3 c3 A4 c4, cs = [.int .i64 x.f0, .int .i64 x.f1, .string x.f2, .slice A3 x.f3.length c3, .slice A4 x.f4.length c4] ∧ x.f3.length ≤ c3 ∧ Kd.F Kd.string W ok A3 x.f3.length x.f3 ∧ x.f4.length ≤ c4 ∧ Kd.F k48 W ok A4 x.f4.length x.f4 := by
  obtain ⟨A3, c3, A4, c4, rfl, l3, _, l4, _⟩ := k48_open (Kd.FK_now h)
  exact ⟨A3, c3, A4, c4, rfl, l3, (fun W' hW => by obtain ⟨A3_, c3_, A4_, c4_, he, l3_, g3_, l4_, g4_⟩ := k48_open (h W' hW); injection (Option.some.inj (show some (Value.slice A3 x.f3.length c3) = some (Value.slice A3_ x.f3.length c3_) from congrArg (fun l => l[3]?) he)) with ha_ _ _; rw [ha_]; exact g3_), l4, (fun W' hW => by obtain ⟨A3_, c3_, A4_, c4_, he, l3_, g3_, l4_, g4_⟩ := k48_open (h W' hW); injection (Option.some.inj (show some (Value.slice A4 x.f4.length c4) = some (Value.slice A4_ x.f4.length c4_) from congrArg (fun l => l[4]?) he)) with ha_ _ _; rw [ha_]; exact g4_)⟩
theorem k48_mkF (W : World) (ok : Nat → Prop) (x : S48) {A3 : Option Addr} {c3 : Nat} (l3 : x.f3.length ≤ c3) (g3 : Kd.F Kd.string W ok A3 x.f3.length x.f3) {A4 : Option Addr} {c4 : Nat} (l4 : x.f4.length ≤ c4) (g4 : Kd.F k48 W ok A4 x.f4.length x.f4) : Kd.FK k48 W ok x [.int .i64 x.f0, .int .i64 x.f1, .string x.f2, .slice A3 x.f3.length c3, .slice A4 x.f4.length c4] := fun W2 hW => k48_mk W2 x l3 (g3 W2 hW) l4 (g4 W2 hW)
def rd_T48 (xs : List S48) (i : Int) : S48 := xs.getD i.toNat z48
theorem at_T48 {w : World} {A : Option Addr} {n : Nat} {xs : List S48} (h : Kd.C k48 w A n xs) (i : Int) (h0 : 0 ≤ i) (h1 : i < n) : ∃ ad A3 c3 A4 c4, A = some ad ∧ w.cell? (ad.add (i.toNat * 5)) = some (.int .i64 (rd_T48 xs i).f0) ∧ w.cell? ⟨(ad.add (i.toNat * 5)).block, (ad.add (i.toNat * 5)).off + 1, none⟩ = some (.int .i64 (rd_T48 xs i).f1) ∧ w.cell? ⟨(ad.add (i.toNat * 5)).block, (ad.add (i.toNat * 5)).off + 2, none⟩ = some (.string (rd_T48 xs i).f2) ∧ w.cell? ⟨(ad.add (i.toNat * 5)).block, (ad.add (i.toNat * 5)).off + 3, none⟩ = some (.slice A3 (rd_T48 xs i).f3.length c3) ∧ w.cell? ⟨(ad.add (i.toNat * 5)).block, (ad.add (i.toNat * 5)).off + 4, none⟩ = some (.slice A4 (rd_T48 xs i).f4.length c4) ∧ (rd_T48 xs i).f3.length ≤ c3 ∧ Kd.string.C w A3 (rd_T48 xs i).f3.length (rd_T48 xs i).f3 ∧ (rd_T48 xs i).f4.length ≤ c4 ∧ k48.C w A4 (rd_T48 xs i).f4.length (rd_T48 xs i).f4 := by
  obtain ⟨ad, c, e, _, hK, hc0⟩ := Kd.C_get h z48 i h0 h1
  have hc : ∀ j u, c[j]? = some u → w.cell? (ad.add (i.toNat * 5 + j)) = some u := hc0
  obtain ⟨A3, c3, A4, c4, rfl, l3, g3, l4, g4⟩ := k48_open hK
  exact ⟨ad, A3, c3, A4, c4, e, hc 0 _ rfl, by rw [← add_field _ _ 1 (by omega)]; exact hc 1 _ rfl, by rw [← add_field _ _ 2 (by omega)]; exact hc 2 _ rfl, by rw [← add_field _ _ 3 (by omega)]; exact hc 3 _ rfl, by rw [← add_field _ _ 4 (by omega)]; exact hc 4 _ rfl, l3, g3, l4, g4⟩
structure S122 where
  f0 : ByteArray
  f1 : ByteArray
def z122 : S122 := ⟨(⟨#[]⟩ : ByteArray), (⟨#[]⟩ : ByteArray)⟩
def k122 : Kd S122 := Kd.iso (Kd.pair Kd.string Kd.string) (fun x : S122 => (x.f0, x.f1))
theorem k122_open {w : World} {x : S122} {cs : List Value} (h : k122.K w x cs) : cs = [.string x.f0, .string x.f1] := by
  obtain ⟨_, _, rfl, rfl, rfl⟩ := h
  exact rfl
theorem k122_mkM (w : World) (base : Nat) (ok : Nat → Prop) (x : S122)  : k122.M w base ok x [.string x.f0, .string x.f1] := ⟨[.string x.f0], [.string x.f1], rfl, rfl, rfl⟩
def rd_T122 (xs : List S122) (i : Int) : S122 := xs.getD i.toNat z122
theorem at_T122 {w : World} {A : Option Addr} {n : Nat} {xs : List S122} (h : Kd.C k122 w A n xs) (i : Int) (h0 : 0 ≤ i) (h1 : i < n) : ∃ ad , A = some ad ∧ w.cell? (ad.add (i.toNat * 2)) = some (.string (rd_T122 xs i).f0) ∧ w.cell? ⟨(ad.add (i.toNat * 2)).block, (ad.add (i.toNat * 2)).off + 1, none⟩ = some (.string (rd_T122 xs i).f1) := by
  obtain ⟨ad, c, e, _, hK, hc0⟩ := Kd.C_get h z122 i h0 h1
  have hc : ∀ j u, c[j]? = some u → w.cell? (ad.add (i.toNat * 2 + j)) = some u := hc0
  obtain rfl := k122_open hK
  exact ⟨ad, e, hc 0 _ rfl, by rw [← add_field _ _ 1 (by omega)]; exact hc 1 _ rfl⟩
structure S50 where
  f0 : ByteArray
  f1 : ByteArray
  f2 : ByteArray
  f3 : Bool
  f4 : ByteArray
  f5 : ByteArray
  f6 : (List ByteArray)
  f7 : (List ByteArray)
  f8 : Int
  f9 : Int
  f10 : S48
def z50 : S50 := ⟨(⟨#[]⟩ : ByteArray), (⟨#[]⟩ : ByteArray), (⟨#[]⟩ : ByteArray), false, (⟨#[]⟩ : ByteArray), (⟨#[]⟩ : ByteArray), ([] : List ByteArray), ([] : List ByteArray), (0 : Int), (0 : Int), z48⟩
def k50 : Kd S50 := Kd.iso (Kd.pair Kd.string (Kd.pair Kd.string (Kd.pair Kd.string (Kd.pair Kd.bool (Kd.pair Kd.string (Kd.pair Kd.string (Kd.pair (Kd.slice 9 Kd.string) (Kd.pair (Kd.slice 9 Kd.string) (Kd.pair (Kd.int .i64) (Kd.pair (Kd.int .i64) k48)))))))))) (fun x : S50 => (x.f0, x.f1, x.f2, x.f3, x.f4, x.f5, x.f6, x.f7, x.f8, x.f9, x.f10))
theorem k50_heap : Kd.Heap k50 := Kd.heap_iso _ (Kd.heap_pair Kd.heap_string (Kd.heap_pair Kd.heap_string (Kd.heap_pair Kd.heap_string (Kd.heap_pair Kd.heap_bool (Kd.heap_pair Kd.heap_string (Kd.heap_pair Kd.heap_string (Kd.heap_pair (Kd.heap_slice 9 Kd.heap_string) (Kd.heap_pair (Kd.heap_slice 9 Kd.heap_string) (Kd.heap_pair (Kd.heap_int .i64) (Kd.heap_pair (Kd.heap_int .i64) k48_heap))))))))))
theorem k50_open {w : World} {x : S50} {cs : List Value} (h : k50.K w x cs) : ∃ A6 c6 A7 c7 A13 c13 A14 c14, cs = [.string x.f0, .string x.f1, .string x.f2, .bool x.f3, .string x.f4, .string x.f5, .slice A6 x.f6.length c6, .slice A7 x.f7.length c7, .int .i64 x.f8, .int .i64 x.f9, .int .i64 x.f10.f0, .int .i64 x.f10.f1, .string x.f10.f2, .slice A13 x.f10.f3.length c13, .slice A14 x.f10.f4.length c14] ∧ x.f6.length ≤ c6 ∧ Kd.string.C w A6 x.f6.length x.f6 ∧ x.f7.length ≤ c7 ∧ Kd.string.C w A7 x.f7.length x.f7 ∧ x.f10.f3.length ≤ c13 ∧ Kd.string.C w A13 x.f10.f3.length x.f10.f3 ∧ x.f10.f4.length ≤ c14 ∧ k48.C w A14 x.f10.f4.length x.f10.f4 := by
  obtain ⟨_, _, rfl, rfl, ⟨_, _, rfl, rfl, ⟨_, _, rfl, rfl, ⟨_, _, rfl, rfl, ⟨_, _, rfl, rfl, ⟨_, _, rfl, rfl, ⟨_, _, rfl, ⟨A6, c6, rfl, l6, g6⟩, ⟨_, _, rfl, ⟨A7, c7, rfl, l7, g7⟩, ⟨_, _, rfl, rfl, ⟨_, _, rfl, rfl, s10⟩⟩⟩⟩⟩⟩⟩⟩⟩⟩ := h
  obtain ⟨A13, c13, A14, c14, rfl, l13, g13, l14, g14⟩ := k48_open s10
  exact ⟨A6, c6, A7, c7, A13, c13, A14, c14, rfl, l6, g6, l7, g7, l13, g13, l14, g14⟩
theorem k50_mk (w : World) (x : S50) {A6 : Option Addr} {c6 : Nat} (l6 : x.f6.length ≤ c6) (g6 : Kd.string.C w A6 x.f6.length x.f6) {A7 : Option Addr} {c7 : Nat} (l7 : x.f7.length ≤ c7) (g7 : Kd.string.C w A7 x.f7.length x.f7) {A13 : Option Addr} {c13 : Nat} (l13 : x.f10.f3.length ≤ c13) (g13 : Kd.string.C w A13 x.f10.f3.length x.f10.f3) {A14 : Option Addr} {c14 : Nat} (l14 : x.f10.f4.length ≤ c14) (g14 : k48.C w A14 x.f10.f4.length x.f10.f4) : k50.K w x [.string x.f0, .string x.f1, .string x.f2, .bool x.f3, .string x.f4, .string x.f5, .slice A6 x.f6.length c6, .slice A7 x.f7.length c7, .int .i64 x.f8, .int .i64 x.f9, .int .i64 x.f10.f0, .int .i64 x.f10.f1, .string x.f10.f2, .slice A13 x.f10.f3.length c13, .slice A14 x.f10.f4.length c14] := ⟨[.string x.f0], [.string x.f1, .string x.f2, .bool x.f3, .string x.f4, .string x.f5, .slice A6 x.f6.length c6, .slice A7 x.f7.length c7, .int .i64 x.f8, .int .i64 x.f9, .int .i64 x.f10.f0, .int .i64 x.f10.f1, .string x.f10.f2, .slice A13 x.f10.f3.length c13, .slice A14 x.f10.f4.length c14], rfl, rfl, ⟨[.string x.f1], [.string x.f2, .bool x.f3, .string x.f4, .string x.f5, .slice A6 x.f6.length c6, .slice A7 x.f7.length c7, .int .i64 x.f8, .int .i64 x.f9, .int .i64 x.f10.f0, .int .i64 x.f10.f1, .string x.f10.f2, .slice A13 x.f10.f3.length c13, .slice A14 x.f10.f4.length c14], rfl, rfl, ⟨[.string x.f2], [.bool x.f3, .string x.f4, .string x.f5, .slice A6 x.f6.length c6, .slice A7 x.f7.length c7, .int .i64 x.f8, .int .i64 x.f9, .int .i64 x.f10.f0, .int .i64 x.f10.f1, .string x.f10.f2, .slice A13 x.f10.f3.length c13, .slice A14 x.f10.f4.length c14], rfl, rfl, ⟨[.bool x.f3], [.string x.f4, .string x.f5, .slice A6 x.f6.length c6, .slice A7 x.f7.length c7, .int .i64 x.f8, .int .i64 x.f9, .int .i64 x.f10.f0, .int .i64 x.f10.f1, .string x.f10.f2, .slice A13 x.f10.f3.length c13, .slice A14 x.f10.f4.length c14], rfl, rfl, ⟨[.string x.f4], [.string x.f5, .slice A6 x.f6.length c6, .slice A7 x.f7.length c7, .int .i64 x.f8, .int .i64 x.f9, .int .i64 x.f10.f0, .int .i64 x.f10.f1, .string x.f10.f2, .slice A13 x.f10.f3.length c13, .slice A14 x.f10.f4.length c14], rfl, rfl, ⟨[.string x.f5], [.slice A6 x.f6.length c6, .slice A7 x.f7.length c7, .int .i64 x.f8, .int .i64 x.f9, .int .i64 x.f10.f0, .int .i64 x.f10.f1, .string x.f10.f2, .slice A13 x.f10.f3.length c13, .slice A14 x.f10.f4.length c14], rfl, rfl, ⟨[.slice A6 x.f6.length c6], [.slice A7 x.f7.length c7, .int .i64 x.f8, .int .i64 x.f9, .int .i64 x.f10.f0, .int .i64 x.f10.f1, .string x.f10.f2, .slice A13 x.f10.f3.length c13, .slice A14 x.f10.f4.length c14], rfl, ⟨A6, c6, rfl, l6, g6⟩, ⟨[.slice A7 x.f7.length c7], [.int .i64 x.f8, .int .i64 x.f9, .int .i64 x.f10.f0, .int .i64 x.f10.f1, .string x.f10.f2, .slice A13 x.f10.f3.length c13, .slice A14 x.f10.f4.length c14], rfl, ⟨A7, c7, rfl, l7, g7⟩, ⟨[.int .i64 x.f8], [.int .i64 x.f9, .int .i64 x.f10.f0, .int .i64 x.f10.f1, .string x.f10.f2, .slice A13 x.f10.f3.length c13, .slice A14 x.f10.f4.length c14], rfl, rfl, ⟨[.int .i64 x.f9], [.int .i64 x.f10.f0, .int .i64 x.f10.f1, .string x.f10.f2, .slice A13 x.f10.f3.length c13, .slice A14 x.f10.f4.length c14], rfl, rfl, (k48_mk w x.f10 l13 g13 l14 g14)⟩⟩⟩⟩⟩⟩⟩⟩⟩⟩
theorem k50_openF {W : World} {ok : Nat → Prop} {x : S50} {cs : List Value} (h : Kd.FK k50 W ok x cs) : ∃ A6 c6 A7 c7 A13 c13 A14 c14, cs = [.string x.f0, .string x.f1, .string x.f2, .bool x.f3, .string x.f4, .string x.f5, .slice A6 x.f6.length c6, .slice A7 x.f7.length c7, .int .i64 x.f8, .int .i64 x.f9, .int .i64 x.f10.f0, .int .i64 x.f10.f1, .string x.f10.f2, .slice A13 x.f10.f3.length c13, .slice A14 x.f10.f4.length c14] ∧ x.f6.length ≤ c6 ∧ Kd.F Kd.string W ok A6 x.f6.length x.f6 ∧ x.f7.length ≤ c7 ∧ Kd.F Kd.string W ok A7 x.f7.length x.f7 ∧ x.f10.f3.length ≤ c13 ∧ Kd.F Kd.string W ok A13 x.f10.f3.length x.f10.f3 ∧ x.f10.f4.length ≤ c14 ∧ Kd.F k48 W ok A14 x.f10.f4.length x.f10.f4 := by
  obtain ⟨A6, c6, A7, c7, A13, c13, A14, c14, rfl, l6, _, l7, _, l13, _, l14, _⟩ := k50_open (Kd.FK_now h)
  exact ⟨A6, c6, A7, c7, A13, c13, A14, c14, rfl, l6, (fun W' hW => by obtain ⟨A6_, c6_, A7_, c7_, A13_, c13_, A14_, c14_, he, l6_, g6_, l7_, g7_, l13_, g13_, l14_, g14_⟩ := k50_open (h W' hW); injection (Option.some.inj (show some (Value.slice A6 x.f6.length c6) = some (Value.slice A6_ x.f6.length c6_) from congrArg (fun l => l[6]?) he)) with ha_ _ _; rw [ha_]; exact g6_), l7, (fun W' hW => by obtain ⟨A6_, c6_, A7_, c7_, A13_, c13_, A14_, c14_, he, l6_, g6_, l7_, g7_, l13_, g13_, l14_, g14_⟩ := k50_open (h W' hW); injection (Option.some.inj (show some (Value.slice A7 x.f7.length c7) = some (Value.slice A7_ x.f7.length c7_) from congrArg (fun l => l[7]?) he)) with ha_ _ _; rw [ha_]; exact g7_), l13, (fun W' hW => by obtain ⟨A6_, c6_, A7_, c7_, A13_, c13_, A14_, c14_, he, l6_, g6_, l7_, g7_, l13_, g13_, l14_, g14_⟩ := k50_open (h W' hW); injection (Option.some.inj (show some (Value.slice A13 x.f10.f3.length c13) = some (Value.slice A13_ x.f10.f3.length c13_) from congrArg (fun l => l[13]?) he)) with ha_ _ _; rw [ha_]; exact g13_), l14, (fun W' hW => by obtain ⟨A6_, c6_, A7_, c7_, A13_, c13_, A14_, c14_, he, l6_, g6_, l7_, g7_, l13_, g13_, l14_, g14_⟩ := k50_open (h W' hW); injection (Option.some.inj (show some (Value.slice A14 x.f10.f4.length c14) = some (Value.slice A14_ x.f10.f4.length c14_) from congrArg (fun l => l[14]?) he)) with ha_ _ _; rw [ha_]; exact g14_)⟩
theorem k50_mkF (W : World) (ok : Nat → Prop) (x : S50) {A6 : Option Addr} {c6 : Nat} (l6 : x.f6.length ≤ c6) (g6 : Kd.F Kd.string W ok A6 x.f6.length x.f6) {A7 : Option Addr} {c7 : Nat} (l7 : x.f7.length ≤ c7) (g7 : Kd.F Kd.string W ok A7 x.f7.length x.f7) {A13 : Option Addr} {c13 : Nat} (l13 : x.f10.f3.length ≤ c13) (g13 : Kd.F Kd.string W ok A13 x.f10.f3.length x.f10.f3) {A14 : Option Addr} {c14 : Nat} (l14 : x.f10.f4.length ≤ c14) (g14 : Kd.F k48 W ok A14 x.f10.f4.length x.f10.f4) : Kd.FK k50 W ok x [.string x.f0, .string x.f1, .string x.f2, .bool x.f3, .string x.f4, .string x.f5, .slice A6 x.f6.length c6, .slice A7 x.f7.length c7, .int .i64 x.f8, .int .i64 x.f9, .int .i64 x.f10.f0, .int .i64 x.f10.f1, .string x.f10.f2, .slice A13 x.f10.f3.length c13, .slice A14 x.f10.f4.length c14] := fun W2 hW => k50_mk W2 x l6 (g6 W2 hW) l7 (g7 W2 hW) l13 (g13 W2 hW) l14 (g14 W2 hW)
def rd_T50 (xs : List S50) (i : Int) : S50 := xs.getD i.toNat z50
theorem at_T50 {w : World} {A : Option Addr} {n : Nat} {xs : List S50} (h : Kd.C k50 w A n xs) (i : Int) (h0 : 0 ≤ i) (h1 : i < n) : ∃ ad A6 c6 A7 c7 A13 c13 A14 c14, A = some ad ∧ w.cell? (ad.add (i.toNat * 15)) = some (.string (rd_T50 xs i).f0) ∧ w.cell? ⟨(ad.add (i.toNat * 15)).block, (ad.add (i.toNat * 15)).off + 1, none⟩ = some (.string (rd_T50 xs i).f1) ∧ w.cell? ⟨(ad.add (i.toNat * 15)).block, (ad.add (i.toNat * 15)).off + 2, none⟩ = some (.string (rd_T50 xs i).f2) ∧ w.cell? ⟨(ad.add (i.toNat * 15)).block, (ad.add (i.toNat * 15)).off + 3, none⟩ = some (.bool (rd_T50 xs i).f3) ∧ w.cell? ⟨(ad.add (i.toNat * 15)).block, (ad.add (i.toNat * 15)).off + 4, none⟩ = some (.string (rd_T50 xs i).f4) ∧ w.cell? ⟨(ad.add (i.toNat * 15)).block, (ad.add (i.toNat * 15)).off + 5, none⟩ = some (.string (rd_T50 xs i).f5) ∧ w.cell? ⟨(ad.add (i.toNat * 15)).block, (ad.add (i.toNat * 15)).off + 6, none⟩ = some (.slice A6 (rd_T50 xs i).f6.length c6) ∧ w.cell? ⟨(ad.add (i.toNat * 15)).block, (ad.add (i.toNat * 15)).off + 7, none⟩ = some (.slice A7 (rd_T50 xs i).f7.length c7) ∧ w.cell? ⟨(ad.add (i.toNat * 15)).block, (ad.add (i.toNat * 15)).off + 8, none⟩ = some (.int .i64 (rd_T50 xs i).f8) ∧ w.cell? ⟨(ad.add (i.toNat * 15)).block, (ad.add (i.toNat * 15)).off + 9, none⟩ = some (.int .i64 (rd_T50 xs i).f9) ∧ w.cell? ⟨(ad.add (i.toNat * 15)).block, (ad.add (i.toNat * 15)).off + 10, none⟩ = some (.int .i64 (rd_T50 xs i).f10.f0) ∧ w.cell? ⟨(ad.add (i.toNat * 15)).block, (ad.add (i.toNat * 15)).off + 11, none⟩ = some (.int .i64 (rd_T50 xs i).f10.f1) ∧ w.cell? ⟨(ad.add (i.toNat * 15)).block, (ad.add (i.toNat * 15)).off + 12, none⟩ = some (.string (rd_T50 xs i).f10.f2) ∧ w.cell? ⟨(ad.add (i.toNat * 15)).block, (ad.add (i.toNat * 15)).off + 13, none⟩ = some (.slice A13 (rd_T50 xs i).f10.f3.length c13) ∧ w.cell? ⟨(ad.add (i.toNat * 15)).block, (ad.add (i.toNat * 15)).off + 14, none⟩ = some (.slice A14 (rd_T50 xs i).f10.f4.length c14) ∧ (rd_T50 xs i).f6.length ≤ c6 ∧ Kd.string.C w A6 (rd_T50 xs i).f6.length (rd_T50 xs i).f6 ∧ (rd_T50 xs i).f7.length ≤ c7 ∧ Kd.string.C w A7 (rd_T50 xs i).f7.length (rd_T50 xs i).f7 ∧ (rd_T50 xs i).f10.f3.length ≤ c13 ∧ Kd.string.C w A13 (rd_T50 xs i).f10.f3.length (rd_T50 xs i).f10.f3 ∧ (rd_T50 xs i).f10.f4.length ≤ c14 ∧ k48.C w A14 (rd_T50 xs i).f10.f4.length (rd_T50 xs i).f10.f4 := by
  obtain ⟨ad, c, e, _, hK, hc0⟩ := Kd.C_get h z50 i h0 h1
  have hc : ∀ j u, c[j]? = some u → w.cell? (ad.add (i.toNat * 15 + j)) = some u := hc0
  obtain ⟨A6, c6, A7, c7, A13, c13, A14, c14, rfl, l6, g6, l7, g7, l13, g13, l14, g14⟩ := k50_open hK
  exact ⟨ad, A6, c6, A7, c7, A13, c13, A14, c14, e, hc 0 _ rfl, by rw [← add_field _ _ 1 (by omega)]; exact hc 1 _ rfl, by rw [← add_field _ _ 2 (by omega)]; exact hc 2 _ rfl, by rw [← add_field _ _ 3 (by omega)]; exact hc 3 _ rfl, by rw [← add_field _ _ 4 (by omega)]; exact hc 4 _ rfl, by rw [← add_field _ _ 5 (by omega)]; exact hc 5 _ rfl, by rw [← add_field _ _ 6 (by omega)]; exact hc 6 _ rfl, by rw [← add_field _ _ 7 (by omega)]; exact hc 7 _ rfl, by rw [← add_field _ _ 8 (by omega)]; exact hc 8 _ rfl, by rw [← add_field _ _ 9 (by omega)]; exact hc 9 _ rfl, by rw [← add_field _ _ 10 (by omega)]; exact hc 10 _ rfl, by rw [← add_field _ _ 11 (by omega)]; exact hc 11 _ rfl, by rw [← add_field _ _ 12 (by omega)]; exact hc 12 _ rfl, by rw [← add_field _ _ 13 (by omega)]; exact hc 13 _ rfl, by rw [← add_field _ _ 14 (by omega)]; exact hc 14 _ rfl, l6, g6, l7, g7, l13, g13, l14, g14⟩
end Go.Proofs.YtmdjknkhjimgeaaGreat.S
end
section
namespace Go.Proofs.YtmdjknkhjimgeaaGreat.S
open Go.RowKit Go.Proofs.YtmdjknkhjimgeaaGreatW.PrintWords Go.Proofs.YtmdjknkhjimgeaaGreatW.PrintLast Go.Proofs.YtmdjknkhjimgeaaGreatW.PrintMore
attribute [local go_sem] max2_int min2_int max_two min_two max_three min_three max_four min_four
set_option linter.unusedVariables false
set_option linter.unusedSimpArgs false
def heliastref12_Has.l0 : Nat → List Int → Int → Int → Option (Bool)
  | 0, _, _, _ => none
  | k + 1, x0, x1, x5 => if x5 < (x0.length : Int) then (if 0 ≤ x5 then (if (rd x0 x5) = x1 then (some true) else (heliastref12_Has.l0 k x0 x1 (wrap64 (x5 + 1)))) else (none)) else (some false)
def heliastref12_Has.f (k : Nat) (l0 : List Int) (a1 : Int) : Option (Bool) := heliastref12_Has.l0 k l0 a1 0
set_option maxHeartbeats 8000000 in
set_option maxRecDepth 100000 in
theorem heliastref12_Has.calls (k : Nat) (A0 : Option Addr) (c0 : Nat) (l0 : List Int) (a1 : Int) (r : Bool) (w : World) (hr0 : Kd.C (Kd.int .i64) w A0 l0.length l0) (hc0 : l0.length ≤ c0) (h : heliastref12_Has.f k l0 a1 = some r) :
    Calls Tryz.prog 11 #[.slice A0 l0.length c0, .int .i64 a1] w fun e w' => e = .returned (.bool r) ∧ Drawn0 w w' := by
  have HR0 := Aside0.mk hr0
  have HC0 := Aside0.mk hc0
  clear hr0 hc0
  have H : (heliastref12_Has.l0 k l0 a1 0) = some r := h
  clear h
  have H' := Aside0.mk H
  clear H
  go_enter Tryz.func11, Tryz.ntmps11
  go_wp2
  go_loopg [5] k (fun kq v5 w' => ∃ (x5_1 : Int), v5 = .int .i64 x5_1 ∧ Aside0 (heliastref12_Has.l0 kq l0 a1 x5_1 = some r) ∧ Aside0 (kq ≤ k) ∧ Drawn0 w w')
  case atStart => exact ⟨(0), (by first | rfl | (simp; done) | (simp [*]; done)), H', ⟨Nat.le_refl _⟩, by repeat (first | exact Drawn0.refl _ | apply Drawn0.step)⟩
  case round =>
    clear H'
    try clear c1
    try clear p2
    obtain ⟨x5_1, rfl, HA, HK1, ⟨m1, rfl⟩⟩ := hrel
    cases gk with
    | zero => exact absurd HA.out (by simp [heliastref12_Has.l0])
    | succ k1 =>
      have H := HA.out
      clear HA
      simp only [heliastref12_Has.l0] at H
      by_cases c3 : x5_1 < (l0.length : Int)
      · rw [if_pos c3] at H
        have c3b0 : decide (x5_1 < (l0.length : Int)) = true := decide_eq_true c3
        clear c3
        by_cases c4 : 0 ≤ x5_1
        · rw [if_pos c4] at H
          have c4b0 : decide (0 ≤ x5_1) = true := decide_eq_true c4
          clear c4
          by_cases c5 : (rd l0 x5_1) = a1
          · rw [if_pos c5] at H
            have c5b0 : ((rd l0 x5_1) == a1) = true := beq_iff_eq.mpr c5
            have c5b1 : ((rd l0 x5_1) != a1) = false := bne_eq_false_iff_eq.mpr c5
            clear c5
            obtain rfl := Option.some.inj H
            have p101 : 0 ≤ (x5_1 : Int) := of_decide_eq_true (by first | (with_reducible assumption) | assumption)
            have q101 : x5_1 < (l0.length : Int) := of_decide_eq_true (by first | (with_reducible assumption) | assumption)
            obtain ⟨ad101, e101, hx101_0⟩ := Kd.at_int HR0.out x5_1 p101 q101
            cases e101
            replace p101 := eq_true p101
            replace q101 := eq_true q101
            go_wp2
            go_ret
            exact ⟨by first | rfl | (simp; done) | (simp [*]; done), by repeat (first | exact Drawn0.refl _ | apply Drawn0.step)⟩
          · rw [if_neg c5] at H
            have c5b0 : ((rd l0 x5_1) == a1) = false := beq_eq_false_iff_ne.mpr c5
            have c5b1 : ((rd l0 x5_1) != a1) = true := bne_iff_ne.mpr c5
            have H' := Aside0.mk H
            clear H
            have p101 : 0 ≤ (x5_1 : Int) := of_decide_eq_true (by first | (with_reducible assumption) | assumption)
            have q101 : x5_1 < (l0.length : Int) := of_decide_eq_true (by first | (with_reducible assumption) | assumption)
            obtain ⟨ad101, e101, hx101_0⟩ := Kd.at_int HR0.out x5_1 p101 q101
            cases e101
            replace p101 := eq_true p101
            replace q101 := eq_true q101
            go_wp2
            go_roundg k1
            case measure => have := HK1.out; omega
            case rel => exact ⟨(wrap64 (x5_1 + 1)), (by first | rfl | (simp; done) | (simp [*]; done)), H', ⟨by have := HK1.out; omega⟩, by repeat (first | exact Drawn0.refl _ | apply Drawn0.step)⟩
        · rw [if_neg c4] at H
          exact absurd H (by simp)
      · rw [if_neg c3] at H
        have c3b0 : decide (x5_1 < (l0.length : Int)) = false := decide_eq_false c3
        clear c3
        obtain rfl := Option.some.inj H
        go_wp2
        go_ret
        exact ⟨by first | rfl | (simp; done) | (simp [*]; done), by repeat (first | exact Drawn0.refl _ | apply Drawn0.step)⟩
def heliastref02_place.l0 : Nat → ByteArray → Int → Int → Int → ByteArray → List ByteArray → List (S48) → Option (Int)
  | 0, _, _, _, _, _, _, _ => none
  | k + 1, x1, x5, x103000, x103001, x103002, x103003, x103004 => if x5 < (x103003.length : Int) then (if 0 ≤ x5 then (if (rdOf ByteArray.empty x103003 x5).toList = x1.toList then (if x5 ≥ (x103004.length : Int) then (some (-1)) else (some x5)) else (heliastref02_place.l0 k x1 (wrap64 (x5 + 1)) x103000 x103001 x103002 x103003 x103004)) else (none)) else (some (-1))
def heliastref02_place.f (k : Nat) (a0_0 : Int) (a0_1 : Int) (a0_2 : ByteArray) (l0_3 : List ByteArray) (l0_4 : List (S48)) (a1 : ByteArray) : Option (Int) := if a0_0 = 5 then (heliastref02_place.l0 k a1 0 a0_0 a0_1 a0_2 l0_3 l0_4) else (some (-1))
set_option maxHeartbeats 8000000 in
set_option maxRecDepth 100000 in
theorem heliastref02_place.calls (k : Nat) (a0_0 : Int) (a0_1 : Int) (a0_2 : ByteArray) (A0_3 : Option Addr) (c0_3 : Nat) (l0_3 : List ByteArray) (A0_4 : Option Addr) (c0_4 : Nat) (l0_4 : List (S48)) (a1 : ByteArray) (r : Int) (w : World) (hr0_3 : Kd.C Kd.string w A0_3 l0_3.length l0_3) (hc0_3 : l0_3.length ≤ c0_3) (hr0_4 : Kd.C k48 w A0_4 l0_4.length l0_4) (hc0_4 : l0_4.length ≤ c0_4) (h : heliastref02_place.f k a0_0 a0_1 a0_2 l0_3 l0_4 a1 = some r) :
    Calls Tryz.prog 87 #[.agg #[.int .i64 a0_0, .int .i64 a0_1, .string a0_2, .slice A0_3 l0_3.length c0_3, .slice A0_4 l0_4.length c0_4], .string a1] w fun e w' => e = .returned (.int .i64 r) ∧ Below w.heap.size w w' := by
  have hu48 := Tryz.underlying48
  have HR0_3 := Aside0.mk hr0_3
  have HC0_3 := Aside0.mk hc0_3
  clear hr0_3 hc0_3
  have HR0_4 := Aside0.mk hr0_4
  have HC0_4 := Aside0.mk hc0_4
  clear hr0_4 hc0_4
  have HB := Aside0.mk (Below.refl w.heap.size w)
  have H : (if a0_0 = 5 then (heliastref02_place.l0 k a1 0 a0_0 a0_1 a0_2 l0_3 l0_4) else (some (-1))) = some r := h
  clear h
  by_cases c3 : a0_0 = 5
  · rw [if_pos c3] at H
    have c3b0 : (a0_0 == 5) = true := beq_iff_eq.mpr c3
    have c3b1 : (a0_0 != 5) = false := bne_eq_false_iff_eq.mpr c3
    clear c3
    have H' := Aside0.mk H
    clear H
    go_enter Tryz.func87, Tryz.ntmps87
    go_wp2_with (first | ((with_reducible refine gate_dst (N := 2) rfl ?_); refine box_event ?hg (N := 2) ?hd (cs := #[.int .i64 a0_0, .int .i64 a0_1, .string a0_2, .slice A0_3 l0_3.length c0_3, .slice A0_4 l0_4.length c0_4]) (t := 48) ?hr ?_; (case hd => rfl); (case hg => rfl); (case hr => first | (go_simp; done) | (go_simp; rfl)); intro gb102 hg w4 hbox hb; have n0_ := Aside0.mk (below_step (by repeat (first | (with_reducible first | exact HB.out | apply below_alloc | apply pw_below_drewN | apply below_drew1) | exact HB.out)) hb); have n1_ := Aside0.mk (hbox); have n2_ := Aside0.mk ((by rw [hg]; exact (below_size (by repeat (first | (with_reducible first | exact HB.out | apply below_alloc | apply pw_below_drewN | apply below_drew1) | exact HB.out))) : w.heap.size ≤ gb102)); have n3_ := Aside0.mk ((by rw [hg]; exact (below_size (by repeat (first | (with_reducible first | exact HB.out | apply below_alloc | apply pw_below_drewN | apply below_drew1) | exact HB.out))) : w.heap.size ≤ gb102)); clear HB; have HB := n0_; have BK102 := n1_; have GW102 := n2_; have GE102 := n3_; clear n0_ n1_ n2_ n3_; clear hb hbox hg; have hcz5_0 : w4.cell? ⟨gb102, 0, none⟩ = some (.int .i64 a0_0) := (blk_cell BK102.out 0).trans rfl; have hcz5_1 : w4.cell? ⟨gb102, 1, none⟩ = some (.int .i64 a0_1) := (blk_cell BK102.out 1).trans rfl; have hcz5_2 : w4.cell? ⟨gb102, 2, none⟩ = some (.string a0_2) := (blk_cell BK102.out 2).trans rfl; have hcz5_3 : w4.cell? ⟨gb102, 3, none⟩ = some (.slice A0_3 l0_3.length c0_3) := (blk_cell BK102.out 3).trans rfl; have hcz5_4 : w4.cell? ⟨gb102, 4, none⟩ = some (.slice A0_4 l0_4.length c0_4) := (blk_cell BK102.out 4).trans rfl; have hfz5_0 := blk_frozen BK102.out 0; have hfz5_1 := blk_frozen BK102.out 1; have hfz5_2 := blk_frozen BK102.out 2; have hfz5_3 := blk_frozen BK102.out 3; have hfz5_4 := blk_frozen BK102.out 4))
    go_loopg [5] k (fun kq v5 w' => ∃ (x5_1 : Int), v5 = .int .i64 x5_1 ∧ Aside0 (heliastref02_place.l0 kq a1 x5_1 a0_0 a0_1 a0_2 l0_3 l0_4 = some r) ∧ Aside0 (kq ≤ k) ∧ Aside0 (w'.heap[gb102]? = some (.cells #[.int .i64 a0_0, .int .i64 a0_1, .string a0_2, (.slice A0_3 l0_3.length c0_3), (.slice A0_4 l0_4.length c0_4)] 48 (0, 0))) ∧ Aside0 (Below w.heap.size w w'))
    case atStart => exact ⟨(0), (by first | rfl | (simp; done) | (simp [*]; done)), H', ⟨Nat.le_refl _⟩, ⟨by (with_reducible repeat (first | refine blk_drewN ?_ _ | refine blk_drew ?_ | refine blk_alloc ?_ _)); exact BK102.out⟩, ⟨by repeat (first | (with_reducible first | exact HB.out | apply below_alloc | apply pw_below_drewN | apply below_drew1 | refine below_set ?_ GE102.out) | exact HB.out)⟩⟩
    case round =>
      clear H'
      try clear p2
      try clear c3
      try clear c3b0
      try clear c3b1
      try clear hcz5_0
      try clear hcz5_1
      try clear hcz5_2
      try clear hcz5_3
      try clear hcz5_4
      try clear hfz5_0
      try clear hfz5_1
      try clear hfz5_2
      try clear hfz5_3
      try clear hfz5_4
      obtain ⟨x5_1, rfl, HA, HK1, BK102, HB⟩ := hrel
      cases gk with
      | zero => exact absurd HA.out (by simp [heliastref02_place.l0])
      | succ k1 =>
        have H := HA.out
        clear HA
        simp only [heliastref02_place.l0] at H
        by_cases c6 : x5_1 < (l0_3.length : Int)
        · rw [if_pos c6] at H
          have c6b0 : decide (x5_1 < (l0_3.length : Int)) = true := decide_eq_true c6
          clear c6
          by_cases c7 : 0 ≤ x5_1
          · rw [if_pos c7] at H
            have c7b0 : decide (0 ≤ x5_1) = true := decide_eq_true c7
            clear c7
            by_cases c8 : (rdOf ByteArray.empty l0_3 x5_1).toList = a1.toList
            · rw [if_pos c8] at H
              have c8b0 : ((rdOf ByteArray.empty l0_3 x5_1).toList == a1.toList) = true := beq_iff_eq.mpr c8
              have c8b1 : ((rdOf ByteArray.empty l0_3 x5_1).toList != a1.toList) = false := bne_eq_false_iff_eq.mpr c8
              clear c8
              by_cases c9 : x5_1 ≥ (l0_4.length : Int)
              · rw [if_pos c9] at H
                have c9b0 : decide ((l0_4.length : Int) ≤ x5_1) = true := decide_eq_true c9
                clear c9
                obtain rfl := Option.some.inj H
                have hcz10_0 : wr.cell? ⟨gb102, 0, none⟩ = some (.int .i64 a0_0) := (blk_cell BK102.out 0).trans rfl
                have hcz10_1 : wr.cell? ⟨gb102, 1, none⟩ = some (.int .i64 a0_1) := (blk_cell BK102.out 1).trans rfl
                have hcz10_2 : wr.cell? ⟨gb102, 2, none⟩ = some (.string a0_2) := (blk_cell BK102.out 2).trans rfl
                have hcz10_3 : wr.cell? ⟨gb102, 3, none⟩ = some (.slice A0_3 l0_3.length c0_3) := (blk_cell BK102.out 3).trans rfl
                have hcz10_4 : wr.cell? ⟨gb102, 4, none⟩ = some (.slice A0_4 l0_4.length c0_4) := (blk_cell BK102.out 4).trans rfl
                have hfz10_0 := blk_frozen BK102.out 0
                have hfz10_1 := blk_frozen BK102.out 1
                have hfz10_2 := blk_frozen BK102.out 2
                have hfz10_3 := blk_frozen BK102.out 3
                have hfz10_4 := blk_frozen BK102.out 4
                have p103 : 0 ≤ (x5_1 : Int) := of_decide_eq_true (by first | (with_reducible assumption) | assumption)
                have q103 : x5_1 < (l0_3.length : Int) := of_decide_eq_true (by first | (with_reducible assumption) | assumption)
                obtain ⟨ad103, e103, hx103_0⟩ := Kd.at_string HR0_3.out x5_1 p103 q103
                cases e103
                replace hx103_0 := (HB.out.cell (World.block_lt_of_cell? w _ hx103_0)).trans hx103_0
                replace p103 := eq_true p103
                replace q103 := eq_true q103
                go_wp2
                go_ret
                exact ⟨by first | rfl | (simp [errW_none, errW_some] <;> rfl) | (simp [*, errW_none, errW_some] <;> rfl), by repeat (first | (with_reducible first | exact HB.out | apply below_alloc | apply pw_below_drewN | apply below_drew1 | refine below_set ?_ GE102.out) | exact HB.out)⟩
              · rw [if_neg c9] at H
                have c9b0 : decide ((l0_4.length : Int) ≤ x5_1) = false := decide_eq_false c9
                clear c9
                obtain rfl := Option.some.inj H
                have hcz11_0 : wr.cell? ⟨gb102, 0, none⟩ = some (.int .i64 a0_0) := (blk_cell BK102.out 0).trans rfl
                have hcz11_1 : wr.cell? ⟨gb102, 1, none⟩ = some (.int .i64 a0_1) := (blk_cell BK102.out 1).trans rfl
                have hcz11_2 : wr.cell? ⟨gb102, 2, none⟩ = some (.string a0_2) := (blk_cell BK102.out 2).trans rfl
                have hcz11_3 : wr.cell? ⟨gb102, 3, none⟩ = some (.slice A0_3 l0_3.length c0_3) := (blk_cell BK102.out 3).trans rfl
                have hcz11_4 : wr.cell? ⟨gb102, 4, none⟩ = some (.slice A0_4 l0_4.length c0_4) := (blk_cell BK102.out 4).trans rfl
                have hfz11_0 := blk_frozen BK102.out 0
                have hfz11_1 := blk_frozen BK102.out 1
                have hfz11_2 := blk_frozen BK102.out 2
                have hfz11_3 := blk_frozen BK102.out 3
                have hfz11_4 := blk_frozen BK102.out 4
                have p103 : 0 ≤ (x5_1 : Int) := of_decide_eq_true (by first | (with_reducible assumption) | assumption)
                have q103 : x5_1 < (l0_3.length : Int) := of_decide_eq_true (by first | (with_reducible assumption) | assumption)
                obtain ⟨ad103, e103, hx103_0⟩ := Kd.at_string HR0_3.out x5_1 p103 q103
                cases e103
                replace hx103_0 := (HB.out.cell (World.block_lt_of_cell? w _ hx103_0)).trans hx103_0
                replace p103 := eq_true p103
                replace q103 := eq_true q103
                go_wp2
                go_ret
                exact ⟨by first | rfl | (simp [errW_none, errW_some] <;> rfl) | (simp [*, errW_none, errW_some] <;> rfl), by repeat (first | (with_reducible first | exact HB.out | apply below_alloc | apply pw_below_drewN | apply below_drew1 | refine below_set ?_ GE102.out) | exact HB.out)⟩
            · rw [if_neg c8] at H
              have c8b0 : ((rdOf ByteArray.empty l0_3 x5_1).toList == a1.toList) = false := beq_eq_false_iff_ne.mpr c8
              have c8b1 : ((rdOf ByteArray.empty l0_3 x5_1).toList != a1.toList) = true := bne_iff_ne.mpr c8
              have H' := Aside0.mk H
              clear H
              have hcz12_0 : wr.cell? ⟨gb102, 0, none⟩ = some (.int .i64 a0_0) := (blk_cell BK102.out 0).trans rfl
              have hcz12_1 : wr.cell? ⟨gb102, 1, none⟩ = some (.int .i64 a0_1) := (blk_cell BK102.out 1).trans rfl
              have hcz12_2 : wr.cell? ⟨gb102, 2, none⟩ = some (.string a0_2) := (blk_cell BK102.out 2).trans rfl
              have hcz12_3 : wr.cell? ⟨gb102, 3, none⟩ = some (.slice A0_3 l0_3.length c0_3) := (blk_cell BK102.out 3).trans rfl
              have hcz12_4 : wr.cell? ⟨gb102, 4, none⟩ = some (.slice A0_4 l0_4.length c0_4) := (blk_cell BK102.out 4).trans rfl
              have hfz12_0 := blk_frozen BK102.out 0
              have hfz12_1 := blk_frozen BK102.out 1
              have hfz12_2 := blk_frozen BK102.out 2
              have hfz12_3 := blk_frozen BK102.out 3
              have hfz12_4 := blk_frozen BK102.out 4
              have p103 : 0 ≤ (x5_1 : Int) := of_decide_eq_true (by first | (with_reducible assumption) | assumption)
              have q103 : x5_1 < (l0_3.length : Int) := of_decide_eq_true (by first | (with_reducible assumption) | assumption)
              obtain ⟨ad103, e103, hx103_0⟩ := Kd.at_string HR0_3.out x5_1 p103 q103
              cases e103
              replace hx103_0 := (HB.out.cell (World.block_lt_of_cell? w _ hx103_0)).trans hx103_0
              replace p103 := eq_true p103
              replace q103 := eq_true q103
              go_wp2
              go_roundg k1
              case measure => have := HK1.out; omega
              case rel => exact ⟨(wrap64 (x5_1 + 1)), (by first | rfl | (simp; done) | (simp [*]; done)), H', ⟨by have := HK1.out; omega⟩, ⟨by (with_reducible repeat (first | refine blk_drewN ?_ _ | refine blk_drew ?_ | refine blk_alloc ?_ _)); exact BK102.out⟩, ⟨by repeat (first | (with_reducible first | exact HB.out | apply below_alloc | apply pw_below_drewN | apply below_drew1 | refine below_set ?_ GE102.out) | exact HB.out)⟩⟩
          · rw [if_neg c7] at H
            exact absurd H (by simp)
        · rw [if_neg c6] at H
          have c6b0 : decide (x5_1 < (l0_3.length : Int)) = false := decide_eq_false c6
          clear c6
          obtain rfl := Option.some.inj H
          have hcz13_0 : wr.cell? ⟨gb102, 0, none⟩ = some (.int .i64 a0_0) := (blk_cell BK102.out 0).trans rfl
          have hcz13_1 : wr.cell? ⟨gb102, 1, none⟩ = some (.int .i64 a0_1) := (blk_cell BK102.out 1).trans rfl
          have hcz13_2 : wr.cell? ⟨gb102, 2, none⟩ = some (.string a0_2) := (blk_cell BK102.out 2).trans rfl
          have hcz13_3 : wr.cell? ⟨gb102, 3, none⟩ = some (.slice A0_3 l0_3.length c0_3) := (blk_cell BK102.out 3).trans rfl
          have hcz13_4 : wr.cell? ⟨gb102, 4, none⟩ = some (.slice A0_4 l0_4.length c0_4) := (blk_cell BK102.out 4).trans rfl
          have hfz13_0 := blk_frozen BK102.out 0
          have hfz13_1 := blk_frozen BK102.out 1
          have hfz13_2 := blk_frozen BK102.out 2
          have hfz13_3 := blk_frozen BK102.out 3
          have hfz13_4 := blk_frozen BK102.out 4
          go_wp2
          go_ret
          exact ⟨by first | rfl | (simp [errW_none, errW_some] <;> rfl) | (simp [*, errW_none, errW_some] <;> rfl), by repeat (first | (with_reducible first | exact HB.out | apply below_alloc | apply pw_below_drewN | apply below_drew1 | refine below_set ?_ GE102.out) | exact HB.out)⟩
  · rw [if_neg c3] at H
    have c3b0 : (a0_0 == 5) = false := beq_eq_false_iff_ne.mpr c3
    have c3b1 : (a0_0 != 5) = true := bne_iff_ne.mpr c3
    obtain rfl := Option.some.inj H
    go_enter Tryz.func87, Tryz.ntmps87
    go_wp2_with (first | ((with_reducible refine gate_dst (N := 2) rfl ?_); refine box_event ?hg (N := 2) ?hd (cs := #[.int .i64 a0_0, .int .i64 a0_1, .string a0_2, .slice A0_3 l0_3.length c0_3, .slice A0_4 l0_4.length c0_4]) (t := 48) ?hr ?_; (case hd => rfl); (case hg => rfl); (case hr => first | (go_simp; done) | (go_simp; rfl)); intro gb102 hg w14 hbox hb; have n0_ := Aside0.mk (below_step (by repeat (first | (with_reducible first | exact HB.out | apply below_alloc | apply pw_below_drewN | apply below_drew1) | exact HB.out)) hb); have n1_ := Aside0.mk (hbox); have n2_ := Aside0.mk ((by rw [hg]; exact (below_size (by repeat (first | (with_reducible first | exact HB.out | apply below_alloc | apply pw_below_drewN | apply below_drew1) | exact HB.out))) : w.heap.size ≤ gb102)); have n3_ := Aside0.mk ((by rw [hg]; exact (below_size (by repeat (first | (with_reducible first | exact HB.out | apply below_alloc | apply pw_below_drewN | apply below_drew1) | exact HB.out))) : w.heap.size ≤ gb102)); clear HB; have HB := n0_; have BK102 := n1_; have GW102 := n2_; have GE102 := n3_; clear n0_ n1_ n2_ n3_; clear hb hbox hg; have hcz15_0 : w14.cell? ⟨gb102, 0, none⟩ = some (.int .i64 a0_0) := (blk_cell BK102.out 0).trans rfl; have hcz15_1 : w14.cell? ⟨gb102, 1, none⟩ = some (.int .i64 a0_1) := (blk_cell BK102.out 1).trans rfl; have hcz15_2 : w14.cell? ⟨gb102, 2, none⟩ = some (.string a0_2) := (blk_cell BK102.out 2).trans rfl; have hcz15_3 : w14.cell? ⟨gb102, 3, none⟩ = some (.slice A0_3 l0_3.length c0_3) := (blk_cell BK102.out 3).trans rfl; have hcz15_4 : w14.cell? ⟨gb102, 4, none⟩ = some (.slice A0_4 l0_4.length c0_4) := (blk_cell BK102.out 4).trans rfl; have hfz15_0 := blk_frozen BK102.out 0; have hfz15_1 := blk_frozen BK102.out 1; have hfz15_2 := blk_frozen BK102.out 2; have hfz15_3 := blk_frozen BK102.out 3; have hfz15_4 := blk_frozen BK102.out 4))
    go_ret
    exact ⟨by first | rfl | (simp [errW_none, errW_some] <;> rfl) | (simp [*, errW_none, errW_some] <;> rfl), by repeat (first | (with_reducible first | exact HB.out | apply below_alloc | apply pw_below_drewN | apply below_drew1 | refine below_set ?_ GE102.out) | exact HB.out)⟩
def heliastref02_Get.f (k : Nat) (a0_0 : Int) (a0_1 : Int) (a0_2 : ByteArray) (l0_3 : List ByteArray) (l0_4 : List (S48)) (a1 : ByteArray) : Option (Int × Int × ByteArray × List ByteArray × (List (S48)) × Bool) := (heliastref02_place.f k a0_0 a0_1 a0_2 l0_3 l0_4 a1).bind fun t106 => (if t106 < 0 then (some (0, 0, (⟨#[]⟩ : ByteArray), ([] : List ByteArray), ([] : List (S48)), false)) else (if 0 ≤ t106 then (if t106 < (l0_4.length : Int) then (some ((rd_T48 l0_4 t106).f0, (rd_T48 l0_4 t106).f1, (rd_T48 l0_4 t106).f2, (rd_T48 l0_4 t106).f3, (rd_T48 l0_4 t106).f4, true)) else (none)) else (none)))
set_option maxHeartbeats 8000000 in
set_option maxRecDepth 100000 in
theorem heliastref02_Get.calls (k : Nat) (a0_0 : Int) (a0_1 : Int) (a0_2 : ByteArray) (A0_3 : Option Addr) (c0_3 : Nat) (l0_3 : List ByteArray) (P0_4_ : Nat → Prop) (A0_4 : Option Addr) (c0_4 : Nat) (l0_4 : List (S48)) (a1 : ByteArray) (r1 : Int) (r2 : Int) (r3 : ByteArray) (r4 : List ByteArray) (r5 : List (S48)) (r6 : Bool) (w : World) (hr0_3 : Kd.C Kd.string w A0_3 l0_3.length l0_3) (hc0_3 : l0_3.length ≤ c0_3) (hs0_4 : Kd.V k48 48 w w.heap.size (fun k_ => P0_4_ k_) (.slice A0_4 l0_4.length c0_4) l0_4) (h : heliastref02_Get.f k a0_0 a0_1 a0_2 l0_3 l0_4 a1 = some (r1, r2, r3, r4, r5, r6)) :
    Calls Tryz.prog 46 #[.agg #[.int .i64 a0_0, .int .i64 a0_1, .string a0_2, .slice A0_3 l0_3.length c0_3, .slice A0_4 l0_4.length c0_4], .string a1] w fun e w' => ∃ v3_ v4_ : Value, e = .returned (.tuple #[.agg #[.int .i64 r1, .int .i64 r2, .string r3, v3_, v4_], .bool r6]) ∧ Kd.V Kd.string 9 w' w.heap.size (fun k_ => (P0_4_ k_ ∨ w.heap.size ≤ k_)) v3_ r4 ∧ Kd.V k48 48 w' w.heap.size (fun k_ => (P0_4_ k_ ∨ w.heap.size ≤ k_)) v4_ r5 ∧ Below w.heap.size w w' := by
  have hu48 := Tryz.underlying48
  have HR0_3 := Aside0.mk hr0_3
  have HC0_3 := Aside0.mk hc0_3
  clear hr0_3 hc0_3
  have HO0_4 := Aside0.mk (show Kd.V k48 48 w w.heap.size (fun k_ => (P0_4_ k_ ∨ w.heap.size ≤ k_)) (.slice A0_4 l0_4.length c0_4) l0_4 from Kd.V_mono hs0_4 (fun k_ hk => .inl hk))
  have HB := Aside0.mk (Below.refl w.heap.size w)
  have H : ((heliastref02_place.f k a0_0 a0_1 a0_2 l0_3 l0_4 a1).bind fun t106 => (if t106 < 0 then (some (0, 0, (⟨#[]⟩ : ByteArray), ([] : List ByteArray), ([] : List (S48)), false)) else (if 0 ≤ t106 then (if t106 < (l0_4.length : Int) then (some ((rd_T48 l0_4 t106).f0, (rd_T48 l0_4 t106).f1, (rd_T48 l0_4 t106).f2, (rd_T48 l0_4 t106).f3, (rd_T48 l0_4 t106).f4, true)) else (none)) else (none)))) = some (r1, r2, r3, r4, r5, r6) := h
  clear h
  replace H := Option.bind_eq_some_iff.mp H
  obtain ⟨t106, A30, H⟩ := H
  replace H : (if t106 < 0 then (some (0, 0, (⟨#[]⟩ : ByteArray), ([] : List ByteArray), ([] : List (S48)), false)) else (if 0 ≤ t106 then (if t106 < (l0_4.length : Int) then (some ((rd_T48 l0_4 t106).f0, (rd_T48 l0_4 t106).f1, (rd_T48 l0_4 t106).f2, (rd_T48 l0_4 t106).f3, (rd_T48 l0_4 t106).f4, true)) else (none)) else (none))) = some (r1, r2, r3, r4, r5, r6) := H
  have A3 := Aside0.mk A30
  clear A30
  by_cases c4 : t106 < 0
  · rw [if_pos c4] at H
    have c4b0 : decide (t106 < 0) = true := decide_eq_true c4
    clear c4
    simp only [Option.some.injEq, Prod.mk.injEq] at H
    obtain ⟨rfl, rfl, rfl, rfl, rfl, rfl⟩ := H
    go_enter Tryz.func46, Tryz.ntmps46
    go_wp2_with (first | ((with_reducible refine gate_dst (N := 2) rfl ?_); refine box_event ?hg (N := 2) ?hd (cs := #[.int .i64 a0_0, .int .i64 a0_1, .string a0_2, .slice A0_3 l0_3.length c0_3, .slice A0_4 l0_4.length c0_4]) (t := 48) ?hr ?_; (case hd => rfl); (case hg => rfl); (case hr => first | (go_simp; done) | (go_simp; rfl)); intro gb104 hg w5 hbox hb; have n0_ := Aside0.mk (Kd.V_below (Kd.V_elderB (by (with_reducible repeat (first | apply Kd.V_alloc | apply Kd.V_drewN | apply Kd.V_drew)); exact HO0_4.out) gb104 (Nat.le_of_eq hg.symm)) hb); have n1_ := Aside0.mk (below_step (by repeat (first | (with_reducible first | exact HB.out | apply below_alloc | apply pw_below_drewN | apply below_drew1) | exact HB.out)) hb); have n2_ := Aside0.mk (hbox); have n3_ := Aside0.mk ((by rw [hg]; exact (below_size (by repeat (first | (with_reducible first | exact HB.out | apply below_alloc | apply pw_below_drewN | apply below_drew1) | exact HB.out))) : w.heap.size ≤ gb104)); have n4_ := Aside0.mk ((by rw [hg]; exact (below_size (by repeat (first | (with_reducible first | exact HB.out | apply below_alloc | apply pw_below_drewN | apply below_drew1) | exact HB.out))) : w.heap.size ≤ gb104)); clear HO0_4; clear HB; have HO0_4 := n0_; have HB := n1_; have BK104 := n2_; have GW104 := n3_; have GE104 := n4_; clear n0_ n1_ n2_ n3_ n4_; clear hb hbox hg) | ((with_reducible refine gate_dst (N := 4) rfl ?_); refine box_event ?hg (N := 4) ?hd (cs := #[.int .i64 0, .int .i64 0, .string (⟨#[]⟩ : ByteArray), .slice none 0 0, .slice none 0 0]) (t := 48) ?hr ?_; (case hd => rfl); (case hg => rfl); (case hr => first | (go_simp; done) | (go_simp; rfl)); intro gb105 hg w6 hbox hb; have n0_ := Aside0.mk (Kd.V_below (Kd.V_elderB (by (with_reducible repeat (first | apply Kd.V_alloc | apply Kd.V_drewN | apply Kd.V_drew)); exact HO0_4.out) gb105 (Nat.le_of_eq hg.symm)) hb); have n1_ := Aside0.mk (blk_below (g := gb104) (o := .cells #[.int .i64 a0_0, .int .i64 a0_1, .string a0_2, .slice A0_3 l0_3.length c0_3, .slice A0_4 l0_4.length c0_4] 48 (0, 0)) (by (with_reducible repeat (first | refine blk_drewN ?_ _ | refine blk_drew ?_ | refine blk_alloc ?_ _)); exact BK104.out) hb); have n2_ := Aside0.mk (below_step (by repeat (first | (with_reducible first | exact HB.out | apply below_alloc | apply pw_below_drewN | apply below_drew1 | refine below_set ?_ GE104.out) | exact HB.out)) hb); have n3_ := Aside0.mk (hbox); have n4_ := Aside0.mk ((by rw [hg]; exact (below_size (by repeat (first | (with_reducible first | exact HB.out | apply below_alloc | apply pw_below_drewN | apply below_drew1 | refine below_set ?_ GE104.out) | exact HB.out))) : w.heap.size ≤ gb105)); have n5_ := Aside0.mk ((by rw [hg]; exact (below_size (by repeat (first | (with_reducible first | exact HB.out | apply below_alloc | apply pw_below_drewN | apply below_drew1 | refine below_set ?_ GE104.out) | exact HB.out))) : w.heap.size ≤ gb105)); have n6_ := Aside0.mk ((by rw [hg]; exact Nat.ne_of_lt (blk_lt (g := gb104) (o := .cells #[.int .i64 a0_0, .int .i64 a0_1, .string a0_2, .slice A0_3 l0_3.length c0_3, .slice A0_4 l0_4.length c0_4] 48 (0, 0)) (by (with_reducible repeat (first | refine blk_drewN ?_ _ | refine blk_drew ?_ | refine blk_alloc ?_ _)); exact BK104.out)) : gb104 ≠ gb105)); have n7_ := Aside0.mk ((by rw [hg]; exact Nat.ne_of_gt (blk_lt (g := gb104) (o := .cells #[.int .i64 a0_0, .int .i64 a0_1, .string a0_2, .slice A0_3 l0_3.length c0_3, .slice A0_4 l0_4.length c0_4] 48 (0, 0)) (by (with_reducible repeat (first | refine blk_drewN ?_ _ | refine blk_drew ?_ | refine blk_alloc ?_ _)); exact BK104.out)) : gb105 ≠ gb104)); clear HO0_4; clear BK104; clear HB; have HO0_4 := n0_; have BK104 := n1_; have HB := n2_; have BK105 := n3_; have GW105 := n4_; have GE105 := n5_; have NB104_105 := n6_; have NB105_104 := n7_; clear n0_ n1_ n2_ n3_ n4_ n5_ n6_ n7_; clear hb hbox hg; have hnb7 := NB104_105.out; have hnc7 := NB105_104.out; have hcz8_0 : w6.cell? ⟨gb104, 0, none⟩ = some (.int .i64 a0_0) := (blk_cell BK104.out 0).trans rfl; have hcz8_1 : w6.cell? ⟨gb104, 1, none⟩ = some (.int .i64 a0_1) := (blk_cell BK104.out 1).trans rfl; have hcz8_2 : w6.cell? ⟨gb104, 2, none⟩ = some (.string a0_2) := (blk_cell BK104.out 2).trans rfl; have hcz8_3 : w6.cell? ⟨gb104, 3, none⟩ = some (.slice A0_3 l0_3.length c0_3) := (blk_cell BK104.out 3).trans rfl; have hcz8_4 : w6.cell? ⟨gb104, 4, none⟩ = some (.slice A0_4 l0_4.length c0_4) := (blk_cell BK104.out 4).trans rfl; have hfz8_0 := blk_frozen BK104.out 0; have hfz8_1 := blk_frozen BK104.out 1; have hfz8_2 := blk_frozen BK104.out 2; have hfz8_3 := blk_frozen BK104.out 3; have hfz8_4 := blk_frozen BK104.out 4) | ((with_reducible refine gate_callee (f := 87) rfl ?_); refine goesL_ (some 9) rfl rfl Tryz.func87 (by kernel_rfl) rfl #[.agg #[.int .i64 a0_0, .int .i64 a0_1, .string a0_2, .slice A0_3 l0_3.length c0_3, .slice A0_4 l0_4.length c0_4], .string a1] rfl (by (try simp only [List.map_toArray, List.map_cons, List.map_nil]); first | done | rfl | (simp only [List.length_drop, List.length_take]; rfl)) ?_; (with_reducible refine (heliastref02_place.calls k a0_0 a0_1 a0_2 _ _ l0_3 _ _ l0_4 a1 t106 _ ?side1 ?side2 ?side3 ?side4 A3.out).mono ?_); (case side1 => repeat (first | exact (Kd.C_below HR0_3.out HB.out) | (with_reducible refine Kd.C_alloc ?_ _) | (with_reducible refine Kd.C_drewN ?_ _) | (with_reducible refine Kd.C_drew ?_))); (case side2 => exact HC0_3.out); (case side3 => repeat (first | exact (Kd.V_reads' HO0_4.out).2.2 | (with_reducible refine Kd.C_alloc ?_ _) | (with_reducible refine Kd.C_drewN ?_ _) | (with_reducible refine Kd.C_drew ?_))); (case side4 => exact (Kd.V_reads' HO0_4.out).2.1); rintro e w9 ⟨rfl, hb⟩; refine ⟨_, rfl, ?_⟩; have n0_ := Aside0.mk (Kd.V_below (by (with_reducible repeat (first | apply Kd.V_alloc | apply Kd.V_drewN | apply Kd.V_drew)); exact HO0_4.out) hb); have n1_ := Aside0.mk (blk_below (g := gb104) (o := .cells #[.int .i64 a0_0, .int .i64 a0_1, .string a0_2, .slice A0_3 l0_3.length c0_3, .slice A0_4 l0_4.length c0_4] 48 (0, 0)) (by (with_reducible repeat (first | refine blk_drewN ?_ _ | refine blk_drew ?_ | refine blk_alloc ?_ _)); exact BK104.out) hb); have n2_ := Aside0.mk (blk_below (g := gb105) (o := .cells #[.int .i64 0, .int .i64 0, .string (⟨#[]⟩ : ByteArray), .slice none 0 0, .slice none 0 0] 48 (0, 0)) (by (with_reducible repeat (first | refine blk_drewN ?_ _ | refine blk_drew ?_ | refine blk_alloc ?_ _)); exact BK105.out) hb); have n3_ := Aside0.mk (below_step (by repeat (first | (with_reducible first | exact HB.out | apply below_alloc | apply pw_below_drewN | apply below_drew1 | refine below_set ?_ GE104.out | refine below_set ?_ GE105.out) | exact HB.out)) hb); clear HO0_4; clear BK104; clear BK105; clear HB; have HO0_4 := n0_; have BK104 := n1_; have BK105 := n2_; have HB := n3_; clear n0_ n1_ n2_ n3_; (try clear hb); (try clear hb2); (try clear hk); (try clear hi); have hcz10_0 : w9.cell? ⟨gb105, 0, none⟩ = some (.int .i64 0) := (blk_cell BK105.out 0).trans rfl; have hcz10_1 : w9.cell? ⟨gb105, 1, none⟩ = some (.int .i64 0) := (blk_cell BK105.out 1).trans rfl; have hcz10_2 : w9.cell? ⟨gb105, 2, none⟩ = some (.string (⟨#[]⟩ : ByteArray)) := (blk_cell BK105.out 2).trans rfl; have hcz10_3 : w9.cell? ⟨gb105, 3, none⟩ = some (.slice none 0 0) := (blk_cell BK105.out 3).trans rfl; have hcz10_4 : w9.cell? ⟨gb105, 4, none⟩ = some (.slice none 0 0) := (blk_cell BK105.out 4).trans rfl; have hfz10_0 := blk_frozen BK105.out 0; have hfz10_1 := blk_frozen BK105.out 1; have hfz10_2 := blk_frozen BK105.out 2; have hfz10_3 := blk_frozen BK105.out 3; have hfz10_4 := blk_frozen BK105.out 4))
    refine bodyPost_ret (results_ct rfl _ _ gb105 48 #[.int .i64 0, .int .i64 0, .string (⟨#[]⟩ : ByteArray), .slice none 0 0, .slice none 0 0] (0, 0) _ rfl (by (with_reducible repeat (first | refine blk_drewN ?_ _ | refine blk_drew ?_ | refine blk_alloc ?_ _)); refine blk_put (cs := #[.int .i64 0, .int .i64 0, .string (⟨#[]⟩ : ByteArray), .slice none 0 0, .slice none 0 0]) ?_ 4 _ rfl; (with_reducible repeat (first | refine blk_drewN ?_ _ | refine blk_drew ?_ | refine blk_alloc ?_ _)); refine blk_put (cs := #[.int .i64 0, .int .i64 0, .string (⟨#[]⟩ : ByteArray), .slice none 0 0, .slice none 0 0]) ?_ 3 _ rfl; (with_reducible repeat (first | refine blk_drewN ?_ _ | refine blk_drew ?_ | refine blk_alloc ?_ _)); refine blk_put (cs := #[.int .i64 0, .int .i64 0, .string (⟨#[]⟩ : ByteArray), .slice none 0 0, .slice none 0 0]) ?_ 2 _ rfl; (with_reducible repeat (first | refine blk_drewN ?_ _ | refine blk_drew ?_ | refine blk_alloc ?_ _)); refine blk_put (cs := #[.int .i64 0, .int .i64 0, .string (⟨#[]⟩ : ByteArray), .slice none 0 0, .slice none 0 0]) ?_ 1 _ rfl; (with_reducible repeat (first | refine blk_drewN ?_ _ | refine blk_drew ?_ | refine blk_alloc ?_ _)); refine blk_put (cs := #[.int .i64 0, .int .i64 0, .string (⟨#[]⟩ : ByteArray), .slice none 0 0, .slice none 0 0]) ?_ 0 _ rfl; (with_reducible repeat (first | refine blk_drewN ?_ _ | refine blk_drew ?_ | refine blk_alloc ?_ _)); exact BK105.out) Tryz.underlying48 rfl (by kernel_rfl)) rfl ?_
    exact ⟨_, _, by first | rfl | (simp [errW_none, errW_some] <;> rfl) | (simp [*, errW_none, errW_some] <;> rfl), Kd.V_mono (Kd.R_V (ok := fun k_ => w.heap.size ≤ k_) (base := w.heap.size) (by first | exact Kd.R_nil _ _ _ _ _ | exact Kd.N_nil _ _ _ _ _ | exact Kd.V_nil _ _ _ _ _ | exact Kd.Q_nil _ _ _ _ _ | exact Kd.S_nil _ _ _ _ _)) (fun k_ hk => by first | exact ⟨(.inr (hk.1)), hk.2⟩ | exact (.inr (hk))), Kd.V_mono (Kd.R_V (ok := fun k_ => w.heap.size ≤ k_) (base := w.heap.size) (by first | exact Kd.R_nil _ _ _ _ _ | exact Kd.N_nil _ _ _ _ _ | exact Kd.V_nil _ _ _ _ _ | exact Kd.Q_nil _ _ _ _ _ | exact Kd.S_nil _ _ _ _ _)) (fun k_ hk => by first | exact ⟨(.inr (hk.1)), hk.2⟩ | exact (.inr (hk))), by repeat (first | (with_reducible first | exact HB.out | apply below_alloc | apply pw_below_drewN | apply below_drew1 | refine below_set ?_ GE104.out | refine below_set ?_ GE105.out) | exact HB.out)⟩
  · rw [if_neg c4] at H
    have c4b0 : decide (t106 < 0) = false := decide_eq_false c4
    clear c4
    by_cases c11 : 0 ≤ t106
    · rw [if_pos c11] at H
      have c11b0 : decide (0 ≤ t106) = true := decide_eq_true c11
      clear c11
      by_cases c12 : t106 < (l0_4.length : Int)
      · rw [if_pos c12] at H
        have c12b0 : decide (t106 < (l0_4.length : Int)) = true := decide_eq_true c12
        clear c12
        simp only [Option.some.injEq, Prod.mk.injEq] at H
        obtain ⟨rfl, rfl, rfl, rfl, rfl, rfl⟩ := H
        go_enter Tryz.func46, Tryz.ntmps46
        go_wp2_with (first | ((with_reducible refine gate_dst (N := 2) rfl ?_); refine box_event ?hg (N := 2) ?hd (cs := #[.int .i64 a0_0, .int .i64 a0_1, .string a0_2, .slice A0_3 l0_3.length c0_3, .slice A0_4 l0_4.length c0_4]) (t := 48) ?hr ?_; (case hd => rfl); (case hg => rfl); (case hr => first | (go_simp; done) | (go_simp; rfl)); intro gb104 hg w13 hbox hb; have n0_ := Aside0.mk (Kd.V_below (Kd.V_elderB (by (with_reducible repeat (first | apply Kd.V_alloc | apply Kd.V_drewN | apply Kd.V_drew)); exact HO0_4.out) gb104 (Nat.le_of_eq hg.symm)) hb); have n1_ := Aside0.mk (below_step (by repeat (first | (with_reducible first | exact HB.out | apply below_alloc | apply pw_below_drewN | apply below_drew1) | exact HB.out)) hb); have n2_ := Aside0.mk (hbox); have n3_ := Aside0.mk ((by rw [hg]; exact (below_size (by repeat (first | (with_reducible first | exact HB.out | apply below_alloc | apply pw_below_drewN | apply below_drew1) | exact HB.out))) : w.heap.size ≤ gb104)); have n4_ := Aside0.mk ((by rw [hg]; exact (below_size (by repeat (first | (with_reducible first | exact HB.out | apply below_alloc | apply pw_below_drewN | apply below_drew1) | exact HB.out))) : w.heap.size ≤ gb104)); clear HO0_4; clear HB; have HO0_4 := n0_; have HB := n1_; have BK104 := n2_; have GW104 := n3_; have GE104 := n4_; clear n0_ n1_ n2_ n3_ n4_; clear hb hbox hg) | ((with_reducible refine gate_dst (N := 4) rfl ?_); refine box_event ?hg (N := 4) ?hd (cs := #[.int .i64 0, .int .i64 0, .string (⟨#[]⟩ : ByteArray), .slice none 0 0, .slice none 0 0]) (t := 48) ?hr ?_; (case hd => rfl); (case hg => rfl); (case hr => first | (go_simp; done) | (go_simp; rfl)); intro gb105 hg w14 hbox hb; have n0_ := Aside0.mk (Kd.V_below (Kd.V_elderB (by (with_reducible repeat (first | apply Kd.V_alloc | apply Kd.V_drewN | apply Kd.V_drew)); exact HO0_4.out) gb105 (Nat.le_of_eq hg.symm)) hb); have n1_ := Aside0.mk (blk_below (g := gb104) (o := .cells #[.int .i64 a0_0, .int .i64 a0_1, .string a0_2, .slice A0_3 l0_3.length c0_3, .slice A0_4 l0_4.length c0_4] 48 (0, 0)) (by (with_reducible repeat (first | refine blk_drewN ?_ _ | refine blk_drew ?_ | refine blk_alloc ?_ _)); exact BK104.out) hb); have n2_ := Aside0.mk (below_step (by repeat (first | (with_reducible first | exact HB.out | apply below_alloc | apply pw_below_drewN | apply below_drew1 | refine below_set ?_ GE104.out) | exact HB.out)) hb); have n3_ := Aside0.mk (hbox); have n4_ := Aside0.mk ((by rw [hg]; exact (below_size (by repeat (first | (with_reducible first | exact HB.out | apply below_alloc | apply pw_below_drewN | apply below_drew1 | refine below_set ?_ GE104.out) | exact HB.out))) : w.heap.size ≤ gb105)); have n5_ := Aside0.mk ((by rw [hg]; exact (below_size (by repeat (first | (with_reducible first | exact HB.out | apply below_alloc | apply pw_below_drewN | apply below_drew1 | refine below_set ?_ GE104.out) | exact HB.out))) : w.heap.size ≤ gb105)); have n6_ := Aside0.mk ((by rw [hg]; exact Nat.ne_of_lt (blk_lt (g := gb104) (o := .cells #[.int .i64 a0_0, .int .i64 a0_1, .string a0_2, .slice A0_3 l0_3.length c0_3, .slice A0_4 l0_4.length c0_4] 48 (0, 0)) (by (with_reducible repeat (first | refine blk_drewN ?_ _ | refine blk_drew ?_ | refine blk_alloc ?_ _)); exact BK104.out)) : gb104 ≠ gb105)); have n7_ := Aside0.mk ((by rw [hg]; exact Nat.ne_of_gt (blk_lt (g := gb104) (o := .cells #[.int .i64 a0_0, .int .i64 a0_1, .string a0_2, .slice A0_3 l0_3.length c0_3, .slice A0_4 l0_4.length c0_4] 48 (0, 0)) (by (with_reducible repeat (first | refine blk_drewN ?_ _ | refine blk_drew ?_ | refine blk_alloc ?_ _)); exact BK104.out)) : gb105 ≠ gb104)); clear HO0_4; clear BK104; clear HB; have HO0_4 := n0_; have BK104 := n1_; have HB := n2_; have BK105 := n3_; have GW105 := n4_; have GE105 := n5_; have NB104_105 := n6_; have NB105_104 := n7_; clear n0_ n1_ n2_ n3_ n4_ n5_ n6_ n7_; clear hb hbox hg; have hnb15 := NB104_105.out; have hnc15 := NB105_104.out; have hcz16_0 : w14.cell? ⟨gb104, 0, none⟩ = some (.int .i64 a0_0) := (blk_cell BK104.out 0).trans rfl; have hcz16_1 : w14.cell? ⟨gb104, 1, none⟩ = some (.int .i64 a0_1) := (blk_cell BK104.out 1).trans rfl; have hcz16_2 : w14.cell? ⟨gb104, 2, none⟩ = some (.string a0_2) := (blk_cell BK104.out 2).trans rfl; have hcz16_3 : w14.cell? ⟨gb104, 3, none⟩ = some (.slice A0_3 l0_3.length c0_3) := (blk_cell BK104.out 3).trans rfl; have hcz16_4 : w14.cell? ⟨gb104, 4, none⟩ = some (.slice A0_4 l0_4.length c0_4) := (blk_cell BK104.out 4).trans rfl; have hfz16_0 := blk_frozen BK104.out 0; have hfz16_1 := blk_frozen BK104.out 1; have hfz16_2 := blk_frozen BK104.out 2; have hfz16_3 := blk_frozen BK104.out 3; have hfz16_4 := blk_frozen BK104.out 4) | ((with_reducible refine gate_callee (f := 87) rfl ?_); refine goesL_ (some 9) rfl rfl Tryz.func87 (by kernel_rfl) rfl #[.agg #[.int .i64 a0_0, .int .i64 a0_1, .string a0_2, .slice A0_3 l0_3.length c0_3, .slice A0_4 l0_4.length c0_4], .string a1] rfl (by (try simp only [List.map_toArray, List.map_cons, List.map_nil]); first | done | rfl | (simp only [List.length_drop, List.length_take]; rfl)) ?_; (with_reducible refine (heliastref02_place.calls k a0_0 a0_1 a0_2 _ _ l0_3 _ _ l0_4 a1 t106 _ ?side1 ?side2 ?side3 ?side4 A3.out).mono ?_); (case side1 => repeat (first | exact (Kd.C_below HR0_3.out HB.out) | (with_reducible refine Kd.C_alloc ?_ _) | (with_reducible refine Kd.C_drewN ?_ _) | (with_reducible refine Kd.C_drew ?_))); (case side2 => exact HC0_3.out); (case side3 => repeat (first | exact (Kd.V_reads' HO0_4.out).2.2 | (with_reducible refine Kd.C_alloc ?_ _) | (with_reducible refine Kd.C_drewN ?_ _) | (with_reducible refine Kd.C_drew ?_))); (case side4 => exact (Kd.V_reads' HO0_4.out).2.1); rintro e w17 ⟨rfl, hb⟩; refine ⟨_, rfl, ?_⟩; have n0_ := Aside0.mk (Kd.V_below (by (with_reducible repeat (first | apply Kd.V_alloc | apply Kd.V_drewN | apply Kd.V_drew)); exact HO0_4.out) hb); have n1_ := Aside0.mk (blk_below (g := gb104) (o := .cells #[.int .i64 a0_0, .int .i64 a0_1, .string a0_2, .slice A0_3 l0_3.length c0_3, .slice A0_4 l0_4.length c0_4] 48 (0, 0)) (by (with_reducible repeat (first | refine blk_drewN ?_ _ | refine blk_drew ?_ | refine blk_alloc ?_ _)); exact BK104.out) hb); have n2_ := Aside0.mk (blk_below (g := gb105) (o := .cells #[.int .i64 0, .int .i64 0, .string (⟨#[]⟩ : ByteArray), .slice none 0 0, .slice none 0 0] 48 (0, 0)) (by (with_reducible repeat (first | refine blk_drewN ?_ _ | refine blk_drew ?_ | refine blk_alloc ?_ _)); exact BK105.out) hb); have n3_ := Aside0.mk (below_step (by repeat (first | (with_reducible first | exact HB.out | apply below_alloc | apply pw_below_drewN | apply below_drew1 | refine below_set ?_ GE104.out | refine below_set ?_ GE105.out) | exact HB.out)) hb); clear HO0_4; clear BK104; clear BK105; clear HB; have HO0_4 := n0_; have BK104 := n1_; have BK105 := n2_; have HB := n3_; clear n0_ n1_ n2_ n3_; (try clear hb); (try clear hb2); (try clear hk); (try clear hi); have hcz18_0 : w17.cell? ⟨gb104, 0, none⟩ = some (.int .i64 a0_0) := (blk_cell BK104.out 0).trans rfl; have hcz18_1 : w17.cell? ⟨gb104, 1, none⟩ = some (.int .i64 a0_1) := (blk_cell BK104.out 1).trans rfl; have hcz18_2 : w17.cell? ⟨gb104, 2, none⟩ = some (.string a0_2) := (blk_cell BK104.out 2).trans rfl; have hcz18_3 : w17.cell? ⟨gb104, 3, none⟩ = some (.slice A0_3 l0_3.length c0_3) := (blk_cell BK104.out 3).trans rfl; have hcz18_4 : w17.cell? ⟨gb104, 4, none⟩ = some (.slice A0_4 l0_4.length c0_4) := (blk_cell BK104.out 4).trans rfl; have hfz18_0 := blk_frozen BK104.out 0; have hfz18_1 := blk_frozen BK104.out 1; have hfz18_2 := blk_frozen BK104.out 2; have hfz18_3 := blk_frozen BK104.out 3; have hfz18_4 := blk_frozen BK104.out 4; have p107 : 0 ≤ (t106 : Int) := of_decide_eq_true (by first | (with_reducible assumption) | assumption); have q107 : t106 < (l0_4.length : Int) := of_decide_eq_true (by first | (with_reducible assumption) | assumption); obtain ⟨ad107, A107_3, c107_3, A107_4, c107_4, e107, hx107_0, hx107_1, hx107_2, hx107_3, hx107_4, hl107_3, hi107_3, hl107_4, hi107_4⟩ := at_T48 (Kd.V_reads' HO0_4.out).2.2 t106 p107 q107; cases e107; obtain ⟨ce107, hce107, hMe107, hcc107⟩ := Kd.V_get HO0_4.out z48 t106 p107 (by first | exact q107 | exact of_decide_eq_true (by first | (with_reducible assumption) | assumption) | (have e_ := (Kd.V_reads' HO0_4.out).1; omega)); obtain ⟨ua107_3, uc107_3, ua107_4, uc107_4, rfl, ul107_3, ge107_3, ul107_4, ge107_4⟩ := k48_openF hMe107; have hv107_3 := hcc107 3 _ rfl; rw [add_field _ _ 3 (by omega)] at hv107_3; replace hv107_3 := Option.some.inj (hv107_3.symm.trans hx107_3); injection hv107_3 with hva_ hvn_ hvc_; rw [hva_] at ge107_3; rw [hvc_] at ul107_3; have HL107_3 := Aside0.mk (show Kd.V Kd.string 9 _ w.heap.size _ _ ((rd_T48 l0_4 t106).f3) from Kd.V_mk ul107_3 ge107_3); clear hva_ hvn_ hvc_ ge107_3 ul107_3; have hv107_4 := hcc107 4 _ rfl; rw [add_field _ _ 4 (by omega)] at hv107_4; replace hv107_4 := Option.some.inj (hv107_4.symm.trans hx107_4); injection hv107_4 with hva_ hvn_ hvc_; rw [hva_] at ge107_4; rw [hvc_] at ul107_4; have HL107_4 := Aside0.mk (show Kd.V k48 48 _ w.heap.size _ _ ((rd_T48 l0_4 t106).f4) from Kd.V_mk ul107_4 ge107_4); clear hva_ hvn_ hvc_ ge107_4 ul107_4; clear hcc107 hce107; have HR107_3 := Aside0.mk hi107_3; have HC107_3 := Aside0.mk hl107_3; clear hi107_3 hl107_3; have HR107_4 := Aside0.mk hi107_4; have HC107_4 := Aside0.mk hl107_4; clear hi107_4 hl107_4; replace p107 := eq_true p107; replace q107 := eq_true q107; have hcz19_0 : w17.cell? ⟨gb105, 0, none⟩ = some (.int .i64 0) := (blk_cell BK105.out 0).trans rfl; have hcz19_1 : w17.cell? ⟨gb105, 1, none⟩ = some (.int .i64 0) := (blk_cell BK105.out 1).trans rfl; have hcz19_2 : w17.cell? ⟨gb105, 2, none⟩ = some (.string (⟨#[]⟩ : ByteArray)) := (blk_cell BK105.out 2).trans rfl; have hcz19_3 : w17.cell? ⟨gb105, 3, none⟩ = some (.slice none 0 0) := (blk_cell BK105.out 3).trans rfl; have hcz19_4 : w17.cell? ⟨gb105, 4, none⟩ = some (.slice none 0 0) := (blk_cell BK105.out 4).trans rfl; have hfz19_0 := blk_frozen BK105.out 0; have hfz19_1 := blk_frozen BK105.out 1; have hfz19_2 := blk_frozen BK105.out 2; have hfz19_3 := blk_frozen BK105.out 3; have hfz19_4 := blk_frozen BK105.out 4))
        refine bodyPost_ret (results_ct rfl _ _ gb105 48 #[.int .i64 ((rd_T48 l0_4 t106).f0), .int .i64 ((rd_T48 l0_4 t106).f1), .string ((rd_T48 l0_4 t106).f2), .slice A107_3 ((rd_T48 l0_4 t106).f3).length c107_3, .slice A107_4 ((rd_T48 l0_4 t106).f4).length c107_4] (0, 0) _ rfl (by (with_reducible repeat (first | refine blk_drewN ?_ _ | refine blk_drew ?_ | refine blk_alloc ?_ _)); refine blk_put (cs := #[.int .i64 ((rd_T48 l0_4 t106).f0), .int .i64 ((rd_T48 l0_4 t106).f1), .string ((rd_T48 l0_4 t106).f2), .slice A107_3 ((rd_T48 l0_4 t106).f3).length c107_3, .slice none 0 0]) ?_ 4 _ rfl; (with_reducible repeat (first | refine blk_drewN ?_ _ | refine blk_drew ?_ | refine blk_alloc ?_ _)); refine blk_put (cs := #[.int .i64 ((rd_T48 l0_4 t106).f0), .int .i64 ((rd_T48 l0_4 t106).f1), .string ((rd_T48 l0_4 t106).f2), .slice none 0 0, .slice none 0 0]) ?_ 3 _ rfl; (with_reducible repeat (first | refine blk_drewN ?_ _ | refine blk_drew ?_ | refine blk_alloc ?_ _)); refine blk_put (cs := #[.int .i64 ((rd_T48 l0_4 t106).f0), .int .i64 ((rd_T48 l0_4 t106).f1), .string (⟨#[]⟩ : ByteArray), .slice none 0 0, .slice none 0 0]) ?_ 2 _ rfl; (with_reducible repeat (first | refine blk_drewN ?_ _ | refine blk_drew ?_ | refine blk_alloc ?_ _)); refine blk_put (cs := #[.int .i64 ((rd_T48 l0_4 t106).f0), .int .i64 0, .string (⟨#[]⟩ : ByteArray), .slice none 0 0, .slice none 0 0]) ?_ 1 _ rfl; (with_reducible repeat (first | refine blk_drewN ?_ _ | refine blk_drew ?_ | refine blk_alloc ?_ _)); refine blk_put (cs := #[.int .i64 0, .int .i64 0, .string (⟨#[]⟩ : ByteArray), .slice none 0 0, .slice none 0 0]) ?_ 0 _ rfl; (with_reducible repeat (first | refine blk_drewN ?_ _ | refine blk_drew ?_ | refine blk_alloc ?_ _)); exact BK105.out) Tryz.underlying48 rfl (by kernel_rfl)) rfl ?_
        exact ⟨_, _, by first | rfl | (simp [errW_none, errW_some] <;> rfl) | (simp [*, errW_none, errW_some] <;> rfl), by (with_reducible repeat (first | apply Kd.V_alloc | apply Kd.V_drewN | apply Kd.V_drew)); exact Kd.V_mono (Kd.V_far (p := ⟨gb105, 4, none⟩) (Kd.V_far (p := ⟨gb105, 3, none⟩) (Kd.V_far (p := ⟨gb105, 2, none⟩) (Kd.V_far (p := ⟨gb105, 1, none⟩) (Kd.V_far (p := ⟨gb105, 0, none⟩) (Kd.V_mono HL107_3.out (fun k_ hk => (⟨hk, hk.2⟩ : _ ∧ k_ ≠ gb105))) (fun _ hk => hk.2) (.int .i64 ((rd_T48 l0_4 t106).f0))) (fun _ hk => hk.2) (.int .i64 ((rd_T48 l0_4 t106).f1))) (fun _ hk => hk.2) (.string ((rd_T48 l0_4 t106).f2))) (fun _ hk => hk.2) (.slice A107_3 ((rd_T48 l0_4 t106).f3).length c107_3)) (fun _ hk => hk.2) (.slice A107_4 ((rd_T48 l0_4 t106).f4).length c107_4)) (fun _ hk => hk.1.1.1), by (with_reducible repeat (first | apply Kd.V_alloc | apply Kd.V_drewN | apply Kd.V_drew)); exact Kd.V_mono (Kd.V_far (p := ⟨gb105, 4, none⟩) (Kd.V_far (p := ⟨gb105, 3, none⟩) (Kd.V_far (p := ⟨gb105, 2, none⟩) (Kd.V_far (p := ⟨gb105, 1, none⟩) (Kd.V_far (p := ⟨gb105, 0, none⟩) (Kd.V_mono HL107_4.out (fun k_ hk => (⟨hk, hk.2⟩ : _ ∧ k_ ≠ gb105))) (fun _ hk => hk.2) (.int .i64 ((rd_T48 l0_4 t106).f0))) (fun _ hk => hk.2) (.int .i64 ((rd_T48 l0_4 t106).f1))) (fun _ hk => hk.2) (.string ((rd_T48 l0_4 t106).f2))) (fun _ hk => hk.2) (.slice A107_3 ((rd_T48 l0_4 t106).f3).length c107_3)) (fun _ hk => hk.2) (.slice A107_4 ((rd_T48 l0_4 t106).f4).length c107_4)) (fun _ hk => hk.1.1.1), by repeat (first | (with_reducible first | exact HB.out | apply below_alloc | apply pw_below_drewN | apply below_drew1 | refine below_set ?_ GE104.out | refine below_set ?_ GE105.out) | exact HB.out)⟩
      · rw [if_neg c12] at H
        exact absurd H (by simp)
    · rw [if_neg c11] at H
      exact absurd H (by simp)
def heliastref15_text.f (k : Nat) (a0_0 : ByteArray) (a0_1 : ByteArray) (a0_2 : ByteArray) (a0_3 : Bool) (a0_4 : ByteArray) (a0_5 : ByteArray) (l0_6 : List ByteArray) (l0_7 : List ByteArray) (a0_8 : Int) (a0_9 : Int) (a0_10 : Int) (a0_11 : Int) (a0_12 : ByteArray) (l0_13 : List ByteArray) (l0_14 : List (S48)) (a1 : ByteArray) : Option (ByteArray × Bool) := (heliastref02_Get.f k a0_10 a0_11 a0_12 l0_13 l0_14 a1).bind fun bt109 => (if bt109.2.2.2.2.2 = true then (if bt109.1 = 3 then (some (bt109.2.2.1, true)) else (some ((⟨#[]⟩ : ByteArray), false))) else (some ((⟨#[]⟩ : ByteArray), false)))
set_option maxHeartbeats 8000000 in
set_option maxRecDepth 100000 in
theorem heliastref15_text.calls (k : Nat) (a0_0 : ByteArray) (a0_1 : ByteArray) (a0_2 : ByteArray) (a0_3 : Bool) (a0_4 : ByteArray) (a0_5 : ByteArray) (A0_6 : Option Addr) (c0_6 : Nat) (l0_6 : List ByteArray) (A0_7 : Option Addr) (c0_7 : Nat) (l0_7 : List ByteArray) (a0_8 : Int) (a0_9 : Int) (a0_10 : Int) (a0_11 : Int) (a0_12 : ByteArray) (A0_13 : Option Addr) (c0_13 : Nat) (l0_13 : List ByteArray) (A0_14 : Option Addr) (c0_14 : Nat) (l0_14 : List (S48)) (a1 : ByteArray) (r1 : ByteArray) (r2 : Bool) (w : World) (hr0_6 : Kd.C Kd.string w A0_6 l0_6.length l0_6) (hc0_6 : l0_6.length ≤ c0_6) (hr0_7 : Kd.C Kd.string w A0_7 l0_7.length l0_7) (hc0_7 : l0_7.length ≤ c0_7) (hr0_13 : Kd.C Kd.string w A0_13 l0_13.length l0_13) (hc0_13 : l0_13.length ≤ c0_13) (hr0_14 : Kd.C k48 w A0_14 l0_14.length l0_14) (hc0_14 : l0_14.length ≤ c0_14) (h : heliastref15_text.f k a0_0 a0_1 a0_2 a0_3 a0_4 a0_5 l0_6 l0_7 a0_8 a0_9 a0_10 a0_11 a0_12 l0_13 l0_14 a1 = some (r1, r2)) :
    Calls Tryz.prog 115 #[.agg #[.string a0_0, .string a0_1, .string a0_2, .bool a0_3, .string a0_4, .string a0_5, .slice A0_6 l0_6.length c0_6, .slice A0_7 l0_7.length c0_7, .int .i64 a0_8, .int .i64 a0_9, .int .i64 a0_10, .int .i64 a0_11, .string a0_12, .slice A0_13 l0_13.length c0_13, .slice A0_14 l0_14.length c0_14], .string a1] w fun e w' => e = .returned (.tuple #[.string r1, .bool r2]) ∧ Below w.heap.size w w' := by
  have hu50 := Tryz.underlying50
  have hu48 := Tryz.underlying48
  have HR0_6 := Aside0.mk hr0_6
  have HC0_6 := Aside0.mk hc0_6
  clear hr0_6 hc0_6
  have HR0_7 := Aside0.mk hr0_7
  have HC0_7 := Aside0.mk hc0_7
  clear hr0_7 hc0_7
  have HR0_13 := Aside0.mk hr0_13
  have HC0_13 := Aside0.mk hc0_13
  clear hr0_13 hc0_13
  have HR0_14 := Aside0.mk hr0_14
  have HC0_14 := Aside0.mk hc0_14
  clear hr0_14 hc0_14
  have HB := Aside0.mk (Below.refl w.heap.size w)
  have H : ((heliastref02_Get.f k a0_10 a0_11 a0_12 l0_13 l0_14 a1).bind fun bt109 => (if bt109.2.2.2.2.2 = true then (if bt109.1 = 3 then (some (bt109.2.2.1, true)) else (some ((⟨#[]⟩ : ByteArray), false))) else (some ((⟨#[]⟩ : ByteArray), false)))) = some (r1, r2) := h
  clear h
  replace H := Option.bind_eq_some_iff.mp H
  obtain ⟨⟨t109, t110, t111, t112, t115, t118⟩, A30, H⟩ := H
  replace H : (if t118 = true then (if t109 = 3 then (some (t111, true)) else (some ((⟨#[]⟩ : ByteArray), false))) else (some ((⟨#[]⟩ : ByteArray), false))) = some (r1, r2) := H
  have A3 := Aside0.mk A30
  clear A30
  by_cases c4 : t118 = true
  · subst c4
    have H1 : (if t109 = 3 then (some (t111, true)) else (some ((⟨#[]⟩ : ByteArray), false))) = some (r1, r2) := by rw [if_pos rfl] at H; exact H
    clear H
    have H := H1
    clear H1
    by_cases c5 : t109 = 3
    · rw [if_pos c5] at H
      have c5b0 : (t109 == 3) = true := beq_iff_eq.mpr c5
      have c5b1 : (t109 != 3) = false := bne_eq_false_iff_eq.mpr c5
      clear c5
      simp only [Option.some.injEq, Prod.mk.injEq] at H
      obtain ⟨rfl, rfl⟩ := H
      go_enter Tryz.func115, Tryz.ntmps115
      go_wp2_with (first | ((with_reducible refine gate_dst (N := 2) rfl ?_); refine box_event ?hg (N := 2) ?hd (cs := #[.string a0_0, .string a0_1, .string a0_2, .bool a0_3, .string a0_4, .string a0_5, .slice A0_6 l0_6.length c0_6, .slice A0_7 l0_7.length c0_7, .int .i64 a0_8, .int .i64 a0_9, .int .i64 a0_10, .int .i64 a0_11, .string a0_12, .slice A0_13 l0_13.length c0_13, .slice A0_14 l0_14.length c0_14]) (t := 50) ?hr ?_; (case hd => rfl); (case hg => rfl); (case hr => first | (go_simp; done) | (go_simp; rfl)); intro gb108 hg w6 hbox hb; have n0_ := Aside0.mk (below_step (by repeat (first | (with_reducible first | exact HB.out | apply below_alloc | apply pw_below_drewN | apply below_drew1) | exact HB.out)) hb); have n1_ := Aside0.mk (hbox); have n2_ := Aside0.mk ((by rw [hg]; exact (below_size (by repeat (first | (with_reducible first | exact HB.out | apply below_alloc | apply pw_below_drewN | apply below_drew1) | exact HB.out))) : w.heap.size ≤ gb108)); have n3_ := Aside0.mk ((by rw [hg]; exact (below_size (by repeat (first | (with_reducible first | exact HB.out | apply below_alloc | apply pw_below_drewN | apply below_drew1) | exact HB.out))) : w.heap.size ≤ gb108)); clear HB; have HB := n0_; have BK108 := n1_; have GW108 := n2_; have GE108 := n3_; clear n0_ n1_ n2_ n3_; clear hb hbox hg; have hcz7_0 : w6.cell? ⟨gb108, 0, none⟩ = some (.string a0_0) := (blk_cell BK108.out 0).trans rfl; have hcz7_1 : w6.cell? ⟨gb108, 1, none⟩ = some (.string a0_1) := (blk_cell BK108.out 1).trans rfl; have hcz7_2 : w6.cell? ⟨gb108, 2, none⟩ = some (.string a0_2) := (blk_cell BK108.out 2).trans rfl; have hcz7_3 : w6.cell? ⟨gb108, 3, none⟩ = some (.bool a0_3) := (blk_cell BK108.out 3).trans rfl; have hcz7_4 : w6.cell? ⟨gb108, 4, none⟩ = some (.string a0_4) := (blk_cell BK108.out 4).trans rfl; have hcz7_5 : w6.cell? ⟨gb108, 5, none⟩ = some (.string a0_5) := (blk_cell BK108.out 5).trans rfl; have hcz7_6 : w6.cell? ⟨gb108, 6, none⟩ = some (.slice A0_6 l0_6.length c0_6) := (blk_cell BK108.out 6).trans rfl; have hcz7_7 : w6.cell? ⟨gb108, 7, none⟩ = some (.slice A0_7 l0_7.length c0_7) := (blk_cell BK108.out 7).trans rfl; have hcz7_8 : w6.cell? ⟨gb108, 8, none⟩ = some (.int .i64 a0_8) := (blk_cell BK108.out 8).trans rfl; have hcz7_9 : w6.cell? ⟨gb108, 9, none⟩ = some (.int .i64 a0_9) := (blk_cell BK108.out 9).trans rfl; have hcz7_10 : w6.cell? ⟨gb108, 10, none⟩ = some (.int .i64 a0_10) := (blk_cell BK108.out 10).trans rfl; have hcz7_11 : w6.cell? ⟨gb108, 11, none⟩ = some (.int .i64 a0_11) := (blk_cell BK108.out 11).trans rfl; have hcz7_12 : w6.cell? ⟨gb108, 12, none⟩ = some (.string a0_12) := (blk_cell BK108.out 12).trans rfl; have hcz7_13 : w6.cell? ⟨gb108, 13, none⟩ = some (.slice A0_13 l0_13.length c0_13) := (blk_cell BK108.out 13).trans rfl; have hcz7_14 : w6.cell? ⟨gb108, 14, none⟩ = some (.slice A0_14 l0_14.length c0_14) := (blk_cell BK108.out 14).trans rfl; have hfz7_0 := blk_frozen BK108.out 0; have hfz7_1 := blk_frozen BK108.out 1; have hfz7_2 := blk_frozen BK108.out 2; have hfz7_3 := blk_frozen BK108.out 3; have hfz7_4 := blk_frozen BK108.out 4; have hfz7_5 := blk_frozen BK108.out 5; have hfz7_6 := blk_frozen BK108.out 6; have hfz7_7 := blk_frozen BK108.out 7; have hfz7_8 := blk_frozen BK108.out 8; have hfz7_9 := blk_frozen BK108.out 9; have hfz7_10 := blk_frozen BK108.out 10; have hfz7_11 := blk_frozen BK108.out 11; have hfz7_12 := blk_frozen BK108.out 12; have hfz7_13 := blk_frozen BK108.out 13; have hfz7_14 := blk_frozen BK108.out 14) | ((with_reducible refine gate_callee (f := 46) rfl ?_); refine goesL_ (some 12) rfl rfl Tryz.func46 (by kernel_rfl) rfl #[.agg #[.int .i64 a0_10, .int .i64 a0_11, .string a0_12, .slice A0_13 l0_13.length c0_13, .slice A0_14 l0_14.length c0_14], .string a1] rfl (by (try simp only [List.map_toArray, List.map_cons, List.map_nil]); first | done | rfl | (simp only [List.length_drop, List.length_take]; rfl)) ?_; (with_reducible refine (heliastref02_Get.calls k a0_10 a0_11 a0_12 _ _ l0_13 (fun k_ => k_ < w.heap.size) _ _ l0_14 a1 t109 t110 t111 t112 t115 true _ ?side1 ?side2 ?side3 A3.out).mono ?_); (case side1 => repeat (first | exact (Kd.C_below HR0_13.out HB.out) | (with_reducible refine Kd.C_alloc ?_ _) | (with_reducible refine Kd.C_drewN ?_ _) | (with_reducible refine Kd.C_drew ?_))); (case side2 => exact HC0_13.out); (case side3 => exact Kd.V_mk HC0_14.out (Kd.F_below (Kd.C_F k48_heap HR0_14.out) (by repeat (first | (with_reducible first | exact HB.out | apply below_alloc | apply pw_below_drewN | apply below_drew1 | refine below_set ?_ GE108.out) | exact HB.out)))); rintro e w8 ⟨v113, v116, rfl, ho0, ho1, hb⟩; refine ⟨_, rfl, ?_⟩; have n0_ := Aside0.mk (Kd.V_lower (Kd.V_mono (ok' := fun k_ => k_ ≠ gb108) ho0 (fun k_ hk_ => Or.elim hk_ (fun hs_ => fun e_ => Nat.not_le.2 hs_ (by rw [e_]; exact GW108.out)) (fun hn_ => (Kd.freshB (g := gb108) (o := .cells #[.string a0_0, .string a0_1, .string a0_2, .bool a0_3, .string a0_4, .string a0_5, .slice A0_6 l0_6.length c0_6, .slice A0_7 l0_7.length c0_7, .int .i64 a0_8, .int .i64 a0_9, .int .i64 a0_10, .int .i64 a0_11, .string a0_12, .slice A0_13 l0_13.length c0_13, .slice A0_14 l0_14.length c0_14] 50 (0, 0)) (by (with_reducible repeat (first | refine blk_drewN ?_ _ | refine blk_drew ?_ | refine blk_alloc ?_ _)); exact BK108.out) k_ hn_)))) (below_size (by repeat (first | (with_reducible first | exact HB.out | apply below_alloc | apply pw_below_drewN | apply below_drew1 | refine below_set ?_ GE108.out) | exact HB.out)))); have n1_ := Aside0.mk (Kd.V_lower (Kd.V_mono (ok' := fun k_ => k_ ≠ gb108) ho1 (fun k_ hk_ => Or.elim hk_ (fun hs_ => fun e_ => Nat.not_le.2 hs_ (by rw [e_]; exact GW108.out)) (fun hn_ => (Kd.freshB (g := gb108) (o := .cells #[.string a0_0, .string a0_1, .string a0_2, .bool a0_3, .string a0_4, .string a0_5, .slice A0_6 l0_6.length c0_6, .slice A0_7 l0_7.length c0_7, .int .i64 a0_8, .int .i64 a0_9, .int .i64 a0_10, .int .i64 a0_11, .string a0_12, .slice A0_13 l0_13.length c0_13, .slice A0_14 l0_14.length c0_14] 50 (0, 0)) (by (with_reducible repeat (first | refine blk_drewN ?_ _ | refine blk_drew ?_ | refine blk_alloc ?_ _)); exact BK108.out) k_ hn_)))) (below_size (by repeat (first | (with_reducible first | exact HB.out | apply below_alloc | apply pw_below_drewN | apply below_drew1 | refine below_set ?_ GE108.out) | exact HB.out)))); have n2_ := Aside0.mk (blk_below (g := gb108) (o := .cells #[.string a0_0, .string a0_1, .string a0_2, .bool a0_3, .string a0_4, .string a0_5, .slice A0_6 l0_6.length c0_6, .slice A0_7 l0_7.length c0_7, .int .i64 a0_8, .int .i64 a0_9, .int .i64 a0_10, .int .i64 a0_11, .string a0_12, .slice A0_13 l0_13.length c0_13, .slice A0_14 l0_14.length c0_14] 50 (0, 0)) (by (with_reducible repeat (first | refine blk_drewN ?_ _ | refine blk_drew ?_ | refine blk_alloc ?_ _)); exact BK108.out) hb); have n3_ := Aside0.mk (below_step (by repeat (first | (with_reducible first | exact HB.out | apply below_alloc | apply pw_below_drewN | apply below_drew1 | refine below_set ?_ GE108.out) | exact HB.out)) hb); clear BK108; clear HB; have HO114 := n0_; have HO117 := n1_; have BK108 := n2_; have HB := n3_; clear n0_ n1_ n2_ n3_; (try clear hb); (try clear hb2); (try clear hk); (try clear hi); (try clear ho0); (try clear ho1)) | ((with_reducible refine gate_dst (N := 6) rfl ?_); refine box_event ?hg (N := 6) ?hd (cs := #[.int .i64 0, .int .i64 0, .string (⟨#[]⟩ : ByteArray), .slice none 0 0, .slice none 0 0]) (t := 48) ?hr ?_; (case hd => rfl); (case hg => rfl); (case hr => first | (go_simp; done) | (go_simp; rfl)); intro gb119 hg w9 hbox hb; have n0_ := Aside0.mk (Kd.V_below (Kd.V_elderB (by (with_reducible repeat (first | apply Kd.V_alloc | apply Kd.V_drewN | apply Kd.V_drew)); exact HO114.out) gb119 (Nat.le_of_eq hg.symm)) hb); have n1_ := Aside0.mk (Kd.V_below (Kd.V_elderB (by (with_reducible repeat (first | apply Kd.V_alloc | apply Kd.V_drewN | apply Kd.V_drew)); exact HO117.out) gb119 (Nat.le_of_eq hg.symm)) hb); have n2_ := Aside0.mk (blk_below (g := gb108) (o := .cells #[.string a0_0, .string a0_1, .string a0_2, .bool a0_3, .string a0_4, .string a0_5, .slice A0_6 l0_6.length c0_6, .slice A0_7 l0_7.length c0_7, .int .i64 a0_8, .int .i64 a0_9, .int .i64 a0_10, .int .i64 a0_11, .string a0_12, .slice A0_13 l0_13.length c0_13, .slice A0_14 l0_14.length c0_14] 50 (0, 0)) (by (with_reducible repeat (first | refine blk_drewN ?_ _ | refine blk_drew ?_ | refine blk_alloc ?_ _)); exact BK108.out) hb); have n3_ := Aside0.mk (below_step (by repeat (first | (with_reducible first | exact HB.out | apply below_alloc | apply pw_below_drewN | apply below_drew1 | refine below_set ?_ GE108.out) | exact HB.out)) hb); have n4_ := Aside0.mk (hbox); have n5_ := Aside0.mk ((by rw [hg]; exact (below_size (by repeat (first | (with_reducible first | exact HB.out | apply below_alloc | apply pw_below_drewN | apply below_drew1 | refine below_set ?_ GE108.out) | exact HB.out))) : w.heap.size ≤ gb119)); have n6_ := Aside0.mk ((by rw [hg]; exact (below_size (by repeat (first | (with_reducible first | exact HB.out | apply below_alloc | apply pw_below_drewN | apply below_drew1 | refine below_set ?_ GE108.out) | exact HB.out))) : w.heap.size ≤ gb119)); have n7_ := Aside0.mk ((by rw [hg]; exact Nat.ne_of_lt (blk_lt (g := gb108) (o := .cells #[.string a0_0, .string a0_1, .string a0_2, .bool a0_3, .string a0_4, .string a0_5, .slice A0_6 l0_6.length c0_6, .slice A0_7 l0_7.length c0_7, .int .i64 a0_8, .int .i64 a0_9, .int .i64 a0_10, .int .i64 a0_11, .string a0_12, .slice A0_13 l0_13.length c0_13, .slice A0_14 l0_14.length c0_14] 50 (0, 0)) (by (with_reducible repeat (first | refine blk_drewN ?_ _ | refine blk_drew ?_ | refine blk_alloc ?_ _)); exact BK108.out)) : gb108 ≠ gb119)); have n8_ := Aside0.mk ((by rw [hg]; exact Nat.ne_of_gt (blk_lt (g := gb108) (o := .cells #[.string a0_0, .string a0_1, .string a0_2, .bool a0_3, .string a0_4, .string a0_5, .slice A0_6 l0_6.length c0_6, .slice A0_7 l0_7.length c0_7, .int .i64 a0_8, .int .i64 a0_9, .int .i64 a0_10, .int .i64 a0_11, .string a0_12, .slice A0_13 l0_13.length c0_13, .slice A0_14 l0_14.length c0_14] 50 (0, 0)) (by (with_reducible repeat (first | refine blk_drewN ?_ _ | refine blk_drew ?_ | refine blk_alloc ?_ _)); exact BK108.out)) : gb119 ≠ gb108)); clear HO114; clear HO117; clear BK108; clear HB; have HO114 := n0_; have HO117 := n1_; have BK108 := n2_; have HB := n3_; have BK119 := n4_; have GW119 := n5_; have GE119 := n6_; have NB108_119 := n7_; have NB119_108 := n8_; clear n0_ n1_ n2_ n3_ n4_ n5_ n6_ n7_ n8_; clear hb hbox hg; have hnb10 := NB119_108.out; have hnc10 := NB108_119.out; have hcz11_0 : w9.cell? ⟨gb119, 0, none⟩ = some (.int .i64 0) := (blk_cell BK119.out 0).trans rfl; have hcz11_1 : w9.cell? ⟨gb119, 1, none⟩ = some (.int .i64 0) := (blk_cell BK119.out 1).trans rfl; have hcz11_2 : w9.cell? ⟨gb119, 2, none⟩ = some (.string (⟨#[]⟩ : ByteArray)) := (blk_cell BK119.out 2).trans rfl; have hcz11_3 : w9.cell? ⟨gb119, 3, none⟩ = some (.slice none 0 0) := (blk_cell BK119.out 3).trans rfl; have hcz11_4 : w9.cell? ⟨gb119, 4, none⟩ = some (.slice none 0 0) := (blk_cell BK119.out 4).trans rfl; have hfz11_0 := blk_frozen BK119.out 0; have hfz11_1 := blk_frozen BK119.out 1; have hfz11_2 := blk_frozen BK119.out 2; have hfz11_3 := blk_frozen BK119.out 3; have hfz11_4 := blk_frozen BK119.out 4; obtain ⟨Ao12, co12, eo12⟩ := Kd.V_slice HO114.out; subst eo12; obtain ⟨Ao13, co13, eo13⟩ := Kd.V_slice HO117.out; subst eo13))
      go_ret2
      exact ⟨by first | rfl | (simp [errW_none, errW_some] <;> rfl) | (simp [*, errW_none, errW_some] <;> rfl), by repeat (first | (with_reducible first | exact HB.out | apply below_alloc | apply pw_below_drewN | apply below_drew1 | refine below_set ?_ GE108.out | refine below_set ?_ GE119.out) | exact HB.out)⟩
    · rw [if_neg c5] at H
      have c5b0 : (t109 == 3) = false := beq_eq_false_iff_ne.mpr c5
      have c5b1 : (t109 != 3) = true := bne_iff_ne.mpr c5
      simp only [Option.some.injEq, Prod.mk.injEq] at H
      obtain ⟨rfl, rfl⟩ := H
      go_enter Tryz.func115, Tryz.ntmps115
      go_wp2_with (first | ((with_reducible refine gate_dst (N := 2) rfl ?_); refine box_event ?hg (N := 2) ?hd (cs := #[.string a0_0, .string a0_1, .string a0_2, .bool a0_3, .string a0_4, .string a0_5, .slice A0_6 l0_6.length c0_6, .slice A0_7 l0_7.length c0_7, .int .i64 a0_8, .int .i64 a0_9, .int .i64 a0_10, .int .i64 a0_11, .string a0_12, .slice A0_13 l0_13.length c0_13, .slice A0_14 l0_14.length c0_14]) (t := 50) ?hr ?_; (case hd => rfl); (case hg => rfl); (case hr => first | (go_simp; done) | (go_simp; rfl)); intro gb108 hg w14 hbox hb; have n0_ := Aside0.mk (below_step (by repeat (first | (with_reducible first | exact HB.out | apply below_alloc | apply pw_below_drewN | apply below_drew1) | exact HB.out)) hb); have n1_ := Aside0.mk (hbox); have n2_ := Aside0.mk ((by rw [hg]; exact (below_size (by repeat (first | (with_reducible first | exact HB.out | apply below_alloc | apply pw_below_drewN | apply below_drew1) | exact HB.out))) : w.heap.size ≤ gb108)); have n3_ := Aside0.mk ((by rw [hg]; exact (below_size (by repeat (first | (with_reducible first | exact HB.out | apply below_alloc | apply pw_below_drewN | apply below_drew1) | exact HB.out))) : w.heap.size ≤ gb108)); clear HB; have HB := n0_; have BK108 := n1_; have GW108 := n2_; have GE108 := n3_; clear n0_ n1_ n2_ n3_; clear hb hbox hg; have hcz15_0 : w14.cell? ⟨gb108, 0, none⟩ = some (.string a0_0) := (blk_cell BK108.out 0).trans rfl; have hcz15_1 : w14.cell? ⟨gb108, 1, none⟩ = some (.string a0_1) := (blk_cell BK108.out 1).trans rfl; have hcz15_2 : w14.cell? ⟨gb108, 2, none⟩ = some (.string a0_2) := (blk_cell BK108.out 2).trans rfl; have hcz15_3 : w14.cell? ⟨gb108, 3, none⟩ = some (.bool a0_3) := (blk_cell BK108.out 3).trans rfl; have hcz15_4 : w14.cell? ⟨gb108, 4, none⟩ = some (.string a0_4) := (blk_cell BK108.out 4).trans rfl; have hcz15_5 : w14.cell? ⟨gb108, 5, none⟩ = some (.string a0_5) := (blk_cell BK108.out 5).trans rfl; have hcz15_6 : w14.cell? ⟨gb108, 6, none⟩ = some (.slice A0_6 l0_6.length c0_6) := (blk_cell BK108.out 6).trans rfl; have hcz15_7 : w14.cell? ⟨gb108, 7, none⟩ = some (.slice A0_7 l0_7.length c0_7) := (blk_cell BK108.out 7).trans rfl; have hcz15_8 : w14.cell? ⟨gb108, 8, none⟩ = some (.int .i64 a0_8) := (blk_cell BK108.out 8).trans rfl; have hcz15_9 : w14.cell? ⟨gb108, 9, none⟩ = some (.int .i64 a0_9) := (blk_cell BK108.out 9).trans rfl; have hcz15_10 : w14.cell? ⟨gb108, 10, none⟩ = some (.int .i64 a0_10) := (blk_cell BK108.out 10).trans rfl; have hcz15_11 : w14.cell? ⟨gb108, 11, none⟩ = some (.int .i64 a0_11) := (blk_cell BK108.out 11).trans rfl; have hcz15_12 : w14.cell? ⟨gb108, 12, none⟩ = some (.string a0_12) := (blk_cell BK108.out 12).trans rfl; have hcz15_13 : w14.cell? ⟨gb108, 13, none⟩ = some (.slice A0_13 l0_13.length c0_13) := (blk_cell BK108.out 13).trans rfl; have hcz15_14 : w14.cell? ⟨gb108, 14, none⟩ = some (.slice A0_14 l0_14.length c0_14) := (blk_cell BK108.out 14).trans rfl; have hfz15_0 := blk_frozen BK108.out 0; have hfz15_1 := blk_frozen BK108.out 1; have hfz15_2 := blk_frozen BK108.out 2; have hfz15_3 := blk_frozen BK108.out 3; have hfz15_4 := blk_frozen BK108.out 4; have hfz15_5 := blk_frozen BK108.out 5; have hfz15_6 := blk_frozen BK108.out 6; have hfz15_7 := blk_frozen BK108.out 7; have hfz15_8 := blk_frozen BK108.out 8; have hfz15_9 := blk_frozen BK108.out 9; have hfz15_10 := blk_frozen BK108.out 10; have hfz15_11 := blk_frozen BK108.out 11; have hfz15_12 := blk_frozen BK108.out 12; have hfz15_13 := blk_frozen BK108.out 13; have hfz15_14 := blk_frozen BK108.out 14) | ((with_reducible refine gate_callee (f := 46) rfl ?_); refine goesL_ (some 12) rfl rfl Tryz.func46 (by kernel_rfl) rfl #[.agg #[.int .i64 a0_10, .int .i64 a0_11, .string a0_12, .slice A0_13 l0_13.length c0_13, .slice A0_14 l0_14.length c0_14], .string a1] rfl (by (try simp only [List.map_toArray, List.map_cons, List.map_nil]); first | done | rfl | (simp only [List.length_drop, List.length_take]; rfl)) ?_; (with_reducible refine (heliastref02_Get.calls k a0_10 a0_11 a0_12 _ _ l0_13 (fun k_ => k_ < w.heap.size) _ _ l0_14 a1 t109 t110 t111 t112 t115 true _ ?side1 ?side2 ?side3 A3.out).mono ?_); (case side1 => repeat (first | exact (Kd.C_below HR0_13.out HB.out) | (with_reducible refine Kd.C_alloc ?_ _) | (with_reducible refine Kd.C_drewN ?_ _) | (with_reducible refine Kd.C_drew ?_))); (case side2 => exact HC0_13.out); (case side3 => exact Kd.V_mk HC0_14.out (Kd.F_below (Kd.C_F k48_heap HR0_14.out) (by repeat (first | (with_reducible first | exact HB.out | apply below_alloc | apply pw_below_drewN | apply below_drew1 | refine below_set ?_ GE108.out) | exact HB.out)))); rintro e w16 ⟨v113, v116, rfl, ho0, ho1, hb⟩; refine ⟨_, rfl, ?_⟩; have n0_ := Aside0.mk (Kd.V_lower (Kd.V_mono (ok' := fun k_ => k_ ≠ gb108) ho0 (fun k_ hk_ => Or.elim hk_ (fun hs_ => fun e_ => Nat.not_le.2 hs_ (by rw [e_]; exact GW108.out)) (fun hn_ => (Kd.freshB (g := gb108) (o := .cells #[.string a0_0, .string a0_1, .string a0_2, .bool a0_3, .string a0_4, .string a0_5, .slice A0_6 l0_6.length c0_6, .slice A0_7 l0_7.length c0_7, .int .i64 a0_8, .int .i64 a0_9, .int .i64 a0_10, .int .i64 a0_11, .string a0_12, .slice A0_13 l0_13.length c0_13, .slice A0_14 l0_14.length c0_14] 50 (0, 0)) (by (with_reducible repeat (first | refine blk_drewN ?_ _ | refine blk_drew ?_ | refine blk_alloc ?_ _)); exact BK108.out) k_ hn_)))) (below_size (by repeat (first | (with_reducible first | exact HB.out | apply below_alloc | apply pw_below_drewN | apply below_drew1 | refine below_set ?_ GE108.out) | exact HB.out)))); have n1_ := Aside0.mk (Kd.V_lower (Kd.V_mono (ok' := fun k_ => k_ ≠ gb108) ho1 (fun k_ hk_ => Or.elim hk_ (fun hs_ => fun e_ => Nat.not_le.2 hs_ (by rw [e_]; exact GW108.out)) (fun hn_ => (Kd.freshB (g := gb108) (o := .cells #[.string a0_0, .string a0_1, .string a0_2, .bool a0_3, .string a0_4, .string a0_5, .slice A0_6 l0_6.length c0_6, .slice A0_7 l0_7.length c0_7, .int .i64 a0_8, .int .i64 a0_9, .int .i64 a0_10, .int .i64 a0_11, .string a0_12, .slice A0_13 l0_13.length c0_13, .slice A0_14 l0_14.length c0_14] 50 (0, 0)) (by (with_reducible repeat (first | refine blk_drewN ?_ _ | refine blk_drew ?_ | refine blk_alloc ?_ _)); exact BK108.out) k_ hn_)))) (below_size (by repeat (first | (with_reducible first | exact HB.out | apply below_alloc | apply pw_below_drewN | apply below_drew1 | refine below_set ?_ GE108.out) | exact HB.out)))); have n2_ := Aside0.mk (blk_below (g := gb108) (o := .cells #[.string a0_0, .string a0_1, .string a0_2, .bool a0_3, .string a0_4, .string a0_5, .slice A0_6 l0_6.length c0_6, .slice A0_7 l0_7.length c0_7, .int .i64 a0_8, .int .i64 a0_9, .int .i64 a0_10, .int .i64 a0_11, .string a0_12, .slice A0_13 l0_13.length c0_13, .slice A0_14 l0_14.length c0_14] 50 (0, 0)) (by (with_reducible repeat (first | refine blk_drewN ?_ _ | refine blk_drew ?_ | refine blk_alloc ?_ _)); exact BK108.out) hb); have n3_ := Aside0.mk (below_step (by repeat (first | (with_reducible first | exact HB.out | apply below_alloc | apply pw_below_drewN | apply below_drew1 | refine below_set ?_ GE108.out) | exact HB.out)) hb); clear BK108; clear HB; have HO114 := n0_; have HO117 := n1_; have BK108 := n2_; have HB := n3_; clear n0_ n1_ n2_ n3_; (try clear hb); (try clear hb2); (try clear hk); (try clear hi); (try clear ho0); (try clear ho1)) | ((with_reducible refine gate_dst (N := 6) rfl ?_); refine box_event ?hg (N := 6) ?hd (cs := #[.int .i64 0, .int .i64 0, .string (⟨#[]⟩ : ByteArray), .slice none 0 0, .slice none 0 0]) (t := 48) ?hr ?_; (case hd => rfl); (case hg => rfl); (case hr => first | (go_simp; done) | (go_simp; rfl)); intro gb119 hg w17 hbox hb; have n0_ := Aside0.mk (Kd.V_below (Kd.V_elderB (by (with_reducible repeat (first | apply Kd.V_alloc | apply Kd.V_drewN | apply Kd.V_drew)); exact HO114.out) gb119 (Nat.le_of_eq hg.symm)) hb); have n1_ := Aside0.mk (Kd.V_below (Kd.V_elderB (by (with_reducible repeat (first | apply Kd.V_alloc | apply Kd.V_drewN | apply Kd.V_drew)); exact HO117.out) gb119 (Nat.le_of_eq hg.symm)) hb); have n2_ := Aside0.mk (blk_below (g := gb108) (o := .cells #[.string a0_0, .string a0_1, .string a0_2, .bool a0_3, .string a0_4, .string a0_5, .slice A0_6 l0_6.length c0_6, .slice A0_7 l0_7.length c0_7, .int .i64 a0_8, .int .i64 a0_9, .int .i64 a0_10, .int .i64 a0_11, .string a0_12, .slice A0_13 l0_13.length c0_13, .slice A0_14 l0_14.length c0_14] 50 (0, 0)) (by (with_reducible repeat (first | refine blk_drewN ?_ _ | refine blk_drew ?_ | refine blk_alloc ?_ _)); exact BK108.out) hb); have n3_ := Aside0.mk (below_step (by repeat (first | (with_reducible first | exact HB.out | apply below_alloc | apply pw_below_drewN | apply below_drew1 | refine below_set ?_ GE108.out) | exact HB.out)) hb); have n4_ := Aside0.mk (hbox); have n5_ := Aside0.mk ((by rw [hg]; exact (below_size (by repeat (first | (with_reducible first | exact HB.out | apply below_alloc | apply pw_below_drewN | apply below_drew1 | refine below_set ?_ GE108.out) | exact HB.out))) : w.heap.size ≤ gb119)); have n6_ := Aside0.mk ((by rw [hg]; exact (below_size (by repeat (first | (with_reducible first | exact HB.out | apply below_alloc | apply pw_below_drewN | apply below_drew1 | refine below_set ?_ GE108.out) | exact HB.out))) : w.heap.size ≤ gb119)); have n7_ := Aside0.mk ((by rw [hg]; exact Nat.ne_of_lt (blk_lt (g := gb108) (o := .cells #[.string a0_0, .string a0_1, .string a0_2, .bool a0_3, .string a0_4, .string a0_5, .slice A0_6 l0_6.length c0_6, .slice A0_7 l0_7.length c0_7, .int .i64 a0_8, .int .i64 a0_9, .int .i64 a0_10, .int .i64 a0_11, .string a0_12, .slice A0_13 l0_13.length c0_13, .slice A0_14 l0_14.length c0_14] 50 (0, 0)) (by (with_reducible repeat (first | refine blk_drewN ?_ _ | refine blk_drew ?_ | refine blk_alloc ?_ _)); exact BK108.out)) : gb108 ≠ gb119)); have n8_ := Aside0.mk ((by rw [hg]; exact Nat.ne_of_gt (blk_lt (g := gb108) (o := .cells #[.string a0_0, .string a0_1, .string a0_2, .bool a0_3, .string a0_4, .string a0_5, .slice A0_6 l0_6.length c0_6, .slice A0_7 l0_7.length c0_7, .int .i64 a0_8, .int .i64 a0_9, .int .i64 a0_10, .int .i64 a0_11, .string a0_12, .slice A0_13 l0_13.length c0_13, .slice A0_14 l0_14.length c0_14] 50 (0, 0)) (by (with_reducible repeat (first | refine blk_drewN ?_ _ | refine blk_drew ?_ | refine blk_alloc ?_ _)); exact BK108.out)) : gb119 ≠ gb108)); clear HO114; clear HO117; clear BK108; clear HB; have HO114 := n0_; have HO117 := n1_; have BK108 := n2_; have HB := n3_; have BK119 := n4_; have GW119 := n5_; have GE119 := n6_; have NB108_119 := n7_; have NB119_108 := n8_; clear n0_ n1_ n2_ n3_ n4_ n5_ n6_ n7_ n8_; clear hb hbox hg; have hnb18 := NB119_108.out; have hnc18 := NB108_119.out; have hcz19_0 : w17.cell? ⟨gb119, 0, none⟩ = some (.int .i64 0) := (blk_cell BK119.out 0).trans rfl; have hcz19_1 : w17.cell? ⟨gb119, 1, none⟩ = some (.int .i64 0) := (blk_cell BK119.out 1).trans rfl; have hcz19_2 : w17.cell? ⟨gb119, 2, none⟩ = some (.string (⟨#[]⟩ : ByteArray)) := (blk_cell BK119.out 2).trans rfl; have hcz19_3 : w17.cell? ⟨gb119, 3, none⟩ = some (.slice none 0 0) := (blk_cell BK119.out 3).trans rfl; have hcz19_4 : w17.cell? ⟨gb119, 4, none⟩ = some (.slice none 0 0) := (blk_cell BK119.out 4).trans rfl; have hfz19_0 := blk_frozen BK119.out 0; have hfz19_1 := blk_frozen BK119.out 1; have hfz19_2 := blk_frozen BK119.out 2; have hfz19_3 := blk_frozen BK119.out 3; have hfz19_4 := blk_frozen BK119.out 4; obtain ⟨Ao20, co20, eo20⟩ := Kd.V_slice HO114.out; subst eo20; obtain ⟨Ao21, co21, eo21⟩ := Kd.V_slice HO117.out; subst eo21))
      go_ret2
      exact ⟨by first | rfl | (simp [errW_none, errW_some] <;> rfl) | (simp [*, errW_none, errW_some] <;> rfl), by repeat (first | (with_reducible first | exact HB.out | apply below_alloc | apply pw_below_drewN | apply below_drew1 | refine below_set ?_ GE108.out | refine below_set ?_ GE119.out) | exact HB.out)⟩
  · replace c4 := Bool.eq_false_iff.mpr c4
    subst c4
    have H1 : (some ((⟨#[]⟩ : ByteArray), false)) = some (r1, r2) := by rw [if_neg (show ¬ (false = true) by decide)] at H; exact H
    clear H
    have H := H1
    clear H1
    simp only [Option.some.injEq, Prod.mk.injEq] at H
    obtain ⟨rfl, rfl⟩ := H
    go_enter Tryz.func115, Tryz.ntmps115
    go_wp2_with (first | ((with_reducible refine gate_dst (N := 2) rfl ?_); refine box_event ?hg (N := 2) ?hd (cs := #[.string a0_0, .string a0_1, .string a0_2, .bool a0_3, .string a0_4, .string a0_5, .slice A0_6 l0_6.length c0_6, .slice A0_7 l0_7.length c0_7, .int .i64 a0_8, .int .i64 a0_9, .int .i64 a0_10, .int .i64 a0_11, .string a0_12, .slice A0_13 l0_13.length c0_13, .slice A0_14 l0_14.length c0_14]) (t := 50) ?hr ?_; (case hd => rfl); (case hg => rfl); (case hr => first | (go_simp; done) | (go_simp; rfl)); intro gb108 hg w22 hbox hb; have n0_ := Aside0.mk (below_step (by repeat (first | (with_reducible first | exact HB.out | apply below_alloc | apply pw_below_drewN | apply below_drew1) | exact HB.out)) hb); have n1_ := Aside0.mk (hbox); have n2_ := Aside0.mk ((by rw [hg]; exact (below_size (by repeat (first | (with_reducible first | exact HB.out | apply below_alloc | apply pw_below_drewN | apply below_drew1) | exact HB.out))) : w.heap.size ≤ gb108)); have n3_ := Aside0.mk ((by rw [hg]; exact (below_size (by repeat (first | (with_reducible first | exact HB.out | apply below_alloc | apply pw_below_drewN | apply below_drew1) | exact HB.out))) : w.heap.size ≤ gb108)); clear HB; have HB := n0_; have BK108 := n1_; have GW108 := n2_; have GE108 := n3_; clear n0_ n1_ n2_ n3_; clear hb hbox hg; have hcz23_0 : w22.cell? ⟨gb108, 0, none⟩ = some (.string a0_0) := (blk_cell BK108.out 0).trans rfl; have hcz23_1 : w22.cell? ⟨gb108, 1, none⟩ = some (.string a0_1) := (blk_cell BK108.out 1).trans rfl; have hcz23_2 : w22.cell? ⟨gb108, 2, none⟩ = some (.string a0_2) := (blk_cell BK108.out 2).trans rfl; have hcz23_3 : w22.cell? ⟨gb108, 3, none⟩ = some (.bool a0_3) := (blk_cell BK108.out 3).trans rfl; have hcz23_4 : w22.cell? ⟨gb108, 4, none⟩ = some (.string a0_4) := (blk_cell BK108.out 4).trans rfl; have hcz23_5 : w22.cell? ⟨gb108, 5, none⟩ = some (.string a0_5) := (blk_cell BK108.out 5).trans rfl; have hcz23_6 : w22.cell? ⟨gb108, 6, none⟩ = some (.slice A0_6 l0_6.length c0_6) := (blk_cell BK108.out 6).trans rfl; have hcz23_7 : w22.cell? ⟨gb108, 7, none⟩ = some (.slice A0_7 l0_7.length c0_7) := (blk_cell BK108.out 7).trans rfl; have hcz23_8 : w22.cell? ⟨gb108, 8, none⟩ = some (.int .i64 a0_8) := (blk_cell BK108.out 8).trans rfl; have hcz23_9 : w22.cell? ⟨gb108, 9, none⟩ = some (.int .i64 a0_9) := (blk_cell BK108.out 9).trans rfl; have hcz23_10 : w22.cell? ⟨gb108, 10, none⟩ = some (.int .i64 a0_10) := (blk_cell BK108.out 10).trans rfl; have hcz23_11 : w22.cell? ⟨gb108, 11, none⟩ = some (.int .i64 a0_11) := (blk_cell BK108.out 11).trans rfl; have hcz23_12 : w22.cell? ⟨gb108, 12, none⟩ = some (.string a0_12) := (blk_cell BK108.out 12).trans rfl; have hcz23_13 : w22.cell? ⟨gb108, 13, none⟩ = some (.slice A0_13 l0_13.length c0_13) := (blk_cell BK108.out 13).trans rfl; have hcz23_14 : w22.cell? ⟨gb108, 14, none⟩ = some (.slice A0_14 l0_14.length c0_14) := (blk_cell BK108.out 14).trans rfl; have hfz23_0 := blk_frozen BK108.out 0; have hfz23_1 := blk_frozen BK108.out 1; have hfz23_2 := blk_frozen BK108.out 2; have hfz23_3 := blk_frozen BK108.out 3; have hfz23_4 := blk_frozen BK108.out 4; have hfz23_5 := blk_frozen BK108.out 5; have hfz23_6 := blk_frozen BK108.out 6; have hfz23_7 := blk_frozen BK108.out 7; have hfz23_8 := blk_frozen BK108.out 8; have hfz23_9 := blk_frozen BK108.out 9; have hfz23_10 := blk_frozen BK108.out 10; have hfz23_11 := blk_frozen BK108.out 11; have hfz23_12 := blk_frozen BK108.out 12; have hfz23_13 := blk_frozen BK108.out 13; have hfz23_14 := blk_frozen BK108.out 14) | ((with_reducible refine gate_callee (f := 46) rfl ?_); refine goesL_ (some 12) rfl rfl Tryz.func46 (by kernel_rfl) rfl #[.agg #[.int .i64 a0_10, .int .i64 a0_11, .string a0_12, .slice A0_13 l0_13.length c0_13, .slice A0_14 l0_14.length c0_14], .string a1] rfl (by (try simp only [List.map_toArray, List.map_cons, List.map_nil]); first | done | rfl | (simp only [List.length_drop, List.length_take]; rfl)) ?_; (with_reducible refine (heliastref02_Get.calls k a0_10 a0_11 a0_12 _ _ l0_13 (fun k_ => k_ < w.heap.size) _ _ l0_14 a1 t109 t110 t111 t112 t115 false _ ?side1 ?side2 ?side3 A3.out).mono ?_); (case side1 => repeat (first | exact (Kd.C_below HR0_13.out HB.out) | (with_reducible refine Kd.C_alloc ?_ _) | (with_reducible refine Kd.C_drewN ?_ _) | (with_reducible refine Kd.C_drew ?_))); (case side2 => exact HC0_13.out); (case side3 => exact Kd.V_mk HC0_14.out (Kd.F_below (Kd.C_F k48_heap HR0_14.out) (by repeat (first | (with_reducible first | exact HB.out | apply below_alloc | apply pw_below_drewN | apply below_drew1 | refine below_set ?_ GE108.out) | exact HB.out)))); rintro e w24 ⟨v113, v116, rfl, ho0, ho1, hb⟩; refine ⟨_, rfl, ?_⟩; have n0_ := Aside0.mk (Kd.V_lower (Kd.V_mono (ok' := fun k_ => k_ ≠ gb108) ho0 (fun k_ hk_ => Or.elim hk_ (fun hs_ => fun e_ => Nat.not_le.2 hs_ (by rw [e_]; exact GW108.out)) (fun hn_ => (Kd.freshB (g := gb108) (o := .cells #[.string a0_0, .string a0_1, .string a0_2, .bool a0_3, .string a0_4, .string a0_5, .slice A0_6 l0_6.length c0_6, .slice A0_7 l0_7.length c0_7, .int .i64 a0_8, .int .i64 a0_9, .int .i64 a0_10, .int .i64 a0_11, .string a0_12, .slice A0_13 l0_13.length c0_13, .slice A0_14 l0_14.length c0_14] 50 (0, 0)) (by (with_reducible repeat (first | refine blk_drewN ?_ _ | refine blk_drew ?_ | refine blk_alloc ?_ _)); exact BK108.out) k_ hn_)))) (below_size (by repeat (first | (with_reducible first | exact HB.out | apply below_alloc | apply pw_below_drewN | apply below_drew1 | refine below_set ?_ GE108.out) | exact HB.out)))); have n1_ := Aside0.mk (Kd.V_lower (Kd.V_mono (ok' := fun k_ => k_ ≠ gb108) ho1 (fun k_ hk_ => Or.elim hk_ (fun hs_ => fun e_ => Nat.not_le.2 hs_ (by rw [e_]; exact GW108.out)) (fun hn_ => (Kd.freshB (g := gb108) (o := .cells #[.string a0_0, .string a0_1, .string a0_2, .bool a0_3, .string a0_4, .string a0_5, .slice A0_6 l0_6.length c0_6, .slice A0_7 l0_7.length c0_7, .int .i64 a0_8, .int .i64 a0_9, .int .i64 a0_10, .int .i64 a0_11, .string a0_12, .slice A0_13 l0_13.length c0_13, .slice A0_14 l0_14.length c0_14] 50 (0, 0)) (by (with_reducible repeat (first | refine blk_drewN ?_ _ | refine blk_drew ?_ | refine blk_alloc ?_ _)); exact BK108.out) k_ hn_)))) (below_size (by repeat (first | (with_reducible first | exact HB.out | apply below_alloc | apply pw_below_drewN | apply below_drew1 | refine below_set ?_ GE108.out) | exact HB.out)))); have n2_ := Aside0.mk (blk_below (g := gb108) (o := .cells #[.string a0_0, .string a0_1, .string a0_2, .bool a0_3, .string a0_4, .string a0_5, .slice A0_6 l0_6.length c0_6, .slice A0_7 l0_7.length c0_7, .int .i64 a0_8, .int .i64 a0_9, .int .i64 a0_10, .int .i64 a0_11, .string a0_12, .slice A0_13 l0_13.length c0_13, .slice A0_14 l0_14.length c0_14] 50 (0, 0)) (by (with_reducible repeat (first | refine blk_drewN ?_ _ | refine blk_drew ?_ | refine blk_alloc ?_ _)); exact BK108.out) hb); have n3_ := Aside0.mk (below_step (by repeat (first | (with_reducible first | exact HB.out | apply below_alloc | apply pw_below_drewN | apply below_drew1 | refine below_set ?_ GE108.out) | exact HB.out)) hb); clear BK108; clear HB; have HO114 := n0_; have HO117 := n1_; have BK108 := n2_; have HB := n3_; clear n0_ n1_ n2_ n3_; (try clear hb); (try clear hb2); (try clear hk); (try clear hi); (try clear ho0); (try clear ho1)) | ((with_reducible refine gate_dst (N := 6) rfl ?_); refine box_event ?hg (N := 6) ?hd (cs := #[.int .i64 0, .int .i64 0, .string (⟨#[]⟩ : ByteArray), .slice none 0 0, .slice none 0 0]) (t := 48) ?hr ?_; (case hd => rfl); (case hg => rfl); (case hr => first | (go_simp; done) | (go_simp; rfl)); intro gb119 hg w25 hbox hb; have n0_ := Aside0.mk (Kd.V_below (Kd.V_elderB (by (with_reducible repeat (first | apply Kd.V_alloc | apply Kd.V_drewN | apply Kd.V_drew)); exact HO114.out) gb119 (Nat.le_of_eq hg.symm)) hb); have n1_ := Aside0.mk (Kd.V_below (Kd.V_elderB (by (with_reducible repeat (first | apply Kd.V_alloc | apply Kd.V_drewN | apply Kd.V_drew)); exact HO117.out) gb119 (Nat.le_of_eq hg.symm)) hb); have n2_ := Aside0.mk (blk_below (g := gb108) (o := .cells #[.string a0_0, .string a0_1, .string a0_2, .bool a0_3, .string a0_4, .string a0_5, .slice A0_6 l0_6.length c0_6, .slice A0_7 l0_7.length c0_7, .int .i64 a0_8, .int .i64 a0_9, .int .i64 a0_10, .int .i64 a0_11, .string a0_12, .slice A0_13 l0_13.length c0_13, .slice A0_14 l0_14.length c0_14] 50 (0, 0)) (by (with_reducible repeat (first | refine blk_drewN ?_ _ | refine blk_drew ?_ | refine blk_alloc ?_ _)); exact BK108.out) hb); have n3_ := Aside0.mk (below_step (by repeat (first | (with_reducible first | exact HB.out | apply below_alloc | apply pw_below_drewN | apply below_drew1 | refine below_set ?_ GE108.out) | exact HB.out)) hb); have n4_ := Aside0.mk (hbox); have n5_ := Aside0.mk ((by rw [hg]; exact (below_size (by repeat (first | (with_reducible first | exact HB.out | apply below_alloc | apply pw_below_drewN | apply below_drew1 | refine below_set ?_ GE108.out) | exact HB.out))) : w.heap.size ≤ gb119)); have n6_ := Aside0.mk ((by rw [hg]; exact (below_size (by repeat (first | (with_reducible first | exact HB.out | apply below_alloc | apply pw_below_drewN | apply below_drew1 | refine below_set ?_ GE108.out) | exact HB.out))) : w.heap.size ≤ gb119)); have n7_ := Aside0.mk ((by rw [hg]; exact Nat.ne_of_lt (blk_lt (g := gb108) (o := .cells #[.string a0_0, .string a0_1, .string a0_2, .bool a0_3, .string a0_4, .string a0_5, .slice A0_6 l0_6.length c0_6, .slice A0_7 l0_7.length c0_7, .int .i64 a0_8, .int .i64 a0_9, .int .i64 a0_10, .int .i64 a0_11, .string a0_12, .slice A0_13 l0_13.length c0_13, .slice A0_14 l0_14.length c0_14] 50 (0, 0)) (by (with_reducible repeat (first | refine blk_drewN ?_ _ | refine blk_drew ?_ | refine blk_alloc ?_ _)); exact BK108.out)) : gb108 ≠ gb119)); have n8_ := Aside0.mk ((by rw [hg]; exact Nat.ne_of_gt (blk_lt (g := gb108) (o := .cells #[.string a0_0, .string a0_1, .string a0_2, .bool a0_3, .string a0_4, .string a0_5, .slice A0_6 l0_6.length c0_6, .slice A0_7 l0_7.length c0_7, .int .i64 a0_8, .int .i64 a0_9, .int .i64 a0_10, .int .i64 a0_11, .string a0_12, .slice A0_13 l0_13.length c0_13, .slice A0_14 l0_14.length c0_14] 50 (0, 0)) (by (with_reducible repeat (first | refine blk_drewN ?_ _ | refine blk_drew ?_ | refine blk_alloc ?_ _)); exact BK108.out)) : gb119 ≠ gb108)); clear HO114; clear HO117; clear BK108; clear HB; have HO114 := n0_; have HO117 := n1_; have BK108 := n2_; have HB := n3_; have BK119 := n4_; have GW119 := n5_; have GE119 := n6_; have NB108_119 := n7_; have NB119_108 := n8_; clear n0_ n1_ n2_ n3_ n4_ n5_ n6_ n7_ n8_; clear hb hbox hg; have hnb26 := NB119_108.out; have hnc26 := NB108_119.out; have hcz27_0 : w25.cell? ⟨gb119, 0, none⟩ = some (.int .i64 0) := (blk_cell BK119.out 0).trans rfl; have hcz27_1 : w25.cell? ⟨gb119, 1, none⟩ = some (.int .i64 0) := (blk_cell BK119.out 1).trans rfl; have hcz27_2 : w25.cell? ⟨gb119, 2, none⟩ = some (.string (⟨#[]⟩ : ByteArray)) := (blk_cell BK119.out 2).trans rfl; have hcz27_3 : w25.cell? ⟨gb119, 3, none⟩ = some (.slice none 0 0) := (blk_cell BK119.out 3).trans rfl; have hcz27_4 : w25.cell? ⟨gb119, 4, none⟩ = some (.slice none 0 0) := (blk_cell BK119.out 4).trans rfl; have hfz27_0 := blk_frozen BK119.out 0; have hfz27_1 := blk_frozen BK119.out 1; have hfz27_2 := blk_frozen BK119.out 2; have hfz27_3 := blk_frozen BK119.out 3; have hfz27_4 := blk_frozen BK119.out 4; obtain ⟨Ao28, co28, eo28⟩ := Kd.V_slice HO114.out; subst eo28; obtain ⟨Ao29, co29, eo29⟩ := Kd.V_slice HO117.out; subst eo29))
    go_ret2
    exact ⟨by first | rfl | (simp [errW_none, errW_some] <;> rfl) | (simp [*, errW_none, errW_some] <;> rfl), by repeat (first | (with_reducible first | exact HB.out | apply below_alloc | apply pw_below_drewN | apply below_drew1 | refine below_set ?_ GE108.out | refine below_set ?_ GE119.out) | exact HB.out)⟩
end Go.Proofs.YtmdjknkhjimgeaaGreat.S
end

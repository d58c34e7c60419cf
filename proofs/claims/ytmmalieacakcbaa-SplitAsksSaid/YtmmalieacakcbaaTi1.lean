/- Parts of the walk and of the plain law, joined for this claim alone by a program of this session. -/
import Derived.Test.YtmmalieacakcbaaProg
import Derived.Test.YtmmalieacakcbaaChecked
import Derived.WalkKit
import Derived.ProofKit
import Derived.OpenShut
import Derived.Lib.Strings
import Derived.Shelf.Abstract
import Derived.Laws.Strings
import Derived.Lib.Overlaps
import Derived.Laws.CopyOwn
import Derived.WalkSpells
import Derived.Test.YtmmalieacakcbaaTi0
import Derived.Maps.RangeWalk
import Derived.Sort.Grow
import Derived.Laws.EntriesVeiled
import Derived.StillTailTactics
import Derived.Deep.Matrix
import Derived.SizedLaws
import Derived.Lib.RowBridge
import Derived.Lib.SlicesCompact
import Derived.Lib.SlKept
import Derived.Lib.SliceRun
import Derived.RowKit
import Derived.WideKeyEntry
import Derived.DeepKeys5
import Derived.Deep.RegionLaw
import Derived.Shelf.Sort.Plain
import Derived.Shelf.Slices.In.SortNone
import Derived.Ground.Names2Prog
import Derived.Shelf.Slices.CompactI
import Derived.Shelf.Slices.CompactS
import Derived.Shelf.Small.Wraps
import Derived.Ground.SlsgProg
import Derived.Shelf.SlCmpFuncs.MinMaxFunc
import Derived.Ground.Names8Prog
import Derived.Shelf.Spec.SlicesGrow
import Derived.Below
import Derived.Deep.Draws
import Derived.Deep.AppendLies
import Derived.Maps.AppendAt
import Derived.OwnWalk
import Derived.Laws.BytesArg
import Derived.Laws.MakeOwn
import Derived.Laws.OwnMore
import Derived.Deep.OwnRows
import Derived.Tactics
import Derived.Lib.ConvBytes
import Derived.Laws.Slices
import Derived.KernelRfl
import Derived.RowKit3
import Derived.Deep.LoopGhost
import Derived.Deep.QuietTactic
import Derived.BigQuiet
import Derived.WideLaws
import Derived.Deep.DeepCutAuto
import Derived.Deep.CutBlock
import Derived.Deep.RegionHeld3
import Derived.Laws.Rows
import Derived.Lib.AppendStr
import Derived.ArgAppend
import Derived.Laws.IdiomCopy
import Derived.OrdersHeld
import Derived.Laws.BitsLemmas
section
namespace Go.Proofs.Ytmmalieacakcbaa.Facts
theorem and_mk {a b : Bool} (ha : a = true) (hb : b = true) : (a && b) = true := by rw [ha, hb]; rfl
theorem words_one (b : List Char) : ∀ a : List Char, (∀ c ∈ a, c ≠ Char.ofNat 32) → wordsSigns (a ++ Char.ofNat 32 :: b) = a :: wordsSigns b
  | [], _ => rfl
  | c :: a, h => by
    rw [List.cons_append, wordsSigns]
    · rw [words_one b a (fun x hx => h x (List.mem_cons_of_mem _ hx))]
    · exact h c (List.mem_cons_self ..)
def w0 : List Char := [104, 97, 114, 110, 101, 115, 115].map Char.ofNat
def w1 : List Char := [101, 99, 54, 101, 52, 98, 98, 54, 50, 99, 49, 51, 55, 50, 57, 99, 56, 56, 50, 51, 49, 50, 100, 55, 53, 52, 97, 55, 100, 50, 99, 98, 102, 101, 52, 99, 100, 57, 101, 99, 53, 57, 56, 51, 98, 53, 48, 101, 98, 99, 102, 98, 102, 53, 54, 48, 48, 102, 100, 53, 98, 97, 52, 49].map Char.ofNat
def w2 : List Char := [99, 117, 116].map Char.ofNat
set_option maxRecDepth 100000 in
def w3 : List Char := [97, 116, 32, 104, 101, 108, 105, 97, 115, 116, 47, 104, 101, 108, 105, 97, 115, 116, 108, 97, 119, 50, 48, 46, 80, 97, 114, 107, 68, 111, 101, 115, 32, 104, 101, 108, 105, 97, 115, 116, 47, 104, 101, 108, 105, 97, 115, 116, 108, 97, 119, 50, 48, 46, 80, 97, 114, 107, 66, 117, 115, 121, 32, 104, 101, 108, 105, 97, 115, 116, 47, 104, 101, 108, 105, 97, 115, 116, 108, 97, 119, 50, 48, 46, 80, 97, 114, 107, 76, 111, 115, 116, 32, 104, 101, 108, 105, 97, 115, 116, 47, 104, 101, 108, 105, 97, 115, 116, 108, 97, 119, 50, 48, 46, 80, 97, 114, 107, 78, 111, 110, 101, 32, 104, 101, 108, 105, 97, 115, 116, 47, 104, 101, 108, 105, 97, 115, 116, 108, 97, 119, 49, 54, 46, 83, 112, 108, 105, 116, 65, 108, 108, 32, 104, 101, 108, 105, 97, 115, 116, 47, 104, 101, 108, 105, 97, 115, 116, 108, 97, 119, 49, 54, 46, 83, 112, 108, 105, 116, 67, 104, 97, 105, 110, 115, 32, 104, 101, 108, 105, 97, 115, 116, 47, 104, 101, 108, 105, 97, 115, 116, 108, 97, 119, 49, 54, 46, 83, 112, 108, 105, 116, 65, 115, 107, 115, 32, 104, 101, 108, 105, 97, 115, 116, 47, 104, 101, 108, 105, 97, 115, 116, 108, 97, 119, 49, 54, 46, 83, 112, 108, 105, 116, 66, 111, 116, 104, 32, 104, 101, 108, 105, 97, 115, 116, 47, 104, 101, 108, 105, 97, 115, 116, 108, 97, 119, 49, 50, 46, 71, 114, 97, 112, 104, 72, 101, 97, 100, 115, 32, 104, 101, 108, 105, 97, 115, 116, 47, 104, 101, 108, 105, 97, 115, 116, 108, 97, 119, 49, 54, 46, 83, 112, 108, 105, 116, 79, 110, 101, 32, 104, 101, 108, 105, 97, 115, 116, 47, 104, 101, 108, 105, 97, 115, 116, 108, 97, 119, 49, 54, 46, 83, 112, 108, 105, 116, 79, 114, 100, 101, 114, 32, 104, 101, 108, 105, 97, 115, 116, 47, 104, 101, 108, 105, 97, 115, 116, 108, 97, 119, 49, 50, 46, 71, 114, 97, 112, 104, 65, 115, 107, 115].map Char.ofNat
theorem n0 : ∀ c ∈ w0, c ≠ Char.ofNat 32 := by decide +kernel
theorem n1 : ∀ c ∈ w1, c ≠ Char.ofNat 32 := by decide +kernel
theorem n2 : ∀ c ∈ w2, c ≠ Char.ofNat 32 := by decide +kernel
theorem init_is : Try.prog.initOrder = String.ofList (w0 ++ Char.ofNat 32 :: (w1 ++ Char.ofNat 32 :: (w2 ++ Char.ofNat 32 :: w3))) := by kernel_rfl
theorem init_signs : ∃ X, behindMainWord (wordsSigns Try.prog.initOrder.toList) = w2 :: X := by
  refine ⟨wordsSigns w3, ?_⟩
  rw [init_is, String.toList_ofList, words_one _ w0 n0, words_one _ w1 n1, words_one _ w2 n2]
  generalize wordsSigns w3 = X
  kernel_rfl
theorem lifts0 (X : List (List Char)) : stripLifts liftWords (w2 :: X) = ([], w2 :: X) := by kernel_rfl
theorem isCut : (w2 == "cut".toList) = true := by kernel_rfl
theorem noGc : (w2 == "gc".toList || w2 == "spec".toList) = false := by kernel_rfl
theorem noFin : (w2 == "finals".toList) = false := by kernel_rfl
theorem noCar : (w2 == "carried".toList) = false := by kernel_rfl
theorem make_of (P : Program) (X : List (List Char)) (h : behindMainWord (wordsSigns P.initOrder.toList) = w2 :: X) : P.make = some .cut := by
  unfold Program.make
  rw [h]
  simp only [noGc, isCut, noFin, Bool.false_eq_true, if_false, Bool.true_or, if_true]
theorem enter_of (P : Program) (X : List (List Char)) (h : behindMainWord (wordsSigns P.initOrder.toList) = w2 :: X) (h1 : P.laysLater = false) (h2 : P.bearsReflect = false) (h3 : P.doorFits [] = true) : P.mayEnter = true := by
  unfold Program.mayEnter
  rw [h]
  simp only [lifts0, noGc, noCar, Bool.false_and, Bool.false_or, List.head?_cons, h1, h2, h3]
  rfl
theorem finals_of (P : Program) (X : List (List Char)) (h : behindMainWord (wordsSigns P.initOrder.toList) = w2 :: X) : P.liftsFinal = false := by
  unfold Program.liftsFinal Program.headLifts
  rw [h]
  simp only [lifts0]
  rfl
theorem k1 : Try.prog.laysLater = false := by kernel_rfl
theorem k2 : Try.prog.bearsReflect = false := by kernel_rfl
theorem k3 : Try.prog.doorFits [] = true := by kernel_rfl
theorem made : Try.prog.make = some .cut := init_signs.elim fun X h => make_of _ X h
theorem enters : Try.prog.mayEnter = true := init_signs.elim fun X h => enter_of _ X h k1 k2 k3
theorem finals : Try.prog.liftsFinal = false := init_signs.elim fun X h => finals_of _ X h
theorem laidOut : laidOutB Try.prog = true := by kernel_rfl
theorem rowed : mapsRowed Try.prog = true := by kernel_rfl
theorem heard : Try.prog.stopsHeard = true := by kernel_rfl
theorem plain : Try.prog.plainKeys = false := by kernel_rfl
end Go.Proofs.Ytmmalieacakcbaa.Facts
end
section
namespace Go.Proofs.He
open Go
theorem bytesLess_eq : ∀ (x y : List UInt8), Op.bytesLess x y = decide (x < y)
  | [], [] => by simp [Op.bytesLess]
  | [], _ :: _ => by simp [Op.bytesLess]
  | _ :: _, [] => by simp [Op.bytesLess]
  | a :: x, b :: y => by
    rw [Op.bytesLess, bytesLess_eq x y]
    by_cases h : a < b <;> by_cases h' : a = b <;> simp [h, h', List.cons_lt_cons_iff]
theorem bytesLess_gtr (a b : List UInt8) : (!(Op.bytesLess a b || a == b)) = Op.bytesLess b a := by
  rw [bytesLess_eq, bytesLess_eq]
  by_cases h1 : a < b
  · have := List.lt_asymm h1; simp [h1, this]
  · by_cases h2 : a = b
    · subst h2; simp
    · have : b < a := by
        rcases List.le_iff_lt_or_eq.1 (List.not_lt.1 h1) with h | h
        · exact h
        · exact absurd h.symm h2
      simp [h1, h2, this]
theorem binOp_string_gtr (t : TypeId) (a b : ByteArray) : binOp .gtr t (.string a) (.string b) = pure (.bool (Op.bytesLess b.toList a.toList)) := by
  rw [← bytesLess_gtr]; simp [binOp, Op.stringOp]
attribute [go_sem] binOp_string_gtr
theorem u8_tmod (a n : Int) : (IntKind.u8.wrap a).tmod n = (a % 256) % n := by
  rw [show IntKind.u8.wrap a = a % 256 from by simp [IntKind.wrap, IntKind.signed, IntKind.bits]]
  exact Int.tmod_eq_emod_of_nonneg (by omega)
attribute [go_sem] u8_tmod
def idxOf {α : Type} (p : α → Bool) (l : List α) : Int := match l.findIdx? p with | some i => i | none => -1
theorem idxOf_hit {α : Type} {p : α → Bool} {l : List α} {k : Nat} (hk : k < l.length) (h0 : ∀ j, j < k → ∀ x, l[j]? = some x → p x = false) (h1 : p l[k] = true) : idxOf p l = k := by
  have : l.findIdx? p = some k := by
    rw [List.findIdx?_eq_some_iff_getElem]
    refine ⟨hk, h1, fun j hj => ?_⟩
    rw [h0 j hj _ (List.getElem?_eq_getElem (by omega))]; simp
  simp [idxOf, this]
theorem idxOf_miss {α : Type} {p : α → Bool} {l : List α} (h0 : ∀ j, j < l.length → ∀ x, l[j]? = some x → p x = false) : idxOf p l = -1 := by
  have : l.findIdx? p = none := by
    rw [List.findIdx?_eq_none_iff]
    intro x hx
    obtain ⟨j, hj, rfl⟩ := List.getElem_of_mem hx
    exact h0 j hj _ (List.getElem?_eq_getElem hj)
  simp [idxOf, this]
theorem ba_ext {a b : ByteArray} (h : a.toList = b.toList) : a = b := by
  have := congrArg List.toArray h
  rw [Lib.toList_data, Lib.toList_data] at h
  cases a; cases b; simp_all
def cmpS (a b : ByteArray) : Int := if a.toList < b.toList then -1 else if b.toList < a.toList then 1 else 0
end Go.Proofs.He
end
section
set_option linter.unusedVariables false
set_option linter.unusedSimpArgs false
namespace Go.Proofs.He
open Go Go.RowKit Go.Proofs.YtmmalieacakcbaaW.PrintWords
structure Flat {α : Type} (d : Kd α) (enc : α → List Value) : Prop where
  len : ∀ x, (enc x).length = d.sz
  one : ∀ x, ∀ u ∈ enc x, u.oneCell' = true
  M : ∀ w base ok x cs, d.M w base ok x cs ↔ cs = enc x
  K : ∀ w x cs, d.K w x cs ↔ cs = enc x
section
variable {α : Type} {d : Kd α} {enc : α → List Value} (F : Flat d enc)
include F
theorem Flat.flen : ∀ l : List α, (l.flatMap enc).length = l.length * d.sz
  | [] => by simp
  | x :: l => by rw [List.flatMap_cons, List.length_append, F.len, Flat.flen l, List.length_cons, Nat.succ_mul, Nat.add_comm]
theorem Flat.fdrop : ∀ (l : List α) (i : Nat), (l.drop i).flatMap enc = (l.flatMap enc).drop (i * d.sz)
  | [], i => by simp
  | x :: l, 0 => by simp
  | x :: l, i + 1 => by
    have e1 : (enc x).drop ((i + 1) * d.sz) = [] := List.drop_eq_nil_of_le (by rw [F.len, Nat.succ_mul]; omega)
    have e2 : (i + 1) * d.sz - d.sz = i * d.sz := by rw [Nat.succ_mul]; omega
    rw [List.drop_succ_cons, Flat.fdrop l i, List.flatMap_cons, List.drop_append, F.len, e1, e2, List.nil_append]
theorem Flat.ftake : ∀ (l : List α) (i : Nat), (l.take i).flatMap enc = (l.flatMap enc).take (i * d.sz)
  | [], i => by simp
  | x :: l, 0 => by simp
  | x :: l, i + 1 => by
    have e1 : (enc x).take ((i + 1) * d.sz) = enc x := List.take_of_length_le (by rw [F.len, Nat.succ_mul]; omega)
    have e2 : (i + 1) * d.sz - d.sz = i * d.sz := by rw [Nat.succ_mul]; omega
    rw [List.take_succ_cons, List.flatMap_cons, Flat.ftake l i, List.flatMap_cons, List.take_append, F.len, e1, e2]
theorem Flat.seg {l : List α} {j : Nat} {p : α} (h : l[j]? = some p) : ((l.flatMap enc).drop (j * d.sz)).take d.sz = enc p := by
  have hj := (List.getElem?_eq_some_iff.1 h).1
  rw [← Flat.fdrop F, List.drop_eq_getElem_cons hj, List.flatMap_cons]
  have : l[j] = p := (List.getElem?_eq_some_iff.1 h).2
  rw [this, ← F.len p, List.take_left]
theorem Flat.reps {w : World} {base : Nat} {ok : Nat → Prop} (l : List α) : Reps (d.M w base ok) d.sz l (l.flatMap enc) :=
  ⟨Flat.flen F l, fun j p hj => by rw [Flat.seg F hj]; exact (F.M _ _ _ _ _).2 rfl⟩
omit F in
theorem Flat.of_reps {R : α → List Value → Prop} (hR : ∀ x cs, R x cs → cs = enc x) : ∀ (l : List α) (cs : List Value), Reps R d.sz l cs → cs = l.flatMap enc
  | [], cs, h => by
    have := h.1
    simp at this
    simp [this]
  | x :: l, cs, h => by
    have h0 := hR _ _ (h.2 0 x rfl)
    rw [Nat.zero_mul, List.drop_zero] at h0
    have ih := Flat.of_reps hR l (cs.drop d.sz) ⟨by rw [List.length_drop, h.1, List.length_cons, Nat.succ_mul]; omega, fun j p hj => by
      have := h.2 (j + 1) p (by simpa using hj)
      rwa [List.drop_drop, show d.sz + j * d.sz = (j + 1) * d.sz by rw [Nat.succ_mul]; omega]⟩
    rw [List.flatMap_cons, ← h0, ← ih, List.take_append_drop]
theorem Flat.own {w : World} {e base : Nat} {ok : Nat → Prop} {v : Value} {l : List α} (h : d.R e w base ok v l) : w.ownsRow base e d.sz v l.length (l.flatMap enc) ∧ ∀ k, v.ownBlock = some k → ok k := by
  obtain ⟨h0, inner, ho, hr⟩ := h
  rw [← Flat.of_reps (d := d) (fun x cs hx => (F.M _ _ _ _ _).1 hx) l inner hr]
  exact ⟨ho, h0⟩
theorem Flat.put {w : World} {e base : Nat} {ok : Nat → Prop} {v : Value} {l : List α} (h : w.ownsRow base e d.sz v l.length (l.flatMap enc)) (hok : ∀ k, v.ownBlock = some k → ok k) : d.R e w base ok v l :=
  ⟨hok, _, h, Flat.reps F l⟩
theorem Flat.reads {w : World} {A : Option Addr} {n : Nat} {l : List α} (h : d.C w A n l) : ∀ ad, A = some ad → ∀ j u, (l.flatMap enc)[j]? = some u → w.cell? (ad.add j) = some u := by
  intro ad ha j u hj
  obtain ⟨hl, hm, hc⟩ := h
  have hjl := (List.getElem?_eq_some_iff.1 hj).1
  rw [Flat.flen F] at hjl
  have hsz : 0 < d.sz := by
    rcases Nat.eq_zero_or_pos d.sz with h0 | h0
    · rw [h0] at hjl; omega
    · exact h0
  have hn : 0 < n := by
    rw [← hl]
    rcases Nat.eq_zero_or_pos l.length with h0 | h0
    · rw [h0] at hjl; omega
    · exact h0
  obtain ⟨ad', ha', hc⟩ := hc hn
  rw [ha] at ha'
  cases ha'
  have hq : j / d.sz < l.length := Nat.div_lt_of_lt_mul (by rwa [Nat.mul_comm] at hjl)
  obtain ⟨c, hcl, hk, hcell⟩ := hc (j / d.sz) _ (List.getElem?_eq_getElem hq)
  have hk' := (F.K _ _ _).1 hk
  subst hk'
  have hs := Flat.seg F (List.getElem?_eq_getElem hq)
  have : (enc l[j / d.sz])[j % d.sz]? = some u := by
    rw [← hs, List.getElem?_take, if_pos (Nat.mod_lt _ hsz), List.getElem?_drop, Nat.mul_comm, Nat.div_add_mod]
    exact hj
  have := hcell _ _ this
  rwa [Nat.mul_comm, Nat.div_add_mod] at this
theorem Flat.C_mk {w : World} {ad : Addr} {l : List α} (hm : l.length ≤ 9223372036854775807) (h : ∀ j u, (l.flatMap enc)[j]? = some u → w.cell? (ad.add j) = some u) : d.C w (some ad) l.length l :=
  ⟨rfl, hm, fun _ => ⟨ad, rfl, fun j p hj => ⟨enc p, F.len p, (F.K _ _ _).2 rfl, fun i u hu => h _ _ (by
    have hs := Flat.seg F hj
    have hi := (List.getElem?_eq_some_iff.1 hu).1
    rw [F.len] at hi
    rw [← hs, List.getElem?_take, if_pos hi, List.getElem?_drop] at hu
    exact hu)⟩⟩⟩
end
theorem cut_up {P : Program} (t e : TypeId) {i : TypeInfo} (ht : P.underlying t = some (.slice e)) (hi : P.info? e = some i) (A : Option Addr) (n c j : Nat) (ji : Int) (hj : ji = j) (hc : j ≤ c) :
    ∀ W : World, (Instr.slice t (.slice A n c) none (some (.int .i64 ji)) none).run P W = .ok (.slice A j c) W := by
  intro W
  subst hj
  have hel : P.elem t = e := by simp [Program.elem, ht]
  have hu : P.underlying t = some (.slice (P.elem t)) := by rw [hel]; exact ht
  have ha : (A.map fun x => x.add 0) = A := by cases A <;> simp [Addr.add]
  rw [run_slice_h W t A n c hu .i64 j (by omega) (by omega), hel]
  simp [sizeOf, typeInfo, hi, sliced, Result.andThen, ha]
end Go.Proofs.He
end
section
set_option linter.unusedVariables false
set_option linter.unusedSimpArgs false
namespace Go.Proofs.He
open Go Go.RowKit Go.Maps
structure KK (P : Program) (k : TypeId) (α : Type) where
  K : Keyed P k
  val : α → Value
  kl : α → Lit
  ok : α → Prop
  of : ∀ {x : α}, ok x → keyOf P k (val x) = some (kl x)
  inv : ∀ {v : Value} {l : Lit}, keyOf P k v = some l → ∃ x, ok x ∧ v = val x ∧ l = kl x
  inj : ∀ {x y : α}, kl x = kl y → x = y
structure VK (β : Type) where
  R : Value → Option (DataW Unit × List MemPlace)
  val : β → Value
  dat : β → DataW Unit
  ok : β → Prop
  of : ∀ {y : β}, ok y → R (val y) = some (dat y, [])
  inv : ∀ {v : Value} {z : DataW Unit × List MemPlace}, R v = some z → ∃ y, ok y ∧ v = val y ∧ z = (dat y, [])
  inj : ∀ {x y : β}, dat x = dat y → x = y
def intK {P : Program} {k : TypeId} (hk : P.underlying k = some (.int .i64)) : KK P k Int where
  K := int_keyed hk
  val := Value.int .i64
  kl := Lit.int .i64
  ok x := (Lit.int .i64 x).wf = true
  of h := keyOf_int_mk hk h
  inv h := by obtain ⟨x, h1, h2, h3⟩ := Maps.keyOf_int_inv hk h; exact ⟨x, h3, h1, h2⟩
  inj h := by injection h
def unitV : VK Unit where
  R := unitElem
  val _ := .agg #[]
  dat _ := .agg []
  ok _ := True
  of _ := unitElem_mk
  inv h := by obtain ⟨h1, h2⟩ := unitElem_inv h; exact ⟨(), trivial, h1, h2⟩
  inj _ := rfl
def intV {P : Program} {e : TypeId} (he : P.underlying e = some (.int .i64)) : VK Int where
  R := plainElem P e
  val := Value.int .i64
  dat x := .lit (.int .i64 x)
  ok x := (Lit.int .i64 x).wf = true
  of h := plainElem_int he h
  inv h := by obtain ⟨a, h1, h2, h3⟩ := plainElem_int_inv he h; exact ⟨a, h3, h1, h2⟩
  inj h := by injection h with h; injection h
section
variable {P : Program} {k : TypeId} {α β : Type} [DecidableEq α]
theorem KK.same' (κ : KK P k α) {x : α} (hx : κ.ok x) (y : α) : (κ.kl y).sameKey (κ.kl x) = decide (y = x) := by
  by_cases h : y = x
  · subst h; rw [WideAt.sameKey_self (κ.K.key (κ.of hx))]; simp
  · rw [Maps.sameKey_ne (fun e => h (κ.inj e))]; simp [h]
structure Says (κ : KK P k α) (ν : VK β) (D : DataW Unit) (M : List (α × β)) : Prop where
  nodup : (M.map (·.1)).Nodup
  okk : ∀ p ∈ M, κ.ok p.1
  okv : ∀ p ∈ M, ν.ok p.2
  has : ∀ x, Maps.has D (κ.kl x) = decide (x ∈ M.map (·.1))
  at_ : ∀ p ∈ M, ∀ z, D.atKey (κ.kl p.1) z = ν.dat p.2
def strikeL (l : List α) (x : α) : List α := l.filter fun z => decide (z ≠ x)
def delM (M : List (α × β)) (x : α) : List (α × β) := M.filter fun p => decide (p.1 ≠ x)
def putM (M : List (α × β)) (x : α) (y : β) : List (α × β) := (x, y) :: delM M x
theorem mem_delM {M : List (α × β)} {x : α} {p : α × β} : p ∈ delM M x ↔ p ∈ M ∧ p.1 ≠ x := by simp [delM]
theorem keys_delM {M : List (α × β)} {x z : α} : z ∈ (delM M x).map (·.1) ↔ z ∈ M.map (·.1) ∧ z ≠ x := by
  simp only [List.mem_map, mem_delM]
  constructor
  · rintro ⟨p, ⟨h1, h2⟩, rfl⟩; exact ⟨⟨p, h1, rfl⟩, h2⟩
  · rintro ⟨⟨p, h1, rfl⟩, h2⟩; exact ⟨p, ⟨h1, h2⟩, rfl⟩
theorem keys_putM {M : List (α × β)} {x z : α} {y : β} : z ∈ (putM M x y).map (·.1) ↔ z = x ∨ z ∈ M.map (·.1) := by
  unfold putM
  rw [List.map_cons, List.mem_cons, keys_delM]
  constructor
  · rintro (h | ⟨h, _⟩)
    · exact .inl h
    · exact .inr h
  · rintro (h | h)
    · exact .inl h
    · by_cases e : z = x
      · exact .inl e
      · exact .inr ⟨h, e⟩
theorem nodup_delM {M : List (α × β)} (h : (M.map (·.1)).Nodup) (x : α) : ((delM M x).map (·.1)).Nodup := h.sublist ((List.filter_sublist).map _)
theorem nodup_putM {M : List (α × β)} (h : (M.map (·.1)).Nodup) (x : α) (y : β) : ((putM M x y).map (·.1)).Nodup :=
  List.nodup_cons.2 ⟨fun h' => (keys_delM.1 h').2 rfl, nodup_delM h x⟩
variable {κ : KK P k α} {ν : VK β} {D : DataW Unit} {M : List (α × β)} {w w1 : World} {b r n : Nat} {todo : List α}
theorem Says.nil (κ : KK P k α) (ν : VK β) : Says κ ν (.map []) [] := ⟨by simp, by simp, by simp, by simp [Maps.has], by simp⟩
theorem Says.put (h : Says κ ν D M) (hD : IsMap D) {x : α} {y : β} (hx : κ.ok x) (hy : ν.ok y) : Says κ ν (D.put (κ.kl x) (ν.dat y)) (putM M x y) where
  nodup := nodup_putM h.nodup x y
  okk p hp := by
    rcases List.mem_cons.1 hp with rfl | hp
    · exact hx
    · exact h.okk p (mem_delM.1 hp).1
  okv p hp := by
    rcases List.mem_cons.1 hp with rfl | hp
    · exact hy
    · exact h.okv p (mem_delM.1 hp).1
  has z := by
    by_cases e : z = x
    · subst e
      rw [has_put_same hD (κ.K.key (κ.of hx))]
      exact (decide_eq_true (keys_putM.2 (.inl rfl))).symm
    · rw [has_put_other (fun e' => e (κ.inj e')), h.has]
      have : z ∈ (putM M x y).map (·.1) ↔ z ∈ M.map (·.1) := by rw [keys_putM]; simp [e]
      simp only [this]
  at_ p hp z := by
    rcases List.mem_cons.1 hp with rfl | hp
    · exact atKey_put_same hD (κ.K.key (κ.of hx)) _ _
    · obtain ⟨h1, h2⟩ := mem_delM.1 hp
      rw [atKey_put_other (fun e' => h2 (κ.inj e'))]
      exact h.at_ p h1 z
theorem tight {R : Value → Option (DataW Unit × List MemPlace)} (h : w.ownsMap P k R b n D) : w.ownsMap P k R b (Maps.size D) D := by
  obtain ⟨es, clock, hb, F, hs, rfl⟩ := h
  exact ⟨es, clock, hb, F, by simp [Maps.size, length_sorted], rfl⟩
theorem Says.size (h : Says κ ν D M) (ho : w.ownsMap P k ν.R b n D) : Maps.size D = M.length := by
  have hap := ho.entries κ.K
  obtain ⟨es, clock, hb, F, hs, rfl⟩ := ho
  obtain ⟨l, hl, hp, _⟩ := hap
  obtain ⟨rfl⟩ : ((es.toList.map (WideElems.rg P k ν.R)).foldr DataW.insert []) = l := by injection hl
  generalize hS : ((es.toList.map (WideElems.rg P k ν.R)).foldr DataW.insert []) = S at *
  have hkey : ∀ p ∈ S, ∃ x, κ.ok x ∧ p.1 = κ.kl x := by
    intro p hp'
    rw [← hS] at hp'
    obtain ⟨e, he, rfl⟩ := List.mem_map.1 (mem_sorted.1 hp')
    obtain ⟨y, hy⟩ := F.reads e he
    obtain ⟨x, h1, _, h2⟩ := κ.inv (WideElems.rd_key hy)
    exact ⟨x, h1, by rw [WideElems.rg_of hy]; exact h2⟩
  have hn1 : (S.map (·.1)).Nodup := by
    rw [List.Nodup, List.pairwise_map]; exact hp
  have hn2 : ((M.map (·.1)).map κ.kl).Nodup := by
    rw [List.Nodup, List.pairwise_map]
    exact h.nodup.imp (fun hne e => hne (κ.inj e))
  have hperm : (S.map (·.1)).Perm ((M.map (·.1)).map κ.kl) := by
    rw [List.perm_ext_iff_of_nodup hn1 hn2]
    intro l
    constructor
    · intro hl'
      obtain ⟨p, hp', rfl⟩ := List.mem_map.1 hl'
      obtain ⟨x, hx, e⟩ := hkey p hp'
      have : Maps.has (DataW.map S) (κ.kl x) = true := List.any_eq_true.2 ⟨p, hp', by rw [e]; exact WideAt.sameKey_self (κ.K.key (κ.of hx))⟩
      rw [h.has] at this
      rw [e]
      exact List.mem_map.2 ⟨x, of_decide_eq_true this, rfl⟩
    · intro hl'
      obtain ⟨x, hx, rfl⟩ := List.mem_map.1 hl'
      have : Maps.has (DataW.map S) (κ.kl x) = true := by rw [h.has]; exact decide_eq_true hx
      obtain ⟨p, hp', hs'⟩ := List.any_eq_true.1 this
      exact List.mem_map.2 ⟨p, hp', WideAt.sameKey_eq hs'⟩
  have := hperm.length_eq
  simpa [Maps.size] using this
def Own (κ : KK P k α) (ν : VK β) (w : World) (b : Nat) (M : List (α × β)) : Prop := ∃ D, w.ownsMap P k ν.R b M.length D ∧ Says κ ν D M
theorem Own.of (h : w.ownsMap P k ν.R b n D) (hs : Says κ ν D M) : Own κ ν w b M := ⟨D, by rw [← hs.size h]; exact tight h, hs⟩
theorem Own.made (κ : KK P k α) (ν : VK β) (w : World) : Own κ ν (w.alloc (.map #[] 0)) w.heap.size [] := ⟨_, World.ownsMap_made _ _ _ _, Says.nil _ _⟩
theorem Own.lt (h : Own κ ν w b M) : b < w.heap.size := by obtain ⟨D, ho, _⟩ := h; exact ho.lt
theorem Own.move (h : Own κ ν w b M) (hm : w1.heap[b]? = w.heap[b]?) : Own κ ν w1 b M := by
  obtain ⟨D, ⟨es, clock, hb, F, hs, hD⟩, hS⟩ := h
  exact ⟨D, ⟨es, clock, hm.trans hb, F, hs, hD⟩, hS⟩
theorem Own.below (h : Own κ ν w b M) (hb : Below w.heap.size w w1) : Own κ ν w1 b M := h.move (hb.block b h.lt)
theorem Own.grown (h : Own κ ν w b M) {row : Option Nat} (hg : w.grownBy w1 row) (hne : some b ≠ row) : Own κ ν w1 b M := h.move (hg.block b h.lt hne)
theorem Own.nodup (h : Own κ ν w b M) : (M.map (·.1)).Nodup := by obtain ⟨D, _, hS⟩ := h; exact hS.nodup
theorem Own.okk (h : Own κ ν w b M) : ∀ p ∈ M, κ.ok p.1 := by obtain ⟨D, _, hS⟩ := h; exact hS.okk
def Iter (κ : KK P k α) (ν : VK β) (w : World) (b r : Nat) (M : List (α × β)) (todo : List α) : Prop :=
  ∃ n D left cnt, w.ranges P k ν.R b r n D left cnt ∧ Says κ ν D M ∧ todo.Nodup ∧ (∀ x, left (κ.kl x) = decide (x ∈ todo)) ∧ (∀ x ∈ todo, x ∈ M.map (·.1))
theorem Iter.own (h : Iter κ ν w b r M todo) : Own κ ν w b M := by obtain ⟨n, D, left, cnt, hr, hs, _⟩ := h; exact Own.of hr.owns hs
theorem Iter.lt (h : Iter κ ν w b r M todo) : r < w.heap.size := by obtain ⟨n, D, left, cnt, hr, hs, _⟩ := h; exact hr.lt
theorem Iter.move (h : Iter κ ν w b r M todo) (hm : w1.heap[b]? = w.heap[b]?) (hm' : w1.heap[r]? = w.heap[r]?) : Iter κ ν w1 b r M todo := by
  obtain ⟨n, D, left, cnt, ⟨es, clock, since, seen, c0, hb, F, hs, hD, hr, hx⟩, hS⟩ := h
  exact ⟨n, D, left, cnt, ⟨es, clock, since, seen, c0, hm.trans hb, F, hs, hD, hm'.trans hr, hx⟩, hS⟩
theorem Iter.below (h : Iter κ ν w b r M todo) (hb : Below w.heap.size w w1) : Iter κ ν w1 b r M todo := h.move (hb.block b h.own.lt) (hb.block r h.lt)
theorem Iter.grown (h : Iter κ ν w b r M todo) {row : Option Nat} (hg : w.grownBy w1 row) (hne : some b ≠ row) (hne' : some r ≠ row) : Iter κ ν w1 b r M todo :=
  h.move (hg.block b h.own.lt hne) (hg.block r h.lt hne')
def getM (M : List (α × β)) (x : α) (y0 : β) : β := match M.find? (fun p => decide (p.1 = x)) with | some p => p.2 | none => y0
theorem getM_mem {M : List (α × β)} {x : α} {y : β} (hn : (M.map (·.1)).Nodup) (h : (x, y) ∈ M) (y0 : β) : getM M x y0 = y := by
  unfold getM
  cases hf : M.find? (fun p => decide (p.1 = x)) with
  | none => rw [List.find?_eq_none] at hf; exact absurd (decide_eq_true (rfl : ((x, y) : α × β).1 = x)) (hf _ h)
  | some p =>
    have h1 := List.find?_some hf
    have h2 := List.mem_of_find?_eq_some hf
    simp only [decide_eq_true_eq] at h1
    have : ∀ (l : List (α × β)), (l.map (·.1)).Nodup → ∀ p ∈ l, ∀ q ∈ l, p.1 = q.1 → p = q := by
      intro l
      induction l with
      | nil => simp
      | cons a l ih =>
        intro hn p hp q hq he
        rw [List.map_cons, List.nodup_cons] at hn
        rcases List.mem_cons.1 hp with e1 | hp' <;> rcases List.mem_cons.1 hq with e2 | hq'
        · rw [e1, e2]
        · exact absurd (List.mem_map.2 ⟨q, hq', by rw [← he, e1]⟩) hn.1
        · exact absurd (List.mem_map.2 ⟨p, hp', by rw [he, e2]⟩) hn.1
        · exact ih hn.2 p hp' q hq' he
    rw [this M hn p h2 (x, y) h h1]
theorem getM_not {M : List (α × β)} {x : α} (h : x ∉ M.map (·.1)) (y0 : β) : getM M x y0 = y0 := by
  unfold getM
  have : M.find? (fun p => decide (p.1 = x)) = none := by
    rw [List.find?_eq_none]
    intro p hp e
    exact h (List.mem_map.2 ⟨p, hp, by simpa using e⟩)
  rw [this]
theorem Own.off (h : Own κ ν w b M) {c : Nat} {cells : Array Value} {e : TypeId} {fr : Nat × Nat} (hc : w.heap[c]? = some (.cells cells e fr)) : c ≠ b := by
  obtain ⟨D, ⟨es, clock, hb, _⟩, _⟩ := h
  rintro rfl
  rw [hb] at hc; cases hc
theorem Iter.off (h : Iter κ ν w b r M todo) {c : Nat} {cells : Array Value} {e : TypeId} {fr : Nat × Nat} (hc : w.heap[c]? = some (.cells cells e fr)) : c ≠ r := by
  obtain ⟨n, D, left, cnt, ⟨es, clock, since, seen, c0, hb, F, hs, hD, hr, hx⟩, hS⟩ := h
  rintro rfl
  rw [hr] at hc; cases hc
theorem Iter.left_grown (h : Iter κ ν w b r M todo) {row : Option Nat} (hg : w.grownBy w1 row) (hne : some b ≠ row) (hne' : some r ≠ row) : w1.rangeLeft b r = w.rangeLeft b r := by
  simp only [World.rangeLeft, hg.block b h.own.lt hne, hg.block r h.lt hne']
theorem Iter.nodup (h : Iter κ ν w b r M todo) : todo.Nodup := by obtain ⟨n, D, left, cnt, hr, hs, hn, _⟩ := h; exact hn
theorem Iter.sub (h : Iter κ ν w b r M todo) : ∀ x ∈ todo, x ∈ M.map (·.1) := by obtain ⟨n, D, left, cnt, hr, hs, hn, _, h⟩ := h; exact h
theorem mem_strikeL {l : List α} {x z : α} : z ∈ strikeL l x ↔ z ∈ l ∧ z ≠ x := by simp [strikeL]
theorem nodup_strikeL {l : List α} (h : l.Nodup) (x : α) : (strikeL l x).Nodup := h.sublist List.filter_sublist
theorem length_strike1 : ∀ {l : List α} {x : α}, l.Nodup → x ∈ l → (strikeL l x).length + 1 = l.length
  | [], _, _, h => by simp at h
  | y :: l, x, hn, h => by
    obtain ⟨h1, h2⟩ := List.nodup_cons.1 hn
    by_cases e : y = x
    · subst e
      have : l.filter (fun z => decide (z ≠ y)) = l := List.filter_eq_self.2 (fun z hz => by simp; rintro rfl; exact h1 hz)
      unfold strikeL
      rw [List.filter_cons_of_neg (by simp), this, List.length_cons]
    · rcases List.mem_cons.1 h with rfl | h
      · exact absurd rfl e
      · have ih := length_strike1 h2 h
        unfold strikeL at ih ⊢
        rw [List.filter_cons_of_pos (by simpa using e), List.length_cons, List.length_cons, ih]
variable {ops : Array Oper} {rest : List Oper} {o : Oper} {a : Act} {Q : Exit → Act → World → Prop}
theorem wpList_mput (hg : o.guard = none) (m x v : Operand) (t : TypeId) (hop : o.op = Op.mapUpdate t m x v) (κ : KK P k α) (ν : VK β) (e : TypeId) (ht : P.underlying t = some (.map k e)) (b : Nat) (M : List (α × β))
    (hm : a.eval m = .map (some b)) (hown : Own κ ν w b M) (hn : M.length < maxLen) (kx : α) (y : β) (hx : a.eval x = κ.val kx) (hv : a.eval v = ν.val y) (hkx : κ.ok kx) (hy : ν.ok y)
    (hK : ∀ w', Own κ ν w' b (putM M kx y) → w.grownBy w' (some b) → wpList P ops Q rest (a.put o.dst undef) w') : wpList P ops Q (o :: rest) a w := by
  obtain ⟨D, ho, hS⟩ := hown
  exact wpList_mapUpdate_own w hg m x v t hop k e κ.K ht ν.R b M.length D hm ho hn _ _ _ hx hv (κ.of hkx) _ [] (ν.of hy) (fun w' h1 h2 => hK w' (Own.of h1 (hS.put ho.isMap hkx hy)) h2)
theorem wpList_mhas (hg : o.guard = none) (m x : Operand) (t : TypeId) (hop : o.op = Op.lookup t m x true) (κ : KK P k α) (e : TypeId) (ht : P.underlying t = some (.map k e)) (hz : (zeroValue e).run P w = .ok (.agg #[]) w) (b : Nat) (M : List (α × Unit))
    (hm : a.eval m = .map (some b)) (hown : Own κ unitV w b M) (kx : α) (hx : a.eval x = κ.val kx) (hkx : κ.ok kx)
    (hK : wpList P ops Q rest (a.put o.dst (.tuple #[.agg #[], .bool (decide (kx ∈ M.map (·.1)))])) w) : wpList P ops Q (o :: rest) a w := by
  obtain ⟨D, ho, hS⟩ := hown
  exact wpList_lookup_own_unit w hg m x t hop k e κ.K ht hz b M.length D hm ho _ _ hx (κ.of hkx) (by rw [hS.has]; exact hK)
theorem wpList_mget (hg : o.guard = none) (m x : Operand) (t : TypeId) (hop : o.op = Op.lookup t m x false) (κ : KK P k α) (ν : VK β) (e : TypeId) (ht : P.underlying t = some (.map k e)) (y0 : β) (hy0 : ν.ok y0) (hz : (zeroValue e).run P w = .ok (ν.val y0) w) (b : Nat) (M : List (α × β))
    (hm : a.eval m = .map (some b)) (hown : Own κ ν w b M) (kx : α) (hx : a.eval x = κ.val kx) (hkx : κ.ok kx)
    (hK : wpList P ops Q rest (a.put o.dst (ν.val (getM M kx y0))) w) : wpList P ops Q (o :: rest) a w := by
  obtain ⟨D, ho, hS⟩ := hown
  refine wpList_plain hg fun K' hK' => ?_
  obtain ⟨v, ps, hrun, hv⟩ := ho.lookup κ.K ht hz (ν.of hy0) (κ.of hkx)
  obtain ⟨y, _, rfl, hy⟩ := ν.inv hv
  have : y = getM M kx y0 := by
    injection hy with hy _
    refine ν.inj (hy.symm.trans ?_)
    by_cases h : kx ∈ M.map (·.1)
    · obtain ⟨p, hp, rfl⟩ := List.mem_map.1 h
      rw [hS.at_ p hp, getM_mem hS.nodup (x := p.1) (y := p.2) hp]
    · rw [atKey_of_not_has (by rw [hS.has]; exact decide_eq_false h), getM_not h]
  subst this
  unfold Oper.wp
  simp [execOp, hop, hm, hx, hrun, Result.andThen]
  exact hK' _ _ hK
theorem wpList_mrange (hg : o.guard = none) (m : Operand) (t : TypeId) (hop : o.op = Op.range t m) (κ : KK P k α) (ν : VK β) (e : TypeId) (ht : P.underlying t = some (.map k e)) (b : Nat) (M : List (α × β))
    (hm : a.eval m = .map (some b)) (hown : Own κ ν w b M)
    (hK : ∀ w', Iter κ ν w' b w.heap.size M (M.map (·.1)) → w.grownBy w' none → w'.heap.size = w.heap.size + 1 → wpList P ops Q rest (a.put o.dst (.pointer (some ⟨w.heap.size, 0, none⟩))) w') : wpList P ops Q (o :: rest) a w := by
  obtain ⟨D, ho, hS⟩ := hown
  exact wpList_range_own w hg m t hop k e κ.K ht ν.R b M.length D hm ho (fun w' h1 h2 h3 => hK w' ⟨_, D, _, _, h1, hS, hS.nodup, hS.has, fun x hx => hx⟩ h2 h3)
theorem wpList_mnext (hg : o.guard = none) (it : Operand) (hop : o.op = Op.next it false) (κ : KK P k α) (ν : VK β) (b r : Nat) (M : List (α × β))
    (hit : a.eval it = .pointer (some ⟨r, 0, none⟩)) (h : Iter κ ν w b r M todo)
    (hDone : todo = [] → wpList P ops Q rest (a.put o.dst (.tuple #[.bool false])) w)
    (hMore : ∀ (x : α) (y : β) (w' : World), x ∈ todo → (x, y) ∈ M → Iter κ ν w' b r M (strikeL todo x) → w'.rangeLeft b r < w.rangeLeft b r →
      w.grownBy w' (some r) → w'.heap.size = w.heap.size → (Instr.entry (.pointer (some ⟨r, 0, none⟩))).run P w' = .ok (.tuple #[κ.val x, ν.val y]) w' → wpList P ops Q rest (a.put o.dst (.tuple #[.bool true, κ.val x, ν.val y])) w') :
    wpList P ops Q (o :: rest) a w := by
  obtain ⟨n, D, left, cnt, hr, hS, hnd, hleft, hsub⟩ := h
  refine wpList_next_ranges w hg it hop k κ.K ν.R κ.val ν.val (fun key kl hkey => by obtain ⟨x, _, h, _⟩ := κ.inv hkey; exact ⟨x, h⟩) (fun v y hv => by obtain ⟨c, _, h, _⟩ := ν.inv hv; exact ⟨c, h⟩) b r n D left cnt hit hr ?_ ?_
  · intro _ hl
    refine hDone (List.eq_nil_iff_forall_not_mem.2 (fun x hx => ?_))
    have := hleft x
    rw [hl, decide_eq_true hx] at this
    cases this
  · intro x c kl y w' cnt' hkey hlk hv hat hrg hlt hgr hsz hen
    obtain ⟨x', hx', e1, rfl⟩ := κ.inv hkey
    have hxx : x = x' ∨ True := .inr trivial
    obtain ⟨c', hc', e2, rfl⟩ := ν.inv hv
    rw [e1, e2] at hen ⊢
    have hmem : x' ∈ todo := by rw [hleft] at hlk; exact of_decide_eq_true hlk
    have hM : (x', c') ∈ M := by
      obtain ⟨p, hp, rfl⟩ := List.mem_map.1 (hsub x' hmem)
      have := (hS.at_ p hp (.agg [])).symm.trans (hat (.agg []))
      rw [← ν.inj this]; exact hp
    refine hMore x' c' w' hmem hM ⟨n, D, _, cnt', hrg, hS, nodup_strikeL hnd _, fun z => ?_, fun z hz => hsub z (mem_strikeL.1 hz).1⟩ (by rw [hrg.left_eq, hr.left_eq]; exact hlt) hgr hsz hen
    rw [hleft, κ.same' hx' z]
    by_cases h1 : z ∈ todo <;> by_cases h2 : z = x' <;> simp [mem_strikeL, h1, h2]
end
end Go.Proofs.He
end
section
set_option linter.unusedVariables false
set_option linter.unusedSimpArgs false
set_option linter.unusedSectionVars false
namespace Go.Proofs.He
open Go Go.RowKit Go.Sort Go.Proofs.YtmmalieacakcbaaW.PrintWords
section
variable {α : Type} [Inhabited α] {enc : α → Value} {h1 : ∀ x, (enc x).oneCell' = true}
theorem flatScalar (enc : α → Value) (h1 : ∀ x, (enc x).oneCell' = true) : Flat (Kd.scalar enc h1) (fun x => [enc x]) :=
  ⟨fun _ => rfl, fun x u hu => by rw [List.mem_singleton.1 hu]; exact h1 x, fun _ _ _ _ _ => Iff.rfl, fun _ _ _ => Iff.rfl⟩
theorem flatMap_one (l : List α) : l.flatMap (fun x => [enc x]) = l.map enc := by induction l with | nil => rfl | cons x l ih => simp [ih]
theorem scalar_own {e base : Nat} {w : World} {ok : Nat → Prop} {v : Value} {xs : List α} (h : (Kd.scalar enc h1).R e w base ok v xs) : w.ownsRow base e 1 v xs.length (xs.map enc) ∧ ∀ k, v.ownBlock = some k → ok k := by
  have := Flat.own (flatScalar enc h1) h
  rwa [flatMap_one] at this
theorem scalar_put {e base : Nat} {w : World} {ok : Nat → Prop} {v : Value} {xs : List α} (h : w.ownsRow base e 1 v xs.length (xs.map enc)) (hok : ∀ k, v.ownBlock = some k → ok k) : (Kd.scalar enc h1).R e w base ok v xs :=
  Flat.put (flatScalar enc h1) (by rw [flatMap_one]; exact h) hok
theorem holds_of_row {e base g n cap : Nat} {w : World} {xs : List α} (h : w.ownsRow base e 1 (.slice (some ⟨g, 0, none⟩) n cap) n (xs.map enc)) : Holds enc w g 0 xs.toArray ∧ g < w.heap.size ∧ n = xs.length ∧ n ≤ cap := by
  obtain ⟨hl, h⟩ := h
  rcases h with ⟨h, _⟩ | ⟨g', cap', cur, hv, hb, hh, hc, hm, hs, ht⟩
  · cases h
  · injection hv with ha hn hc'
    injection ha with ha
    injection ha with ha
    subst ha; subst hc'
    have hn : n = xs.length := by simpa using hl.symm
    refine ⟨fun j hj => ?_, (Array.getElem?_eq_some_iff.1 hh).1, hn, hc⟩
    have hj' : j < xs.length := by simpa using hj
    have hget : cur[j]? = some (enc xs[j]) := by
      have : (cur.toList.take (n * 1))[j]? = (xs.map enc)[j]? := by rw [ht]
      rw [List.getElem?_take, if_pos (by omega)] at this
      rw [← Array.getElem?_toList, this]
      simp [hj']
    have e1 : xs.toArray[j]! = xs[j] := by rw [getElem!_pos xs.toArray j (by simpa using hj')]; simp
    rw [e1]
    simp [World.cell?, World.frozen?, hh, hget]
theorem row_of_put {e base g n cap : Nat} {w : World} {cells : List Value} (h : w.ownsRow base e 1 (.slice (some ⟨g, 0, none⟩) n cap) n cells) (m : Nat) (os : Array Obj) (d : List α) (hd : d.length = n) :
    (grow (putRow enc (Sort.ahead w m) g 0 d.toArray) os).ownsRow base e 1 (.slice (some ⟨g, 0, none⟩) n cap) n (d.map enc) := by
  obtain ⟨hl, h⟩ := h
  rcases h with ⟨h, _⟩ | ⟨g', cap', cur, hv, hb, hh, hc, hm, hs, ht⟩
  · cases h
  · injection hv with ha hn hc'
    injection ha with ha
    injection ha with ha
    subst ha; subst hc'
    have hg : g < w.heap.size := (Array.getElem?_eq_some_iff.1 hh).1
    refine ⟨by simp [hd], .inr ⟨g, cap, putCells enc 0 d.toArray cur, rfl, hb, ?_, hc, hm, by simp [putCells]; simpa using hs, ?_⟩⟩
    · rw [heap_grow_old _ _ (by simpa using hg)]
      simp [putRow, mapBlock, Array.getElem?_modify, hh, onCells]
    · apply List.ext_getElem?
      intro j
      rw [List.getElem?_take]
      split
      · rename_i hj
        have hj' : j < d.length := by omega
        have hjc : j < cur.size := by omega
        simp [putCells, hj', hjc]
      · rename_i hj
        rw [List.getElem?_eq_none]; simp; omega
theorem grown_put {g : Nat} {w : World} (m : Nat) (os : Array Obj) (d : List α) : w.grownBy (grow (putRow enc (Sort.ahead w m) g 0 d.toArray) os) (some g) :=
  ⟨rfl, rfl, rfl, by simp, fun k hk hne => by
    rw [heap_grow_old _ _ (by simpa using hk)]
    have : g ≠ k := fun e => hne (by rw [e])
    simp [putRow, mapBlock, Array.getElem?_modify, this]⟩
end
theorem at_row {w : World} {e : Nat} {k : IntKind} {A : Option Addr} {n : Nat} {xs : List (List Int)} (h : Kd.C (Kd.slice e (Kd.int k)) w A n xs) (i : Int) (h0 : 0 ≤ i) (h1 : i < n) :
    ∃ ad A0 c0, A = some ad ∧ w.cell? (ad.add i.toNat) = some (.slice A0 (xs.getD i.toNat []).length c0) ∧ (xs.getD i.toNat []).length ≤ c0 ∧ (Kd.int k).C w A0 (xs.getD i.toNat []).length (xs.getD i.toNat []) := by
  obtain ⟨ad, c, e, _, hK, hc0⟩ := Kd.C_get h ([] : List Int) i h0 h1
  have hc : ∀ j u, c[j]? = some u → w.cell? (ad.add (i.toNat * 1 + j)) = some u := hc0
  obtain ⟨A0, c0, rfl, l0, g0⟩ := hK
  exact ⟨ad, A0, c0, e, by have hq := hc 0 _ rfl; rwa [Nat.mul_one, Nat.add_zero] at hq, l0, g0⟩
theorem row_last {e base : Nat} {w : World} {ok : Nat → Prop} {v : Value} {k : IntKind} {xs : List Int} {x : Int} (h : (Kd.int k).R e w base ok v (xs ++ [x])) :
    ∃ g cap, v = .slice (some ⟨g, 0, none⟩) (xs.length + 1) cap ∧ xs.length + 1 ≤ cap ∧ w.cell? ⟨g, xs.length, none⟩ = some (.int k x) ∧ (Kd.int k).R e w base ok (.slice (some ⟨g, 0, none⟩) xs.length cap) xs := by
  obtain ⟨ho, hok⟩ := scalar_own h
  obtain ⟨hl, h⟩ := ho
  rcases h with ⟨_, h⟩ | ⟨g, cap, cur, rfl, hb, hh, hc, hm, hs, ht⟩
  · simp at h
  · have hlen : (xs ++ [x]).length = xs.length + 1 := by simp
    rw [hlen] at hc ht hl
    refine ⟨g, cap, by rw [hlen], hc, ?_, ?_⟩
    · have : (cur.toList.take ((xs.length + 1) * 1))[xs.length]? = ((xs ++ [x]).map (Value.int k))[xs.length]? := by rw [ht]
      rw [List.getElem?_take, if_pos (by omega)] at this
      have e2 : cur[xs.length]? = some (.int k x) := by rw [← Array.getElem?_toList, this]; simp
      simp [World.cell?, hh, e2]
    · refine scalar_put ⟨by simp, .inr ⟨g, cap, cur, rfl, hb, hh, by omega, hm, hs, ?_⟩⟩ hok
      have : (cur.toList.take ((xs.length + 1) * 1)).take (xs.length * 1) = ((xs ++ [x]).map (Value.int k)).take (xs.length * 1) := by rw [ht]
      rw [List.take_take, Nat.min_eq_left (by omega)] at this
      rw [this]
      simp
theorem own_ne_row {P : Program} {k : TypeId} {α β γ : Type} [DecidableEq α] {κ : KK P k α} {ν : VK β} {M : List (α × β)} {w : World} {b e base : Nat} {ok : Nat → Prop} {d : Kd γ} {v : Value} {xs : List γ} (h : Own κ ν w b M) (hr : d.R e w base ok v xs) : some b ≠ v.ownBlock := by
  intro e
  obtain ⟨inner, ho⟩ := Kd.R_own hr
  obtain ⟨cells, hc⟩ := own_typed ho _ e.symm
  exact h.off hc rfl
theorem iter_ne_row {P : Program} {k : TypeId} {α β γ : Type} [DecidableEq α] {κ : KK P k α} {ν : VK β} {M : List (α × β)} {todo : List α} {w : World} {b r e base : Nat} {ok : Nat → Prop} {d : Kd γ} {v : Value} {xs : List γ} (h : Iter κ ν w b r M todo) (hr : d.R e w base ok v xs) : some r ≠ v.ownBlock := by
  intro e
  obtain ⟨inner, ho⟩ := Kd.R_own hr
  obtain ⟨cells, hc⟩ := own_typed ho _ e.symm
  exact h.off hc rfl
theorem sort_row {α : Type} [Inhabited α] {enc : α → Value} {h1 : ∀ x, (enc x).oneCell' = true} {P : Program} {f : Nat} {srt : List α → List α} (hlen : ∀ l, (srt l).length = l.length) (hnil : srt [] = [])
    (hnone : ∀ (p : Option Addr) (cap : Nat) (w : World), Calls P f #[.slice p 0 cap] w fun e w' => e = .returned (.tuple #[]) ∧ w' = w)
    (hsome : ∀ (blk off cap : Nat) (zs : List α) (w : World), Holds enc w blk off zs.toArray → blk < w.heap.size → zs.length < 4611686018427387904 → Calls P f #[.slice (some ⟨blk, off, none⟩) zs.length cap] w fun e w' => e = .returned (.tuple #[]) ∧ ∃ n os, w' = grow (putRow enc (Sort.ahead w n) blk off (srt zs).toArray) os)
    {e base : Nat} {ok : Nat → Prop} {v : Value} {xs : List α} {w : World} (h : (Kd.scalar enc h1).R e w base ok v xs) (hsz : xs.length < 4611686018427387904) :
    Calls P f #[v] w fun e' w' => e' = .returned (.tuple #[]) ∧ (Kd.scalar enc h1).R e w' base ok v (srt xs) ∧ w.grownBy w' v.ownBlock := by
  obtain ⟨ho, hok⟩ := scalar_own h
  have ho' := ho
  rcases ho.2 with ⟨rfl, h0⟩ | ⟨g, cap, cur, rfl, _⟩
  · have hx : xs = [] := List.eq_nil_of_length_eq_zero h0
    subst hx
    refine (hnone none 0 w).mono ?_
    rintro e' w' ⟨rfl, rfl⟩
    exact ⟨rfl, by rw [hnil]; exact h, World.grownBy.refl _ _⟩
  · obtain ⟨a1, a2, a3, a4⟩ := holds_of_row ho'
    refine (hsome g 0 cap xs w a1 a2 hsz).mono ?_
    rintro e' w' ⟨rfl, n, os, rfl⟩
    refine ⟨rfl, scalar_put (by rw [hlen]; exact row_of_put ho' n os (srt xs) (hlen xs)) hok, grown_put n os _⟩
end Go.Proofs.He
end
section
set_option linter.unusedVariables false
set_option linter.unusedSimpArgs false
set_option linter.unusedSectionVars false
namespace Go.Proofs.He
open Go Go.RowKit Go.Deep Go.ChangeShapes Go.WideShapes Go.Proofs.YtmmalieacakcbaaW.PrintWords
theorem weightsIn {H : Type} {P : Program} {e : TypeId} : ∀ {l : List (DataW H)} {d : DataW H}, d ∈ l → ∀ n ∈ d.weights P e, n ∈ DataW.weightsAll P e l
  | d' :: r, d, hd, n, hn => by
    simp only [DataW.weightsAll, List.mem_append]
    rcases List.mem_cons.1 hd with rfl | h
    · exact Or.inl hn
    · exact Or.inr (weightsIn h n hn)
end Go.Proofs.He
end
section
set_option linter.unusedVariables false
set_option linter.unusedSimpArgs false
set_option linter.unusedSectionVars false
namespace Go.Proofs.He
open Go Go.RowKit Go.Deep Go.ChangeShapes Go.WideShapes Go.Proofs.YtmmalieacakcbaaW.PrintWords
def Opens {α : Type} {H : Type} (enc : TypeId × Value → H) (P : Program) (W : World) (κ : Kd α) (e : TypeId) (Q : α → Prop) : Prop :=
  ∀ (n : Nat) (cs : List Value) (y : DataW H × List MemPlace), DataW.trod enc P W 0 (fun _ => true) true n e cs = some y → (∀ m ∈ y.1.weights P e, m ≤ reachBytes) → ∃ x : α, κ.K W x cs ∧ Q x
section
variable {α H : Type} {enc : TypeId × Value → H} {P : Program} {W : World} {κ : Kd α} {t e : TypeId} {Q : α → Prop}
theorem Opens.slice (hu : P.underlying t = some (.slice e)) (hs : κ.sz = P.cellsOf e) (ho : Opens enc P W κ e Q) : Opens enc P W (Kd.slice e κ) t (fun xs => xs.length * P.bytesOf e ≤ 140737488351232 ∧ ∀ x ∈ xs, Q x) := by
  intro fuel cs y hf hw
  rcases open_slice hu hf with ⟨rfl, rfl⟩ | ⟨a', len, cap, m, n, D, Pl, rfl, hb, hl, hm, hmm, rfl, hr⟩
  · exact ⟨[], ⟨none, 0, rfl, Nat.le_refl _, ⟨rfl, by simp, fun h => by simp at h⟩⟩, by simp, by simp⟩
  · simp only [if_true] at hmm
    subst hmm
    have hR : reachBytes = 140737488351232 := rfl
    have hin : ∀ i, i < len → D i ∈ (List.range len).map D := fun i hi => List.mem_map.2 ⟨i, List.mem_range.2 hi, rfl⟩
    have each : ∀ i, i < len → ∃ x : α, ∃ c : List Value, c.length = κ.sz ∧ κ.K W x c ∧ Q x ∧ ∀ q u, c[q]? = some u → W.cell? (a'.add (i * κ.sz + q)) = some u := by
      intro i hi
      obtain ⟨cs', h1, h2⟩ := hr i (by omega)
      obtain ⟨x, hx, hq⟩ := ho _ _ _ h2 (fun k hk => hw k (by
        simp only [DataW.weights, hu, List.mem_cons, List.mem_append]
        exact .inr (.inl (weightsIn (hin i hi) _ hk))))
      obtain ⟨_, hlen, hcell⟩ := World.cells?_some h1
      refine ⟨x, cs', by rw [hs]; exact hlen, hx, hq, fun q u hq => ?_⟩
      have hq' : q < cs'.length := (List.getElem?_eq_some_iff.1 hq).1
      have e0 := hcell q (by omega)
      rw [Go.Deep.add_add] at e0
      rw [hs, e0, hq]
    have hG : ∀ m : Nat, m ≤ len → ∃ G : List α, G.length = m ∧ (∀ x ∈ G, Q x) ∧ ∀ i p, G[i]? = some p → ∃ c : List Value, c.length = κ.sz ∧ κ.K W p c ∧ ∀ q u, c[q]? = some u → W.cell? (a'.add (i * κ.sz + q)) = some u := by
      intro m
      induction m with
      | zero => exact fun _ => ⟨[], rfl, by simp, fun i p hp => by simp at hp⟩
      | succ m ih =>
        intro hm2
        obtain ⟨G, h1, h0, h2⟩ := ih (by omega)
        obtain ⟨x, c, h3, h4, h6, h5⟩ := each m (by omega)
        refine ⟨G ++ [x], by simp [h1], fun z hz => ?_, fun i p hp => ?_⟩
        · rcases List.mem_append.1 hz with h | h
          · exact h0 z h
          · rw [List.mem_singleton.1 h]; exact h6
        · rcases Nat.lt_trichotomy i m with hi | hi | hi
          · rw [List.getElem?_append_left (by omega)] at hp; exact h2 i p hp
          · subst hi
            rw [List.getElem?_append_right (by omega), h1, Nat.sub_self] at hp
            have : x = p := by simpa using hp
            subst this
            exact ⟨c, h3, h4, h5⟩
          · rw [List.getElem?_eq_none (by simp; omega)] at hp; cases hp
    obtain ⟨G, h1, h0, h2⟩ := hG len (Nat.le_refl _)
    have hm2 : maxLen ≤ 9223372036854775807 := by decide
    refine ⟨G, ⟨some a', m, by rw [h1], by omega, ⟨rfl, by omega, fun _ => ⟨a', rfl, h2⟩⟩⟩, ?_, h0⟩
    have := hw (((List.range len).map D).length * P.bytesOf e + ((List.range (m - len)).map fun j => D (len + j)).length * P.bytesOf e) (by
      simp only [DataW.weights, hu, List.mem_cons]; exact .inl (by rw [Nat.add_mul]))
    rw [hR] at this
    simp only [List.length_map, List.length_range] at this
    rw [h1]; omega
theorem Opens.string (hu : P.underlying t = some .string) : Opens enc P W Kd.string t (fun s => s.size ≤ 140737488351232) := by
  intro fuel cs y hf hw
  obtain ⟨s, rfl, rfl, _⟩ := DataW.trod_string hu hf
  refine ⟨s, rfl, ?_⟩
  have := hw s.data.toList.length (by simp [DataW.weights])
  rw [Array.length_toList] at this
  exact this
theorem Opens.int {k : IntKind} (hu : P.underlying t = some (.int k)) : Opens enc P W (Kd.int k) t (fun n => (Lit.int k n).wf = true) := by
  intro fuel cs y hf _
  obtain ⟨n, rfl, rfl, h⟩ := DataW.trod_int hu hf
  exact ⟨n, rfl, h⟩
theorem Opens.mono {Q' : α → Prop} (ho : Opens enc P W κ e Q) (h : ∀ x, Q x → Q' x) : Opens enc P W κ e Q' := fun n cs y hf hw => by
  obtain ⟨x, h1, h2⟩ := ho n cs y hf hw
  exact ⟨x, h1, h x h2⟩
theorem Opens.arg (ho : Opens enc P W κ t Q) {ts : List TypeId} {ds : List (DataW H)} {j : Nat} (hsz : (DataW.weightsEach P ts ds).all (· ≤ reachBytes) = true) {v : Value} {d : DataW H} {ps : List MemPlace} (ht : ts[j]? = some t) (hd : ds[j]? = some d)
    (h : DataW.Trod enc P W 0 (fun _ => true) true t v d ps) : ∃ x : α, κ.K W x v.cells.toList ∧ Q x := by
  obtain ⟨fuel, hf⟩ := h
  exact ho fuel _ _ hf (fun m hm => of_decide_eq_true (List.all_eq_true.1 hsz _ (DataW.weights_mem_each ht hd m hm)))
theorem Opens.argSlice {Q : List α → Prop} (ho : Opens enc P W (Kd.slice e κ) t Q) {ts : List TypeId} {ds : List (DataW H)} {j : Nat} (hsz : (DataW.weightsEach P ts ds).all (· ≤ reachBytes) = true) {a : Option Addr} {len cap : Nat} {d : DataW H} {ps : List MemPlace} (ht : ts[j]? = some t) (hd : ds[j]? = some d)
    (h : DataW.Trod enc P W 0 (fun _ => true) true t (.slice a len cap) d ps) : ∃ G : List α, len = G.length ∧ Kd.C κ W a G.length G ∧ G.length ≤ cap ∧ Q G := by
  obtain ⟨G, ⟨A, c, e0, h1, h2⟩, hq⟩ := ho.arg hsz ht hd h
  have e1 : [Value.slice a len cap] = [Value.slice A G.length c] := e0
  cases e1
  exact ⟨G, rfl, h2, h1, hq⟩
end
end Go.Proofs.He
end
section
set_option linter.unusedVariables false
namespace Go.Proofs.He
open Go Go.RowKit Go.Proofs.YtmmalieacakcbaaW.PrintWords
theorem compact_row {P : Program} {f : Nat} (hnone : ∀ (a : Option Addr) (cap : Nat) (w : World), Calls P f #[.slice a 0 cap] w fun e w' => e = .returned (.slice a 0 cap) ∧ w' = w)
    (hsome : ∀ (blk off cap : Nat) (zs : List Int) (w : World), Sort.Holds (Value.int .i64) w blk off zs.toArray → zs.length ≤ 9223372036854775807 → zs.length ≤ cap → Calls P f #[.slice (some ⟨blk, off, none⟩) zs.length cap] w fun e w' => e = .returned (.slice (some ⟨blk, off, none⟩) (Lib.compact zs).length cap) ∧ ∃ q, w' = Sort.putRow (Value.int .i64) (Sort.ahead w q) blk off (Lib.compact zs ++ List.replicate (zs.length - (Lib.compact zs).length) 0).toArray)
    {e base : Nat} {ok : Nat → Prop} {v : Value} {xs : List Int} {w : World} (h : (Kd.int .i64).R e w base ok v xs) :
    Calls P f #[v] w fun e' w' => ∃ v', e' = .returned v' ∧ (Kd.int .i64).R e w' base ok v' (Lib.compact xs) ∧ w.grownBy w' v.ownBlock := by
  obtain ⟨ho, hok⟩ := scalar_own h
  have ho' := ho
  rcases ho.2 with ⟨rfl, h0⟩ | ⟨g, cap, cur, rfl, _⟩
  · have hx : xs = [] := List.eq_nil_of_length_eq_zero h0
    subst hx
    refine (hnone none 0 w).mono ?_
    rintro e' w' ⟨rfl, rfl⟩
    exact ⟨_, rfl, h, World.grownBy.refl _ _⟩
  · obtain ⟨a1, a2, a3, a4⟩ := holds_of_row ho'
    have hm : xs.length ≤ 9223372036854775807 := (Kd.R_reads' h).2.2.2.1
    refine (hsome g 0 cap xs w a1 hm a4).mono ?_
    rintro e' w' ⟨rfl, q, rfl⟩
    have hl := Lib.compact_length_le xs
    have hd : (Lib.compact xs ++ List.replicate (xs.length - (Lib.compact xs).length) 0).length = xs.length := by rw [List.length_append, List.length_replicate]; omega
    have hr := row_of_put (enc := Value.int .i64) ho' q #[] _ hd
    have hg := grown_put (g := g) (w := w) (enc := Value.int .i64) q #[] (Lib.compact xs ++ List.replicate (xs.length - (Lib.compact xs).length) 0)
    rw [Sort.grow_empty] at hr hg
    have ht := own_take hr hl
    refine ⟨_, rfl, scalar_put ?_ (fun k hk => hok k (by simpa [Value.ownBlock] using hk)), hg⟩
    rw [Nat.mul_one, ← List.map_take, List.take_left] at ht
    exact ht
end Go.Proofs.He
end
section
set_option linter.unusedVariables false
set_option linter.unusedSimpArgs false
set_option linter.unusedSectionVars false
namespace Go.Proofs.He
open Go Go.RowKit Go.Sort Go.Lib Go.Proofs.YtmmalieacakcbaaW.PrintWords
def RowAt (w : World) (e g n cap : Nat) (xs : List Value) : Prop := ∃ cur, w.heap[g]? = some (.cells cur e (0, 0)) ∧ n ≤ cap ∧ cap ≤ maxLen ∧ cur.size = cap ∧ xs.length = n ∧ cur.toList.take n = xs
theorem RowAt.of {e base g n cap : Nat} {w : World} {xs : List Value} (h : w.ownsRow base e 1 (.slice (some ⟨g, 0, none⟩) n cap) n xs) : RowAt w e g n cap xs ∧ base ≤ g := by
  obtain ⟨hl, h⟩ := h
  rcases h with ⟨h, _⟩ | ⟨g', cap', cur, hv, hb, hh, hc, hm, hs, ht⟩
  · cases h
  · injection hv with ha hn hc'
    injection ha with ha
    injection ha with ha
    subst ha; subst hc'
    exact ⟨⟨cur, hh, hc, hm, by simpa using hs, by simpa using hl, by simpa using ht⟩, hb⟩
theorem RowAt.put {e base g n cap : Nat} {w : World} {xs : List Value} (h : RowAt w e g n cap xs) (hb : base ≤ g) : w.ownsRow base e 1 (.slice (some ⟨g, 0, none⟩) n cap) n xs := by
  obtain ⟨cur, hh, hc, hm, hs, hl, ht⟩ := h
  exact ⟨by simpa using hl, .inr ⟨g, cap, cur, rfl, hb, hh, hc, hm, by simpa using hs, by simpa using ht⟩⟩
theorem RowAt.lt {e g n cap : Nat} {w : World} {xs : List Value} (h : RowAt w e g n cap xs) : g < w.heap.size := by obtain ⟨cur, hh, _⟩ := h; exact (Array.getElem?_eq_some_iff.1 hh).1
theorem RowAt.at {e g n cap : Nat} {w : World} {xs : List Value} (h : RowAt w e g n cap xs) (j : Nat) (hj : j < n) (u : Value) (hu : xs[j]? = some u) : w.cell? ⟨g, j, none⟩ = some u ∧ w.frozen? ⟨g, j, none⟩ = false := by
  obtain ⟨cur, hh, hc, hm, hs, hl, ht⟩ := h
  have hget : cur[j]? = some u := by
    rw [← Array.getElem?_toList, ← List.getElem?_take_of_lt hj, ht, hu]
  simp [World.cell?, World.frozen?, hh, hget]
theorem RowAt.move {e g n cap : Nat} {w w1 : World} {xs : List Value} (h : RowAt w e g n cap xs) (hb : w1.heap[g]? = w.heap[g]?) : RowAt w1 e g n cap xs := by
  obtain ⟨cur, hh, r⟩ := h; exact ⟨cur, by rw [hb, hh], r⟩
theorem RowAt.grown {e g n cap : Nat} {w w1 : World} {xs : List Value} (h : RowAt w e g n cap xs) (hg : w.grownBy w1 none) : RowAt w1 e g n cap xs := h.move (hg.block g h.lt (by simp))
theorem RowAt.set {e g n cap : Nat} {w : World} {xs : List Value} (h : RowAt w e g n cap xs) (i : Nat) (hi : i < n) (u : Value) : RowAt (w.setCell ⟨g, i, none⟩ u) e g n cap (xs.set i u) := by
  obtain ⟨cur, hh, hc, hm, hs, hl, ht⟩ := h
  obtain ⟨cur', h1, h2, h3⟩ := setCells_row [u] i w cur hh (by simp; omega)
  refine ⟨cur', h1, hc, hm, by omega, by simp [hl], ?_⟩
  have hz : i < cur.toList.length := by rw [Array.length_toList]; omega
  have h4 : cur'.toList = cur.toList.set i u := by
    rw [h3, List.set_eq_take_append_cons_drop, if_pos hz]; simp
  rw [h4, ← ht, List.take_set]
theorem RowAt.strike {e g n cap : Nat} {w : World} {xs : List Value} (h : RowAt w e g n cap xs) (i : Nat) (hi : i ≤ n) (vs : List Value) (hv : vs.length = n - i) : RowAt (w.setCells g i vs) e g i cap (xs.take i) := by
  obtain ⟨cur, hh, hc, hm, hs, hl, ht⟩ := h
  obtain ⟨cur', h1, h2, h3⟩ := setCells_row vs i w cur hh (by omega)
  refine ⟨cur', h1, by omega, hm, by omega, by rw [List.length_take]; omega, ?_⟩
  rw [h3, List.append_assoc, List.take_append_of_le_length (by rw [List.length_take, Array.length_toList]; omega), List.take_take, ← ht, List.take_take, Nat.min_self, Nat.min_eq_left hi]
theorem grown_setCells (w : World) (g o : Nat) (vs : List Value) : w.grownBy (w.setCells g o vs) (some g) := by
  obtain ⟨h1, h2, h3, h4⟩ := setCells_same g vs o w
  exact ⟨h1, h2, h3, by omega, fun k hk hne => setCells_far vs o k (fun e => hne (by rw [e]))⟩
end Go.Proofs.He
end
section
set_option linter.unusedVariables false
set_option linter.unusedSimpArgs false
namespace Go.Proofs.He
def goesTo (g : List (List Int)) (a b : Int) : Prop := 0 ≤ a ∧ b ∈ g.getD a.toNat [] ∧ 0 ≤ b ∧ b < a
inductive Rch (g : List (List Int)) (l : List Int) : Int → Prop
  | base {x : Int} : x ∈ l → 0 ≤ x → x < g.length → Rch g l x
  | step {a b : Int} : Rch g l a → goesTo g a b → Rch g l b
theorem Rch.valid {g : List (List Int)} {l : List Int} {x : Int} (h : Rch g l x) : 0 ≤ x ∧ x < g.length := by
  induction h with
  | base _ h1 h2 => exact ⟨h1, h2⟩
  | step _ h ih => exact ⟨h.2.2.1, by have := h.2.2.2; omega⟩
def okN (g : List (List Int)) (x : Int) : Bool := decide (0 ≤ x) && decide (x < g.length)
theorem okN_iff {g : List (List Int)} {x : Int} : okN g x = true ↔ 0 ≤ x ∧ x < g.length := by simp [okN]
def down (g : List (List Int)) : Nat → List Int → List Int
  | 0, S => S
  | n + 1, S => down g n (if (n : Int) ∈ S then S ++ (g.getD n []).filter (fun b => decide (0 ≤ b) && decide (b < (n : Int))) else S)
theorem down_sub (g : List (List Int)) : ∀ (n : Nat) (S : List Int) (x : Int), x ∈ S → x ∈ down g n S
  | 0, _, _, h => h
  | n + 1, S, x, h => down_sub g n _ x (by split; exact List.mem_append_left _ h; exact h)
theorem down_high (g : List (List Int)) : ∀ (n : Nat) (S : List Int) (x : Int), x ∈ down g n S → (n : Int) ≤ x → x ∈ S
  | 0, _, _, h, _ => h
  | n + 1, S, x, h, hx => by
    have := down_high g n _ x h (by omega)
    split at this
    · rcases List.mem_append.1 this with h | h
      · exact h
      · have := (List.mem_filter.1 h).2; simp at this; omega
    · exact this
theorem down_closed (g : List (List Int)) : ∀ (n : Nat) (S : List Int) (a b : Int), a ∈ down g n S → a < n → goesTo g a b → b ∈ down g n S
  | 0, _, _, _, _, h, h' => by have := h'.1; omega
  | n + 1, S, a, b, ha, hn, h => by
    by_cases e : a = n
    · subst e
      have h1 := down_high g n _ _ ha (by omega)
      have h2 : (n : Int) ∈ S := by
        split at h1
        · assumption
        · exact h1
      refine down_sub g n _ b ?_
      rw [if_pos h2]
      have h3 := h.2.1
      rw [Int.toNat_natCast] at h3
      exact List.mem_append_right _ (List.mem_filter.2 ⟨h3, by simp [h.2.2.1, h.2.2.2]⟩)
    · exact down_closed g n _ a b ha (by omega) h
theorem down_sound (g : List (List Int)) (l : List Int) : ∀ (n : Nat) (S : List Int), (∀ x ∈ S, Rch g l x) → ∀ x ∈ down g n S, Rch g l x
  | 0, _, h => h
  | n + 1, S, h => down_sound g l n _ (fun x hx => by
    split at hx
    · rcases List.mem_append.1 hx with hx | hx
      · exact h x hx
      · obtain ⟨h1, h2⟩ := List.mem_filter.1 hx
        simp at h2
        exact .step (h n ‹_›) ⟨by omega, by rw [Int.toNat_natCast]; exact h1, h2.1, h2.2⟩
    · exact h x hx)
def rchB (g : List (List Int)) (l : List Int) (x : Int) : Bool := decide (x ∈ down g g.length (l.filter (okN g)))
theorem rchB_iff {g : List (List Int)} {l : List Int} {x : Int} : rchB g l x = true ↔ Rch g l x := by
  unfold rchB
  rw [decide_eq_true_eq]
  constructor
  · exact down_sound g l _ _ (fun x hx => by
      obtain ⟨h1, h2⟩ := List.mem_filter.1 hx
      obtain ⟨h3, h4⟩ := okN_iff.1 h2
      exact .base h1 h3 h4) x
  · intro h
    induction h with
    | base h1 h2 h3 => exact down_sub _ _ _ _ (List.mem_filter.2 ⟨h1, okN_iff.2 ⟨h2, h3⟩⟩)
    | step h1 h2 ih => exact down_closed g _ _ _ _ ih h1.valid.2 h2
def pickL (g : List (List Int)) (p : Int → Bool) : List Int := ((List.range g.length).map Int.ofNat).filter p
theorem mem_pickL {g : List (List Int)} {p : Int → Bool} {x : Int} : x ∈ pickL g p ↔ (0 ≤ x ∧ x < g.length) ∧ p x = true := by
  unfold pickL
  rw [List.mem_filter, List.mem_map]
  constructor
  · rintro ⟨⟨n, h1, rfl⟩, h2⟩
    have := List.mem_range.1 h1
    exact ⟨⟨Int.natCast_nonneg n, by show (n : Int) < _; omega⟩, h2⟩
  · rintro ⟨⟨h1, h2⟩, h3⟩
    exact ⟨⟨x.toNat, List.mem_range.2 (by omega), by show (x.toNat : Int) = x; omega⟩, h3⟩
theorem pickL_rises (g : List (List Int)) (p : Int → Bool) : (pickL g p).Pairwise (· < ·) := by
  refine List.Pairwise.filter _ ?_
  rw [List.pairwise_map]
  exact List.pairwise_lt_range.imp (fun h => by show (_ : Int) < _; exact Int.ofNat_lt.2 h)
theorem rises_eq : ∀ {l l' : List Int}, l.Pairwise (· < ·) → l'.Pairwise (· < ·) → (∀ x, x ∈ l ↔ x ∈ l') → l = l'
  | [], [], _, _, _ => rfl
  | [], y :: l', _, _, h => absurd ((h y).2 (List.mem_cons_self ..)) (by simp)
  | x :: l, [], _, _, h => absurd ((h x).1 (List.mem_cons_self ..)) (by simp)
  | x :: l, y :: l', h1, h2, h => by
    obtain ⟨a1, a2⟩ := List.pairwise_cons.1 h1
    obtain ⟨b1, b2⟩ := List.pairwise_cons.1 h2
    have e : x = y := by
      rcases List.mem_cons.1 ((h x).1 (List.mem_cons_self ..)) with e | hx
      · exact e
      · rcases List.mem_cons.1 ((h y).2 (List.mem_cons_self ..)) with e | hy
        · exact e.symm
        · have := b1 x hx; have := a1 y hy; omega
    subst e
    rw [rises_eq a2 b2 (fun z => ?_)]
    constructor
    · intro hz
      rcases List.mem_cons.1 ((h z).1 (List.mem_cons_of_mem _ hz)) with e | hz'
      · have := a1 z hz; omega
      · exact hz'
    · intro hz
      rcases List.mem_cons.1 ((h z).2 (List.mem_cons_of_mem _ hz)) with e | hz'
      · have := b1 z hz; omega
      · exact hz'
theorem sort_rises {l : List Int} (h : l.Nodup) : (l.mergeSort fun x y => decide (x ≤ y)).Pairwise (· < ·) := by
  have h1 := List.pairwise_mergeSort (le := fun x y : Int => decide (x ≤ y)) (fun a b c => by simp; omega) (fun a b => by simp; omega) l
  have h2 : (l.mergeSort fun x y => decide (x ≤ y)).Nodup := (List.mergeSort_perm l _).nodup_iff.2 h
  exact (h1.and h2).imp (fun ⟨a, b⟩ => by simp at a; omega)
def rchL (g : List (List Int)) (l : List Int) : List Int := pickL g (rchB g l)
theorem mem_rchL {g : List (List Int)} {l : List Int} {x : Int} : x ∈ rchL g l ↔ Rch g l x := by
  unfold rchL
  rw [mem_pickL, rchB_iff]
  exact ⟨fun h => h.2, fun h => ⟨h.valid, h⟩⟩
end Go.Proofs.He
end
section
set_option linter.unusedVariables false
set_option linter.unusedSimpArgs false
namespace Go.Proofs.He
open Go.RowKit
theorem wrap_sm {i : Int} (h0 : -9223372036854775808 ≤ i) (h : i ≤ 9223372036854775807) : wrap64 i = i := by unfold wrap64; omega
def seg (i d : Nat) : List Int := (List.range' i d).map Int.ofNat
theorem seg_succ (i d : Nat) : seg i (d + 1) = (i : Int) :: seg (i + 1) d := by simp [seg, List.range'_succ]
theorem seg_zero (i : Nat) : seg i 0 = [] := rfl
theorem pickL_seg (g : List (List Int)) (p : Int → Bool) : pickL g p = (seg 0 g.length).filter p := by
  unfold pickL seg; rw [List.range_eq_range']
theorem Rch.mono {g : List (List Int)} {l l' : List Int} (hs : ∀ x ∈ l, 0 ≤ x → x < g.length → Rch g l' x) {x : Int} (h : Rch g l x) : Rch g l' x := by
  induction h with
  | base h1 h2 h3 => exact hs _ h1 h2 h3
  | step h1 h2 ih => exact .step ih h2
end Go.Proofs.He
end
section
set_option linter.unusedVariables false
set_option linter.unusedSimpArgs false
set_option linter.unusedSectionVars false
namespace Go.Proofs.He
open Go Go.RowKit Go.Sort Go.Lib Go.Proofs.YtmmalieacakcbaaW.PrintWords
def RowK (w : World) (e sz g n cap : Nat) (xs : List Value) : Prop := ∃ cur, w.heap[g]? = some (.cells cur e (0, 0)) ∧ n ≤ cap ∧ cap ≤ maxLen ∧ cur.size = cap * sz ∧ xs.length = n * sz ∧ cur.toList.take (n * sz) = xs
section
variable {e base sz g n cap : Nat} {w w1 : World} {xs : List Value}
theorem RowK.of (h : w.ownsRow base e sz (.slice (some ⟨g, 0, none⟩) n cap) n xs) : RowK w e sz g n cap xs ∧ base ≤ g := by
  obtain ⟨hl, h⟩ := h
  rcases h with ⟨h, _⟩ | ⟨g', cap', cur, hv, hb, hh, hc, hm, hs, ht⟩
  · cases h
  · injection hv with ha hn hc'
    injection ha with ha
    injection ha with ha
    subst ha; subst hc'
    exact ⟨⟨cur, hh, hc, hm, hs, hl, ht⟩, hb⟩
theorem RowK.put (h : RowK w e sz g n cap xs) (hb : base ≤ g) : w.ownsRow base e sz (.slice (some ⟨g, 0, none⟩) n cap) n xs := by
  obtain ⟨cur, hh, hc, hm, hs, hl, ht⟩ := h
  exact ⟨hl, .inr ⟨g, cap, cur, rfl, hb, hh, hc, hm, hs, ht⟩⟩
theorem RowK.lt (h : RowK w e sz g n cap xs) : g < w.heap.size := by obtain ⟨cur, hh, _⟩ := h; exact (Array.getElem?_eq_some_iff.1 hh).1
theorem RowK.room (h : RowK w e sz g n cap xs) : n ≤ cap := by obtain ⟨_, _, h, _⟩ := h; exact h
theorem RowK.at (h : RowK w e sz g n cap xs) (j : Nat) (hj : j < n * sz) : (w.cell? ⟨g, j, none⟩).isSome = true ∧ w.frozen? ⟨g, j, none⟩ = false ∧ w.cell? ⟨g, j, none⟩ = xs[j]? := by
  obtain ⟨cur, hh, hc, hm, hs, hl, ht⟩ := h
  have hget : cur[j]? = xs[j]? := by
    rw [← Array.getElem?_toList, ← List.getElem?_take_of_lt hj, ht]
  have hx : xs[j]? = some xs[j] := List.getElem?_eq_getElem (by omega)
  rw [hx] at hget
  refine ⟨?_, ?_, ?_⟩
  · simp [World.cell?, hh, hget]
  · simp [World.frozen?, hh]
  · simp [World.cell?, hh, hget, hx]
theorem RowK.move (h : RowK w e sz g n cap xs) (hb : w1.heap[g]? = w.heap[g]?) : RowK w1 e sz g n cap xs := by
  obtain ⟨cur, hh, r⟩ := h; exact ⟨cur, by rw [hb, hh], r⟩
theorem RowK.strike (h : RowK w e sz g n cap xs) (i : Nat) (hi : i ≤ n) (vs : List Value) (hv : vs.length = (n - i) * sz) : RowK (w.setCells g (i * sz) vs) e sz g i cap (xs.take (i * sz)) := by
  obtain ⟨cur, hh, hc, hm, hs, hl, ht⟩ := h
  have h1 : i * sz ≤ n * sz := Nat.mul_le_mul_right _ hi
  have h2 : n * sz ≤ cap * sz := Nat.mul_le_mul_right _ hc
  have h3 : i * sz + (n - i) * sz = n * sz := by rw [← Nat.add_mul]; congr 1; omega
  obtain ⟨cur', g1, g2, g3⟩ := setCells_row vs (i * sz) w cur hh (by omega)
  refine ⟨cur', g1, by omega, hm, by omega, by rw [List.length_take]; omega, ?_⟩
  rw [g3, List.append_assoc, List.take_append_of_le_length (by rw [List.length_take, Array.length_toList]; omega), List.take_take, ← ht, List.take_take, Nat.min_self, Nat.min_eq_left h1]
end
theorem mem_zeroCells {zc : Array Value} {n : Nat} {u : Value} (h : u ∈ (Builtin.zeroCells zc n).toList) : u ∈ zc.toList := by
  simp only [Builtin.zeroCells, Array.toList_map, List.mem_map, Array.toList_range, List.mem_range] at h
  obtain ⟨i, hi, rfl⟩ := h
  have hp : 0 < zc.size := by
    rcases Nat.eq_zero_or_pos zc.size with h0 | h0
    · rw [h0] at hi; omega
    · exact h0
  rw [getElem!_pos zc (i % zc.size) (Nat.mod_lt _ hp)]
  exact Array.getElem_mem_toList _
theorem run_clear_rows {P : Program} (w : World) (t e ty : TypeId) (z : Value) (ht : P.underlying t = some (.slice e)) (hv : ∀ w, (zeroValue e).run P w = .ok z w) (h1 : ∀ u ∈ z.cells.toList, u.oneCell' = true) (b o n c : Nat) (hn : 0 < n)
    (hc : ∀ j, j < n * z.cells.size → (w.cell? ⟨b, o + j, none⟩).isSome = true) (hf : ∀ j, j < n * z.cells.size → w.frozen? ⟨b, o + j, none⟩ = false) :
    (Builtin.clear_ #[t] ty #[.slice (some ⟨b, o, none⟩) n c]).run P w = .ok (.tuple #[]) (w.setCells b o (Builtin.zeroCells z.cells n).toList) := by
  have hl : (Builtin.zeroCells z.cells n).toList.length = n * z.cells.size := by rw [Array.length_toList, size_zeroCells]
  have hst := run_storeCells_cells (P := P) b o (Builtin.zeroCells z.cells n).toList 0 w (by rw [hl]; simpa using hc) (by rw [hl]; simpa using hf) (fun v hv' => h1 v (mem_zeroCells hv'))
  simp only [Nat.add_zero] at hst
  obtain ⟨m, rfl⟩ : ∃ m, n = m + 1 := ⟨n - 1, by omega⟩
  simp [Builtin.clear_, run_underlying ht, hv, hst]
theorem at_rows {α : Type} {κ : Kd α} {w : World} {e : Nat} {A : Option Addr} {n : Nat} {xs : List (List α)} (h : Kd.C (Kd.slice e κ) w A n xs) (i : Int) (h0 : 0 ≤ i) (h1 : i < n) :
    ∃ ad A0 c0, A = some ad ∧ w.cell? (ad.add i.toNat) = some (.slice A0 (xs.getD i.toNat []).length c0) ∧ (xs.getD i.toNat []).length ≤ c0 ∧ κ.C w A0 (xs.getD i.toNat []).length (xs.getD i.toNat []) := by
  obtain ⟨ad, c, e, _, hK, hc0⟩ := Kd.C_get h ([] : List α) i h0 h1
  have hc : ∀ j u, c[j]? = some u → w.cell? (ad.add (i.toNat * 1 + j)) = some u := hc0
  obtain ⟨A0, c0, rfl, l0, g0⟩ := hK
  exact ⟨ad, A0, c0, e, by have hq := hc 0 _ rfl; rwa [Nat.mul_one, Nat.add_zero] at hq, l0, g0⟩
theorem mem_rows {α : Type} {xs : List (List α)} {i : Nat} {z : α} (h : z ∈ xs.getD i []) : z ∈ xs.flatten := by
  rw [List.getD_eq_getElem?_getD] at h
  by_cases hn : i < xs.length
  · rw [List.getElem?_eq_getElem hn, Option.getD_some] at h
    exact List.mem_flatten.2 ⟨_, List.getElem_mem hn, h⟩
  · rw [List.getElem?_eq_none (by omega)] at h; cases h
def readTo {α : Type} (xs : List (List α)) (i j : Nat) : List α := (xs.take i).flatten ++ (xs.getD i []).take j
theorem readTo_zero {α : Type} (xs : List (List α)) (i : Nat) : readTo xs i 0 = (xs.take i).flatten := by simp [readTo]
theorem readTo_row {α : Type} {xs : List (List α)} {i : Nat} (hi : i < xs.length) : readTo xs i (xs.getD i []).length = (xs.take (i + 1)).flatten := by
  unfold readTo
  rw [List.take_length, List.take_succ_eq_append_getElem hi, List.flatten_append]
  simp [List.getD_eq_getElem?_getD, List.getElem?_eq_getElem hi]
theorem readTo_succ {α : Type} {xs : List (List α)} {i j : Nat} (hj : j < (xs.getD i []).length) : readTo xs i (j + 1) = readTo xs i j ++ [(xs.getD i [])[j]] := by
  unfold readTo
  rw [List.take_succ_eq_append_getElem hj, List.append_assoc]
theorem readTo_length {α : Type} {xs : List (List α)} (i j : Nat) : (readTo xs i j).length ≤ xs.flatten.length := by
  unfold readTo
  by_cases hi : i < xs.length
  · have h : xs = xs.take i ++ xs[i] :: xs.drop (i + 1) := by rw [← List.drop_eq_getElem_cons hi, List.take_append_drop]
    have h2 : xs.flatten = (xs.take i).flatten ++ (xs[i] ++ (xs.drop (i + 1)).flatten) := by
      conv => lhs; rw [h]
      rw [List.flatten_append, List.flatten_cons]
    rw [h2]
    simp only [List.length_append, List.length_take, List.getD_eq_getElem?_getD, List.getElem?_eq_getElem hi, Option.getD_some]
    omega
  · rw [List.getD_eq_getElem?_getD, List.getElem?_eq_none (by omega), List.take_of_length_le (by omega)]
    simp
theorem C_lit_rows {α : Type} {κ : Kd α} {W : World} {e g : Nat} {t : TypeId} (R : List (Option Addr × Nat × List α)) (hg : W.heap[g]? = some (.cells (R.map fun q => Value.slice q.1 q.2.2.length q.2.1).toArray t (0, 0)))
    (hR : ∀ q ∈ R, q.2.2.length ≤ q.2.1 ∧ κ.C W q.1 q.2.2.length q.2.2) (hm : R.length ≤ 9223372036854775807) : Kd.C (Kd.slice e κ) W (some ⟨g, 0, none⟩) (R.map (·.2.2)).length (R.map (·.2.2)) := by
  refine ⟨rfl, by simpa using hm, fun _ => ⟨_, rfl, fun j p hp => ?_⟩⟩
  rw [List.getElem?_map] at hp
  obtain ⟨q, hq, rfl⟩ := Option.map_eq_some_iff.1 hp
  obtain ⟨h1, h2⟩ := hR q (List.mem_of_getElem? hq)
  refine ⟨[.slice q.1 q.2.2.length q.2.1], rfl, ⟨q.1, q.2.1, rfl, h1, h2⟩, fun i u hu => ?_⟩
  have hi : i = 0 := by
    have := (List.getElem?_eq_some_iff.1 hu).1
    simpa using this
  subst hi
  have hj := (List.getElem?_eq_some_iff.1 hq).1
  have hq2 : R[j] = q := (List.getElem?_eq_some_iff.1 hq).2
  show W.cell? ((⟨g, 0, none⟩ : Addr).add (j * 1 + 0)) = some u
  rw [add_plain, blk_cell hg]
  simp at hu
  subst hu
  simp [hj, hq2]
end Go.Proofs.He
end
section
set_option linter.unusedVariables false
set_option linter.unusedSimpArgs false
set_option linter.unusedSectionVars false
namespace Go.Proofs.He
open Go Go.RowKit Go.Maps Go.ChangeMaps Go.Proofs.YtmmalieacakcbaaW.PrintWords
section
variable {P : Program} {k : TypeId} {α β : Type} [DecidableEq α] {κ : KK P k α} {ν : VK β} {M : List (α × β)} {w w1 w2 : World} {b : Nat}
structure Cnt {e : TypeId} (κ : KK P k α) (he : P.underlying e = some (.int .i64)) (w : World) (b : Nat) (xs : List α) (M : List (α × Int)) : Prop where
  own : Own κ (intV he) w b M
  mem : ∀ x, x ∈ M.map (·.1) ↔ x ∈ xs
  val : ∀ p ∈ M, p.2 = (xs.count p.1 : Int)
variable {e : TypeId} {he : P.underlying e = some (.int .i64)} {xs : List α} {C : List (α × Int)}
theorem Cnt.nil (κ : KK P k α) (he : P.underlying e = some (.int .i64)) (w : World) : Cnt κ he (w.alloc (.map #[] 0)) w.heap.size ([] : List α) [] := ⟨Own.made _ _ _, by simp, by simp⟩
theorem Cnt.get (h : Cnt κ he w b xs C) (x : α) : getM C x 0 = (xs.count x : Int) := by
  by_cases hx : x ∈ C.map (·.1)
  · obtain ⟨p, hp, rfl⟩ := List.mem_map.1 hx
    rw [getM_mem h.own.nodup (x := p.1) (y := p.2) hp, h.val p hp]
  · rw [getM_not hx, List.count_eq_zero_of_not_mem (fun hm => hx ((h.mem x).2 hm))]; rfl
theorem Cnt.len (h : Cnt κ he w b xs C) : C.length ≤ xs.length := by
  have := h.own.nodup.length_le_of_subset (l₂ := xs) (fun z hz => (h.mem z).1 hz)
  simpa using this
theorem Cnt.put (h : Cnt κ he w b xs C) (x : α) (ho : Own κ (intV he) w1 b (putM C x ((xs.count x : Int) + 1))) : Cnt κ he w1 b (xs ++ [x]) (putM C x ((xs.count x : Int) + 1)) where
  own := ho
  mem z := by rw [keys_putM, h.mem, List.mem_append, List.mem_singleton]; exact Or.comm
  val p hp := by
    rcases List.mem_cons.1 hp with rfl | hp
    · simp [List.count_append]
    · obtain ⟨h1, h2⟩ := mem_delM.1 hp
      rw [h.val p h1, List.count_append, List.count_singleton]
      rw [if_neg (by simpa using fun e => h2 e.symm)]; simp
theorem Cnt.move (h : Cnt κ he w b xs C) (hm : w1.heap[b]? = w.heap[b]?) : Cnt κ he w1 b xs C := ⟨h.own.move hm, h.mem, h.val⟩
theorem Cnt.below (h : Cnt κ he w b xs C) (hb : Below w.heap.size w w1) : Cnt κ he w1 b xs C := h.move (hb.block b h.own.lt)
theorem Cnt.grown (h : Cnt κ he w b xs C) {row : Option Nat} (hg : w.grownBy w1 row) (hne : some b ≠ row) : Cnt κ he w1 b xs C := h.move (hg.block b h.own.lt hne)
theorem run_mget (κ : KK P k α) (ν : VK β) {t e : TypeId} (ht : P.underlying t = some (.map k e)) (y0 : β) (hy0 : ν.ok y0) (hz : (zeroValue e).run P w = .ok (ν.val y0) w) (hown : Own κ ν w b M) (kx : α) (hkx : κ.ok kx) :
    (Instr.lookup t (.map (some b)) (κ.val kx) false).run P w = .ok (ν.val (getM M kx y0)) w := by
  obtain ⟨D, ho, hS⟩ := hown
  obtain ⟨v, ps, hrun, hv⟩ := ho.lookup κ.K ht hz (ν.of hy0) (κ.of hkx)
  obtain ⟨y, _, rfl, hy⟩ := ν.inv hv
  have : y = getM M kx y0 := by
    injection hy with hy _
    refine ν.inj (hy.symm.trans ?_)
    by_cases h : kx ∈ M.map (·.1)
    · obtain ⟨p, hp, rfl⟩ := List.mem_map.1 h
      rw [hS.at_ p hp, getM_mem hS.nodup (x := p.1) (y := p.2) hp]
    · rw [atKey_of_not_has (by rw [hS.has]; exact decide_eq_false h), getM_not h]
  subst this
  exact hrun
theorem run_mput (κ : KK P k α) (ν : VK β) {t e : TypeId} (ht : P.underlying t = some (.map k e)) (hown : Own κ ν w b M) (hn : M.length < maxLen) (kx : α) (y : β) (hkx : κ.ok kx) (hy : ν.ok y) :
    ∃ w', (Instr.mapUpdate t (.map (some b)) (κ.val kx) (ν.val y)).run P w = .ok () w' ∧ Own κ ν w' b (putM M kx y) ∧ w.grownBy w' (some b) := by
  obtain ⟨D, ho, hS⟩ := hown
  obtain ⟨w', h1, h2, h3⟩ := ho.update κ.K ht hn (κ.of hkx) (ν.of hy)
  exact ⟨w', h1, Own.of h2 (hS.put ho.isMap hkx hy), h3⟩
end
theorem wpList_cget {P : Program} {k e t : TypeId} {α : Type} [DecidableEq α] {κ : KK P k α} {he : P.underlying e = some (.int .i64)} {xs : List α} {C : List (α × Int)} {w : World} {b : Nat} {ops : Array Oper} {rest : List Oper} {o : Oper} {a : Act} {Q : Exit → Act → World → Prop}
    (hg : o.guard = none) (m x : Operand) (hop : o.op = Op.lookup t m x false) (ht : P.underlying t = some (.map k e)) (hz : (zeroValue e).run P w = .ok (.int .i64 0) w)
    (hm : a.eval m = .map (some b)) (h : Cnt κ he w b xs C) (kx : α) (hx : a.eval x = κ.val kx) (hkx : κ.ok kx) (n : Int) (hn : (xs.count kx : Int) = n)
    (hK : wpList P ops Q rest (a.put o.dst (.int .i64 n)) w) : wpList P ops Q (o :: rest) a w := by
  refine wpList_mget hg m x t hop κ (intV he) e ht 0 rfl hz b C hm h.own kx hx hkx ?_
  rw [h.get kx, hn]; exact hK
section
variable {P : Program} {k : TypeId} {α β : Type} [DecidableEq α] {κ : KK P k α} {ν : VK β} {M : List (α × β)} {w w1 w2 : World} {b : Nat}
theorem setBlock_twice (w : World) (b : Nat) (x y : Obj) : setBlock (setBlock w b x) b y = setBlock w b y := by
  simp [setBlock]
theorem getM_put (M : List (α × β)) (x : α) (y y0 : β) : getM (putM M x y) x y0 = y := by simp [getM, putM, List.find?_cons]
theorem run_entry1 {R : Value → Option (DataW Unit × List MemPlace)} {t e : TypeId} {es : Array MapEntry} {clock : Nat} (K : Keyed P k) (ht : P.underlying t = some (.map k e)) {z : Value} (hz : ∀ u : World, (zeroValue e).run P u = .ok z u) (hb : w.heap[b]? = some (.map es clock)) (F : WideElems.Fit P k R es clock) {key : Value} {kl : Lit} (hkey : keyOf P k key = some kl) :
    ∃ v0 st w1, (Instr.mapEntry t (.map (some b)) key).run P w = .ok (.tuple #[v0, goInt st]) w1 ∧ (Instr.mapUpdate t (.map (some b)) key v0).run P w = .ok () w1 ∧ (Instr.lookup t (.map (some b)) key false).run P w = .ok v0 w := by
  rcases K.find w hkey es.toList F.keys with ⟨h1, h2⟩ | ⟨j, e0, h1, h2, h3⟩
  · refine ⟨z, clock, setBlock w b (.map (es.push ⟨key, z, clock⟩) (clock + 1)), ?_, ?_, ?_⟩
    · simp [Instr.mapEntry, run_underlying ht, MapKept.run_getObj_map hb, K.check w false hkey, h1, hz, MapKept.run_setObj_map _ hb, Result.andThen, setBlock]
    · simp [Instr.mapUpdate, run_underlying ht, MapKept.run_getObj_map hb, K.check w false hkey, h1, MapKept.run_setObj_map _ hb, Result.andThen, setBlock]
    · simp [Instr.lookup, run_underlying ht, MapKept.run_getObj_map hb, K.check w es.isEmpty hkey, h1, hz, Result.andThen]
  · have hj : es[j]? = some e0 := by simpa using h2
    have hs : es.modify j (fun e' => { e' with key := key, val := e0.val }) = es.modify j (fun e' => { e' with key := key }) := by
      apply Array.ext
      · simp
      · intro i hi1 hi2
        simp only [Array.getElem_modify]
        split
        · rename_i e1
          subst e1
          have : es[j]'(by simpa using hi1) = e0 := by
            have := Array.getElem?_eq_getElem (xs := es) (i := j) (by simpa using hi1)
            rw [hj] at this; exact (Option.some.inj this).symm
          rw [this]
        · rfl
    refine ⟨e0.val, e0.born, setBlock w b (.map (es.modify j (fun e' => { e' with key := key })) clock), ?_, ?_, ?_⟩
    · simp [Instr.mapEntry, run_underlying ht, MapKept.run_getObj_map hb, K.check w false hkey, h1, hj, h3, K.stays w hkey, MapKept.run_setObj_map _ hb, Result.andThen, setBlock]
    · rw [← hs]
      simp [Instr.mapUpdate, run_underlying ht, MapKept.run_getObj_map hb, K.check w false hkey, h1, hj, h3, K.stays w hkey, MapKept.run_setObj_map _ hb, Result.andThen, setBlock]
    · simp [Instr.lookup, run_underlying ht, MapKept.run_getObj_map hb, K.check w es.isEmpty hkey, h1, hz, Result.andThen]
theorem Own.entry {t e : TypeId} (κ : KK P k α) (ν : VK β) (KL : WideMaps.KeyLaw P k) (ht : P.underlying t = some (.map k e)) (y0 : β) (hy0 : ν.ok y0) (hz : ∀ u : World, (zeroValue e).run P u = .ok (ν.val y0) u) (hown : Own κ ν w b M) (hn : M.length < maxLen) (kx : α) (hkx : κ.ok kx) :
    ∃ st w1, (Instr.mapEntry t (.map (some b)) (κ.val kx)).run P w = .ok (.tuple #[ν.val (getM M kx y0), goInt st]) w1 ∧ (Instr.lookup t (.map (some b)) (κ.val kx) false).run P w1 = .ok (ν.val (getM M kx y0)) w1 ∧
      ∀ y, ν.ok y → ∃ w2, (Instr.entryStore t (.map (some b)) (goInt st) (ν.val y)).run P w1 = .ok () w2 ∧ Own κ ν w2 b (putM M kx y) ∧ w.grownBy w2 (some b) := by
  have hown' := hown
  obtain ⟨D, ⟨es, clock, hb, F, hs, hD⟩, hS⟩ := hown
  have hg := run_mget κ ν ht y0 hy0 (hz w) hown' kx hkx
  obtain ⟨v0, st, es1, clock1, h1, _, h3⟩ := WideElems.entry_then_store KL ht hz hb F (κ.of hkx)
  obtain ⟨v0', st', w1', g1, g2, g3⟩ := run_entry1 κ.K ht hz hb F (κ.of hkx)
  rw [g1] at h1
  injection h1 with h1 h1'
  injection h1 with h1
  have hv : v0' = v0 ∧ goInt st' = goInt st := by simpa using h1
  obtain ⟨rfl, hst⟩ := hv
  rw [hg] at g3
  injection g3 with g3 _
  subst g3
  have hyk : ν.ok (getM M kx y0) := by
    by_cases hx : kx ∈ M.map (·.1)
    · obtain ⟨p, hp, rfl⟩ := List.mem_map.1 hx
      rw [getM_mem hS.nodup (x := p.1) (y := p.2) hp]; exact hS.okv p hp
    · rw [getM_not hx]; exact hy0
  obtain ⟨w', u1, u2, _⟩ := run_mput κ ν ht hown' hn kx (getM M kx y0) hkx hyk
  rw [g2] at u1
  injection u1 with _ u1
  subst u1
  refine ⟨st, w1', by rw [g1, hst], ?_, fun y hy => ?_⟩
  · have := run_mget κ ν ht y0 hy0 (hz _) u2 kx hkx
    rw [getM_put] at this; exact this
  · obtain ⟨es', clock', a1, a2⟩ := h3 w1' (ν.val y) (by rw [h1']; exact heap_setBlock_same hb _)
    obtain ⟨w2, b1, b2, b3⟩ := run_mput κ ν ht hown' hn kx y hkx hy
    rw [a2] at b1
    injection b1 with _ b1
    subst b1
    refine ⟨_, a1, ?_, ?_⟩
    · rw [h1', setBlock_twice]; exact b2
    · rw [h1', setBlock_twice]; exact b3
end
theorem Cnt.entry {P : Program} {k e t : TypeId} {α : Type} [DecidableEq α] {κ : KK P k α} {he : P.underlying e = some (.int .i64)} {xs : List α} {C : List (α × Int)} {w : World} {b : Nat} (h : Cnt κ he w b xs C) (KL : WideMaps.KeyLaw P k) (ht : P.underlying t = some (.map k e))
    (hz : ∀ u : World, (zeroValue e).run P u = .ok (.int .i64 0) u) (hc : C.length < maxLen) (kx : α) (hkx : κ.ok kx) (v : Value) (hv : κ.val kx = v) (n : Int) (hn : (xs.count kx : Int) = n) (hw : (Lit.int .i64 (n + 1)).wf = true) :
    ∃ st w1 w2, (Instr.lookup t (.map (some b)) v false).run P w = .ok (.int .i64 n) w ∧ (Instr.mapEntry t (.map (some b)) v).run P w = .ok (.tuple #[.int .i64 n, .int .i64 st]) w1 ∧ (Instr.lookup t (.map (some b)) v false).run P w1 = .ok (.int .i64 n) w1 ∧
      (Instr.entryStore t (.map (some b)) (.int .i64 st) (.int .i64 (n + 1))).run P w1 = .ok () w2 ∧ (∃ C', Cnt κ he w2 b (xs ++ [kx]) C') ∧ w.grownBy w2 (some b) := by
  subst hv
  have hg := run_mget κ (intV he) ht 0 rfl (hz w) h.own kx hkx
  obtain ⟨st, w1, h1, h2, h3⟩ := Own.entry κ (intV he) KL ht 0 rfl hz h.own hc kx hkx
  rw [h.get kx, hn] at hg h1 h2
  obtain ⟨w2, h4, h5, h6⟩ := h3 (n + 1) hw
  exact ⟨st, w1, w2, hg, h1, h2, h4, ⟨_, h.put kx (by rw [hn]; exact h5)⟩, h6⟩
theorem compactUpTo_rise (d : Array Int) (hs : ∀ i j, i ≤ j → j < d.size → d[i]! ≤ d[j]!) : ∀ (m : Nat), m ≤ d.size → (Lib.compactUpTo d m).Pairwise (· < ·) ∧ (∀ x, x ∈ Lib.compactUpTo d m ↔ ∃ j, j < m ∧ d[j]! = x)
  | 0, _ => by simp [Lib.compactUpTo]
  | m + 1, hm => by
    obtain ⟨h1, h2⟩ := compactUpTo_rise d hs m (by omega)
    rw [Lib.compactUpTo_succ]
    cases hk : Lib.keeps d m with
    | true =>
      rw [if_pos rfl]
      have hne : m = 0 ∨ d[m]! ≠ d[m - 1]! := by simpa [Lib.keeps] using hk
      refine ⟨List.pairwise_append.2 ⟨h1, by simp, fun a ha b hb => ?_⟩, fun x => ?_⟩
      · rw [List.mem_singleton.1 hb]
        obtain ⟨j, hj, rfl⟩ := (h2 a).1 ha
        have e1 := hs j (m - 1) (by omega) (by omega)
        have e2 := hs (m - 1) m (by omega) (by omega)
        rcases hne with h | h <;> omega
      · rw [List.mem_append, List.mem_singleton, h2]
        constructor
        · rintro (⟨j, hj, rfl⟩ | rfl)
          · exact ⟨j, by omega, rfl⟩
          · exact ⟨m, by omega, rfl⟩
        · rintro ⟨j, hj, rfl⟩
          by_cases e : j = m
          · subst e; exact .inr rfl
          · exact .inl ⟨j, by omega, rfl⟩
    | false =>
      have hne : m ≠ 0 ∧ d[m]! = d[m - 1]! := by simpa [Lib.keeps] using hk
      rw [if_neg (by simp), List.append_nil]
      refine ⟨h1, fun x => ?_⟩
      rw [h2]
      constructor
      · rintro ⟨j, hj, rfl⟩; exact ⟨j, by omega, rfl⟩
      · rintro ⟨j, hj, rfl⟩
        by_cases e : j = m
        · subst e; exact ⟨j - 1, by omega, hne.2.symm⟩
        · exact ⟨j, by omega, rfl⟩
def riseL (l : List Int) : List Int := Lib.compact (l.mergeSort fun x y => decide (x ≤ y))
theorem riseL_spec (l : List Int) : (riseL l).Pairwise (· < ·) ∧ ∀ x, x ∈ riseL l ↔ x ∈ l := by
  unfold riseL Lib.compact
  obtain ⟨s, hs⟩ : ∃ s, s = l.mergeSort fun x y => decide (x ≤ y) := ⟨_, rfl⟩
  rw [← hs]
  have hp : s.Pairwise (fun x y => x ≤ y) := by
    have := List.pairwise_mergeSort (le := fun x y : Int => decide (x ≤ y)) (fun a b c h1 h2 => by simp at *; omega) (fun a b => by simp; omega) l
    rw [← hs] at this
    exact this.imp (fun h => by simpa using h)
  have hmem : ∀ x, x ∈ s ↔ x ∈ l := fun x => by rw [hs, (List.mergeSort_perm _ _).mem_iff]
  have hat : ∀ j, (h : j < s.length) → s.toArray[j]! = s[j] := fun j h => by rw [getElem!_pos s.toArray j (by simpa using h)]; simp
  obtain ⟨h1, h2⟩ := compactUpTo_rise s.toArray (fun i j hij hj => by
    have hj' : j < s.length := by simpa using hj
    rw [hat i (by omega), hat j hj']
    rcases Nat.lt_or_eq_of_le hij with h | rfl
    · exact List.pairwise_iff_getElem.1 hp i j (by omega) hj' h
    · omega) s.length (by simp)
  refine ⟨h1, fun x => ?_⟩
  rw [h2, ← hmem]
  constructor
  · rintro ⟨j, hj, rfl⟩; rw [hat j hj]; exact List.getElem_mem hj
  · intro hx; obtain ⟨j, hj, rfl⟩ := List.getElem_of_mem hx; exact ⟨j, hj, hat j hj⟩
theorem riseL_eq {l l' : List Int} (h : ∀ x, x ∈ l ↔ x ∈ l') : riseL l = riseL l' :=
  rises_eq (riseL_spec l).1 (riseL_spec l').1 (fun x => by rw [(riseL_spec l).2, (riseL_spec l').2, h])
theorem riseL_length (l : List Int) : (riseL l).length ≤ l.length := by
  unfold riseL; exact Nat.le_trans (Lib.compact_length_le _) (by rw [List.length_mergeSort]; exact Nat.le_refl _)
structure Few {P : Program} {k e : TypeId} {α : Type} [DecidableEq α] (κ : KK P k α) (he : P.underlying e = some (.int .i64)) (f : α → Int) (C : List (α × Int)) (w : World) (b r base : Nat) (n : Int) (v : Value) (ys : List Int) (todo : List α) : Prop where
  it : Iter κ (intV he) w b r C todo
  row : (Kd.int .i64).R 3 w base (fun _ => True) v ys
  mem : ∀ z, z ∈ ys ↔ ∃ p ∈ C, p.1 ∉ todo ∧ p.2 < n ∧ f p.1 = z
  len : ys.length + todo.length ≤ C.length
section
variable {P : Program} {k e : TypeId} {α : Type} [DecidableEq α] {κ : KK P k α} {he : P.underlying e = some (.int .i64)} {f : α → Int} {C : List (α × Int)} {w w2 : World} {b r base : Nat} {n : Int} {v v2 : Value} {ys : List Int} {todo : List α}
theorem pair_one {C : List (α × Int)} (h : (C.map (·.1)).Nodup) {p q : α × Int} (hp : p ∈ C) (hq : q ∈ C) (e : p.1 = q.1) : p = q := by
  have h1 := getM_mem h (x := p.1) (y := p.2) hp 0
  have h2 := getM_mem h (x := q.1) (y := q.2) hq 0
  rw [e, h2] at h1
  exact Prod.ext e h1.symm
theorem Few.yes (h : Few κ he f C w b r base n v ys todo) {x : α} {y : Int} (hx : x ∈ todo) (hxy : (x, y) ∈ C) (hy : y < n) (hi : Iter κ (intV he) w2 b r C (strikeL todo x)) (hr : (Kd.int .i64).R 3 w2 base (fun _ => True) v2 (ys ++ [f x])) : Few κ he f C w2 b r base n v2 (ys ++ [f x]) (strikeL todo x) where
  it := hi
  row := hr
  mem z := by
    rw [List.mem_append, List.mem_singleton, h.mem]
    constructor
    · rintro (⟨p, h1, h2, h3⟩ | rfl)
      · exact ⟨p, h1, fun hm => h2 (mem_strikeL.1 hm).1, h3⟩
      · exact ⟨(x, y), hxy, fun hm => (mem_strikeL.1 hm).2 rfl, hy, rfl⟩
    · rintro ⟨p, h1, h2, h3, h4⟩
      by_cases e : p.1 = x
      · exact .inr (by rw [← h4, e])
      · exact .inl ⟨p, h1, fun hm => h2 (mem_strikeL.2 ⟨hm, e⟩), h3, h4⟩
  len := by have := h.len; have := length_strike1 h.it.nodup hx; rw [List.length_append]; simp; omega
theorem Few.no (h : Few κ he f C w b r base n v ys todo) {x : α} {y : Int} (hx : x ∈ todo) (hxy : (x, y) ∈ C) (hy : ¬ y < n) (hi : Iter κ (intV he) w2 b r C (strikeL todo x)) (hr : (Kd.int .i64).R 3 w2 base (fun _ => True) v ys) : Few κ he f C w2 b r base n v ys (strikeL todo x) where
  it := hi
  row := hr
  mem z := by
    rw [h.mem]
    constructor
    · rintro ⟨p, h1, h2, h3⟩; exact ⟨p, h1, fun hm => h2 (mem_strikeL.1 hm).1, h3⟩
    · rintro ⟨p, h1, h2, h3, h4⟩
      by_cases e : p.1 = x
      · have := pair_one h.it.own.nodup h1 hxy e
        subst this; exact absurd h3 hy
      · exact ⟨p, h1, fun hm => h2 (mem_strikeL.2 ⟨hm, e⟩), h3, h4⟩
  len := by have := h.len; have := length_strike1 h.it.nodup hx; omega
theorem Few.done {xs : List α} {w0 : World} (h : Few κ he f C w b r base n v ys []) (hC : Cnt κ he w0 b xs C) (z : Int) : z ∈ ys ↔ ∃ x ∈ xs, (xs.count x : Int) < n ∧ f x = z := by
  rw [h.mem]
  constructor
  · rintro ⟨p, h1, _, h3, h4⟩
    exact ⟨p.1, (hC.mem _).1 (List.mem_map.2 ⟨p, h1, rfl⟩), by rw [← hC.val p h1]; exact h3, h4⟩
  · rintro ⟨x, h1, h2, h3⟩
    obtain ⟨p, hp, rfl⟩ := List.mem_map.1 ((hC.mem x).2 h1)
    exact ⟨p, hp, by simp, by rw [hC.val p hp]; exact h2, h3⟩
end
end Go.Proofs.He
end
section
namespace Go.Proofs
open Go.Shelf
def Try.laysSort_ren : Go.Shelf.Ren := ⟨fun | 189 => 76 | 125 => 107 | 257 => 110 | 128 => 133 | 129 => 134 | 294 => 136 | 295 => 137 | 296 => 138 | 297 => 139 | 298 => 140 | 299 => 141 | 216 => 142 | 300 => 143 | 301 => 144 | 328 => 152 | 329 => 148 | 330 => 149 | 331 => 153 | 332 => 154 | 215 => 146 | 343 => 156 | n => n, fun | 28 => 65 | 3 => 3 | 46 => 139 | 0 => 0 | 51 => 161 | 53 => 163 | 4 => 4 | 183 => 154 | 182 => 153 | 131 => 158 | 5 => 5 | 9 => 9 | 218 => 171 | 222 => 175 | 228 => 179 | 229 => 180 | n => n, fun | n => n⟩
theorem Try.laysSort : Go.Proofs.Lays.n189 Try.prog Try.laysSort_ren := {
  mixed := by kernel_rfl
  f125 := Try.func107.trans (congrArg some (by kernel_rfl))
  f128 := Try.func133.trans (congrArg some (by kernel_rfl))
  f129 := Try.func134.trans (congrArg some (by kernel_rfl))
  f189 := Try.func76.trans (congrArg some (by kernel_rfl))
  f215 := Try.func146.trans (congrArg some (by kernel_rfl))
  f216 := Try.func142.trans (congrArg some (by kernel_rfl))
  f257 := Try.func110.trans (congrArg some (by kernel_rfl))
  f294 := Try.func136.trans (congrArg some (by kernel_rfl))
  f295 := Try.func137.trans (congrArg some (by kernel_rfl))
  f296 := Try.func138.trans (congrArg some (by kernel_rfl))
  f297 := Try.func139.trans (congrArg some (by kernel_rfl))
  f298 := Try.func140.trans (congrArg some (by kernel_rfl))
  f299 := Try.func141.trans (congrArg some (by kernel_rfl))
  f300 := Try.func143.trans (congrArg some (by kernel_rfl))
  f301 := Try.func144.trans (congrArg some (by kernel_rfl))
  f328 := Try.func152.trans (congrArg some (by kernel_rfl))
  f329 := Try.func148.trans (congrArg some (by kernel_rfl))
  f330 := Try.func149.trans (congrArg some (by kernel_rfl))
  f331 := Try.func153.trans (congrArg some (by kernel_rfl))
  f332 := Try.func154.trans (congrArg some (by kernel_rfl))
  f343 := Try.func156.trans (congrArg some (by kernel_rfl))
  t0 := Try.underlying0
  a0 := Try.isAgg0
  z0 := Try.sizeOf0
  v0 := Try.zeroValue0
  t3 := Try.underlying3
  a3 := Try.isAgg3
  z3 := Try.sizeOf3
  v3 := Try.zeroValue3
  t4 := Try.underlying4
  a4 := Try.isAgg4
  z4 := Try.sizeOf4
  v4 := Try.zeroValue4
  t5 := Try.underlying5
  a5 := Try.isAgg5
  z5 := Try.sizeOf5
  v5 := Try.zeroValue5
  t9 := Try.underlying9
  a9 := Try.isAgg9
  z9 := Try.sizeOf9
  v9 := Try.zeroValue9
  t28 := Try.underlying65
  a28 := Try.isAgg65
  z28 := Try.sizeOf65
  v28 := Try.zeroValue65
  t46 := Try.underlying139
  a46 := Try.isAgg139
  z46 := Try.sizeOf139
  v46 := Try.zeroValue139
  t51 := Try.underlying161
  a51 := Try.isAgg161
  z51 := Try.sizeOf161
  v51 := Try.zeroValue161
  t53 := Try.underlying163
  a53 := Try.isAgg163
  z53 := Try.sizeOf163
  v53 := Try.zeroValue163
  t131 := Try.underlying158
  a131 := Try.isAgg158
  z131 := Try.sizeOf158
  v131 := Try.zeroValue158
  t182 := Try.underlying153
  a182 := Try.isAgg153
  z182 := Try.sizeOf153
  v182 := Try.zeroValue153
  t183 := Try.underlying154
  a183 := Try.isAgg154
  z183 := Try.sizeOf154
  v183 := Try.zeroValue154
  t218 := Try.underlying171
  a218 := Try.isAgg171
  z218 := Try.sizeOf171
  v218 := Try.zeroValue171
  t222 := Try.underlying175
  a222 := Try.isAgg175
  z222 := Try.sizeOf175
  v222 := Try.zeroValue175
  t228 := Try.underlying179
  a228 := Try.isAgg179
  z228 := Try.sizeOf179
  v228 := Try.zeroValue179
  t229 := Try.underlying180
  a229 := Try.isAgg180
  z229 := Try.sizeOf180
  v229 := Try.zeroValue180 }
def Try.laysCompact_ren : Go.Shelf.Ren := ⟨fun | 20 => 77 | n => n, fun | 22 => 65 | 3 => 3 | 4 => 4 | 0 => 0 | n => n, fun | n => n⟩
theorem Try.laysCompact : Go.Proofs.Lays2.n20 Try.prog Try.laysCompact_ren := {
  mixed := by kernel_rfl
  f20 := Try.func77.trans (congrArg some (by kernel_rfl))
  t0 := Try.underlying0
  a0 := Try.isAgg0
  z0 := Try.sizeOf0
  v0 := Try.zeroValue0
  t3 := Try.underlying3
  a3 := Try.isAgg3
  z3 := Try.sizeOf3
  v3 := Try.zeroValue3
  t4 := Try.underlying4
  a4 := Try.isAgg4
  z4 := Try.sizeOf4
  v4 := Try.zeroValue4
  t22 := Try.underlying65
  a22 := Try.isAgg65
  z22 := Try.sizeOf65
  v22 := Try.zeroValue65
  i3 := by kernel_rfl }
def Try.laysGrow_ren : Go.Shelf.Ren := ⟨fun | 4 => 135 | n => n, fun | 22 => 65 | 25 => 3 | 3 => 3 | 4 => 4 | 9 => 9 | 20 => 20 | 0 => 0 | n => n, fun | n => n⟩
theorem Try.laysGrow : Go.Proofs.Lays8.n4 Try.prog Try.laysGrow_ren := {
  mixed := by kernel_rfl
  f4 := ⟨Try.f135.name, by decide, Try.func135.trans (congrArg some (by kernel_rfl))⟩
  t0 := Try.underlying0
  a0 := Try.isAgg0
  z0 := Try.sizeOf0
  v0 := Try.zeroValue0
  t3 := Try.underlying3
  a3 := Try.isAgg3
  z3 := Try.sizeOf3
  v3 := Try.zeroValue3
  t4 := Try.underlying4
  a4 := Try.isAgg4
  z4 := Try.sizeOf4
  v4 := Try.zeroValue4
  t9 := Try.underlying9
  a9 := Try.isAgg9
  z9 := Try.sizeOf9
  v9 := Try.zeroValue9
  t20 := Try.underlying20
  a20 := Try.isAgg20
  z20 := Try.sizeOf20
  v20 := Try.zeroValue20
  t22 := Try.underlying65
  a22 := Try.isAgg65
  z22 := Try.sizeOf65
  v22 := Try.zeroValue65 }
end Go.Proofs
end
section
namespace Go.Proofs.Ytmmalieacakcbaa.S
open Go.RowKit Go.Proofs.YtmmalieacakcbaaW.PrintWords Go.Proofs.YtmmalieacakcbaaW.PrintLast Go.Proofs.YtmmalieacakcbaaW.PrintMore
attribute [local go_sem] max2_int min2_int max_two min_two max_three min_three max_four min_four
set_option linter.unusedVariables false
set_option linter.unusedSimpArgs false
def errW : Option Int → Value
  | none => .nilIface
  | some c => .iface 0 (.int .i64 c)
theorem errW_none : errW none = .nilIface := rfl
theorem errW_some (c : Int) : errW (some c) = .iface 0 (.int .i64 c) := rfl
theorem info3 : (Try.prog.info? 3).map (fun i => (i.zero, i.size, i.bytes)) = some (some (.int .i64 0), 1, 8) := by kernel_rfl
theorem info4 : (Try.prog.info? 4).map (fun i => (i.zero, i.size, i.bytes)) = some (some (.bool false), 1, 1) := by kernel_rfl
theorem info5 : (Try.prog.info? 5).map (fun i => (i.zero, i.size, i.bytes)) = some (some (.int .u8 0), 1, 1) := by kernel_rfl
theorem info63 : (Try.prog.info? 63).map (fun i => (i.zero, i.size, i.bytes)) = some (some (.slice none 0 0), 1, 24) := by kernel_rfl
theorem info65 : (Try.prog.info? 65).map (fun i => (i.zero, i.size, i.bytes)) = some (some (.slice none 0 0), 1, 24) := by kernel_rfl
theorem info69 : (Try.prog.info? 69).map (fun i => (i.zero, i.size, i.bytes)) = some (some (.agg #[(.string ⟨#[]⟩), (.string ⟨#[]⟩), (.int .i64 0)]), 3, 40) := by kernel_rfl
structure S69 where
  f0 : ByteArray
  f1 : ByteArray
  f2 : Int
def z69 : S69 := ⟨(⟨#[]⟩ : ByteArray), (⟨#[]⟩ : ByteArray), (0 : Int)⟩
def k69 : Kd S69 := Kd.iso (Kd.pair Kd.string (Kd.pair Kd.string (Kd.int .i64))) (fun x : S69 => (x.f0, x.f1, x.f2))
theorem k69_open {w : World} {x : S69} {cs : List Value} (h : k69.K w x cs) : cs = [.string x.f0, .string x.f1, .int .i64 x.f2] := by
  obtain ⟨_, _, rfl, rfl, ⟨_, _, rfl, rfl, rfl⟩⟩ := h
  exact rfl
theorem k69_openM {w : World} {base : Nat} {ok : Nat → Prop} {x : S69} {cs : List Value} (h : k69.M w base ok x cs) : cs = [.string x.f0, .string x.f1, .int .i64 x.f2] := by
  obtain ⟨_, _, rfl, rfl, ⟨_, _, rfl, rfl, rfl⟩⟩ := h
  exact rfl
theorem k69_mk (w : World) (x : S69)  : k69.K w x [.string x.f0, .string x.f1, .int .i64 x.f2] := ⟨[.string x.f0], [.string x.f1, .int .i64 x.f2], rfl, rfl, ⟨[.string x.f1], [.int .i64 x.f2], rfl, rfl, rfl⟩⟩
theorem k69_mkM (w : World) (base : Nat) (ok : Nat → Prop) (x : S69)  : k69.M w base ok x [.string x.f0, .string x.f1, .int .i64 x.f2] := ⟨[.string x.f0], [.string x.f1, .int .i64 x.f2], rfl, rfl, ⟨[.string x.f1], [.int .i64 x.f2], rfl, rfl, rfl⟩⟩
def rd_T69 (xs : List S69) (i : Int) : S69 := xs.getD i.toNat z69
theorem at_T69 {w : World} {A : Option Addr} {n : Nat} {xs : List S69} (h : Kd.C k69 w A n xs) (i : Int) (h0 : 0 ≤ i) (h1 : i < n) : ∃ ad , A = some ad ∧ w.cell? (ad.add (i.toNat * 3)) = some (.string (rd_T69 xs i).f0) ∧ w.cell? ⟨(ad.add (i.toNat * 3)).block, (ad.add (i.toNat * 3)).off + 1, none⟩ = some (.string (rd_T69 xs i).f1) ∧ w.cell? ⟨(ad.add (i.toNat * 3)).block, (ad.add (i.toNat * 3)).off + 2, none⟩ = some (.int .i64 (rd_T69 xs i).f2) := by
  obtain ⟨ad, c, e, _, hK, hc0⟩ := Kd.C_get h z69 i h0 h1
  have hc : ∀ j u, c[j]? = some u → w.cell? (ad.add (i.toNat * 3 + j)) = some u := hc0
  obtain rfl := k69_open hK
  exact ⟨ad, e, hc 0 _ rfl, by rw [← add_field _ _ 1 (by omega)]; exact hc 1 _ rfl, by rw [← add_field _ _ 2 (by omega)]; exact hc 2 _ rfl⟩
def rd_L4 (xs : List (List S69)) (i : Int) : (List S69) := xs.getD i.toNat ([] : List S69)
theorem at_L4 {w : World} {A : Option Addr} {n : Nat} {xs : List (List S69)} (h : Kd.C (Kd.slice 69 k69) w A n xs) (i : Int) (h0 : 0 ≤ i) (h1 : i < n) : ∃ ad A0 c0, A = some ad ∧ w.cell? (ad.add i.toNat) = some (.slice A0 (rd_L4 xs i).length c0) ∧ (rd_L4 xs i).length ≤ c0 ∧ k69.C w A0 (rd_L4 xs i).length (rd_L4 xs i) := by
  obtain ⟨ad, c, e, _, hK, hc0⟩ := Kd.C_get h ([] : List S69) i h0 h1
  have hc : ∀ j u, c[j]? = some u → w.cell? (ad.add (i.toNat * 1 + j)) = some u := hc0
  obtain ⟨A0, c0, rfl, l0, g0⟩ := hK
  exact ⟨ad, A0, c0, e, by have hq := hc 0 _ rfl; rwa [Nat.mul_one, Nat.add_zero] at hq, l0, g0⟩
def rd_L6 (xs : List (List Int)) (i : Int) : (List Int) := xs.getD i.toNat ([] : List Int)
theorem at_L6 {w : World} {A : Option Addr} {n : Nat} {xs : List (List Int)} (h : Kd.C (Kd.slice 3 (Kd.int .i64)) w A n xs) (i : Int) (h0 : 0 ≤ i) (h1 : i < n) : ∃ ad A0 c0, A = some ad ∧ w.cell? (ad.add i.toNat) = some (.slice A0 (rd_L6 xs i).length c0) ∧ (rd_L6 xs i).length ≤ c0 ∧ (Kd.int .i64).C w A0 (rd_L6 xs i).length (rd_L6 xs i) := by
  obtain ⟨ad, c, e, _, hK, hc0⟩ := Kd.C_get h ([] : List Int) i h0 h1
  have hc : ∀ j u, c[j]? = some u → w.cell? (ad.add (i.toNat * 1 + j)) = some u := hc0
  obtain ⟨A0, c0, rfl, l0, g0⟩ := hK
  exact ⟨ad, A0, c0, e, by have hq := hc 0 _ rfl; rwa [Nat.mul_one, Nat.add_zero] at hq, l0, g0⟩
end Go.Proofs.Ytmmalieacakcbaa.S
end
section
namespace Go.Proofs.Ytmmalieacakcbaa.S
open Go.RowKit Go.Proofs.YtmmalieacakcbaaW.PrintWords Go.Proofs.YtmmalieacakcbaaW.PrintLast Go.Proofs.YtmmalieacakcbaaW.PrintMore
attribute [local go_sem] max2_int min2_int max_two min_two max_three min_three max_four min_four
set_option linter.unusedVariables false
set_option linter.unusedSimpArgs false
def heliastref13_order.j0 : Nat → Bool → ByteArray → ByteArray → Int → ByteArray → ByteArray → Int → Option (Int)
  | 0, _, _, _, _, _, _, _ => none
  | k + 1, x23, x102000, x102001, x102002, x103000, x103001, x103002 => if x23 = true then (some (-1)) else (if x102000.toList = x103000.toList then (if x102001.toList = x103001.toList then (some 0) else (some 1)) else (some 1))
def heliastref13_order.f (k : Nat) (a0_0 : ByteArray) (a0_1 : ByteArray) (a0_2 : Int) (a1_0 : ByteArray) (a1_1 : ByteArray) (a1_2 : Int) : Option (Int) := if (Op.bytesLess a0_0.toList a1_0.toList) = true then (heliastref13_order.j0 k true a0_0 a0_1 a0_2 a1_0 a1_1 a1_2) else (if a0_0.toList = a1_0.toList then (heliastref13_order.j0 k (Op.bytesLess a0_1.toList a1_1.toList) a0_0 a0_1 a0_2 a1_0 a1_1 a1_2) else (heliastref13_order.j0 k false a0_0 a0_1 a0_2 a1_0 a1_1 a1_2))
theorem heliastref13_order.mono_l : ∀ k, (∀ y0 y1 y2 y3 y4 y5 y6, LeO (heliastref13_order.j0 k y0 y1 y2 y3 y4 y5 y6) (heliastref13_order.j0 (k + 1) y0 y1 y2 y3 y4 y5 y6))
  | 0 => fun _ _ _ _ _ _ _ r h => by simp [heliastref13_order.j0] at h
  | k + 1 => by
    have ih0 := heliastref13_order.mono_l k
    · intro y0 y1 y2 y3 y4 y5 y6
      unfold heliastref13_order.j0
      repeat' first
      | (with_reducible exact ih0 _ _ _ _ _ _ _)
      | (with_reducible exact LeO.refl _)
      | (with_reducible exact LeO.none _)
      | (with_reducible refine LeO.ite ?_ ?_)
      | (with_reducible refine LeO.bind ?_ (fun _ => ?_))
      | exact ih0 _ _ _ _ _ _ _
      | exact LeO.none _
      | refine LeO.ite ?_ ?_
      | refine LeO.bind ?_ (fun _ => ?_)
theorem heliastref13_order.mono : ∀ a0 a1 a2 a3 a4 a5 k, LeO (heliastref13_order.f k a0 a1 a2 a3 a4 a5) (heliastref13_order.f (k + 1) a0 a1 a2 a3 a4 a5) := by
  intro a0 a1 a2 a3 a4 a5 k
  have ih0 := heliastref13_order.mono_l k
  unfold heliastref13_order.f
  repeat' first
      | (with_reducible exact ih0 _ _ _ _ _ _ _)
      | (with_reducible exact LeO.refl _)
      | (with_reducible exact LeO.none _)
      | (with_reducible refine LeO.ite ?_ ?_)
      | (with_reducible refine LeO.bind ?_ (fun _ => ?_))
      | exact ih0 _ _ _ _ _ _ _
      | exact LeO.none _
      | refine LeO.ite ?_ ?_
      | refine LeO.bind ?_ (fun _ => ?_)
set_option maxHeartbeats 8000000 in
set_option maxRecDepth 100000 in
theorem heliastref13_order.calls (k : Nat) (a0_0 : ByteArray) (a0_1 : ByteArray) (a0_2 : Int) (a1_0 : ByteArray) (a1_1 : ByteArray) (a1_2 : Int) (r : Int) (w : World) (h : heliastref13_order.f k a0_0 a0_1 a0_2 a1_0 a1_1 a1_2 = some r) :
    Calls Try.prog 115 #[.agg #[.string a0_0, .string a0_1, .int .i64 a0_2], .agg #[.string a1_0, .string a1_1, .int .i64 a1_2]] w fun e w' => e = .returned (.int .i64 r) ∧ Below w.heap.size w w' := by
  have hu69 := Try.underlying69
  have HB := Aside0.mk (Below.refl w.heap.size w)
  have H : (if (Op.bytesLess a0_0.toList a1_0.toList) = true then (heliastref13_order.j0 k true a0_0 a0_1 a0_2 a1_0 a1_1 a1_2) else (if a0_0.toList = a1_0.toList then (heliastref13_order.j0 k (Op.bytesLess a0_1.toList a1_1.toList) a0_0 a0_1 a0_2 a1_0 a1_1 a1_2) else (heliastref13_order.j0 k false a0_0 a0_1 a0_2 a1_0 a1_1 a1_2))) = some r := h
  clear h
  have HC3 := Aside0.mk H
  clear H
  go_enter Try.func115, Try.ntmps115
  go_upto_region 1 with (first | ((with_reducible refine gate_dst (N := 2) rfl ?_); refine box_event ?hg (N := 2) ?hd (cs := #[.string a0_0, .string a0_1, .int .i64 a0_2]) (t := 69) ?hr ?_; (case hd => rfl); (case hg => rfl); (case hr => first | (go_simp; done) | (go_simp; rfl)); intro gb101 hg w4 hbox hb; have n0_ := Aside0.mk (below_step (by repeat (first | (with_reducible first | exact HB.out | apply below_alloc | apply pw_below_drewN | apply below_drew1) | exact HB.out)) hb); have n1_ := Aside0.mk (hbox); have n2_ := Aside0.mk ((by rw [hg]; exact (below_size (by repeat (first | (with_reducible first | exact HB.out | apply below_alloc | apply pw_below_drewN | apply below_drew1) | exact HB.out))) : w.heap.size ≤ gb101)); have n3_ := Aside0.mk ((by rw [hg]; exact (below_size (by repeat (first | (with_reducible first | exact HB.out | apply below_alloc | apply pw_below_drewN | apply below_drew1) | exact HB.out))) : w.heap.size ≤ gb101)); clear HB; have HB := n0_; have BK101 := n1_; have GW101 := n2_; have GE101 := n3_; clear n0_ n1_ n2_ n3_; clear hb hbox hg) | ((with_reducible refine gate_dst (N := 3) rfl ?_); refine box_event ?hg (N := 3) ?hd (cs := #[.string a1_0, .string a1_1, .int .i64 a1_2]) (t := 69) ?hr ?_; (case hd => rfl); (case hg => rfl); (case hr => first | (go_simp; done) | (go_simp; rfl)); intro gb102 hg w5 hbox hb; have n0_ := Aside0.mk (blk_below (g := gb101) (o := .cells #[.string a0_0, .string a0_1, .int .i64 a0_2] 69 (0, 0)) (by (with_reducible repeat (first | refine blk_drewN ?_ _ | refine blk_drew ?_ | refine blk_alloc ?_ _)); exact BK101.out) hb); have n1_ := Aside0.mk (below_step (by repeat (first | (with_reducible first | exact HB.out | apply below_alloc | apply pw_below_drewN | apply below_drew1 | refine below_set ?_ GE101.out) | exact HB.out)) hb); have n2_ := Aside0.mk (hbox); have n3_ := Aside0.mk ((by rw [hg]; exact (below_size (by repeat (first | (with_reducible first | exact HB.out | apply below_alloc | apply pw_below_drewN | apply below_drew1 | refine below_set ?_ GE101.out) | exact HB.out))) : w.heap.size ≤ gb102)); have n4_ := Aside0.mk ((by rw [hg]; exact (below_size (by repeat (first | (with_reducible first | exact HB.out | apply below_alloc | apply pw_below_drewN | apply below_drew1 | refine below_set ?_ GE101.out) | exact HB.out))) : w.heap.size ≤ gb102)); have n5_ := Aside0.mk ((by rw [hg]; exact Nat.ne_of_lt (blk_lt (g := gb101) (o := .cells #[.string a0_0, .string a0_1, .int .i64 a0_2] 69 (0, 0)) (by (with_reducible repeat (first | refine blk_drewN ?_ _ | refine blk_drew ?_ | refine blk_alloc ?_ _)); exact BK101.out)) : gb101 ≠ gb102)); have n6_ := Aside0.mk ((by rw [hg]; exact Nat.ne_of_gt (blk_lt (g := gb101) (o := .cells #[.string a0_0, .string a0_1, .int .i64 a0_2] 69 (0, 0)) (by (with_reducible repeat (first | refine blk_drewN ?_ _ | refine blk_drew ?_ | refine blk_alloc ?_ _)); exact BK101.out)) : gb102 ≠ gb101)); clear BK101; clear HB; have BK101 := n0_; have HB := n1_; have BK102 := n2_; have GW102 := n3_; have GE102 := n4_; have NB101_102 := n5_; have NB102_101 := n6_; clear n0_ n1_ n2_ n3_ n4_ n5_ n6_; clear hb hbox hg))
  (try simp only [Act.put, List.setIfInBounds_toArray, List.set_cons_zero, List.set_cons_succ])
  go_cut [23] (fun v23 wc => ∃ (kq : Nat) (x23_2 : Bool), v23 = .bool x23_2 ∧ Aside0 (heliastref13_order.j0 kq x23_2 a0_0 a0_1 a0_2 a1_0 a1_1 a1_2 = some r) ∧ Aside0 (kq ≤ k) ∧ Aside0 (wc.heap[gb101]? = some (.cells #[.string a0_0, .string a0_1, .int .i64 a0_2] 69 (0, 0))) ∧ Aside0 (wc.heap[gb102]? = some (.cells #[.string a1_0, .string a1_1, .int .i64 a1_2] 69 (0, 0))) ∧ Aside0 (Below w.heap.size w wc))
  case first =>
    have H := HC3.out
    clear HC3
    by_cases c6 : (Op.bytesLess a0_0.toList a1_0.toList) = true
    · rw [if_pos c6] at H
      have c6b0 : (Op.bytesLess a0_0.toList a1_0.toList) = true := c6
      clear c6
      (first | rw [c6b0] | (simp only [i64_w, i32_w]; rw [c6b0]) | skip)
      have H' := Aside0.mk H
      clear H
      have hnb7 := NB101_102.out
      have hnc7 := NB102_101.out
      have hcz8_0 : w5.cell? ⟨gb101, 0, none⟩ = some (.string a0_0) := (blk_cell BK101.out 0).trans rfl
      have hcz8_1 : w5.cell? ⟨gb101, 1, none⟩ = some (.string a0_1) := (blk_cell BK101.out 1).trans rfl
      have hcz8_2 : w5.cell? ⟨gb101, 2, none⟩ = some (.int .i64 a0_2) := (blk_cell BK101.out 2).trans rfl
      have hfz8_0 := blk_frozen BK101.out 0
      have hfz8_1 := blk_frozen BK101.out 1
      have hfz8_2 := blk_frozen BK101.out 2
      have hcz9_0 : w5.cell? ⟨gb102, 0, none⟩ = some (.string a1_0) := (blk_cell BK102.out 0).trans rfl
      have hcz9_1 : w5.cell? ⟨gb102, 1, none⟩ = some (.string a1_1) := (blk_cell BK102.out 1).trans rfl
      have hcz9_2 : w5.cell? ⟨gb102, 2, none⟩ = some (.int .i64 a1_2) := (blk_cell BK102.out 2).trans rfl
      have hfz9_0 := blk_frozen BK102.out 0
      have hfz9_1 := blk_frozen BK102.out 1
      have hfz9_2 := blk_frozen BK102.out 2
      go_wp2
      go_meet
      case rel => exact ⟨_, (true), (by first | rfl | (simp; done) | (simp [*]; done)), H', ⟨by first | omega | exact Nat.le_refl _⟩, ⟨by (with_reducible repeat (first | refine blk_drewN ?_ _ | refine blk_drew ?_ | refine blk_alloc ?_ _)); exact BK101.out⟩, ⟨by (with_reducible repeat (first | refine blk_drewN ?_ _ | refine blk_drew ?_ | refine blk_alloc ?_ _)); exact BK102.out⟩, ⟨by repeat (first | (with_reducible first | exact HB.out | apply below_alloc | apply pw_below_drewN | apply below_drew1 | refine below_set ?_ GE101.out | refine below_set ?_ GE102.out) | exact HB.out)⟩⟩
    · rw [if_neg c6] at H
      have c6b0 : (Op.bytesLess a0_0.toList a1_0.toList) = false := by simpa using c6
      clear c6
      (first | rw [c6b0] | (simp only [i64_w, i32_w]; rw [c6b0]) | skip)
      by_cases c10 : a0_0.toList = a1_0.toList
      · rw [if_pos c10] at H
        have c10b0 : (a0_0.toList == a1_0.toList) = true := beq_iff_eq.mpr c10
        have c10b1 : (a0_0.toList != a1_0.toList) = false := bne_eq_false_iff_eq.mpr c10
        clear c10
        have H' := Aside0.mk H
        clear H
        have hnb11 := NB101_102.out
        have hnc11 := NB102_101.out
        have hcz12_0 : w5.cell? ⟨gb101, 0, none⟩ = some (.string a0_0) := (blk_cell BK101.out 0).trans rfl
        have hcz12_1 : w5.cell? ⟨gb101, 1, none⟩ = some (.string a0_1) := (blk_cell BK101.out 1).trans rfl
        have hcz12_2 : w5.cell? ⟨gb101, 2, none⟩ = some (.int .i64 a0_2) := (blk_cell BK101.out 2).trans rfl
        have hfz12_0 := blk_frozen BK101.out 0
        have hfz12_1 := blk_frozen BK101.out 1
        have hfz12_2 := blk_frozen BK101.out 2
        have hcz13_0 : w5.cell? ⟨gb102, 0, none⟩ = some (.string a1_0) := (blk_cell BK102.out 0).trans rfl
        have hcz13_1 : w5.cell? ⟨gb102, 1, none⟩ = some (.string a1_1) := (blk_cell BK102.out 1).trans rfl
        have hcz13_2 : w5.cell? ⟨gb102, 2, none⟩ = some (.int .i64 a1_2) := (blk_cell BK102.out 2).trans rfl
        have hfz13_0 := blk_frozen BK102.out 0
        have hfz13_1 := blk_frozen BK102.out 1
        have hfz13_2 := blk_frozen BK102.out 2
        go_wp2
        go_meet
        case rel => exact ⟨_, ((Op.bytesLess a0_1.toList a1_1.toList)), (by first | rfl | (simp; done) | (simp [*]; done)), H', ⟨by first | omega | exact Nat.le_refl _⟩, ⟨by (with_reducible repeat (first | refine blk_drewN ?_ _ | refine blk_drew ?_ | refine blk_alloc ?_ _)); exact BK101.out⟩, ⟨by (with_reducible repeat (first | refine blk_drewN ?_ _ | refine blk_drew ?_ | refine blk_alloc ?_ _)); exact BK102.out⟩, ⟨by repeat (first | (with_reducible first | exact HB.out | apply below_alloc | apply pw_below_drewN | apply below_drew1 | refine below_set ?_ GE101.out | refine below_set ?_ GE102.out) | exact HB.out)⟩⟩
      · rw [if_neg c10] at H
        have c10b0 : (a0_0.toList == a1_0.toList) = false := beq_eq_false_iff_ne.mpr c10
        have c10b1 : (a0_0.toList != a1_0.toList) = true := bne_iff_ne.mpr c10
        have H' := Aside0.mk H
        clear H
        have hnb14 := NB101_102.out
        have hnc14 := NB102_101.out
        have hcz15_0 : w5.cell? ⟨gb101, 0, none⟩ = some (.string a0_0) := (blk_cell BK101.out 0).trans rfl
        have hcz15_1 : w5.cell? ⟨gb101, 1, none⟩ = some (.string a0_1) := (blk_cell BK101.out 1).trans rfl
        have hcz15_2 : w5.cell? ⟨gb101, 2, none⟩ = some (.int .i64 a0_2) := (blk_cell BK101.out 2).trans rfl
        have hfz15_0 := blk_frozen BK101.out 0
        have hfz15_1 := blk_frozen BK101.out 1
        have hfz15_2 := blk_frozen BK101.out 2
        have hcz16_0 : w5.cell? ⟨gb102, 0, none⟩ = some (.string a1_0) := (blk_cell BK102.out 0).trans rfl
        have hcz16_1 : w5.cell? ⟨gb102, 1, none⟩ = some (.string a1_1) := (blk_cell BK102.out 1).trans rfl
        have hcz16_2 : w5.cell? ⟨gb102, 2, none⟩ = some (.int .i64 a1_2) := (blk_cell BK102.out 2).trans rfl
        have hfz16_0 := blk_frozen BK102.out 0
        have hfz16_1 := blk_frozen BK102.out 1
        have hfz16_2 := blk_frozen BK102.out 2
        go_wp2
        go_meet
        case rel => exact ⟨_, (false), (by first | rfl | (simp; done) | (simp [*]; done)), H', ⟨by first | omega | exact Nat.le_refl _⟩, ⟨by (with_reducible repeat (first | refine blk_drewN ?_ _ | refine blk_drew ?_ | refine blk_alloc ?_ _)); exact BK101.out⟩, ⟨by (with_reducible repeat (first | refine blk_drewN ?_ _ | refine blk_drew ?_ | refine blk_alloc ?_ _)); exact BK102.out⟩, ⟨by repeat (first | (with_reducible first | exact HB.out | apply below_alloc | apply pw_below_drewN | apply below_drew1 | refine below_set ?_ GE101.out | refine below_set ?_ GE102.out) | exact HB.out)⟩⟩
  case rest =>
    clear HC3
    try clear c1
    try clear p2
    try clear c6
    try clear c6b0
    try clear c7
    try clear c10
    try clear c10b0
    try clear c10b1
    try clear c11
    try clear c14
    try clear hcz12_0
    try clear hcz12_1
    try clear hcz12_2
    try clear hcz13_0
    try clear hcz13_1
    try clear hcz13_2
    try clear hcz15_0
    try clear hcz15_1
    try clear hcz15_2
    try clear hcz16_0
    try clear hcz16_1
    try clear hcz16_2
    try clear hcz8_0
    try clear hcz8_1
    try clear hcz8_2
    try clear hcz9_0
    try clear hcz9_1
    try clear hcz9_2
    try clear hfz12_0
    try clear hfz12_1
    try clear hfz12_2
    try clear hfz13_0
    try clear hfz13_1
    try clear hfz13_2
    try clear hfz15_0
    try clear hfz15_1
    try clear hfz15_2
    try clear hfz16_0
    try clear hfz16_1
    try clear hfz16_2
    try clear hfz8_0
    try clear hfz8_1
    try clear hfz8_2
    try clear hfz9_0
    try clear hfz9_1
    try clear hfz9_2
    obtain ⟨kq, x23_2, rfl, HA, HJ2, BK101, BK102, HB⟩ := hcut
    cases kq with
    | zero => exact absurd HA.out (by simp [heliastref13_order.j0])
    | succ kj2 =>
      have H := HA.out
      clear HA
      simp only [heliastref13_order.j0] at H
      by_cases c17 : x23_2 = true
      · subst c17
        have H1 : (some (-1)) = some r := by rw [if_pos rfl] at H; exact H
        clear H
        have H := H1
        clear H1
        obtain rfl := Option.some.inj H
        go_wp2
        go_ret
        exact ⟨by first | rfl | (simp [errW_none, errW_some] <;> rfl) | (simp [*, errW_none, errW_some] <;> rfl), by repeat (first | (with_reducible first | exact HB.out | apply below_alloc | apply pw_below_drewN | apply below_drew1 | refine below_set ?_ GE101.out | refine below_set ?_ GE102.out) | exact HB.out)⟩
      · replace c17 := Bool.eq_false_iff.mpr c17
        subst c17
        have H1 : (if a0_0.toList = a1_0.toList then (if a0_1.toList = a1_1.toList then (some 0) else (some 1)) else (some 1)) = some r := by rw [if_neg (show ¬ (false = true) by decide)] at H; exact H
        clear H
        have H := H1
        clear H1
        by_cases c18 : a0_0.toList = a1_0.toList
        · rw [if_pos c18] at H
          have c18b0 : (a0_0.toList == a1_0.toList) = true := beq_iff_eq.mpr c18
          have c18b1 : (a0_0.toList != a1_0.toList) = false := bne_eq_false_iff_eq.mpr c18
          clear c18
          by_cases c19 : a0_1.toList = a1_1.toList
          · rw [if_pos c19] at H
            have c19b0 : (a0_1.toList == a1_1.toList) = true := beq_iff_eq.mpr c19
            have c19b1 : (a0_1.toList != a1_1.toList) = false := bne_eq_false_iff_eq.mpr c19
            clear c19
            obtain rfl := Option.some.inj H
            have hnb20 := NB101_102.out
            have hnc20 := NB102_101.out
            have hcz21_0 : wc.cell? ⟨gb101, 0, none⟩ = some (.string a0_0) := (blk_cell BK101.out 0).trans rfl
            have hcz21_1 : wc.cell? ⟨gb101, 1, none⟩ = some (.string a0_1) := (blk_cell BK101.out 1).trans rfl
            have hcz21_2 : wc.cell? ⟨gb101, 2, none⟩ = some (.int .i64 a0_2) := (blk_cell BK101.out 2).trans rfl
            have hfz21_0 := blk_frozen BK101.out 0
            have hfz21_1 := blk_frozen BK101.out 1
            have hfz21_2 := blk_frozen BK101.out 2
            have hcz22_0 : wc.cell? ⟨gb102, 0, none⟩ = some (.string a1_0) := (blk_cell BK102.out 0).trans rfl
            have hcz22_1 : wc.cell? ⟨gb102, 1, none⟩ = some (.string a1_1) := (blk_cell BK102.out 1).trans rfl
            have hcz22_2 : wc.cell? ⟨gb102, 2, none⟩ = some (.int .i64 a1_2) := (blk_cell BK102.out 2).trans rfl
            have hfz22_0 := blk_frozen BK102.out 0
            have hfz22_1 := blk_frozen BK102.out 1
            have hfz22_2 := blk_frozen BK102.out 2
            go_wp2
            go_ret
            exact ⟨by first | rfl | (simp [errW_none, errW_some] <;> rfl) | (simp [*, errW_none, errW_some] <;> rfl), by repeat (first | (with_reducible first | exact HB.out | apply below_alloc | apply pw_below_drewN | apply below_drew1 | refine below_set ?_ GE101.out | refine below_set ?_ GE102.out) | exact HB.out)⟩
          · rw [if_neg c19] at H
            have c19b0 : (a0_1.toList == a1_1.toList) = false := beq_eq_false_iff_ne.mpr c19
            have c19b1 : (a0_1.toList != a1_1.toList) = true := bne_iff_ne.mpr c19
            obtain rfl := Option.some.inj H
            have hnb23 := NB101_102.out
            have hnc23 := NB102_101.out
            have hcz24_0 : wc.cell? ⟨gb101, 0, none⟩ = some (.string a0_0) := (blk_cell BK101.out 0).trans rfl
            have hcz24_1 : wc.cell? ⟨gb101, 1, none⟩ = some (.string a0_1) := (blk_cell BK101.out 1).trans rfl
            have hcz24_2 : wc.cell? ⟨gb101, 2, none⟩ = some (.int .i64 a0_2) := (blk_cell BK101.out 2).trans rfl
            have hfz24_0 := blk_frozen BK101.out 0
            have hfz24_1 := blk_frozen BK101.out 1
            have hfz24_2 := blk_frozen BK101.out 2
            have hcz25_0 : wc.cell? ⟨gb102, 0, none⟩ = some (.string a1_0) := (blk_cell BK102.out 0).trans rfl
            have hcz25_1 : wc.cell? ⟨gb102, 1, none⟩ = some (.string a1_1) := (blk_cell BK102.out 1).trans rfl
            have hcz25_2 : wc.cell? ⟨gb102, 2, none⟩ = some (.int .i64 a1_2) := (blk_cell BK102.out 2).trans rfl
            have hfz25_0 := blk_frozen BK102.out 0
            have hfz25_1 := blk_frozen BK102.out 1
            have hfz25_2 := blk_frozen BK102.out 2
            go_wp2
            go_ret
            exact ⟨by first | rfl | (simp [errW_none, errW_some] <;> rfl) | (simp [*, errW_none, errW_some] <;> rfl), by repeat (first | (with_reducible first | exact HB.out | apply below_alloc | apply pw_below_drewN | apply below_drew1 | refine below_set ?_ GE101.out | refine below_set ?_ GE102.out) | exact HB.out)⟩
        · rw [if_neg c18] at H
          have c18b0 : (a0_0.toList == a1_0.toList) = false := beq_eq_false_iff_ne.mpr c18
          have c18b1 : (a0_0.toList != a1_0.toList) = true := bne_iff_ne.mpr c18
          obtain rfl := Option.some.inj H
          have hnb26 := NB101_102.out
          have hnc26 := NB102_101.out
          have hcz27_0 : wc.cell? ⟨gb101, 0, none⟩ = some (.string a0_0) := (blk_cell BK101.out 0).trans rfl
          have hcz27_1 : wc.cell? ⟨gb101, 1, none⟩ = some (.string a0_1) := (blk_cell BK101.out 1).trans rfl
          have hcz27_2 : wc.cell? ⟨gb101, 2, none⟩ = some (.int .i64 a0_2) := (blk_cell BK101.out 2).trans rfl
          have hfz27_0 := blk_frozen BK101.out 0
          have hfz27_1 := blk_frozen BK101.out 1
          have hfz27_2 := blk_frozen BK101.out 2
          have hcz28_0 : wc.cell? ⟨gb102, 0, none⟩ = some (.string a1_0) := (blk_cell BK102.out 0).trans rfl
          have hcz28_1 : wc.cell? ⟨gb102, 1, none⟩ = some (.string a1_1) := (blk_cell BK102.out 1).trans rfl
          have hcz28_2 : wc.cell? ⟨gb102, 2, none⟩ = some (.int .i64 a1_2) := (blk_cell BK102.out 2).trans rfl
          have hfz28_0 := blk_frozen BK102.out 0
          have hfz28_1 := blk_frozen BK102.out 1
          have hfz28_2 := blk_frozen BK102.out 2
          go_wp2
          go_ret
          exact ⟨by first | rfl | (simp [errW_none, errW_some] <;> rfl) | (simp [*, errW_none, errW_some] <;> rfl), by repeat (first | (with_reducible first | exact HB.out | apply below_alloc | apply pw_below_drewN | apply below_drew1 | refine below_set ?_ GE101.out | refine below_set ?_ GE102.out) | exact HB.out)⟩
mutual
def heliastref13_Put.l0 : Nat → List (S69) → List (S69) → Bool → Int → ByteArray → ByteArray → Int → Option ((List (S69)))
  | 0, _, _, _, _, _, _, _ => none
  | k + 1, x0, x5, x6, x7, x104000, x104001, x104002 => if x7 < (x0.length : Int) then (if 0 ≤ x7 then ((heliastref13_order.f k ((rd_T69 x0 x7).f0) ((rd_T69 x0 x7).f1) ((rd_T69 x0 x7).f2) x104000 x104001 x104002).bind fun t108 => (if x6 = true then (heliastref13_Put.j1 k x0 x5 x6 x7 t108 false x104000 x104001 x104002) else (heliastref13_Put.j1 k x0 x5 x6 x7 t108 (decide (t108 ≥ 0)) x104000 x104001 x104002))) else (none)) else (if x6 = true then (some x5) else (if x5.length < 3518437208883 then (some (x5 ++ [(⟨x104000, x104001, x104002⟩ : S69)])) else (none)))
def heliastref13_Put.j1 : Nat → List (S69) → List (S69) → Bool → Int → Int → Bool → ByteArray → ByteArray → Int → Option ((List (S69)))
  | 0, _, _, _, _, _, _, _, _, _ => none
  | k + 1, x0, x5, x6, x7, x8, x26, x104000, x104001, x104002 => if x26 = true then (if x5.length < 3518437208883 then ((some (x5 ++ [(⟨x104000, x104001, x104002⟩ : S69)] : List (S69))).bind fun y109 => (if x8 = 0 then (heliastref13_Put.l0 k x0 y109 true (wrap64 (x7 + 1)) x104000 x104001 x104002) else (if 0 ≤ x7 then (if x7 < (x0.length : Int) then (if y109.length < 3518437208883 then (heliastref13_Put.l0 k x0 (y109 ++ [(⟨(rd_T69 x0 x7).f0, (rd_T69 x0 x7).f1, (rd_T69 x0 x7).f2⟩ : S69)]) true (wrap64 (x7 + 1)) x104000 x104001 x104002) else (none)) else (none)) else (none)))) else (none)) else (if x8 = 0 then (heliastref13_Put.l0 k x0 x5 x6 (wrap64 (x7 + 1)) x104000 x104001 x104002) else (if 0 ≤ x7 then (if x7 < (x0.length : Int) then (if x5.length < 3518437208883 then (heliastref13_Put.l0 k x0 (x5 ++ [(⟨(rd_T69 x0 x7).f0, (rd_T69 x0 x7).f1, (rd_T69 x0 x7).f2⟩ : S69)]) x6 (wrap64 (x7 + 1)) x104000 x104001 x104002) else (none)) else (none)) else (none)))
end
def heliastref13_Put.f (k : Nat) (l0 : List (S69)) (a1_0 : ByteArray) (a1_1 : ByteArray) (a1_2 : Int) : Option ((List (S69))) := heliastref13_Put.l0 k l0 ([] : List (S69)) false 0 a1_0 a1_1 a1_2
theorem heliastref13_Put.mono_l : ∀ k, (∀ y0 y1 y2 y3 y4 y5 y6, LeO (heliastref13_Put.l0 k y0 y1 y2 y3 y4 y5 y6) (heliastref13_Put.l0 (k + 1) y0 y1 y2 y3 y4 y5 y6)) ∧ (∀ y0 y1 y2 y3 y4 y5 y6 y7 y8, LeO (heliastref13_Put.j1 k y0 y1 y2 y3 y4 y5 y6 y7 y8) (heliastref13_Put.j1 (k + 1) y0 y1 y2 y3 y4 y5 y6 y7 y8))
  | 0 => ⟨fun _ _ _ _ _ _ _ r h => by simp [heliastref13_Put.l0] at h, fun _ _ _ _ _ _ _ _ _ r h => by simp [heliastref13_Put.j1] at h⟩
  | k + 1 => by
    obtain ⟨ih0, ih1⟩ := heliastref13_Put.mono_l k
    refine ⟨?_, ?_⟩
    · intro y0 y1 y2 y3 y4 y5 y6
      unfold heliastref13_Put.l0
      repeat' first
      | (with_reducible exact ih0 _ _ _ _ _ _ _)
      | (with_reducible exact ih1 _ _ _ _ _ _ _ _ _)
      | (with_reducible exact heliastref13_order.mono _ _ _ _ _ _ _)
      | (with_reducible exact LeO.refl _)
      | (with_reducible exact LeO.none _)
      | (with_reducible refine LeO.ite ?_ ?_)
      | (with_reducible refine LeO.bind ?_ (fun _ => ?_))
      | exact ih0 _ _ _ _ _ _ _
      | exact ih1 _ _ _ _ _ _ _ _ _
      | exact heliastref13_order.mono _ _ _ _ _ _ _
      | exact LeO.none _
      | refine LeO.ite ?_ ?_
      | refine LeO.bind ?_ (fun _ => ?_)
    · intro y0 y1 y2 y3 y4 y5 y6 y7 y8
      unfold heliastref13_Put.j1
      repeat' first
      | (with_reducible exact ih0 _ _ _ _ _ _ _)
      | (with_reducible exact ih1 _ _ _ _ _ _ _ _ _)
      | (with_reducible exact heliastref13_order.mono _ _ _ _ _ _ _)
      | (with_reducible exact LeO.refl _)
      | (with_reducible exact LeO.none _)
      | (with_reducible refine LeO.ite ?_ ?_)
      | (with_reducible refine LeO.bind ?_ (fun _ => ?_))
      | exact ih0 _ _ _ _ _ _ _
      | exact ih1 _ _ _ _ _ _ _ _ _
      | exact heliastref13_order.mono _ _ _ _ _ _ _
      | exact LeO.none _
      | refine LeO.ite ?_ ?_
      | refine LeO.bind ?_ (fun _ => ?_)
theorem heliastref13_Put.mono : ∀ a0 a1 a2 a3 k, LeO (heliastref13_Put.f k a0 a1 a2 a3) (heliastref13_Put.f (k + 1) a0 a1 a2 a3) := by
  intro a0 a1 a2 a3 k
  obtain ⟨ih0, ih1⟩ := heliastref13_Put.mono_l k
  unfold heliastref13_Put.f
  repeat' first
      | (with_reducible exact ih0 _ _ _ _ _ _ _)
      | (with_reducible exact ih1 _ _ _ _ _ _ _ _ _)
      | (with_reducible exact heliastref13_order.mono _ _ _ _ _ _ _)
      | (with_reducible exact LeO.refl _)
      | (with_reducible exact LeO.none _)
      | (with_reducible refine LeO.ite ?_ ?_)
      | (with_reducible refine LeO.bind ?_ (fun _ => ?_))
      | exact ih0 _ _ _ _ _ _ _
      | exact ih1 _ _ _ _ _ _ _ _ _
      | exact heliastref13_order.mono _ _ _ _ _ _ _
      | exact LeO.none _
      | refine LeO.ite ?_ ?_
      | refine LeO.bind ?_ (fun _ => ?_)
set_option maxHeartbeats 8000000 in
set_option maxRecDepth 100000 in
theorem heliastref13_Put.calls (k : Nat) (A0 : Option Addr) (c0 : Nat) (l0 : List (S69)) (a1_0 : ByteArray) (a1_1 : ByteArray) (a1_2 : Int) (r : List (S69)) (w : World) (hr0 : Kd.C k69 w A0 l0.length l0) (hc0 : l0.length ≤ c0) (h : heliastref13_Put.f k l0 a1_0 a1_1 a1_2 = some r) :
    Calls Try.prog 94 #[.slice A0 l0.length c0, .agg #[.string a1_0, .string a1_1, .int .i64 a1_2]] w fun e w' => ∃ v0_ : Value, e = .returned (v0_) ∧ Kd.R k69 69 w' w.heap.size (fun _ => True) v0_ r ∧ Below w.heap.size w w' := by
  have hu69 := Try.underlying69
  have HR0 := Aside0.mk hr0
  have HC0 := Aside0.mk hc0
  clear hr0 hc0
  have HB := Aside0.mk (Below.refl w.heap.size w)
  have H : (heliastref13_Put.l0 k l0 ([] : List (S69)) false 0 a1_0 a1_1 a1_2) = some r := h
  clear h
  have H' := Aside0.mk H
  clear H
  go_enter Try.func94, Try.ntmps94
  go_wp2_with (first | ((with_reducible refine gate_dst (N := 3) rfl ?_); refine box_event ?hg (N := 3) ?hd (cs := #[.string a1_0, .string a1_1, .int .i64 a1_2]) (t := 69) ?hr ?_; (case hd => rfl); (case hg => rfl); (case hr => first | (go_simp; done) | (go_simp; rfl)); intro gb103 hg w3 hbox hb; have n0_ := Aside0.mk (below_step (by repeat (first | (with_reducible first | exact HB.out | apply below_alloc | apply pw_below_drewN | apply below_drew1) | exact HB.out)) hb); have n1_ := Aside0.mk (hbox); have n2_ := Aside0.mk ((by rw [hg]; exact (below_size (by repeat (first | (with_reducible first | exact HB.out | apply below_alloc | apply pw_below_drewN | apply below_drew1) | exact HB.out))) : w.heap.size ≤ gb103)); have n3_ := Aside0.mk ((by rw [hg]; exact (below_size (by repeat (first | (with_reducible first | exact HB.out | apply below_alloc | apply pw_below_drewN | apply below_drew1) | exact HB.out))) : w.heap.size ≤ gb103)); clear HB; have HB := n0_; have BK103 := n1_; have GW103 := n2_; have GE103 := n3_; clear n0_ n1_ n2_ n3_; clear hb hbox hg))
  go_loopg [5, 6, 7] k (fun kq v5 v6 v7 w' => ∃ (x5_1 : List (S69)) (x6_1 : Bool) (x7_1 : Int), v6 = .bool x6_1 ∧ v7 = .int .i64 x7_1 ∧ Aside0 (heliastref13_Put.l0 kq l0 x5_1 x6_1 x7_1 a1_0 a1_1 a1_2 = some r) ∧ Aside0 (kq ≤ k) ∧ Aside0 (Kd.R k69 69 w' w.heap.size (fun k_ => k_ ≠ gb103) v5 x5_1) ∧ Aside0 (w'.heap[gb103]? = some (.cells #[.string a1_0, .string a1_1, .int .i64 a1_2] 69 (0, 0))) ∧ Aside0 (Below w.heap.size w w'))
  case atStart => exact ⟨(([] : List (S69))), (false), (0), (by first | rfl | (simp; done) | (simp [*]; done)), (by first | rfl | (simp; done) | (simp [*]; done)), H', ⟨Nat.le_refl _⟩, ⟨by first | exact Kd.R_nil _ _ _ _ _ | exact Kd.N_nil _ _ _ _ _ | exact Kd.V_nil _ _ _ _ _ | exact Kd.Q_nil _ _ _ _ _ | exact Kd.S_nil _ _ _ _ _⟩, ⟨by (with_reducible repeat (first | refine blk_drewN ?_ _ | refine blk_drew ?_ | refine blk_alloc ?_ _)); exact BK103.out⟩, ⟨by repeat (first | (with_reducible first | exact HB.out | apply below_alloc | apply pw_below_drewN | apply below_drew1 | refine below_set ?_ GE103.out) | exact HB.out)⟩⟩
  case round =>
    clear H'
    try clear p2
    obtain ⟨x5_1, x6_1, x7_1, rfl, rfl, HA, HK1, HO_5, BK103, HB⟩ := hrel
    cases gk with
    | zero => exact absurd HA.out (by simp [heliastref13_Put.l0])
    | succ k1 =>
      have H := HA.out
      clear HA
      simp only [heliastref13_Put.l0] at H
      by_cases c4 : x7_1 < (l0.length : Int)
      · rw [if_pos c4] at H
        have c4b0 : decide (x7_1 < (l0.length : Int)) = true := decide_eq_true c4
        clear c4
        by_cases c5 : 0 ≤ x7_1
        · rw [if_pos c5] at H
          have c5b0 : decide (0 ≤ x7_1) = true := decide_eq_true c5
          clear c5
          replace H := Option.bind_eq_some_iff.mp H
          obtain ⟨t108, A60, H⟩ := H
          replace H : (if x6_1 = true then (heliastref13_Put.j1 k1 l0 x5_1 x6_1 x7_1 t108 false a1_0 a1_1 a1_2) else (heliastref13_Put.j1 k1 l0 x5_1 x6_1 x7_1 t108 (decide (t108 ≥ 0)) a1_0 a1_1 a1_2)) = some r := H
          have A6 := Aside0.mk A60
          clear A60
          have HC7 := Aside0.mk H
          clear H
          try go_wp2
          have n0_ := Aside0.mk (Kd.R_drew HO_5.out)
          have n1_ := Aside0.mk (blk_drew BK103.out)
          have n2_ := Aside0.mk (below_drew1 HB.out)
          clear HO_5
          clear BK103
          clear HB
          have HO_5 := n0_
          have BK103 := n1_
          have HB := n2_
          clear n0_ n1_ n2_
          have p107 : 0 ≤ (x7_1 : Int) := of_decide_eq_true (by first | (with_reducible assumption) | assumption)
          have q107 : x7_1 < (l0.length : Int) := of_decide_eq_true (by first | (with_reducible assumption) | assumption)
          obtain ⟨ad107, e107, hx107_0, hx107_1, hx107_2⟩ := at_T69 HR0.out x7_1 p107 q107
          have hw107_2 := hx107_2
          have hw107_1 := hx107_1
          have hw107_0 := hx107_0
          cases e107
          replace hx107_0 := (HB.out.cell (World.block_lt_of_cell? w _ hx107_0)).trans hx107_0
          replace hx107_1 := (HB.out.cell (World.block_lt_of_cell? w _ hx107_1)).trans hx107_1
          replace hx107_2 := (HB.out.cell (World.block_lt_of_cell? w _ hx107_2)).trans hx107_2
          replace p107 := eq_true p107
          replace q107 := eq_true q107
          refine start_ (n := 7) (S := fun w' => w'.cell? ⟨gb103, 0, none⟩ = some (.string a1_0) ∧ w'.cell? ⟨gb103, 1, none⟩ = some (.string a1_1) ∧ w'.cell? ⟨gb103, 2, none⟩ = some (.int .i64 a1_2) ∧ w'.cell? (ad107.add ((x7_1).toNat * 3)) = some (.string ((rd_T69 l0 x7_1).f0)) ∧ w'.cell? ⟨(ad107.add ((x7_1).toNat * 3)).block, (ad107.add ((x7_1).toNat * 3)).off + 1, none⟩ = some (.string ((rd_T69 l0 x7_1).f1)) ∧ w'.cell? ⟨(ad107.add ((x7_1).toNat * 3)).block, (ad107.add ((x7_1).toNat * 3)).off + 2, none⟩ = some (.int .i64 ((rd_T69 l0 x7_1).f2))) (ds := []) #[false, false, false, false, false, false, false] (by kernel_rfl) rfl rfl ⟨(blk_cell BK103.out 0).trans rfl, (blk_cell BK103.out 1).trans rfl, (blk_cell BK103.out 2).trans rfl, ((HB.out.cell (World.block_lt_of_cell? w _ hw107_0)).trans hw107_0), ((HB.out.cell (World.block_lt_of_cell? w _ hw107_1)).trans hw107_1), ((HB.out.cell (World.block_lt_of_cell? w _ hw107_2)).trans hw107_2)⟩ (fun hHeld => ?_)
          generalize wr.drew = w8 at HO_5 BK103 HB hx107_0 hx107_1 hx107_2 hHeld ⊢
          refine pure_ (i := 0) (N := some 15) (v := ?_) (a' := ?_) #[true, false, false, false, false, false, false] rfl rfl (by kernel_rfl) (fun _ _ _ h => h) (Or.inl ⟨by rfl, ?_⟩) ?_ ?_
          rotate_left
          · intro w'
            go_simp
            with_reducible rfl
          rotate_left
          · simp only [Act.put, List.setIfInBounds_toArray, List.set_cons_zero, List.set_cons_succ, i64_w, i32_w]
            rfl
          refine pure_ (i := 1) (N := some 16) (v := ?_) (a' := ?_) #[true, true, false, false, false, false, false] rfl rfl (by kernel_rfl) (fun _ _ _ h => h) (Or.inl ⟨by rfl, ?_⟩) ?_ ?_
          rotate_left
          · intro w'
            go_simp
            with_reducible rfl
          rotate_left
          · simp only [Act.put, List.setIfInBounds_toArray, List.set_cons_zero, List.set_cons_succ, i64_w, i32_w]
            rfl
          refine pure_ (i := 2) (N := some 17) (v := ?_) (a' := ?_) #[true, true, true, false, false, false, false] rfl rfl (by kernel_rfl) (fun _ _ _ h => h) (Or.inl ⟨by rfl, ?_⟩) ?_ ?_
          rotate_left
          · intro w'
            go_simp
            with_reducible rfl
          rotate_left
          · simp only [Act.put, List.setIfInBounds_toArray, List.set_cons_zero, List.set_cons_succ, i64_w, i32_w]
            rfl
          refine take_ (i := 3) (N := some 18) (v := ?_) (a' := ?_) #[true, true, true, true, false, false, false] rfl rfl (by kernel_rfl) (fun _ _ _ h => h) (Or.inl ⟨by rfl, ?_⟩) hHeld ?_ ?_
          rotate_left
          · rintro w' ⟨s0, s1, s2, s3, s4, s5⟩
            go_simp
            with_reducible rfl
          rotate_left
          · simp only [Act.put, List.setIfInBounds_toArray, List.set_cons_zero, List.set_cons_succ, i64_w, i32_w]
            rfl
          refine take_ (i := 4) (N := some 19) (v := ?_) (a' := ?_) #[true, true, true, true, true, false, false] rfl rfl (by kernel_rfl) (fun _ _ _ h => h) (Or.inl ⟨by rfl, ?_⟩) hHeld ?_ ?_
          rotate_left
          · rintro w' ⟨s0, s1, s2, s3, s4, s5⟩
            go_simp
            with_reducible rfl
          rotate_left
          · simp only [Act.put, List.setIfInBounds_toArray, List.set_cons_zero, List.set_cons_succ, i64_w, i32_w]
            rfl
          refine one_ (i := 5) (N := some 20) #[true, true, true, true, true, true, false] rfl rfl (by kernel_rfl) (by decide) (fun K hK => ?_)
          refine goes_ Try.func115 (by kernel_rfl) rfl #[.agg #[.string ((rd_T69 l0 x7_1).f0), .string ((rd_T69 l0 x7_1).f1), .int .i64 ((rd_T69 l0 x7_1).f2)], .agg #[.string a1_0, .string a1_1, .int .i64 a1_2]] (by rfl) rfl rfl (by (try simp only [List.map_toArray, List.map_cons, List.map_nil]); first | done | rfl | (simp only [List.length_drop, List.length_take]; rfl)) ?_
          with_reducible refine (heliastref13_order.calls k1 ((rd_T69 l0 x7_1).f0) ((rd_T69 l0 x7_1).f1) ((rd_T69 l0 x7_1).f2) a1_0 a1_1 a1_2 t108 _ A6.out).mono ?_
          rintro e w9 ⟨rfl, hb⟩
          refine ⟨_, rfl, ?_⟩
          have n0_ := Aside0.mk (Kd.R_below (by (with_reducible repeat (first | apply Kd.R_alloc | apply Kd.R_drewN | apply Kd.R_drew)); exact HO_5.out) hb)
          have n1_ := Aside0.mk (blk_below (g := gb103) (o := .cells #[.string a1_0, .string a1_1, .int .i64 a1_2] 69 (0, 0)) (by (with_reducible repeat (first | refine blk_drewN ?_ _ | refine blk_drew ?_ | refine blk_alloc ?_ _)); exact BK103.out) hb)
          have n2_ := Aside0.mk (below_step (by repeat (first | (with_reducible first | exact HB.out | apply below_alloc | apply pw_below_drewN | apply below_drew1 | refine below_set ?_ GE103.out) | exact HB.out)) hb)
          clear HO_5
          clear BK103
          clear HB
          have HO_5 := n0_
          have BK103 := n1_
          have HB := n2_
          clear n0_ n1_ n2_
          (try clear hb)
          (try clear hb2)
          (try clear hk)
          (try clear hi)
          refine hK.out _ _ ⟨(blk_cell BK103.out 0).trans rfl, (blk_cell BK103.out 1).trans rfl, (blk_cell BK103.out 2).trans rfl, ((HB.out.cell (World.block_lt_of_cell? w _ hw107_0)).trans hw107_0), ((HB.out.cell (World.block_lt_of_cell? w _ hw107_1)).trans hw107_1), ((HB.out.cell (World.block_lt_of_cell? w _ hw107_2)).trans hw107_2)⟩ (fun hHeld => ?_)
          clear hK K
          refine norm_ (a' := ?_) ?_ ?_
          rotate_left
          · show Act.put _ (some 20) _ = _
            simp only [Act.put, List.setIfInBounds_toArray, List.set_cons_zero, List.set_cons_succ, i64_w, i32_w]
            rfl
          refine pure_ (i := 6) (N := some 8) (v := ?_) (a' := ?_) #[true, true, true, true, true, true, true] rfl rfl (by kernel_rfl) (fun _ _ _ h => h) (Or.inl ⟨by rfl, ?_⟩) ?_ ?_
          rotate_left
          · intro w'
            go_simp
            with_reducible rfl
          rotate_left
          · simp only [Act.put, List.setIfInBounds_toArray, List.set_cons_zero, List.set_cons_succ, i64_w, i32_w]
            rfl
          refine done_ (by kernel_rfl) ?_
          go_upto_region 7 with (fail)
          go_cut [26] (fun v26 wc => ∃ (kq : Nat) (x26_6 : Bool), v26 = .bool x26_6 ∧ Aside0 (heliastref13_Put.j1 kq l0 x5_1 x6_1 x7_1 t108 x26_6 a1_0 a1_1 a1_2 = some r) ∧ Aside0 (kq ≤ k1) ∧ Aside0 (Kd.R k69 69 wc w.heap.size (fun k_ => k_ ≠ gb103) u5 x5_1) ∧ Aside0 (wc.heap[gb103]? = some (.cells #[.string a1_0, .string a1_1, .int .i64 a1_2] 69 (0, 0))) ∧ Aside0 (Below w.heap.size w wc))
          case first =>
            have H := HC7.out
            clear HC7
            by_cases c10 : x6_1 = true
            · subst c10
              have H1 : (heliastref13_Put.j1 k1 l0 x5_1 true x7_1 t108 false a1_0 a1_1 a1_2) = some r := by rw [if_pos rfl] at H; exact H
              clear H
              have H := H1
              clear H1
              have H' := Aside0.mk H
              clear H
              go_wp2
              go_meet
              case rel => exact ⟨_, (false), (by first | rfl | (simp; done) | (simp [*]; done)), H', ⟨by have := HK1.out; first | omega | exact Nat.le_refl _⟩, ⟨by (with_reducible repeat (first | apply Kd.R_alloc | apply Kd.R_drewN | apply Kd.R_drew)); exact HO_5.out⟩, ⟨by (with_reducible repeat (first | refine blk_drewN ?_ _ | refine blk_drew ?_ | refine blk_alloc ?_ _)); exact BK103.out⟩, ⟨by repeat (first | (with_reducible first | exact HB.out | apply below_alloc | apply pw_below_drewN | apply below_drew1 | refine below_set ?_ GE103.out) | exact HB.out)⟩⟩
            · replace c10 := Bool.eq_false_iff.mpr c10
              subst c10
              have H1 : (heliastref13_Put.j1 k1 l0 x5_1 false x7_1 t108 (decide (t108 ≥ 0)) a1_0 a1_1 a1_2) = some r := by rw [if_neg (show ¬ (false = true) by decide)] at H; exact H
              clear H
              have H := H1
              clear H1
              have H' := Aside0.mk H
              clear H
              go_wp2
              go_meet
              case rel => exact ⟨_, (decide (t108 ≥ 0)), (by first | rfl | (simp; done) | (simp [*]; done)), H', ⟨by have := HK1.out; first | omega | exact Nat.le_refl _⟩, ⟨by (with_reducible repeat (first | apply Kd.R_alloc | apply Kd.R_drewN | apply Kd.R_drew)); exact HO_5.out⟩, ⟨by (with_reducible repeat (first | refine blk_drewN ?_ _ | refine blk_drew ?_ | refine blk_alloc ?_ _)); exact BK103.out⟩, ⟨by repeat (first | (with_reducible first | exact HB.out | apply below_alloc | apply pw_below_drewN | apply below_drew1 | refine below_set ?_ GE103.out) | exact HB.out)⟩⟩
          case rest =>
            clear HC7
            try clear c1
            try clear p1
            try clear q1
            try clear hx1
            try clear p2
            try clear c4
            try clear c4b0
            try clear c5
            try clear c5b0
            try clear c9
            try clear c10
            try clear p10
            try clear q10
            try clear hx10
            try clear hx107_0
            try clear hx107_1
            try clear hx107_2
            try clear p107
            try clear p2
            try clear q107
            obtain ⟨kq, x26_6, rfl, HA, HJ6, HO_5, BK103, HB⟩ := hcut
            cases kq with
            | zero => exact absurd HA.out (by simp [heliastref13_Put.j1])
            | succ kj6 =>
              have H := HA.out
              clear HA
              simp only [heliastref13_Put.j1] at H
              by_cases c11 : x26_6 = true
              · subst c11
                have H1 : (if x5_1.length < 3518437208883 then ((some (x5_1 ++ [(⟨a1_0, a1_1, a1_2⟩ : S69)] : List (S69))).bind fun y109 => (if t108 = 0 then (heliastref13_Put.l0 kj6 l0 y109 true (wrap64 (x7_1 + 1)) a1_0 a1_1 a1_2) else (if 0 ≤ x7_1 then (if x7_1 < (l0.length : Int) then (if y109.length < 3518437208883 then (heliastref13_Put.l0 kj6 l0 (y109 ++ [(⟨(rd_T69 l0 x7_1).f0, (rd_T69 l0 x7_1).f1, (rd_T69 l0 x7_1).f2⟩ : S69)]) true (wrap64 (x7_1 + 1)) a1_0 a1_1 a1_2) else (none)) else (none)) else (none)))) else (none)) = some r := by rw [if_pos rfl] at H; exact H
                clear H
                have H := H1
                clear H1
                by_cases c12 : x5_1.length < 3518437208883
                · rw [if_pos c12] at H
                  have LMc12 := Aside0.mk c12
                  clear c12
                  obtain ⟨y109, hy109⟩ : ∃ y_ : List (S69), y_ = (x5_1 ++ [(⟨a1_0, a1_1, a1_2⟩ : S69)]) := ⟨_, rfl⟩
                  replace H : (if t108 = 0 then (heliastref13_Put.l0 kj6 l0 y109 true (wrap64 (x7_1 + 1)) a1_0 a1_1 a1_2) else (if 0 ≤ x7_1 then (if x7_1 < (l0.length : Int) then (if y109.length < 3518437208883 then (heliastref13_Put.l0 kj6 l0 (y109 ++ [(⟨(rd_T69 l0 x7_1).f0, (rd_T69 l0 x7_1).f1, (rd_T69 l0 x7_1).f2⟩ : S69)]) true (wrap64 (x7_1 + 1)) a1_0 a1_1 a1_2) else (none)) else (none)) else (none))) = some r := by first | (rw [hy109]; with_reducible exact H) | (have H2_ := (Option.bind_some _ _).symm.trans H; rw [hy109]; with_reducible exact H2_) | (have H2_ := (Option.bind_some _ _).symm.trans H; with_reducible exact H2_) | with_reducible exact H | (rw [hy109]; exact H) | exact H
                  have Ny109 := Aside0.mk hy109
                  clear hy109
                  by_cases c13 : t108 = 0
                  · rw [if_pos c13] at H
                    have c13b0 : (t108 == 0) = true := beq_iff_eq.mpr c13
                    have c13b1 : (t108 != 0) = false := bne_eq_false_iff_eq.mpr c13
                    clear c13
                    have H' := Aside0.mk H
                    clear H
                    have hcz14_0 : wc.cell? ⟨gb103, 0, none⟩ = some (.string a1_0) := (blk_cell BK103.out 0).trans rfl
                    have hcz14_1 : wc.cell? ⟨gb103, 1, none⟩ = some (.string a1_1) := (blk_cell BK103.out 1).trans rfl
                    have hcz14_2 : wc.cell? ⟨gb103, 2, none⟩ = some (.int .i64 a1_2) := (blk_cell BK103.out 2).trans rfl
                    have hfz14_0 := blk_frozen BK103.out 0
                    have hfz14_1 := blk_frozen BK103.out 1
                    have hfz14_2 := blk_frozen BK103.out 2
                    go_wp2_with (first | ((with_reducible refine gate_builtin (b := .append) (xs := #[.tmp 27, .tmp 29]) rfl ?_); at_builtin; refine Kd.R_append k69 (w0 := w) w.heap.size rfl (.tmp 27) (.tmp 29) 63 69 (.agg #[(.string ⟨#[]⟩), (.string ⟨#[]⟩), (.int .i64 0)]) 40 rfl Try.underlying63 info69 rfl (by decide) (by omega) u5 x5_1 (⟨a1_0, a1_1, a1_2⟩ : S69) [.string a1_0, .string a1_1, .int .i64 a1_2] (fun k_ => k_ ≠ gb103) (fun _ => False) rfl rfl ?aP (fun _ hk => hk.elim) ?aF ?aO ?aB ?aS ?aL ?_; (case aP => exact k69_mkM _ _ _ (⟨a1_0, a1_1, a1_2⟩ : S69)); (case aB => exact (by repeat (first | (with_reducible first | exact HB.out | apply below_alloc | apply pw_below_drewN | apply below_drew1 | refine below_set ?_ GE103.out) | exact HB.out))); (case aF => exact (fun k_ hk => Kd.freshB (g := gb103) (o := .cells #[.string a1_0, .string a1_1, .int .i64 a1_2] 69 (0, 0)) (by (with_reducible repeat (first | refine blk_drewN ?_ _ | refine blk_drew ?_ | refine blk_alloc ?_ _)); exact BK103.out) k_ hk)); (case aO => exact (by (with_reducible repeat (first | apply Kd.R_alloc | apply Kd.R_drewN | apply Kd.R_drew)); exact HO_5.out)); (case aS => exact (below_size (by repeat (first | (with_reducible first | exact HB.out | apply below_alloc | apply pw_below_drewN | apply below_drew1 | refine below_set ?_ GE103.out) | exact HB.out)))); (case aL => have := LMc12.out; omega); intro v110 w15 ho hb hg hat; rw [← Ny109.out] at ho; have n0_ := Aside0.mk (blk_grown (g := gb103) (o := .cells #[.string a1_0, .string a1_1, .int .i64 a1_2] 69 (0, 0)) (by (with_reducible repeat (first | refine blk_drewN ?_ _ | refine blk_drew ?_ | refine blk_alloc ?_ _)); exact BK103.out) hg (Kd.R_away HO_5.out (fun _ hk => hk))); have n1_ := Aside0.mk (hb); have n2_ := Aside0.mk (ho); clear BK103; clear HB; clear HO_5; have BK103 := n0_; have HB := n1_; have HO111 := n2_; clear n0_ n1_ n2_; clear ho hb hg hat))
                    go_roundg kj6
                    case measure => have := HK1.out; have := HJ6.out; omega
                    case rel => exact ⟨(y109), (true), (wrap64 (x7_1 + 1)), (by first | rfl | (simp; done) | (simp [*]; done)), (by first | rfl | (simp; done) | (simp [*]; done)), H', ⟨by have := HK1.out; have := HJ6.out; omega⟩, ⟨by (with_reducible repeat (first | apply Kd.R_alloc | apply Kd.R_drewN | apply Kd.R_drew)); exact HO111.out⟩, ⟨by (with_reducible repeat (first | refine blk_drewN ?_ _ | refine blk_drew ?_ | refine blk_alloc ?_ _)); exact BK103.out⟩, ⟨by repeat (first | (with_reducible first | exact HB.out | apply below_alloc | apply pw_below_drewN | apply below_drew1 | refine below_set ?_ GE103.out) | exact HB.out)⟩⟩
                  · rw [if_neg c13] at H
                    have c13b0 : (t108 == 0) = false := beq_eq_false_iff_ne.mpr c13
                    have c13b1 : (t108 != 0) = true := bne_iff_ne.mpr c13
                    by_cases c16 : 0 ≤ x7_1
                    · rw [if_pos c16] at H
                      have c16b0 : decide (0 ≤ x7_1) = true := decide_eq_true c16
                      clear c16
                      by_cases c17 : x7_1 < (l0.length : Int)
                      · rw [if_pos c17] at H
                        have c17b0 : decide (x7_1 < (l0.length : Int)) = true := decide_eq_true c17
                        clear c17
                        by_cases c18 : y109.length < 3518437208883
                        · rw [if_pos c18] at H
                          have LMc18 := Aside0.mk c18
                          clear c18
                          obtain ⟨y113, hy113⟩ : ∃ y_ : List (S69), y_ = (y109 ++ [(⟨(rd_T69 l0 x7_1).f0, (rd_T69 l0 x7_1).f1, (rd_T69 l0 x7_1).f2⟩ : S69)]) := ⟨_, rfl⟩
                          replace H : (heliastref13_Put.l0 kj6 l0 y113 true (wrap64 (x7_1 + 1)) a1_0 a1_1 a1_2) = some r := by first | (rw [hy113]; with_reducible exact H) | (have H2_ := (Option.bind_some _ _).symm.trans H; rw [hy113]; with_reducible exact H2_) | (have H2_ := (Option.bind_some _ _).symm.trans H; with_reducible exact H2_) | with_reducible exact H | (rw [hy113]; exact H) | exact H
                          have Ny113 := Aside0.mk hy113
                          clear hy113
                          have H' := Aside0.mk H
                          clear H
                          have hcz19_0 : wc.cell? ⟨gb103, 0, none⟩ = some (.string a1_0) := (blk_cell BK103.out 0).trans rfl
                          have hcz19_1 : wc.cell? ⟨gb103, 1, none⟩ = some (.string a1_1) := (blk_cell BK103.out 1).trans rfl
                          have hcz19_2 : wc.cell? ⟨gb103, 2, none⟩ = some (.int .i64 a1_2) := (blk_cell BK103.out 2).trans rfl
                          have hfz19_0 := blk_frozen BK103.out 0
                          have hfz19_1 := blk_frozen BK103.out 1
                          have hfz19_2 := blk_frozen BK103.out 2
                          go_wp2_with (first | ((with_reducible refine gate_builtin (b := .append) (xs := #[.tmp 27, .tmp 29]) rfl ?_); at_builtin; refine Kd.R_append k69 (w0 := w) w.heap.size rfl (.tmp 27) (.tmp 29) 63 69 (.agg #[(.string ⟨#[]⟩), (.string ⟨#[]⟩), (.int .i64 0)]) 40 rfl Try.underlying63 info69 rfl (by decide) (by omega) u5 x5_1 (⟨a1_0, a1_1, a1_2⟩ : S69) [.string a1_0, .string a1_1, .int .i64 a1_2] (fun k_ => k_ ≠ gb103) (fun _ => False) rfl rfl ?aP (fun _ hk => hk.elim) ?aF ?aO ?aB ?aS ?aL ?_; (case aP => exact k69_mkM _ _ _ (⟨a1_0, a1_1, a1_2⟩ : S69)); (case aB => exact (by repeat (first | (with_reducible first | exact HB.out | apply below_alloc | apply pw_below_drewN | apply below_drew1 | refine below_set ?_ GE103.out) | exact HB.out))); (case aF => exact (fun k_ hk => Kd.freshB (g := gb103) (o := .cells #[.string a1_0, .string a1_1, .int .i64 a1_2] 69 (0, 0)) (by (with_reducible repeat (first | refine blk_drewN ?_ _ | refine blk_drew ?_ | refine blk_alloc ?_ _)); exact BK103.out) k_ hk)); (case aO => exact (by (with_reducible repeat (first | apply Kd.R_alloc | apply Kd.R_drewN | apply Kd.R_drew)); exact HO_5.out)); (case aS => exact (below_size (by repeat (first | (with_reducible first | exact HB.out | apply below_alloc | apply pw_below_drewN | apply below_drew1 | refine below_set ?_ GE103.out) | exact HB.out)))); (case aL => have := LMc12.out; omega); intro v110 w20 ho hb hg hat; rw [← Ny109.out] at ho; have n0_ := Aside0.mk (blk_grown (g := gb103) (o := .cells #[.string a1_0, .string a1_1, .int .i64 a1_2] 69 (0, 0)) (by (with_reducible repeat (first | refine blk_drewN ?_ _ | refine blk_drew ?_ | refine blk_alloc ?_ _)); exact BK103.out) hg (Kd.R_away HO_5.out (fun _ hk => hk))); have n1_ := Aside0.mk (hb); have n2_ := Aside0.mk (ho); clear BK103; clear HB; clear HO_5; have BK103 := n0_; have HB := n1_; have HO111 := n2_; clear n0_ n1_ n2_; clear ho hb hg hat; have p112 : 0 ≤ (x7_1 : Int) := of_decide_eq_true (by first | (with_reducible assumption) | assumption); have q112 : x7_1 < (l0.length : Int) := of_decide_eq_true (by first | (with_reducible assumption) | assumption); obtain ⟨ad112, e112, hx112_0, hx112_1, hx112_2⟩ := at_T69 HR0.out x7_1 p112 q112; obtain rfl : ad107 = ad112 := (by injection e112); replace hx112_0 := (HB.out.cell (World.block_lt_of_cell? w _ hx112_0)).trans hx112_0; replace hx112_1 := (HB.out.cell (World.block_lt_of_cell? w _ hx112_1)).trans hx112_1; replace hx112_2 := (HB.out.cell (World.block_lt_of_cell? w _ hx112_2)).trans hx112_2; replace p112 := eq_true p112; replace q112 := eq_true q112) | ((with_reducible refine gate_builtin (b := .append) (xs := #[.tmp 33, .tmp 38]) rfl ?_); at_builtin; refine Kd.R_append k69 (w0 := w) w.heap.size rfl (.tmp 33) (.tmp 38) 63 69 (.agg #[(.string ⟨#[]⟩), (.string ⟨#[]⟩), (.int .i64 0)]) 40 rfl Try.underlying63 info69 rfl (by decide) (by omega) v110 y109 (⟨(rd_T69 l0 x7_1).f0, (rd_T69 l0 x7_1).f1, (rd_T69 l0 x7_1).f2⟩ : S69) [.string ((rd_T69 l0 x7_1).f0), .string ((rd_T69 l0 x7_1).f1), .int .i64 ((rd_T69 l0 x7_1).f2)] (fun k_ => k_ ≠ gb103) (fun _ => False) rfl rfl ?aP (fun _ hk => hk.elim) ?aF ?aO ?aB ?aS ?aL ?_; (case aP => exact k69_mkM _ _ _ (⟨(rd_T69 l0 x7_1).f0, (rd_T69 l0 x7_1).f1, (rd_T69 l0 x7_1).f2⟩ : S69)); (case aB => exact (by repeat (first | (with_reducible first | exact HB.out | apply below_alloc | apply pw_below_drewN | apply below_drew1 | refine below_set ?_ GE103.out) | exact HB.out))); (case aF => exact (fun k_ hk => Kd.freshB (g := gb103) (o := .cells #[.string a1_0, .string a1_1, .int .i64 a1_2] 69 (0, 0)) (by (with_reducible repeat (first | refine blk_drewN ?_ _ | refine blk_drew ?_ | refine blk_alloc ?_ _)); exact BK103.out) k_ hk)); (case aO => exact (by (with_reducible repeat (first | apply Kd.R_alloc | apply Kd.R_drewN | apply Kd.R_drew)); exact HO111.out)); (case aS => exact (below_size (by repeat (first | (with_reducible first | exact HB.out | apply below_alloc | apply pw_below_drewN | apply below_drew1 | refine below_set ?_ GE103.out) | exact HB.out)))); (case aL => have := LMc18.out; omega); intro v114 w21 ho hb hg hat; rw [← Ny113.out] at ho; have n0_ := Aside0.mk (blk_grown (g := gb103) (o := .cells #[.string a1_0, .string a1_1, .int .i64 a1_2] 69 (0, 0)) (by (with_reducible repeat (first | refine blk_drewN ?_ _ | refine blk_drew ?_ | refine blk_alloc ?_ _)); exact BK103.out) hg (Kd.R_away HO111.out (fun _ hk => hk))); have n1_ := Aside0.mk (hb); have n2_ := Aside0.mk (ho); clear BK103; clear HB; clear HO111; have BK103 := n0_; have HB := n1_; have HO115 := n2_; clear n0_ n1_ n2_; clear ho hb hg hat))
                          go_roundg kj6
                          case measure => have := HK1.out; have := HJ6.out; omega
                          case rel => exact ⟨(y113), (true), (wrap64 (x7_1 + 1)), (by first | rfl | (simp; done) | (simp [*]; done)), (by first | rfl | (simp; done) | (simp [*]; done)), H', ⟨by have := HK1.out; have := HJ6.out; omega⟩, ⟨by (with_reducible repeat (first | apply Kd.R_alloc | apply Kd.R_drewN | apply Kd.R_drew)); exact HO115.out⟩, ⟨by (with_reducible repeat (first | refine blk_drewN ?_ _ | refine blk_drew ?_ | refine blk_alloc ?_ _)); exact BK103.out⟩, ⟨by repeat (first | (with_reducible first | exact HB.out | apply below_alloc | apply pw_below_drewN | apply below_drew1 | refine below_set ?_ GE103.out) | exact HB.out)⟩⟩
                        · rw [if_neg c18] at H
                          exact absurd H (by simp)
                      · rw [if_neg c17] at H
                        exact absurd H (by simp)
                    · rw [if_neg c16] at H
                      exact absurd H (by simp)
                · rw [if_neg c12] at H
                  exact absurd H (by simp)
              · replace c11 := Bool.eq_false_iff.mpr c11
                subst c11
                have H1 : (if t108 = 0 then (heliastref13_Put.l0 kj6 l0 x5_1 x6_1 (wrap64 (x7_1 + 1)) a1_0 a1_1 a1_2) else (if 0 ≤ x7_1 then (if x7_1 < (l0.length : Int) then (if x5_1.length < 3518437208883 then (heliastref13_Put.l0 kj6 l0 (x5_1 ++ [(⟨(rd_T69 l0 x7_1).f0, (rd_T69 l0 x7_1).f1, (rd_T69 l0 x7_1).f2⟩ : S69)]) x6_1 (wrap64 (x7_1 + 1)) a1_0 a1_1 a1_2) else (none)) else (none)) else (none))) = some r := by rw [if_neg (show ¬ (false = true) by decide)] at H; exact H
                clear H
                have H := H1
                clear H1
                by_cases c22 : t108 = 0
                · rw [if_pos c22] at H
                  have c22b0 : (t108 == 0) = true := beq_iff_eq.mpr c22
                  have c22b1 : (t108 != 0) = false := bne_eq_false_iff_eq.mpr c22
                  clear c22
                  have H' := Aside0.mk H
                  clear H
                  go_wp2
                  go_roundg kj6
                  case measure => have := HK1.out; have := HJ6.out; omega
                  case rel => exact ⟨(x5_1), (x6_1), (wrap64 (x7_1 + 1)), (by first | rfl | (simp; done) | (simp [*]; done)), (by first | rfl | (simp; done) | (simp [*]; done)), H', ⟨by have := HK1.out; have := HJ6.out; omega⟩, ⟨by (with_reducible repeat (first | apply Kd.R_alloc | apply Kd.R_drewN | apply Kd.R_drew)); exact HO_5.out⟩, ⟨by (with_reducible repeat (first | refine blk_drewN ?_ _ | refine blk_drew ?_ | refine blk_alloc ?_ _)); exact BK103.out⟩, ⟨by repeat (first | (with_reducible first | exact HB.out | apply below_alloc | apply pw_below_drewN | apply below_drew1 | refine below_set ?_ GE103.out) | exact HB.out)⟩⟩
                · rw [if_neg c22] at H
                  have c22b0 : (t108 == 0) = false := beq_eq_false_iff_ne.mpr c22
                  have c22b1 : (t108 != 0) = true := bne_iff_ne.mpr c22
                  by_cases c23 : 0 ≤ x7_1
                  · rw [if_pos c23] at H
                    have c23b0 : decide (0 ≤ x7_1) = true := decide_eq_true c23
                    clear c23
                    by_cases c24 : x7_1 < (l0.length : Int)
                    · rw [if_pos c24] at H
                      have c24b0 : decide (x7_1 < (l0.length : Int)) = true := decide_eq_true c24
                      clear c24
                      by_cases c25 : x5_1.length < 3518437208883
                      · rw [if_pos c25] at H
                        have LMc25 := Aside0.mk c25
                        clear c25
                        obtain ⟨y117, hy117⟩ : ∃ y_ : List (S69), y_ = (x5_1 ++ [(⟨(rd_T69 l0 x7_1).f0, (rd_T69 l0 x7_1).f1, (rd_T69 l0 x7_1).f2⟩ : S69)]) := ⟨_, rfl⟩
                        replace H : (heliastref13_Put.l0 kj6 l0 y117 x6_1 (wrap64 (x7_1 + 1)) a1_0 a1_1 a1_2) = some r := by first | (rw [hy117]; with_reducible exact H) | (have H2_ := (Option.bind_some _ _).symm.trans H; rw [hy117]; with_reducible exact H2_) | (have H2_ := (Option.bind_some _ _).symm.trans H; with_reducible exact H2_) | with_reducible exact H | (rw [hy117]; exact H) | exact H
                        have Ny117 := Aside0.mk hy117
                        clear hy117
                        have H' := Aside0.mk H
                        clear H
                        have p116 : 0 ≤ (x7_1 : Int) := of_decide_eq_true (by first | (with_reducible assumption) | assumption)
                        have q116 : x7_1 < (l0.length : Int) := of_decide_eq_true (by first | (with_reducible assumption) | assumption)
                        obtain ⟨ad116, e116, hx116_0, hx116_1, hx116_2⟩ := at_T69 HR0.out x7_1 p116 q116
                        obtain rfl : ad107 = ad116 := (by injection e116)
                        replace hx116_0 := (HB.out.cell (World.block_lt_of_cell? w _ hx116_0)).trans hx116_0
                        replace hx116_1 := (HB.out.cell (World.block_lt_of_cell? w _ hx116_1)).trans hx116_1
                        replace hx116_2 := (HB.out.cell (World.block_lt_of_cell? w _ hx116_2)).trans hx116_2
                        replace p116 := eq_true p116
                        replace q116 := eq_true q116
                        go_wp2_with (first | ((with_reducible refine gate_builtin (b := .append) (xs := #[.tmp 33, .tmp 38]) rfl ?_); at_builtin; refine Kd.R_append k69 (w0 := w) w.heap.size rfl (.tmp 33) (.tmp 38) 63 69 (.agg #[(.string ⟨#[]⟩), (.string ⟨#[]⟩), (.int .i64 0)]) 40 rfl Try.underlying63 info69 rfl (by decide) (by omega) u5 x5_1 (⟨(rd_T69 l0 x7_1).f0, (rd_T69 l0 x7_1).f1, (rd_T69 l0 x7_1).f2⟩ : S69) [.string ((rd_T69 l0 x7_1).f0), .string ((rd_T69 l0 x7_1).f1), .int .i64 ((rd_T69 l0 x7_1).f2)] (fun k_ => k_ ≠ gb103) (fun _ => False) rfl rfl ?aP (fun _ hk => hk.elim) ?aF ?aO ?aB ?aS ?aL ?_; (case aP => exact k69_mkM _ _ _ (⟨(rd_T69 l0 x7_1).f0, (rd_T69 l0 x7_1).f1, (rd_T69 l0 x7_1).f2⟩ : S69)); (case aB => exact (by repeat (first | (with_reducible first | exact HB.out | apply below_alloc | apply pw_below_drewN | apply below_drew1 | refine below_set ?_ GE103.out) | exact HB.out))); (case aF => exact (fun k_ hk => Kd.freshB (g := gb103) (o := .cells #[.string a1_0, .string a1_1, .int .i64 a1_2] 69 (0, 0)) (by (with_reducible repeat (first | refine blk_drewN ?_ _ | refine blk_drew ?_ | refine blk_alloc ?_ _)); exact BK103.out) k_ hk)); (case aO => exact (by (with_reducible repeat (first | apply Kd.R_alloc | apply Kd.R_drewN | apply Kd.R_drew)); exact HO_5.out)); (case aS => exact (below_size (by repeat (first | (with_reducible first | exact HB.out | apply below_alloc | apply pw_below_drewN | apply below_drew1 | refine below_set ?_ GE103.out) | exact HB.out)))); (case aL => have := LMc25.out; omega); intro v118 w26 ho hb hg hat; rw [← Ny117.out] at ho; have n0_ := Aside0.mk (blk_grown (g := gb103) (o := .cells #[.string a1_0, .string a1_1, .int .i64 a1_2] 69 (0, 0)) (by (with_reducible repeat (first | refine blk_drewN ?_ _ | refine blk_drew ?_ | refine blk_alloc ?_ _)); exact BK103.out) hg (Kd.R_away HO_5.out (fun _ hk => hk))); have n1_ := Aside0.mk (hb); have n2_ := Aside0.mk (ho); clear BK103; clear HB; clear HO_5; have BK103 := n0_; have HB := n1_; have HO119 := n2_; clear n0_ n1_ n2_; clear ho hb hg hat))
                        go_roundg kj6
                        case measure => have := HK1.out; have := HJ6.out; omega
                        case rel => exact ⟨(y117), (x6_1), (wrap64 (x7_1 + 1)), (by first | rfl | (simp; done) | (simp [*]; done)), (by first | rfl | (simp; done) | (simp [*]; done)), H', ⟨by have := HK1.out; have := HJ6.out; omega⟩, ⟨by (with_reducible repeat (first | apply Kd.R_alloc | apply Kd.R_drewN | apply Kd.R_drew)); exact HO119.out⟩, ⟨by (with_reducible repeat (first | refine blk_drewN ?_ _ | refine blk_drew ?_ | refine blk_alloc ?_ _)); exact BK103.out⟩, ⟨by repeat (first | (with_reducible first | exact HB.out | apply below_alloc | apply pw_below_drewN | apply below_drew1 | refine below_set ?_ GE103.out) | exact HB.out)⟩⟩
                      · rw [if_neg c25] at H
                        exact absurd H (by simp)
                    · rw [if_neg c24] at H
                      exact absurd H (by simp)
                  · rw [if_neg c23] at H
                    exact absurd H (by simp)
        · rw [if_neg c5] at H
          exact absurd H (by simp)
      · rw [if_neg c4] at H
        have c4b0 : decide (x7_1 < (l0.length : Int)) = false := decide_eq_false c4
        clear c4
        by_cases c27 : x6_1 = true
        · subst c27
          have H1 : (some x5_1) = some r := by rw [if_pos rfl] at H; exact H
          clear H
          have H := H1
          clear H1
          obtain rfl := Option.some.inj H
          go_wp2
          go_ret
          exact ⟨_, by first | rfl | (simp [errW_none, errW_some] <;> rfl) | (simp [*, errW_none, errW_some] <;> rfl), by (with_reducible repeat (first | apply Kd.R_alloc | apply Kd.R_drewN | apply Kd.R_drew)); exact Kd.R_mono HO_5.out (fun _ hk => trivial), by repeat (first | (with_reducible first | exact HB.out | apply below_alloc | apply pw_below_drewN | apply below_drew1 | refine below_set ?_ GE103.out) | exact HB.out)⟩
        · replace c27 := Bool.eq_false_iff.mpr c27
          subst c27
          have H1 : (if x5_1.length < 3518437208883 then (some (x5_1 ++ [(⟨a1_0, a1_1, a1_2⟩ : S69)])) else (none)) = some r := by rw [if_neg (show ¬ (false = true) by decide)] at H; exact H
          clear H
          have H := H1
          clear H1
          by_cases c28 : x5_1.length < 3518437208883
          · rw [if_pos c28] at H
            have LMc28 := Aside0.mk c28
            clear c28
            obtain ⟨y104, hy104⟩ : ∃ y_ : List (S69), y_ = (x5_1 ++ [(⟨a1_0, a1_1, a1_2⟩ : S69)]) := ⟨_, rfl⟩
            replace H : (some y104) = some r := by first | (rw [hy104]; with_reducible exact H) | (have H2_ := (Option.bind_some _ _).symm.trans H; rw [hy104]; with_reducible exact H2_) | (have H2_ := (Option.bind_some _ _).symm.trans H; with_reducible exact H2_) | with_reducible exact H | (rw [hy104]; exact H) | exact H
            have Ny104 := Aside0.mk hy104
            clear hy104
            obtain rfl := Option.some.inj H
            have hcz29_0 : wr.cell? ⟨gb103, 0, none⟩ = some (.string a1_0) := (blk_cell BK103.out 0).trans rfl
            have hcz29_1 : wr.cell? ⟨gb103, 1, none⟩ = some (.string a1_1) := (blk_cell BK103.out 1).trans rfl
            have hcz29_2 : wr.cell? ⟨gb103, 2, none⟩ = some (.int .i64 a1_2) := (blk_cell BK103.out 2).trans rfl
            have hfz29_0 := blk_frozen BK103.out 0
            have hfz29_1 := blk_frozen BK103.out 1
            have hfz29_2 := blk_frozen BK103.out 2
            go_wp2_with (first | ((with_reducible refine gate_builtin (b := .append) (xs := #[.tmp 42, .tmp 44]) rfl ?_); at_builtin; refine Kd.R_append k69 (w0 := w) w.heap.size rfl (.tmp 42) (.tmp 44) 63 69 (.agg #[(.string ⟨#[]⟩), (.string ⟨#[]⟩), (.int .i64 0)]) 40 rfl Try.underlying63 info69 rfl (by decide) (by omega) u5 x5_1 (⟨a1_0, a1_1, a1_2⟩ : S69) [.string a1_0, .string a1_1, .int .i64 a1_2] (fun k_ => k_ ≠ gb103) (fun _ => False) rfl rfl ?aP (fun _ hk => hk.elim) ?aF ?aO ?aB ?aS ?aL ?_; (case aP => exact k69_mkM _ _ _ (⟨a1_0, a1_1, a1_2⟩ : S69)); (case aB => exact (by repeat (first | (with_reducible first | exact HB.out | apply below_alloc | apply pw_below_drewN | apply below_drew1 | refine below_set ?_ GE103.out) | exact HB.out))); (case aF => exact (fun k_ hk => Kd.freshB (g := gb103) (o := .cells #[.string a1_0, .string a1_1, .int .i64 a1_2] 69 (0, 0)) (by (with_reducible repeat (first | refine blk_drewN ?_ _ | refine blk_drew ?_ | refine blk_alloc ?_ _)); exact BK103.out) k_ hk)); (case aO => exact (by (with_reducible repeat (first | apply Kd.R_alloc | apply Kd.R_drewN | apply Kd.R_drew)); exact HO_5.out)); (case aS => exact (below_size (by repeat (first | (with_reducible first | exact HB.out | apply below_alloc | apply pw_below_drewN | apply below_drew1 | refine below_set ?_ GE103.out) | exact HB.out)))); (case aL => have := LMc28.out; omega); intro v105 w30 ho hb hg hat; rw [← Ny104.out] at ho; have n0_ := Aside0.mk (blk_grown (g := gb103) (o := .cells #[.string a1_0, .string a1_1, .int .i64 a1_2] 69 (0, 0)) (by (with_reducible repeat (first | refine blk_drewN ?_ _ | refine blk_drew ?_ | refine blk_alloc ?_ _)); exact BK103.out) hg (Kd.R_away HO_5.out (fun _ hk => hk))); have n1_ := Aside0.mk (hb); have n2_ := Aside0.mk (ho); clear BK103; clear HB; clear HO_5; have BK103 := n0_; have HB := n1_; have HO106 := n2_; clear n0_ n1_ n2_; clear ho hb hg hat))
            go_ret
            exact ⟨_, by first | rfl | (simp [errW_none, errW_some] <;> rfl) | (simp [*, errW_none, errW_some] <;> rfl), by (with_reducible repeat (first | apply Kd.R_alloc | apply Kd.R_drewN | apply Kd.R_drew)); exact Kd.R_mono HO106.out (fun _ hk => trivial), by repeat (first | (with_reducible first | exact HB.out | apply below_alloc | apply pw_below_drewN | apply below_drew1 | refine below_set ?_ GE103.out) | exact HB.out)⟩
          · rw [if_neg c28] at H
            exact absurd H (by simp)
end Go.Proofs.Ytmmalieacakcbaa.S
end
section
namespace Go.Proofs.Ytmmalieacakcbaa.S
open Go.RowKit Go.Proofs.YtmmalieacakcbaaW.PrintWords Go.Proofs.YtmmalieacakcbaaW.PrintLast Go.Proofs.YtmmalieacakcbaaW.PrintMore
attribute [local go_sem] max2_int min2_int max_two min_two max_three min_three max_four min_four
set_option linter.unusedVariables false
set_option linter.unusedSimpArgs false
def heliastlaw13_State.l0 : Nat → List Int → Int → List ByteArray → List ByteArray → List (S69) → Int → Option ((List (S69)))
  | 0, _, _, _, _, _, _ => none
  | k + 1, x0, x1, x5, x6, x7, x8 => if (wrap64 (x8 + 1)) < (x0.length : Int) then (if x8 < 40 then (if 0 ≤ x8 then (if x8 < (x0.length : Int) then (if 0 ≤ (Int.tmod (rd x0 x8) 5) then (if (Int.tmod (rd x0 x8) 5) < (x5.length : Int) then (if 0 ≤ (((Int.tdiv (rd x0 x8) 5) % 256) % 3) then (if (((Int.tdiv (rd x0 x8) 5) % 256) % 3) < (x6.length : Int) then (if 0 ≤ (wrap64 (x8 + 1)) then (if (mx x1 1) = 0 then (none) else ((heliastref13_Put.f k x7 (rdOf ByteArray.empty x5 (Int.tmod (rd x0 x8) 5)) (rdOf ByteArray.empty x6 (((Int.tdiv (rd x0 x8) 5) % 256) % 3)) (Int.tmod (wrap64 (rd x0 (wrap64 (x8 + 1)))) (mx x1 1))).bind fun t131 => (heliastlaw13_State.l0 k x0 x1 x5 x6 t131 (wrap64 (x8 + 2))))) else (none)) else (none)) else (none)) else (none)) else (none)) else (none)) else (none)) else (some x7)) else (some x7)
def heliastlaw13_State.f (k : Nat) (l0 : List Int) (a1 : Int) : Option ((List (S69))) := heliastlaw13_State.l0 k l0 a1 (([(⟨#[109, 46, 114, 111, 111, 109, 46, 99, 114, 101, 97, 116, 101]⟩ : ByteArray), (⟨#[109, 46, 114, 111, 111, 109, 46, 109, 101, 109, 98, 101, 114]⟩ : ByteArray), (⟨#[109, 46, 114, 111, 111, 109, 46, 112, 111, 119, 101, 114, 95, 108, 101, 118, 101, 108, 115]⟩ : ByteArray), (⟨#[109, 46, 114, 111, 111, 109, 46, 106, 111, 105, 110, 95, 114, 117, 108, 101, 115]⟩ : ByteArray), (⟨#[116]⟩ : ByteArray)] : List ByteArray)) (([(⟨#[]⟩ : ByteArray), (⟨#[64, 97, 58, 115]⟩ : ByteArray), (⟨#[64, 98, 58, 115]⟩ : ByteArray)] : List ByteArray)) ([] : List (S69)) 0
theorem heliastlaw13_State.mono_l : ∀ k, (∀ y0 y1 y2 y3 y4 y5, LeO (heliastlaw13_State.l0 k y0 y1 y2 y3 y4 y5) (heliastlaw13_State.l0 (k + 1) y0 y1 y2 y3 y4 y5))
  | 0 => fun _ _ _ _ _ _ r h => by simp [heliastlaw13_State.l0] at h
  | k + 1 => by
    have ih0 := heliastlaw13_State.mono_l k
    · intro y0 y1 y2 y3 y4 y5
      unfold heliastlaw13_State.l0
      repeat' first
      | (with_reducible exact ih0 _ _ _ _ _ _)
      | (with_reducible exact heliastref13_Put.mono _ _ _ _ _)
      | (with_reducible exact LeO.refl _)
      | (with_reducible exact LeO.none _)
      | (with_reducible refine LeO.ite ?_ ?_)
      | (with_reducible refine LeO.bind ?_ (fun _ => ?_))
      | exact ih0 _ _ _ _ _ _
      | exact heliastref13_Put.mono _ _ _ _ _
      | exact LeO.none _
      | refine LeO.ite ?_ ?_
      | refine LeO.bind ?_ (fun _ => ?_)
theorem heliastlaw13_State.mono : ∀ a0 a1 k, LeO (heliastlaw13_State.f k a0 a1) (heliastlaw13_State.f (k + 1) a0 a1) := by
  intro a0 a1 k
  have ih0 := heliastlaw13_State.mono_l k
  unfold heliastlaw13_State.f
  repeat' first
      | (with_reducible exact ih0 _ _ _ _ _ _)
      | (with_reducible exact heliastref13_Put.mono _ _ _ _ _)
      | (with_reducible exact LeO.refl _)
      | (with_reducible exact LeO.none _)
      | (with_reducible refine LeO.ite ?_ ?_)
      | (with_reducible refine LeO.bind ?_ (fun _ => ?_))
      | exact ih0 _ _ _ _ _ _
      | exact heliastref13_Put.mono _ _ _ _ _
      | exact LeO.none _
      | refine LeO.ite ?_ ?_
      | refine LeO.bind ?_ (fun _ => ?_)
def heliastlaw13_State.T7 : Bool × List (List Nat × List Nat) := (true, [([], []), ([], []), ([], []), ([], []), ([2, 3], [2, 3]), ([4], [4]), ([5], [5]), ([1, 6], [1, 6]), ([7], [7]), ([], []), ([], []), ([], []), ([10, 11], [10, 11]), ([12], [12]), ([13], [13]), ([14], [14]), ([9, 15], [9, 15]), ([16], [16]), ([], []), ([], []), ([19], [19]), ([18, 20], [18, 20]), ([21], [21]), ([22], [22]), ([], []), ([24], [24]), ([23, 25], [23, 25]), ([8, 17, 26], [8, 17, 26]), ([0, 27], [0, 27]), ([28, 28, 0, 1, 2, 3, 4, 5, 6, 7, 8, 9, 10, 11, 12, 13, 14, 15, 16, 17, 18, 19, 20, 21, 22, 23, 24, 25, 26, 27, 28], [0, 28])])
def heliastlaw13_State.B7 : List Nat := [0, 0, 0, 0, 12, 28, 60, 126, 254, 0, 0, 0, 3072, 7168, 15360, 31744, 65024, 130560, 0, 0, 524288, 1835008, 3932160, 8126464, 0, 16777216, 66846720, 134217726, 268435455, 536870911]
theorem heliastlaw13_State.tab7 : rtab .any (opsOf Try.f48 7) = heliastlaw13_State.T7 := by kernel_rfl
theorem heliastlaw13_State.bits7 : waitsOk heliastlaw13_State.T7.2 heliastlaw13_State.B7 = true := by kernel_rfl
set_option maxHeartbeats 8000000 in
set_option maxRecDepth 100000 in
theorem heliastlaw13_State.calls (k : Nat) (A0 : Option Addr) (c0 : Nat) (l0 : List Int) (a1 : Int) (r : List (S69)) (w : World) (hr0 : Kd.C (Kd.int .u8) w A0 l0.length l0) (hc0 : l0.length ≤ c0) (h : heliastlaw13_State.f k l0 a1 = some r) :
    Calls Try.prog 48 #[.slice A0 l0.length c0, .int .i64 a1] w fun e w' => ∃ v0_ : Value, e = .returned (v0_) ∧ Kd.R k69 69 w' w.heap.size (fun _ => True) v0_ r ∧ Below w.heap.size w w' := by
  have hu69 := Try.underlying69
  have HR0 := Aside0.mk hr0
  have HC0 := Aside0.mk hc0
  clear hr0 hc0
  have HB := Aside0.mk (Below.refl w.heap.size w)
  have H : (heliastlaw13_State.l0 k l0 a1 (([(⟨#[109, 46, 114, 111, 111, 109, 46, 99, 114, 101, 97, 116, 101]⟩ : ByteArray), (⟨#[109, 46, 114, 111, 111, 109, 46, 109, 101, 109, 98, 101, 114]⟩ : ByteArray), (⟨#[109, 46, 114, 111, 111, 109, 46, 112, 111, 119, 101, 114, 95, 108, 101, 118, 101, 108, 115]⟩ : ByteArray), (⟨#[109, 46, 114, 111, 111, 109, 46, 106, 111, 105, 110, 95, 114, 117, 108, 101, 115]⟩ : ByteArray), (⟨#[116]⟩ : ByteArray)] : List ByteArray)) (([(⟨#[]⟩ : ByteArray), (⟨#[64, 97, 58, 115]⟩ : ByteArray), (⟨#[64, 98, 58, 115]⟩ : ByteArray)] : List ByteArray)) ([] : List (S69)) 0) = some r := h
  clear h
  obtain ⟨y120, hy120⟩ : ∃ y_ : List ByteArray, y_ = (([(⟨#[109, 46, 114, 111, 111, 109, 46, 99, 114, 101, 97, 116, 101]⟩ : ByteArray), (⟨#[109, 46, 114, 111, 111, 109, 46, 109, 101, 109, 98, 101, 114]⟩ : ByteArray), (⟨#[109, 46, 114, 111, 111, 109, 46, 112, 111, 119, 101, 114, 95, 108, 101, 118, 101, 108, 115]⟩ : ByteArray), (⟨#[109, 46, 114, 111, 111, 109, 46, 106, 111, 105, 110, 95, 114, 117, 108, 101, 115]⟩ : ByteArray), (⟨#[116]⟩ : ByteArray)] : List ByteArray)) := ⟨_, rfl⟩
  replace H : (heliastlaw13_State.l0 k l0 a1 y120 (([(⟨#[]⟩ : ByteArray), (⟨#[64, 97, 58, 115]⟩ : ByteArray), (⟨#[64, 98, 58, 115]⟩ : ByteArray)] : List ByteArray)) ([] : List (S69)) 0) = some r := by first | (rw [hy120]; with_reducible exact H) | (have H2_ := (Option.bind_some _ _).symm.trans H; rw [hy120]; with_reducible exact H2_) | (have H2_ := (Option.bind_some _ _).symm.trans H; with_reducible exact H2_) | with_reducible exact H | (rw [hy120]; exact H) | exact H
  have Ny120 := Aside0.mk hy120
  clear hy120
  obtain ⟨y123, hy123⟩ : ∃ y_ : List ByteArray, y_ = (([(⟨#[]⟩ : ByteArray), (⟨#[64, 97, 58, 115]⟩ : ByteArray), (⟨#[64, 98, 58, 115]⟩ : ByteArray)] : List ByteArray)) := ⟨_, rfl⟩
  replace H : (heliastlaw13_State.l0 k l0 a1 y120 y123 ([] : List (S69)) 0) = some r := by first | (rw [hy123]; with_reducible exact H) | (have H2_ := (Option.bind_some _ _).symm.trans H; rw [hy123]; with_reducible exact H2_) | (have H2_ := (Option.bind_some _ _).symm.trans H; with_reducible exact H2_) | with_reducible exact H | (rw [hy123]; exact H) | exact H
  have Ny123 := Aside0.mk hy123
  clear hy123
  have H' := Aside0.mk H
  clear H
  go_enter Try.func48, Try.ntmps48
  go_wp2_with (first | ((with_reducible refine gate_dst (N := 9) rfl ?_); refine Kd.R_lit Kd.string _ 9 ?hg (N := 9) ?hd (xs := ([(⟨#[109, 46, 114, 111, 111, 109, 46, 99, 114, 101, 97, 116, 101]⟩ : ByteArray), (⟨#[109, 46, 114, 111, 111, 109, 46, 109, 101, 109, 98, 101, 114]⟩ : ByteArray), (⟨#[109, 46, 114, 111, 111, 109, 46, 112, 111, 119, 101, 114, 95, 108, 101, 118, 101, 108, 115]⟩ : ByteArray), (⟨#[109, 46, 114, 111, 111, 109, 46, 106, 111, 105, 110, 95, 114, 117, 108, 101, 115]⟩ : ByteArray), (⟨#[116]⟩ : ByteArray)] : List ByteArray)) (inner := [.string (⟨#[109, 46, 114, 111, 111, 109, 46, 99, 114, 101, 97, 116, 101]⟩ : ByteArray), .string (⟨#[109, 46, 114, 111, 111, 109, 46, 109, 101, 109, 98, 101, 114]⟩ : ByteArray), .string (⟨#[109, 46, 114, 111, 111, 109, 46, 112, 111, 119, 101, 114, 95, 108, 101, 118, 101, 108, 115]⟩ : ByteArray), .string (⟨#[109, 46, 114, 111, 111, 109, 46, 106, 111, 105, 110, 95, 114, 117, 108, 101, 115]⟩ : ByteArray), .string (⟨#[116]⟩ : ByteArray)]) (ok := fun _ => True) (okp := fun _ => True) ?hr ?hp (fun _ hk => hk) trivial (Below.refl _ _) (Nat.le_refl _) (by simp) ?_; (case hd => rfl); (case hg => rfl); (case hr => first | (go_simp; done) | (go_simp; rfl)); (case hp => exact (Reps.one (show Kd.M Kd.string _ _ _ (⟨#[109, 46, 114, 111, 111, 109, 46, 99, 114, 101, 97, 116, 101]⟩ : ByteArray) [.string (⟨#[109, 46, 114, 111, 111, 109, 46, 99, 114, 101, 97, 116, 101]⟩ : ByteArray)] from rfl) (Reps.one (show Kd.M Kd.string _ _ _ (⟨#[109, 46, 114, 111, 111, 109, 46, 109, 101, 109, 98, 101, 114]⟩ : ByteArray) [.string (⟨#[109, 46, 114, 111, 111, 109, 46, 109, 101, 109, 98, 101, 114]⟩ : ByteArray)] from rfl) (Reps.one (show Kd.M Kd.string _ _ _ (⟨#[109, 46, 114, 111, 111, 109, 46, 112, 111, 119, 101, 114, 95, 108, 101, 118, 101, 108, 115]⟩ : ByteArray) [.string (⟨#[109, 46, 114, 111, 111, 109, 46, 112, 111, 119, 101, 114, 95, 108, 101, 118, 101, 108, 115]⟩ : ByteArray)] from rfl) (Reps.one (show Kd.M Kd.string _ _ _ (⟨#[109, 46, 114, 111, 111, 109, 46, 106, 111, 105, 110, 95, 114, 117, 108, 101, 115]⟩ : ByteArray) [.string (⟨#[109, 46, 114, 111, 111, 109, 46, 106, 111, 105, 110, 95, 114, 117, 108, 101, 115]⟩ : ByteArray)] from rfl) (Reps.one (show Kd.M Kd.string _ _ _ (⟨#[116]⟩ : ByteArray) [.string (⟨#[116]⟩ : ByteArray)] from rfl) (Reps.none _ _))))))); intro v121 w3 ho4 hb hg_ hnew_; clear hg_ hnew_; (first | rw [← Ny120.out] at ho4 | (simp only [Int.reduceToNat] at ho4; rw [← Ny120.out] at ho4)); have n0_ := Aside0.mk (Kd.R_lower ho4 (below_size (by repeat (first | (with_reducible first | exact HB.out | apply below_alloc | apply pw_below_drewN | apply below_drew1) | exact HB.out)))); have n1_ := Aside0.mk (below_step (by repeat (first | (with_reducible first | exact HB.out | apply below_alloc | apply pw_below_drewN | apply below_drew1) | exact HB.out)) hb); clear HB; have HO122 := n0_; have HB := n1_; clear n0_ n1_; clear hb ho4) | ((with_reducible refine gate_dst (N := 10) rfl ?_); refine Kd.R_lit Kd.string _ 9 ?hg (N := 10) ?hd (xs := ([(⟨#[]⟩ : ByteArray), (⟨#[64, 97, 58, 115]⟩ : ByteArray), (⟨#[64, 98, 58, 115]⟩ : ByteArray)] : List ByteArray)) (inner := [.string (⟨#[]⟩ : ByteArray), .string (⟨#[64, 97, 58, 115]⟩ : ByteArray), .string (⟨#[64, 98, 58, 115]⟩ : ByteArray)]) (ok := fun _ => True) (okp := fun _ => True) ?hr ?hp (fun _ hk => hk) trivial (Below.refl _ _) (Nat.le_refl _) (by simp) ?_; (case hd => rfl); (case hg => rfl); (case hr => first | (go_simp; done) | (go_simp; rfl)); (case hp => exact (Reps.one (show Kd.M Kd.string _ _ _ (⟨#[]⟩ : ByteArray) [.string (⟨#[]⟩ : ByteArray)] from rfl) (Reps.one (show Kd.M Kd.string _ _ _ (⟨#[64, 97, 58, 115]⟩ : ByteArray) [.string (⟨#[64, 97, 58, 115]⟩ : ByteArray)] from rfl) (Reps.one (show Kd.M Kd.string _ _ _ (⟨#[64, 98, 58, 115]⟩ : ByteArray) [.string (⟨#[64, 98, 58, 115]⟩ : ByteArray)] from rfl) (Reps.none _ _))))); intro v124 w5 ho6 hb hg_ hnew_; clear hg_ hnew_; (first | rw [← Ny123.out] at ho6 | (simp only [Int.reduceToNat] at ho6; rw [← Ny123.out] at ho6)); have n0_ := Aside0.mk (Kd.R_elder' (by (with_reducible repeat (first | apply Kd.R_alloc | apply Kd.R_drewN | apply Kd.R_drew)); exact HO122.out) (Kd.R_base ho6) hb); have n1_ := Aside0.mk (Kd.R_lower (Kd.R_new' ho6 (Kd.R_lt (by (with_reducible repeat (first | apply Kd.R_alloc | apply Kd.R_drewN | apply Kd.R_drew)); exact HO122.out))) (below_size (by repeat (first | (with_reducible first | exact HB.out | apply below_alloc | apply pw_below_drewN | apply below_drew1) | exact HB.out)))); have n2_ := Aside0.mk (below_step (by repeat (first | (with_reducible first | exact HB.out | apply below_alloc | apply pw_below_drewN | apply below_drew1) | exact HB.out)) hb); clear HO122; clear HB; have HO122 := n0_; have HO125 := n1_; have HB := n2_; clear n0_ n1_ n2_; clear hb ho6))
  go_loopg [7, 8] k (fun kq v7 v8 w' => ∃ (x7_1 : List (S69)) (x8_1 : Int), v8 = .int .i64 x8_1 ∧ Aside0 (heliastlaw13_State.l0 kq l0 a1 y120 y123 x7_1 x8_1 = some r) ∧ Aside0 (kq ≤ k) ∧ Aside0 (Kd.R Kd.string 9 w' w.heap.size (fun k_ => some k_ ≠ (v124 : Value).ownBlock) v121 y120) ∧ Aside0 (Kd.R Kd.string 9 w' w.heap.size (fun k_ => some k_ ≠ (v121 : Value).ownBlock) v124 y123) ∧ Aside0 (Kd.R k69 69 w' w.heap.size (fun _ => True) v7 x7_1) ∧ Aside0 (Below w.heap.size w w'))
  case atStart => exact ⟨(([] : List (S69))), (0), (by first | rfl | (simp; done) | (simp [*]; done)), H', ⟨Nat.le_refl _⟩, ⟨by (with_reducible repeat (first | apply Kd.R_alloc | apply Kd.R_drewN | apply Kd.R_drew)); exact Kd.R_mono HO122.out (fun _ hk => hk.2)⟩, ⟨by (with_reducible repeat (first | apply Kd.R_alloc | apply Kd.R_drewN | apply Kd.R_drew)); exact Kd.R_mono HO125.out (fun _ hk => hk.2)⟩, ⟨by first | exact Kd.R_nil _ _ _ _ _ | exact Kd.N_nil _ _ _ _ _ | exact Kd.V_nil _ _ _ _ _ | exact Kd.Q_nil _ _ _ _ _ | exact Kd.S_nil _ _ _ _ _⟩, ⟨by repeat (first | (with_reducible first | exact HB.out | apply below_alloc | apply pw_below_drewN | apply below_drew1) | exact HB.out)⟩⟩
  case round =>
    clear H'
    try clear p2
    try clear c4
    obtain ⟨x7_1, x8_1, rfl, HA, HK1, HO_5, HO_6, HO_7, HB⟩ := hrel
    cases gk with
    | zero => exact absurd HA.out (by simp [heliastlaw13_State.l0])
    | succ k1 =>
      have H := HA.out
      clear HA
      simp only [heliastlaw13_State.l0] at H
      by_cases c7 : (wrap64 (x8_1 + 1)) < (l0.length : Int)
      · rw [if_pos c7] at H
        have c7b0 : decide ((wrap64 (x8_1 + 1)) < (l0.length : Int)) = true := decide_eq_true c7
        clear c7
        by_cases c8 : x8_1 < 40
        · rw [if_pos c8] at H
          have c8b0 : decide (x8_1 < 40) = true := decide_eq_true c8
          clear c8
          by_cases c9 : 0 ≤ x8_1
          · rw [if_pos c9] at H
            have c9b0 : decide (0 ≤ x8_1) = true := decide_eq_true c9
            clear c9
            by_cases c10 : x8_1 < (l0.length : Int)
            · rw [if_pos c10] at H
              have c10b0 : decide (x8_1 < (l0.length : Int)) = true := decide_eq_true c10
              clear c10
              obtain ⟨ji11, hji11⟩ : ∃ j_ : Int, (Int.tmod (rd l0 x8_1) 5) = j_ := ⟨_, rfl⟩
              replace H : (if 0 ≤ (ji11) then (if (ji11) < (y120.length : Int) then (if 0 ≤ (((Int.tdiv (rd l0 x8_1) 5) % 256) % 3) then (if (((Int.tdiv (rd l0 x8_1) 5) % 256) % 3) < (y123.length : Int) then (if 0 ≤ (wrap64 (x8_1 + 1)) then (if (mx a1 1) = 0 then (none) else ((heliastref13_Put.f k1 x7_1 (rdOf ByteArray.empty y120 (ji11)) (rdOf ByteArray.empty y123 (((Int.tdiv (rd l0 x8_1) 5) % 256) % 3)) (Int.tmod (wrap64 (rd l0 (wrap64 (x8_1 + 1)))) (mx a1 1))).bind fun t131 => (heliastlaw13_State.l0 k1 l0 a1 y120 y123 t131 (wrap64 (x8_1 + 2))))) else (none)) else (none)) else (none)) else (none)) else (none)) = some r := by first | (rw [hji11] at H; exact H) | (simp only [hji11] at H ⊢; exact H)
              by_cases c12 : 0 ≤ (ji11)
              · rw [if_pos c12] at H
                have c12b0 : decide (0 ≤ (ji11)) = true := decide_eq_true c12
                clear c12
                by_cases c13 : (ji11) < (y120.length : Int)
                · rw [if_pos c13] at H
                  have c13b0 : decide ((ji11) < (y120.length : Int)) = true := decide_eq_true c13
                  clear c13
                  obtain ⟨ji14, hji14⟩ : ∃ j_ : Int, (((Int.tdiv (rd l0 x8_1) 5) % 256) % 3) = j_ := ⟨_, rfl⟩
                  replace H : (if 0 ≤ (ji14) then (if (ji14) < (y123.length : Int) then (if 0 ≤ (wrap64 (x8_1 + 1)) then (if (mx a1 1) = 0 then (none) else ((heliastref13_Put.f k1 x7_1 (rdOf ByteArray.empty y120 (ji11)) (rdOf ByteArray.empty y123 (ji14)) (Int.tmod (wrap64 (rd l0 (wrap64 (x8_1 + 1)))) (mx a1 1))).bind fun t131 => (heliastlaw13_State.l0 k1 l0 a1 y120 y123 t131 (wrap64 (x8_1 + 2))))) else (none)) else (none)) else (none)) = some r := by first | (rw [hji14] at H; exact H) | (simp only [hji14] at H ⊢; exact H)
                  by_cases c15 : 0 ≤ (ji14)
                  · rw [if_pos c15] at H
                    have c15b0 : decide (0 ≤ (ji14)) = true := decide_eq_true c15
                    clear c15
                    by_cases c16 : (ji14) < (y123.length : Int)
                    · rw [if_pos c16] at H
                      have c16b0 : decide ((ji14) < (y123.length : Int)) = true := decide_eq_true c16
                      clear c16
                      obtain ⟨ji17, hji17⟩ : ∃ j_ : Int, (wrap64 (x8_1 + 1)) = j_ := ⟨_, rfl⟩
                      replace H : (if 0 ≤ (ji17) then (if (mx a1 1) = 0 then (none) else ((heliastref13_Put.f k1 x7_1 (rdOf ByteArray.empty y120 (ji11)) (rdOf ByteArray.empty y123 (ji14)) (Int.tmod (wrap64 (rd l0 (ji17))) (mx a1 1))).bind fun t131 => (heliastlaw13_State.l0 k1 l0 a1 y120 y123 t131 (wrap64 (x8_1 + 2))))) else (none)) = some r := by first | (rw [hji17] at H; exact H) | (simp only [hji17] at H ⊢; exact H)
                      (try rw [hji17] at c7b0)
                      have hji17w : (IntKind.i64.wrap (x8_1 + 1)) = ji17 := (i64_w _).trans hji17
                      by_cases c18 : 0 ≤ (ji17)
                      · rw [if_pos c18] at H
                        have c18b0 : decide (0 ≤ (ji17)) = true := decide_eq_true c18
                        clear c18
                        obtain ⟨ji19, hji19⟩ : ∃ j_ : Int, (mx a1 1) = j_ := ⟨_, rfl⟩
                        replace H : (if (ji19) = 0 then (none) else ((heliastref13_Put.f k1 x7_1 (rdOf ByteArray.empty y120 (ji11)) (rdOf ByteArray.empty y123 (ji14)) (Int.tmod (wrap64 (rd l0 (ji17))) (ji19))).bind fun t131 => (heliastlaw13_State.l0 k1 l0 a1 y120 y123 t131 (wrap64 (x8_1 + 2))))) = some r := by first | (rw [hji19] at H; exact H) | (simp only [hji19] at H ⊢; exact H)
                        have hji19_ : (if a1 < 1 then 1 else a1) = ji19 := hji19
                        by_cases c20 : (ji19) = 0
                        · rw [if_pos c20] at H
                          exact absurd H (by simp)
                        · rw [if_neg c20] at H
                          have c20b0 : ((ji19) == 0) = false := beq_eq_false_iff_ne.mpr c20
                          have c20b1 : ((ji19) != 0) = true := bne_iff_ne.mpr c20
                          replace H := Option.bind_eq_some_iff.mp H
                          obtain ⟨t131, A210, H⟩ := H
                          replace H : (heliastlaw13_State.l0 k1 l0 a1 y120 y123 t131 (wrap64 (x8_1 + 2))) = some r := H
                          have A21 := Aside0.mk A210
                          clear A210
                          have H' := Aside0.mk H
                          clear H
                          try go_wp2
                          have n0_ := Aside0.mk (Kd.R_drew HO_5.out)
                          have n1_ := Aside0.mk (Kd.R_drew HO_6.out)
                          have n2_ := Aside0.mk (Kd.R_drew HO_7.out)
                          have n3_ := Aside0.mk (below_drew1 HB.out)
                          clear HO_5
                          clear HO_6
                          clear HO_7
                          clear HB
                          have HO_5 := n0_
                          have HO_6 := n1_
                          have HO_7 := n2_
                          have HB := n3_
                          clear n0_ n1_ n2_ n3_
                          have p126 : 0 ≤ (x8_1 : Int) := of_decide_eq_true (by first | (with_reducible assumption) | assumption)
                          have q126 : x8_1 < (l0.length : Int) := of_decide_eq_true (by first | (with_reducible assumption) | assumption)
                          obtain ⟨ad126, e126, hx126_0⟩ := Kd.at_int HR0.out x8_1 p126 q126
                          have hw126_0 := hx126_0
                          cases e126
                          replace hx126_0 := (HB.out.cell (World.block_lt_of_cell? w _ hx126_0)).trans hx126_0
                          replace p126 := eq_true p126
                          replace q126 := eq_true q126
                          obtain ⟨Ao23, co23, eo23⟩ := Kd.R_slice HO_5.out
                          (first | subst eo23 | (injection eo23 with f1_ f2_ f3_; have f4_ := f1_.symm; have f5_ := f3_.symm; clear f1_ f2_ f3_; subst f4_; subst f5_))
                          have p127 : 0 ≤ ((ji11) : Int) := of_decide_eq_true (by first | (with_reducible assumption) | assumption)
                          have q127 : (ji11) < (y120.length : Int) := of_decide_eq_true (by first | (with_reducible assumption) | assumption)
                          obtain ⟨ad127, e127, hx127_0⟩ := Kd.at_string (Kd.R_reads' HO_5.out).2.2 (ji11) p127 q127
                          cases e127
                          replace p127 := eq_true p127
                          replace q127 := eq_true q127
                          have p128 : 0 ≤ (x8_1 : Int) := of_decide_eq_true (by first | (with_reducible assumption) | assumption)
                          have q128 : x8_1 < (l0.length : Int) := of_decide_eq_true (by first | (with_reducible assumption) | assumption)
                          obtain ⟨ad128, e128, hx128_0⟩ := Kd.at_int HR0.out x8_1 p128 q128
                          have hw128_0 := hx128_0
                          obtain rfl : ad126 = ad128 := (by injection e128)
                          replace hx128_0 := (HB.out.cell (World.block_lt_of_cell? w _ hx128_0)).trans hx128_0
                          replace p128 := eq_true p128
                          replace q128 := eq_true q128
                          obtain ⟨Ao24, co24, eo24⟩ := Kd.R_slice HO_6.out
                          (first | subst eo24 | (injection eo24 with f1_ f2_ f3_; have f4_ := f1_.symm; have f5_ := f3_.symm; clear f1_ f2_ f3_; subst f4_; subst f5_))
                          have p129 : 0 ≤ ((ji14) : Int) := of_decide_eq_true (by first | (with_reducible assumption) | assumption)
                          have q129 : (ji14) < (y123.length : Int) := of_decide_eq_true (by first | (with_reducible assumption) | assumption)
                          obtain ⟨ad129, e129, hx129_0⟩ := Kd.at_string (Kd.R_reads' HO_6.out).2.2 (ji14) p129 q129
                          cases e129
                          replace p129 := eq_true p129
                          replace q129 := eq_true q129
                          have p130 : 0 ≤ ((ji17) : Int) := of_decide_eq_true (by first | (with_reducible assumption) | assumption)
                          have q130 : (ji17) < (l0.length : Int) := of_decide_eq_true (by first | (with_reducible assumption) | assumption)
                          obtain ⟨ad130, e130, hx130_0⟩ := Kd.at_int HR0.out (ji17) p130 q130
                          have hw130_0 := hx130_0
                          obtain rfl : ad126 = ad130 := (by injection e130)
                          replace hx130_0 := (HB.out.cell (World.block_lt_of_cell? w _ hx130_0)).trans hx130_0
                          replace p130 := eq_true p130
                          replace q130 := eq_true q130
                          obtain ⟨Ao25, co25, eo25⟩ := Kd.R_slice HO_7.out
                          (first | subst eo25 | (injection eo25 with f1_ f2_ f3_; have f4_ := f1_.symm; have f5_ := f3_.symm; clear f1_ f2_ f3_; subst f4_; subst f5_))
                          refine start_ (n := 30) (S := fun w' => w'.cell? (ad126.add (x8_1).toNat) = some (.int .u8 (rd l0 x8_1)) ∧ w'.cell? (ad127.add ((ji11)).toNat) = some (.string (rdOf ByteArray.empty y120 (ji11))) ∧ w'.cell? (ad126.add (x8_1).toNat) = some (.int .u8 (rd l0 x8_1)) ∧ w'.cell? (ad129.add ((ji14)).toNat) = some (.string (rdOf ByteArray.empty y123 (ji14))) ∧ w'.cell? (ad126.add ((ji17)).toNat) = some (.int .u8 (rd l0 (ji17)))) (ds := []) #[false, false, false, false, false, false, false, false, false, false, false, false, false, false, false, false, false, false, false, false, false, false, false, false, false, false, false, false, false, false] (by kernel_rfl) rfl rfl ⟨((HB.out.cell (World.block_lt_of_cell? w _ hw126_0)).trans hw126_0), hx127_0, ((HB.out.cell (World.block_lt_of_cell? w _ hw128_0)).trans hw128_0), hx129_0, ((HB.out.cell (World.block_lt_of_cell? w _ hw130_0)).trans hw130_0)⟩ (fun hHeld => ?_); refine with_tabW heliastlaw13_State.tab7 heliastlaw13_State.bits7 (fun HT_ HW_ => ?_)
                          generalize wr.drew = w22 at HO_5 HO_6 HO_7 HB hx126_0 hx127_0 hx128_0 hx129_0 hx130_0 hHeld ⊢
                          refine pure_ (i := 0) (N := some 22) (v := ?_) (a' := ?_) #[true, false, false, false, false, false, false, false, false, false, false, false, false, false, false, false, false, false, false, false, false, false, false, false, false, false, false, false, false, false] rfl rfl (any_of HT_.out (by kernel_rfl)) (fun _ _ _ h => h) (Or.inl ⟨by rfl, ?_⟩) ?_ ?_
                          rotate_left
                          · intro w'
                            go_simp
                            with_reducible rfl
                          rotate_left
                          · simp only [Act.put, List.setIfInBounds_toArray, List.set_cons_zero, List.set_cons_succ, i64_w, i32_w]
                            rfl
                          refine pure_ (i := 1) (N := some 23) (v := ?_) (a' := ?_) #[true, true, false, false, false, false, false, false, false, false, false, false, false, false, false, false, false, false, false, false, false, false, false, false, false, false, false, false, false, false] rfl rfl (any_of HT_.out (by kernel_rfl)) (fun _ _ _ h => h) (Or.inl ⟨by rfl, ?_⟩) ?_ ?_
                          rotate_left
                          · intro w'
                            go_simp
                            with_reducible rfl
                          rotate_left
                          · simp only [Act.put, List.setIfInBounds_toArray, List.set_cons_zero, List.set_cons_succ, i64_w, i32_w]
                            rfl
                          refine pure_ (i := 2) (N := some 24) (v := ?_) (a' := ?_) #[true, true, true, false, false, false, false, false, false, false, false, false, false, false, false, false, false, false, false, false, false, false, false, false, false, false, false, false, false, false] rfl rfl (any_of HT_.out (by kernel_rfl)) (fun _ _ _ h => h) (Or.inl ⟨by rfl, ?_⟩) ?_ ?_
                          rotate_left
                          · intro w'
                            go_simp
                            with_reducible rfl
                          rotate_left
                          · simp only [Act.put, List.setIfInBounds_toArray, List.set_cons_zero, List.set_cons_succ, i64_w, i32_w]
                            rfl
                          refine pure_ (i := 3) (N := some 25) (v := ?_) (a' := ?_) #[true, true, true, true, false, false, false, false, false, false, false, false, false, false, false, false, false, false, false, false, false, false, false, false, false, false, false, false, false, false] rfl rfl (any_of HT_.out (by kernel_rfl)) (fun _ _ _ h => h) (Or.inl ⟨by rfl, ?_⟩) ?_ ?_
                          rotate_left
                          · intro w'
                            go_simp
                            with_reducible rfl
                          rotate_left
                          · simp only [Act.put, List.setIfInBounds_toArray, List.set_cons_zero, List.set_cons_succ, i64_w, i32_w]
                            rfl
                          refine pure_ (i := 4) (N := some 26) (v := ?_) (a' := ?_) #[true, true, true, true, true, false, false, false, false, false, false, false, false, false, false, false, false, false, false, false, false, false, false, false, false, false, false, false, false, false] rfl rfl (any_of HT_.out (by kernel_rfl)) (fun _ _ _ h => h) (Or.inl ⟨by rfl, ?_⟩) ?_ ?_
                          rotate_left
                          · intro w'
                            go_simp
                            with_reducible rfl
                          rotate_left
                          · simp only [Act.put, List.setIfInBounds_toArray, List.set_cons_zero, List.set_cons_succ, i64_w, i32_w]
                            rfl
                          refine pure_ (i := 9) (N := some 31) (v := ?_) (a' := ?_) #[true, true, true, true, true, false, false, false, false, true, false, false, false, false, false, false, false, false, false, false, false, false, false, false, false, false, false, false, false, false] rfl rfl (any_of HT_.out (by kernel_rfl)) (fun _ _ _ h => h) (Or.inl ⟨by rfl, ?_⟩) ?_ ?_
                          rotate_left
                          · intro w'
                            go_simp
                            with_reducible rfl
                          rotate_left
                          · simp only [Act.put, List.setIfInBounds_toArray, List.set_cons_zero, List.set_cons_succ, i64_w, i32_w]
                            rfl
                          refine pure_ (i := 10) (N := some 32) (v := ?_) (a' := ?_) #[true, true, true, true, true, false, false, false, false, true, true, false, false, false, false, false, false, false, false, false, false, false, false, false, false, false, false, false, false, false] rfl rfl (any_of HT_.out (by kernel_rfl)) (fun _ _ _ h => h) (Or.inl ⟨by rfl, ?_⟩) ?_ ?_
                          rotate_left
                          · intro w'
                            go_simp
                            with_reducible rfl
                          rotate_left
                          · simp only [Act.put, List.setIfInBounds_toArray, List.set_cons_zero, List.set_cons_succ, i64_w, i32_w]
                            rfl
                          refine pure_ (i := 11) (N := some 33) (v := ?_) (a' := ?_) #[true, true, true, true, true, false, false, false, false, true, true, true, false, false, false, false, false, false, false, false, false, false, false, false, false, false, false, false, false, false] rfl rfl (any_of HT_.out (by kernel_rfl)) (fun _ _ _ h => h) (Or.inl ⟨by rfl, ?_⟩) ?_ ?_
                          rotate_left
                          · intro w'
                            go_simp
                            with_reducible rfl
                          rotate_left
                          · simp only [Act.put, List.setIfInBounds_toArray, List.set_cons_zero, List.set_cons_succ, i64_w, i32_w]
                            rfl
                          refine pure_ (i := 12) (N := some 34) (v := ?_) (a' := ?_) #[true, true, true, true, true, false, false, false, false, true, true, true, true, false, false, false, false, false, false, false, false, false, false, false, false, false, false, false, false, false] rfl rfl (any_of HT_.out (by kernel_rfl)) (fun _ _ _ h => h) (Or.inl ⟨by rfl, ?_⟩) ?_ ?_
                          rotate_left
                          · intro w'
                            go_simp
                            with_reducible rfl
                          rotate_left
                          · simp only [Act.put, List.setIfInBounds_toArray, List.set_cons_zero, List.set_cons_succ, i64_w, i32_w]
                            rfl
                          refine pure_ (i := 18) (N := some 40) (v := ?_) (a' := ?_) #[true, true, true, true, true, false, false, false, false, true, true, true, true, false, false, false, false, false, true, false, false, false, false, false, false, false, false, false, false, false] rfl rfl (any_of HT_.out (by kernel_rfl)) (fun _ _ _ h => h) (Or.inl ⟨by rfl, ?_⟩) ?_ ?_
                          rotate_left
                          · intro w'
                            go_simp
                            with_reducible rfl
                          rotate_left
                          · simp only [Act.put, List.setIfInBounds_toArray, List.set_cons_zero, List.set_cons_succ, i64_w, i32_w]
                            rfl
                          refine pure_ (i := 19) (N := some 41) (v := ?_) (a' := ?_) #[true, true, true, true, true, false, false, false, false, true, true, true, true, false, false, false, false, false, true, true, false, false, false, false, false, false, false, false, false, false] rfl rfl (any_of HT_.out (by kernel_rfl)) (fun _ _ _ h => h) (Or.inl ⟨by rfl, ?_⟩) ?_ ?_
                          rotate_left
                          · intro w'
                            go_simp
                            with_reducible rfl
                          rotate_left
                          · simp only [Act.put, List.setIfInBounds_toArray, List.set_cons_zero, List.set_cons_succ, i64_w, i32_w]
                            rfl
                          refine pure_ (i := 20) (N := some 42) (v := ?_) (a' := ?_) #[true, true, true, true, true, false, false, false, false, true, true, true, true, false, false, false, false, false, true, true, true, false, false, false, false, false, false, false, false, false] rfl rfl (any_of HT_.out (by kernel_rfl)) (fun _ _ _ h => h) (Or.inl ⟨by rfl, ?_⟩) ?_ ?_
                          rotate_left
                          · intro w'
                            go_simp
                            with_reducible rfl
                          rotate_left
                          · simp only [Act.put, List.setIfInBounds_toArray, List.set_cons_zero, List.set_cons_succ, i64_w, i32_w]
                            rfl
                          refine pure_ (i := 21) (N := some 43) (v := ?_) (a' := ?_) #[true, true, true, true, true, false, false, false, false, true, true, true, true, false, false, false, false, false, true, true, true, true, false, false, false, false, false, false, false, false] rfl rfl (any_of HT_.out (by kernel_rfl)) (fun _ _ _ h => h) (Or.inl ⟨by rfl, ?_⟩) ?_ ?_
                          rotate_left
                          · intro w'
                            go_simp
                            with_reducible rfl
                          rotate_left
                          · simp only [Act.put, List.setIfInBounds_toArray, List.set_cons_zero, List.set_cons_succ, i64_w, i32_w]
                            rfl
                          refine pure_ (i := 24) (N := some 46) (v := ?_) (a' := ?_) #[true, true, true, true, true, false, false, false, false, true, true, true, true, false, false, false, false, false, true, true, true, true, false, false, true, false, false, false, false, false] rfl rfl (any_of HT_.out (by kernel_rfl)) (fun _ _ _ h => h) (Or.inl ⟨by rfl, ?_⟩) ?_ ?_
                          rotate_left
                          · intro w'
                            go_simp
                            with_reducible rfl
                          rotate_left
                          · simp only [Act.put, List.setIfInBounds_toArray, List.set_cons_zero, List.set_cons_succ, i64_w, i32_w]
                            rfl
                          refine pure_ (i := 25) (N := some 47) (v := ?_) (a' := ?_) #[true, true, true, true, true, false, false, false, false, true, true, true, true, false, false, false, false, false, true, true, true, true, false, false, true, true, false, false, false, false] rfl rfl (any_of HT_.out (by kernel_rfl)) (fun _ _ _ h => h) (Or.inl ⟨by rfl, ?_⟩) ?_ ?_
                          rotate_left
                          · intro w'
                            go_simp
                            with_reducible rfl
                          rotate_left
                          · simp only [Act.put, List.setIfInBounds_toArray, List.set_cons_zero, List.set_cons_succ, i64_w, i32_w]
                            rfl
                          refine take_ (i := 5) (N := some 27) (v := ?_) (a' := ?_) #[true, true, true, true, true, true, false, false, false, true, true, true, true, false, false, false, false, false, true, true, true, true, false, false, true, true, false, false, false, false] rfl rfl (take_ofW HT_.out HW_.out (by kernel_rfl)) (fun _ _ _ h => h) (Or.inl ⟨by rfl, ?_⟩) hHeld ?_ ?_
                          rotate_left
                          · rintro w' ⟨s0, s1, s2, s3, s4⟩
                            go_simp
                            with_reducible rfl
                          rotate_left
                          · simp only [Act.put, List.setIfInBounds_toArray, List.set_cons_zero, List.set_cons_succ, i64_w, i32_w]
                            rfl
                          refine pure_ (i := 6) (N := some 28) (v := ?_) (a' := ?_) #[true, true, true, true, true, true, true, false, false, true, true, true, true, false, false, false, false, false, true, true, true, true, false, false, true, true, false, false, false, false] rfl rfl (any_of HT_.out (by kernel_rfl)) (fun _ _ _ h => h) (Or.inl ⟨by rfl, ?_⟩) ?_ ?_
                          rotate_left
                          · intro w'
                            go_simp
                            with_reducible rfl
                          rotate_left
                          · simp only [Act.put, List.setIfInBounds_toArray, List.set_cons_zero, List.set_cons_succ, i64_w, i32_w]
                            rfl
                          refine pure_ (i := 7) (N := some 29) (v := ?_) (a' := ?_) #[true, true, true, true, true, true, true, true, false, true, true, true, true, false, false, false, false, false, true, true, true, true, false, false, true, true, false, false, false, false] rfl rfl (any_of HT_.out (by kernel_rfl)) (fun _ _ _ h => h) (Or.inl ⟨by rfl, ?_⟩) ?_ ?_
                          rotate_left
                          · intro w'
                            go_simp
                            with_reducible rfl
                          rotate_left
                          · simp only [Act.put, List.setIfInBounds_toArray, List.set_cons_zero, List.set_cons_succ, i64_w, i32_w]
                            rfl
                          refine take_ (i := 8) (N := some 30) (v := ?_) (a' := ?_) #[true, true, true, true, true, true, true, true, true, true, true, true, true, false, false, false, false, false, true, true, true, true, false, false, true, true, false, false, false, false] rfl rfl (take_ofW HT_.out HW_.out (by kernel_rfl)) (fun _ _ _ h => h) (Or.inl ⟨by rfl, ?_⟩) hHeld ?_ ?_
                          rotate_left
                          · rintro w' ⟨s0, s1, s2, s3, s4⟩
                            go_simp
                            with_reducible rfl
                          rotate_left
                          · simp only [Act.put, List.setIfInBounds_toArray, List.set_cons_zero, List.set_cons_succ, i64_w, i32_w]
                            rfl
                          refine take_ (i := 13) (N := some 35) (v := ?_) (a' := ?_) #[true, true, true, true, true, true, true, true, true, true, true, true, true, true, false, false, false, false, true, true, true, true, false, false, true, true, false, false, false, false] rfl rfl (take_ofW HT_.out HW_.out (by kernel_rfl)) (fun _ _ _ h => h) (Or.inl ⟨by rfl, ?_⟩) hHeld ?_ ?_
                          rotate_left
                          · rintro w' ⟨s0, s1, s2, s3, s4⟩
                            go_simp
                            with_reducible rfl
                          rotate_left
                          · simp only [Act.put, List.setIfInBounds_toArray, List.set_cons_zero, List.set_cons_succ, i64_w, i32_w]
                            rfl
                          refine pure_ (i := 14) (N := some 36) (v := ?_) (a' := ?_) #[true, true, true, true, true, true, true, true, true, true, true, true, true, true, true, false, false, false, true, true, true, true, false, false, true, true, false, false, false, false] rfl rfl (any_of HT_.out (by kernel_rfl)) (fun _ _ _ h => h) (Or.inl ⟨by rfl, ?_⟩) ?_ ?_
                          rotate_left
                          · intro w'
                            go_simp
                            with_reducible rfl
                          rotate_left
                          · simp only [Act.put, List.setIfInBounds_toArray, List.set_cons_zero, List.set_cons_succ, i64_w, i32_w]
                            rfl
                          refine pure_ (i := 15) (N := some 37) (v := ?_) (a' := ?_) #[true, true, true, true, true, true, true, true, true, true, true, true, true, true, true, true, false, false, true, true, true, true, false, false, true, true, false, false, false, false] rfl rfl (any_of HT_.out (by kernel_rfl)) (fun _ _ _ h => h) (Or.inl ⟨by rfl, ?_⟩) ?_ ?_
                          rotate_left
                          · intro w'
                            go_simp
                            with_reducible rfl
                          rotate_left
                          · simp only [Act.put, List.setIfInBounds_toArray, List.set_cons_zero, List.set_cons_succ, i64_w, i32_w]
                            rfl
                          refine pure_ (i := 16) (N := some 38) (v := ?_) (a' := ?_) #[true, true, true, true, true, true, true, true, true, true, true, true, true, true, true, true, true, false, true, true, true, true, false, false, true, true, false, false, false, false] rfl rfl (any_of HT_.out (by kernel_rfl)) (fun _ _ _ h => h) (Or.inl ⟨by rfl, ?_⟩) ?_ ?_
                          rotate_left
                          · intro w'
                            go_simp
                            with_reducible rfl
                          rotate_left
                          · simp only [Act.put, List.setIfInBounds_toArray, List.set_cons_zero, List.set_cons_succ, i64_w, i32_w]
                            rfl
                          refine take_ (i := 17) (N := some 39) (v := ?_) (a' := ?_) #[true, true, true, true, true, true, true, true, true, true, true, true, true, true, true, true, true, true, true, true, true, true, false, false, true, true, false, false, false, false] rfl rfl (take_ofW HT_.out HW_.out (by kernel_rfl)) (fun _ _ _ h => h) (Or.inl ⟨by rfl, ?_⟩) hHeld ?_ ?_
                          rotate_left
                          · rintro w' ⟨s0, s1, s2, s3, s4⟩
                            go_simp
                            with_reducible rfl
                          rotate_left
                          · simp only [Act.put, List.setIfInBounds_toArray, List.set_cons_zero, List.set_cons_succ, i64_w, i32_w]
                            rfl
                          refine take_ (i := 22) (N := some 44) (v := ?_) (a' := ?_) #[true, true, true, true, true, true, true, true, true, true, true, true, true, true, true, true, true, true, true, true, true, true, true, false, true, true, false, false, false, false] rfl rfl (take_ofW HT_.out HW_.out (by kernel_rfl)) (fun _ _ _ h => h) (Or.inl ⟨by rfl, ?_⟩) hHeld ?_ ?_
                          rotate_left
                          · rintro w' ⟨s0, s1, s2, s3, s4⟩
                            go_simp
                            with_reducible rfl
                          rotate_left
                          · simp only [Act.put, List.setIfInBounds_toArray, List.set_cons_zero, List.set_cons_succ, i64_w, i32_w]
                            rfl
                          refine pure_ (i := 23) (N := some 45) (v := ?_) (a' := ?_) #[true, true, true, true, true, true, true, true, true, true, true, true, true, true, true, true, true, true, true, true, true, true, true, true, true, true, false, false, false, false] rfl rfl (any_of HT_.out (by kernel_rfl)) (fun _ _ _ h => h) (Or.inl ⟨by rfl, ?_⟩) ?_ ?_
                          rotate_left
                          · intro w'
                            go_simp
                            with_reducible rfl
                          rotate_left
                          · simp only [Act.put, List.setIfInBounds_toArray, List.set_cons_zero, List.set_cons_succ, i64_w, i32_w]
                            rfl
                          refine pure_ (i := 26) (N := some 48) (v := ?_) (a' := ?_) #[true, true, true, true, true, true, true, true, true, true, true, true, true, true, true, true, true, true, true, true, true, true, true, true, true, true, true, false, false, false] rfl rfl (any_of HT_.out (by kernel_rfl)) (fun _ _ _ h => h) (Or.inl ⟨by rfl, ?_⟩) ?_ ?_
                          rotate_left
                          · intro w'
                            go_simp
                            with_reducible rfl
                          rotate_left
                          · simp only [Act.put, List.setIfInBounds_toArray, List.set_cons_zero, List.set_cons_succ, i64_w, i32_w]
                            rfl
                          refine pure_ (i := 27) (N := some 49) (v := ?_) (a' := ?_) #[true, true, true, true, true, true, true, true, true, true, true, true, true, true, true, true, true, true, true, true, true, true, true, true, true, true, true, true, false, false] rfl rfl (any_of HT_.out (by kernel_rfl)) (fun _ _ _ h => h) (Or.inl ⟨by rfl, ?_⟩) ?_ ?_
                          rotate_left
                          · intro w'
                            go_simp
                            with_reducible rfl
                          rotate_left
                          · simp only [Act.put, List.setIfInBounds_toArray, List.set_cons_zero, List.set_cons_succ, i64_w, i32_w]
                            rfl
                          refine one_ (i := 28) (N := some 50) #[true, true, true, true, true, true, true, true, true, true, true, true, true, true, true, true, true, true, true, true, true, true, true, true, true, true, true, true, true, false] rfl rfl (one_of HT_.out (by kernel_rfl)) (by decide) (fun K hK => ?_)
                          refine goes_ Try.func94 (by kernel_rfl) rfl #[.slice Ao25 x7_1.length co25, .agg #[.string (rdOf ByteArray.empty y120 (ji11)), .string (rdOf ByteArray.empty y123 (ji14)), .int .i64 (Int.tmod (wrap64 (rd l0 (ji17))) (ji19))]] (by rfl) rfl rfl (by (try simp only [List.map_toArray, List.map_cons, List.map_nil]); first | done | (simp only [hji11, hji14, hji17, hji19]; rfl) | rfl | (simp only [List.length_drop, List.length_take]; rfl)) ?_
                          with_reducible refine (heliastref13_Put.calls k1 _ _ x7_1 (rdOf ByteArray.empty y120 (ji11)) (rdOf ByteArray.empty y123 (ji14)) (Int.tmod (wrap64 (rd l0 (ji17))) (ji19)) t131 _ ?side1 ?side2 A21.out).mono ?_
                          (case side1 => repeat (first | exact (Kd.R_reads' HO_7.out).2.2 | (with_reducible refine Kd.C_alloc ?_ _) | (with_reducible refine Kd.C_drewN ?_ _) | (with_reducible refine Kd.C_drew ?_)))
                          (case side2 => exact (Kd.R_reads' HO_7.out).2.1)
                          rintro e w26 ⟨v132, rfl, ho0, hb⟩
                          have HS1_ := (hb.cell (World.block_lt_of_cell? _ _ (hHeld.2.1))).trans (hHeld.2.1)
                          have HS3_ := (hb.cell (World.block_lt_of_cell? _ _ (hHeld.2.2.2.1))).trans (hHeld.2.2.2.1)
                          refine ⟨_, rfl, ?_⟩
                          have n0_ := Aside0.mk (Kd.R_below (by (with_reducible repeat (first | apply Kd.R_alloc | apply Kd.R_drewN | apply Kd.R_drew)); exact HO_5.out) hb)
                          have n1_ := Aside0.mk (Kd.R_below (by (with_reducible repeat (first | apply Kd.R_alloc | apply Kd.R_drewN | apply Kd.R_drew)); exact HO_6.out) hb)
                          have n2_ := Aside0.mk (Kd.R_elder' (by (with_reducible repeat (first | apply Kd.R_alloc | apply Kd.R_drewN | apply Kd.R_drew)); exact HO_7.out) (Kd.R_base ho0) hb)
                          have n3_ := Aside0.mk (Kd.R_lower (Kd.R_new' ho0 (Kd.R_lt (by (with_reducible repeat (first | apply Kd.R_alloc | apply Kd.R_drewN | apply Kd.R_drew)); exact HO_7.out))) (below_size (by repeat (first | (with_reducible first | exact HB.out | apply below_alloc | apply pw_below_drewN | apply below_drew1) | exact HB.out))))
                          have n4_ := Aside0.mk (below_step (by repeat (first | (with_reducible first | exact HB.out | apply below_alloc | apply pw_below_drewN | apply below_drew1) | exact HB.out)) hb)
                          clear HO_5
                          clear HO_6
                          clear HO_7
                          clear HB
                          have HO_5 := n0_
                          have HO_6 := n1_
                          have HO_7 := n2_
                          have HO133 := n3_
                          have HB := n4_
                          clear n0_ n1_ n2_ n3_ n4_
                          (try clear hb)
                          (try clear hb2)
                          (try clear hk)
                          (try clear hi)
                          (try clear ho0)
                          refine hK.out _ _ ⟨((HB.out.cell (World.block_lt_of_cell? w _ hw126_0)).trans hw126_0), HS1_, ((HB.out.cell (World.block_lt_of_cell? w _ hw128_0)).trans hw128_0), HS3_, ((HB.out.cell (World.block_lt_of_cell? w _ hw130_0)).trans hw130_0)⟩ (fun hHeld => ?_)
                          clear hK K
                          refine norm_ (a' := ?_) ?_ ?_
                          rotate_left
                          · show Act.put _ (some 50) _ = _
                            simp only [Act.put, List.setIfInBounds_toArray, List.set_cons_zero, List.set_cons_succ, i64_w, i32_w]
                            rfl
                          refine pure_ (i := 29) (N := some 7) (v := ?_) (a' := ?_) #[true, true, true, true, true, true, true, true, true, true, true, true, true, true, true, true, true, true, true, true, true, true, true, true, true, true, true, true, true, true] rfl rfl (any_of HT_.out (by kernel_rfl)) (fun _ _ _ h => h) (Or.inl ⟨by rfl, ?_⟩) ?_ ?_
                          rotate_left
                          · intro w'
                            go_simp
                            with_reducible rfl
                          rotate_left
                          · simp only [Act.put, List.setIfInBounds_toArray, List.set_cons_zero, List.set_cons_succ, i64_w, i32_w]
                            rfl
                          refine done_ (done_of HT_.out (by kernel_rfl)) ?_
                          try go_wp2
                          go_roundg k1
                          case measure => have := HK1.out; omega
                          case rel => exact ⟨(t131), (wrap64 (x8_1 + 2)), (by first | rfl | (simp; done) | (simp [*]; done)), H', ⟨by have := HK1.out; omega⟩, ⟨by (with_reducible repeat (first | apply Kd.R_alloc | apply Kd.R_drewN | apply Kd.R_drew)); exact HO_5.out⟩, ⟨by (with_reducible repeat (first | apply Kd.R_alloc | apply Kd.R_drewN | apply Kd.R_drew)); exact HO_6.out⟩, ⟨by (with_reducible repeat (first | apply Kd.R_alloc | apply Kd.R_drewN | apply Kd.R_drew)); exact Kd.R_mono HO133.out (fun _ hk => trivial)⟩, ⟨by repeat (first | (with_reducible first | exact HB.out | apply below_alloc | apply pw_below_drewN | apply below_drew1) | exact HB.out)⟩⟩
                      · rw [if_neg c18] at H
                        exact absurd H (by simp)
                    · rw [if_neg c16] at H
                      exact absurd H (by simp)
                  · rw [if_neg c15] at H
                    exact absurd H (by simp)
                · rw [if_neg c13] at H
                  exact absurd H (by simp)
              · rw [if_neg c12] at H
                exact absurd H (by simp)
            · rw [if_neg c10] at H
              exact absurd H (by simp)
          · rw [if_neg c9] at H
            exact absurd H (by simp)
        · rw [if_neg c8] at H
          have c8b0 : decide (x8_1 < 40) = false := decide_eq_false c8
          clear c8
          obtain rfl := Option.some.inj H
          go_wp2
          go_ret
          exact ⟨_, by first | rfl | (simp [errW_none, errW_some] <;> rfl) | (simp [*, errW_none, errW_some] <;> rfl), by (with_reducible repeat (first | apply Kd.R_alloc | apply Kd.R_drewN | apply Kd.R_drew)); exact HO_7.out, by repeat (first | (with_reducible first | exact HB.out | apply below_alloc | apply pw_below_drewN | apply below_drew1) | exact HB.out)⟩
      · rw [if_neg c7] at H
        have c7b0 : decide ((wrap64 (x8_1 + 1)) < (l0.length : Int)) = false := decide_eq_false c7
        clear c7
        obtain rfl := Option.some.inj H
        go_wp2
        go_ret
        exact ⟨_, by first | rfl | (simp [errW_none, errW_some] <;> rfl) | (simp [*, errW_none, errW_some] <;> rfl), by (with_reducible repeat (first | apply Kd.R_alloc | apply Kd.R_drewN | apply Kd.R_drew)); exact HO_7.out, by repeat (first | (with_reducible first | exact HB.out | apply below_alloc | apply pw_below_drewN | apply below_drew1) | exact HB.out)⟩
def heliastref13_Over.l0 : Nat → List (S69) → List (S69) → Int → Option ((List (S69)))
  | 0, _, _, _ => none
  | k + 1, x1, x5, x6 => if x6 < (x1.length : Int) then (if 0 ≤ x6 then ((heliastref13_Put.f k x5 ((rd_T69 x1 x6).f0) ((rd_T69 x1 x6).f1) ((rd_T69 x1 x6).f2)).bind fun t135 => (heliastref13_Over.l0 k x1 t135 (wrap64 (x6 + 1)))) else (none)) else (some x5)
def heliastref13_Over.f (k : Nat) (l0 : List (S69)) (l1 : List (S69)) : Option ((List (S69))) := heliastref13_Over.l0 k l1 l0 0
theorem heliastref13_Over.mono_l : ∀ k, (∀ y0 y1 y2, LeO (heliastref13_Over.l0 k y0 y1 y2) (heliastref13_Over.l0 (k + 1) y0 y1 y2))
  | 0 => fun _ _ _ r h => by simp [heliastref13_Over.l0] at h
  | k + 1 => by
    have ih0 := heliastref13_Over.mono_l k
    · intro y0 y1 y2
      unfold heliastref13_Over.l0
      repeat' first
      | (with_reducible exact ih0 _ _ _)
      | (with_reducible exact heliastref13_Put.mono _ _ _ _ _)
      | (with_reducible exact LeO.refl _)
      | (with_reducible exact LeO.none _)
      | (with_reducible refine LeO.ite ?_ ?_)
      | (with_reducible refine LeO.bind ?_ (fun _ => ?_))
      | exact ih0 _ _ _
      | exact heliastref13_Put.mono _ _ _ _ _
      | exact LeO.none _
      | refine LeO.ite ?_ ?_
      | refine LeO.bind ?_ (fun _ => ?_)
theorem heliastref13_Over.mono : ∀ a0 a1 k, LeO (heliastref13_Over.f k a0 a1) (heliastref13_Over.f (k + 1) a0 a1) := by
  intro a0 a1 k
  have ih0 := heliastref13_Over.mono_l k
  unfold heliastref13_Over.f
  repeat' first
      | (with_reducible exact ih0 _ _ _)
      | (with_reducible exact heliastref13_Put.mono _ _ _ _ _)
      | (with_reducible exact LeO.refl _)
      | (with_reducible exact LeO.none _)
      | (with_reducible refine LeO.ite ?_ ?_)
      | (with_reducible refine LeO.bind ?_ (fun _ => ?_))
      | exact ih0 _ _ _
      | exact heliastref13_Put.mono _ _ _ _ _
      | exact LeO.none _
      | refine LeO.ite ?_ ?_
      | refine LeO.bind ?_ (fun _ => ?_)
set_option maxHeartbeats 8000000 in
set_option maxRecDepth 100000 in
theorem heliastref13_Over.calls (k : Nat) (P0_ : Nat → Prop) (A0 : Option Addr) (c0 : Nat) (l0 : List (S69)) (A1 : Option Addr) (c1 : Nat) (l1 : List (S69)) (r : List (S69)) (w : World) (hs0 : Kd.V k69 69 w w.heap.size (fun k_ => P0_ k_) (.slice A0 l0.length c0) l0) (hr1 : Kd.C k69 w A1 l1.length l1) (hc1 : l1.length ≤ c1) (h : heliastref13_Over.f k l0 l1 = some r) :
    Calls Try.prog 70 #[.slice A0 l0.length c0, .slice A1 l1.length c1] w fun e w' => ∃ v0_ : Value, e = .returned (v0_) ∧ Kd.V k69 69 w' w.heap.size (fun k_ => (P0_ k_ ∨ w.heap.size ≤ k_)) v0_ r ∧ Below w.heap.size w w' := by
  have hu69 := Try.underlying69
  have HO0 := Aside0.mk (show Kd.V k69 69 w w.heap.size (fun k_ => (P0_ k_ ∨ w.heap.size ≤ k_)) (.slice A0 l0.length c0) l0 from Kd.V_mono hs0 (fun k_ hk => .inl hk))
  have HR1 := Aside0.mk hr1
  have HC1 := Aside0.mk hc1
  clear hr1 hc1
  have HB := Aside0.mk (Below.refl w.heap.size w)
  have H : (heliastref13_Over.l0 k l1 l0 0) = some r := h
  clear h
  have H' := Aside0.mk H
  clear H
  go_enter Try.func70, Try.ntmps70
  go_wp2
  go_loopg [5, 6] k (fun kq v5 v6 w' => ∃ (x5_1 : List (S69)) (x6_1 : Int), v6 = .int .i64 x6_1 ∧ Aside0 (heliastref13_Over.l0 kq l1 x5_1 x6_1 = some r) ∧ Aside0 (kq ≤ k) ∧ Aside0 (Kd.V k69 69 w' w.heap.size (fun k_ => (P0_ k_ ∨ w.heap.size ≤ k_)) v5 x5_1) ∧ Aside0 (Below w.heap.size w w'))
  case atStart => exact ⟨(l0), (0), (by first | rfl | (simp; done) | (simp [*]; done)), H', ⟨Nat.le_refl _⟩, ⟨by (with_reducible repeat (first | apply Kd.V_alloc | apply Kd.V_drewN | apply Kd.V_drew)); exact HO0.out⟩, ⟨by repeat (first | (with_reducible first | exact HB.out | apply below_alloc | apply pw_below_drewN | apply below_drew1) | exact HB.out)⟩⟩
  case round =>
    clear H'
    try clear c1
    try clear p2
    obtain ⟨x5_1, x6_1, rfl, HA, HK1, HO_5, HB⟩ := hrel
    cases gk with
    | zero => exact absurd HA.out (by simp [heliastref13_Over.l0])
    | succ k1 =>
      have H := HA.out
      clear HA
      simp only [heliastref13_Over.l0] at H
      by_cases c3 : x6_1 < (l1.length : Int)
      · rw [if_pos c3] at H
        have c3b0 : decide (x6_1 < (l1.length : Int)) = true := decide_eq_true c3
        clear c3
        by_cases c4 : 0 ≤ x6_1
        · rw [if_pos c4] at H
          have c4b0 : decide (0 ≤ x6_1) = true := decide_eq_true c4
          clear c4
          replace H := Option.bind_eq_some_iff.mp H
          obtain ⟨t135, A50, H⟩ := H
          replace H : (heliastref13_Over.l0 k1 l1 t135 (wrap64 (x6_1 + 1))) = some r := H
          have A5 := Aside0.mk A50
          clear A50
          have H' := Aside0.mk H
          clear H
          have p134 : 0 ≤ (x6_1 : Int) := of_decide_eq_true (by first | (with_reducible assumption) | assumption)
          have q134 : x6_1 < (l1.length : Int) := of_decide_eq_true (by first | (with_reducible assumption) | assumption)
          obtain ⟨ad134, e134, hx134_0, hx134_1, hx134_2⟩ := at_T69 HR1.out x6_1 p134 q134
          cases e134
          replace hx134_0 := (HB.out.cell (World.block_lt_of_cell? w _ hx134_0)).trans hx134_0
          replace hx134_1 := (HB.out.cell (World.block_lt_of_cell? w _ hx134_1)).trans hx134_1
          replace hx134_2 := (HB.out.cell (World.block_lt_of_cell? w _ hx134_2)).trans hx134_2
          replace p134 := eq_true p134
          replace q134 := eq_true q134
          obtain ⟨Ao6, co6, eo6⟩ := Kd.V_slice HO_5.out
          subst eo6
          go_wp2_with (first | ((with_reducible refine gate_callee (f := 94) rfl ?_); refine goesL_ (some 19) rfl rfl Try.func94 (by kernel_rfl) rfl #[.slice Ao6 x5_1.length co6, .agg #[.string ((rd_T69 l1 x6_1).f0), .string ((rd_T69 l1 x6_1).f1), .int .i64 ((rd_T69 l1 x6_1).f2)]] rfl (by (try simp only [List.map_toArray, List.map_cons, List.map_nil]); first | done | rfl | (simp only [List.length_drop, List.length_take]; rfl)) ?_; (with_reducible refine (heliastref13_Put.calls k1 _ _ x5_1 ((rd_T69 l1 x6_1).f0) ((rd_T69 l1 x6_1).f1) ((rd_T69 l1 x6_1).f2) t135 _ ?side1 ?side2 A5.out).mono ?_); (case side1 => repeat (first | exact (Kd.V_reads' HO_5.out).2.2 | (with_reducible refine Kd.C_alloc ?_ _) | (with_reducible refine Kd.C_drewN ?_ _) | (with_reducible refine Kd.C_drew ?_))); (case side2 => exact (Kd.V_reads' HO_5.out).2.1); rintro e w7 ⟨v136, rfl, ho0, hb⟩; refine ⟨_, rfl, ?_⟩; have n0_ := Aside0.mk (Kd.V_elder' (by (with_reducible repeat (first | apply Kd.V_alloc | apply Kd.V_drewN | apply Kd.V_drew)); exact HO_5.out) (Kd.R_base ho0) hb); have n1_ := Aside0.mk (Kd.R_lower (Kd.R_newM (M := fun k_ => (w.heap.size ≤ k_)) ho0 (below_size (by repeat (first | (with_reducible first | exact HB.out | apply below_alloc | apply pw_below_drewN | apply below_drew1) | exact HB.out))) (fun k_ h_ => h_)) (below_size (by repeat (first | (with_reducible first | exact HB.out | apply below_alloc | apply pw_below_drewN | apply below_drew1) | exact HB.out)))); have n2_ := Aside0.mk (below_step (by repeat (first | (with_reducible first | exact HB.out | apply below_alloc | apply pw_below_drewN | apply below_drew1) | exact HB.out)) hb); clear HO_5; clear HB; have HO_5 := n0_; have HO137 := n1_; have HB := n2_; clear n0_ n1_ n2_; (try clear hb); (try clear hb2); (try clear hk); (try clear hi); (try clear ho0)))
          go_roundg k1
          case measure => have := HK1.out; omega
          case rel => exact ⟨(t135), (wrap64 (x6_1 + 1)), (by first | rfl | (simp; done) | (simp [*]; done)), H', ⟨by have := HK1.out; omega⟩, ⟨Kd.V_mono (Kd.R_V (by (with_reducible repeat (first | apply Kd.R_alloc | apply Kd.R_drewN | apply Kd.R_drew)); exact Kd.R_mono HO137.out (fun _ hk => hk.1))) (fun k_ hk => by first | exact ⟨(.inr (hk.1)), hk.2⟩ | exact (.inr (hk)))⟩, ⟨by repeat (first | (with_reducible first | exact HB.out | apply below_alloc | apply pw_below_drewN | apply below_drew1) | exact HB.out)⟩⟩
        · rw [if_neg c4] at H
          exact absurd H (by simp)
      · rw [if_neg c3] at H
        have c3b0 : decide (x6_1 < (l1.length : Int)) = false := decide_eq_false c3
        clear c3
        obtain rfl := Option.some.inj H
        go_wp2
        go_ret
        exact ⟨_, by first | rfl | (simp [errW_none, errW_some] <;> rfl) | (simp [*, errW_none, errW_some] <;> rfl), by (with_reducible repeat (first | apply Kd.V_alloc | apply Kd.V_drewN | apply Kd.V_drew)); exact HO_5.out, by repeat (first | (with_reducible first | exact HB.out | apply below_alloc | apply pw_below_drewN | apply below_drew1) | exact HB.out)⟩
mutual
def heliastlaw16_States.j0 : Nat → List Int → List Int → Int → List (List (S69)) → Int → Option ((List (List (S69))))
  | 0, _, _, _, _, _ => none
  | k + 1, x0, x1, x2, x7, x8 => heliastlaw16_States.l0 k x0 x1 x2 x7 x8 0
def heliastlaw16_States.l0 : Nat → List Int → List Int → Int → List (List (S69)) → Int → Int → Option ((List (List (S69))))
  | 0, _, _, _, _, _, _ => none
  | k + 1, x0, x1, x2, x7, x8, x9 => if x9 < x8 then (if 0 ≤ (mn (x1.length : Int) (wrap64 (1 + (wrap64 (3 * x9))))) then (if (mn (x1.length : Int) (wrap64 (1 + (wrap64 (3 * x9))))) ≤ (mn (x1.length : Int) (wrap64 ((mn (x1.length : Int) (wrap64 (1 + (wrap64 (3 * x9))))) + 6))) then (if (mn (x1.length : Int) (wrap64 ((mn (x1.length : Int) (wrap64 (1 + (wrap64 (3 * x9))))) + 6))) ≤ (x1.length : Int) then ((heliastlaw13_State.f k ((x1.take ((mn (x1.length : Int) (wrap64 ((mn (x1.length : Int) (wrap64 (1 + (wrap64 (3 * x9))))) + 6))) : Int).toNat).drop ((mn (x1.length : Int) (wrap64 (1 + (wrap64 (3 * x9))))) : Int).toNat) x2).bind fun t140 => ((heliastlaw13_State.f k x0 x2).bind fun t143 => ((heliastref13_Over.f k t143 t140).bind fun t146 => (if x7.length < 5864062014805 then (heliastlaw16_States.l0 k x0 x1 x2 (x7 ++ [t146]) x8 (wrap64 (x9 + 1))) else (none))))) else (none)) else (none)) else (none)) else (some x7)
end
def heliastlaw16_States.f (k : Nat) (l0 : List Int) (l1 : List Int) (a2 : Int) : Option ((List (List (S69)))) := if (l1.length : Int) > 0 then (if 0 < (l1.length : Int) then (heliastlaw16_States.j0 k l0 l1 a2 ([] : List (List (S69))) (wrap64 (Int.tmod (rd l1 0) 5))) else (none)) else (heliastlaw16_States.j0 k l0 l1 a2 ([] : List (List (S69))) 2)
theorem heliastlaw16_States.mono_l : ∀ k, (∀ y0 y1 y2 y3 y4, LeO (heliastlaw16_States.j0 k y0 y1 y2 y3 y4) (heliastlaw16_States.j0 (k + 1) y0 y1 y2 y3 y4)) ∧ (∀ y0 y1 y2 y3 y4 y5, LeO (heliastlaw16_States.l0 k y0 y1 y2 y3 y4 y5) (heliastlaw16_States.l0 (k + 1) y0 y1 y2 y3 y4 y5))
  | 0 => ⟨fun _ _ _ _ _ r h => by simp [heliastlaw16_States.j0] at h, fun _ _ _ _ _ _ r h => by simp [heliastlaw16_States.l0] at h⟩
  | k + 1 => by
    obtain ⟨ih0, ih1⟩ := heliastlaw16_States.mono_l k
    refine ⟨?_, ?_⟩
    · intro y0 y1 y2 y3 y4
      unfold heliastlaw16_States.j0
      repeat' first
      | (with_reducible exact ih0 _ _ _ _ _)
      | (with_reducible exact ih1 _ _ _ _ _ _)
      | (with_reducible exact heliastlaw13_State.mono _ _ _)
      | (with_reducible exact heliastref13_Over.mono _ _ _)
      | (with_reducible exact LeO.refl _)
      | (with_reducible exact LeO.none _)
      | (with_reducible refine LeO.ite ?_ ?_)
      | (with_reducible refine LeO.bind ?_ (fun _ => ?_))
      | exact ih0 _ _ _ _ _
      | exact ih1 _ _ _ _ _ _
      | exact heliastlaw13_State.mono _ _ _
      | exact heliastref13_Over.mono _ _ _
      | exact LeO.none _
      | refine LeO.ite ?_ ?_
      | refine LeO.bind ?_ (fun _ => ?_)
    · intro y0 y1 y2 y3 y4 y5
      unfold heliastlaw16_States.l0
      repeat' first
      | (with_reducible exact ih0 _ _ _ _ _)
      | (with_reducible exact ih1 _ _ _ _ _ _)
      | (with_reducible exact heliastlaw13_State.mono _ _ _)
      | (with_reducible exact heliastref13_Over.mono _ _ _)
      | (with_reducible exact LeO.refl _)
      | (with_reducible exact LeO.none _)
      | (with_reducible refine LeO.ite ?_ ?_)
      | (with_reducible refine LeO.bind ?_ (fun _ => ?_))
      | exact ih0 _ _ _ _ _
      | exact ih1 _ _ _ _ _ _
      | exact heliastlaw13_State.mono _ _ _
      | exact heliastref13_Over.mono _ _ _
      | exact LeO.none _
      | refine LeO.ite ?_ ?_
      | refine LeO.bind ?_ (fun _ => ?_)
theorem heliastlaw16_States.mono : ∀ a0 a1 a2 k, LeO (heliastlaw16_States.f k a0 a1 a2) (heliastlaw16_States.f (k + 1) a0 a1 a2) := by
  intro a0 a1 a2 k
  obtain ⟨ih0, ih1⟩ := heliastlaw16_States.mono_l k
  unfold heliastlaw16_States.f
  repeat' first
      | (with_reducible exact ih0 _ _ _ _ _)
      | (with_reducible exact ih1 _ _ _ _ _ _)
      | (with_reducible exact heliastlaw13_State.mono _ _ _)
      | (with_reducible exact heliastref13_Over.mono _ _ _)
      | (with_reducible exact LeO.refl _)
      | (with_reducible exact LeO.none _)
      | (with_reducible refine LeO.ite ?_ ?_)
      | (with_reducible refine LeO.bind ?_ (fun _ => ?_))
      | exact ih0 _ _ _ _ _
      | exact ih1 _ _ _ _ _ _
      | exact heliastlaw13_State.mono _ _ _
      | exact heliastref13_Over.mono _ _ _
      | exact LeO.none _
      | refine LeO.ite ?_ ?_
      | refine LeO.bind ?_ (fun _ => ?_)
set_option maxHeartbeats 8000000 in
set_option maxRecDepth 100000 in
theorem heliastlaw16_States.calls (k : Nat) (A0 : Option Addr) (c0 : Nat) (l0 : List Int) (A1 : Option Addr) (c1 : Nat) (l1 : List Int) (a2 : Int) (r : List (List (S69))) (w : World) (hr0 : Kd.C (Kd.int .u8) w A0 l0.length l0) (hc0 : l0.length ≤ c0) (hr1 : Kd.C (Kd.int .u8) w A1 l1.length l1) (hc1 : l1.length ≤ c1) (h : heliastlaw16_States.f k l0 l1 a2 = some r) :
    Calls Try.prog 29 #[.slice A0 l0.length c0, .slice A1 l1.length c1, .int .i64 a2] w fun e w' => ∃ v0_ : Value, e = .returned (v0_) ∧ Kd.N (Kd.slice 69 k69) 63 w' w.heap.size (fun k_ => (w.heap.size ≤ k_)) v0_ r ∧ Below w.heap.size w w' := by
  have HR0 := Aside0.mk hr0
  have HC0 := Aside0.mk hc0
  clear hr0 hc0
  have HR1 := Aside0.mk hr1
  have HC1 := Aside0.mk hc1
  clear hr1 hc1
  have HB := Aside0.mk (Below.refl w.heap.size w)
  have H : (if (l1.length : Int) > 0 then (if 0 < (l1.length : Int) then (heliastlaw16_States.j0 k l0 l1 a2 ([] : List (List (S69))) (wrap64 (Int.tmod (rd l1 0) 5))) else (none)) else (heliastlaw16_States.j0 k l0 l1 a2 ([] : List (List (S69))) 2)) = some r := h
  clear h
  have HC4 := Aside0.mk H
  clear H
  go_enter Try.func29, Try.ntmps29
  go_upto_if 14 with (fail)
  go_cut [8] (fun v8 wc => ∃ (kq : Nat) (x8_3 : Int), v8 = .int .i64 x8_3 ∧ Aside0 (heliastlaw16_States.j0 kq l0 l1 a2 ([] : List (List (S69))) x8_3 = some r) ∧ Aside0 (kq ≤ k) ∧ Aside0 (Kd.N (Kd.slice 69 k69) 63 wc w.heap.size (fun k_ => (w.heap.size ≤ k_)) (.slice none 0 0) ([] : List (List (S69)))) ∧ Aside0 (Below w.heap.size w wc))
  case first =>
    have H := HC4.out
    clear HC4
    by_cases c5 : (l1.length : Int) > 0
    · rw [if_pos c5] at H
      have c5b0 : decide (0 < (l1.length : Int)) = true := decide_eq_true c5
      have c5b1 : decide (0 < l1.length) = true := decide_eq_true (by omega)
      clear c5
      (first | rw [c5b0] | (simp only [i64_w, i32_w]; rw [c5b0]) | rw [c5b1] | skip)
      by_cases c6 : 0 < (l1.length : Int)
      · rw [if_pos c6] at H
        have c6b0 : decide (0 < (l1.length : Int)) = true := decide_eq_true c6
        have c6b1 : decide (0 < l1.length) = true := decide_eq_true (by omega)
        clear c6
        have H' := Aside0.mk H
        clear H
        have p138 : 0 ≤ (0 : Int) := (by omega)
        have q138 : 0 < (l1.length : Int) := of_decide_eq_true (by first | (with_reducible assumption) | assumption)
        obtain ⟨ad138, e138, hx138_0⟩ := Kd.at_int HR1.out 0 p138 q138
        cases e138
        have qi138 : (0 < l1.length) = True := eq_true (by omega)
        (try rw [show ((0 : Int)).toNat = 0 from rfl] at hx138_0)
        (try rw [Addr.add_zero'] at hx138_0)
        replace hx138_0 := (HB.out.cell (World.block_lt_of_cell? w _ hx138_0)).trans hx138_0
        replace p138 := eq_true p138
        replace q138 := eq_true q138
        go_wp2
        go_meet
        case rel => exact ⟨_, (wrap64 (Int.tmod (rd l1 0) 5)), (by first | rfl | (simp; done) | (simp [*]; done)), H', ⟨by first | omega | exact Nat.le_refl _⟩, ⟨by first | exact Kd.S_nil _ _ _ _ _ | exact Kd.N_nil _ _ _ _ _ | exact Kd.V_nil _ _ _ _ _ | exact Kd.Q_nil _ _ _ _ _ | exact Kd.R_nil _ _ _ _ _⟩, ⟨by repeat (first | (with_reducible first | exact HB.out | apply below_alloc | apply pw_below_drewN | apply below_drew1) | exact HB.out)⟩⟩
      · rw [if_neg c6] at H
        exact absurd H (by simp)
    · rw [if_neg c5] at H
      have c5b0 : decide (0 < (l1.length : Int)) = false := decide_eq_false c5
      have c5b1 : decide (0 < l1.length) = false := decide_eq_false (by omega)
      clear c5
      (first | rw [c5b0] | (simp only [i64_w, i32_w]; rw [c5b0]) | rw [c5b1] | skip)
      have H' := Aside0.mk H
      clear H
      go_wp2
      go_meet
      case rel => exact ⟨_, (2), (by first | rfl | (simp; done) | (simp [*]; done)), H', ⟨by first | omega | exact Nat.le_refl _⟩, ⟨by first | exact Kd.S_nil _ _ _ _ _ | exact Kd.N_nil _ _ _ _ _ | exact Kd.V_nil _ _ _ _ _ | exact Kd.Q_nil _ _ _ _ _ | exact Kd.R_nil _ _ _ _ _⟩, ⟨by repeat (first | (with_reducible first | exact HB.out | apply below_alloc | apply pw_below_drewN | apply below_drew1) | exact HB.out)⟩⟩
  case rest =>
    clear HC4
    try clear c1
    try clear p1
    try clear q1
    try clear hx1
    try clear qi1
    try clear c2
    try clear p2
    try clear c5
    try clear c5b0
    try clear c5b1
    try clear c6
    try clear c6b0
    try clear c6b1
    try clear p6
    try clear hx138_0
    try clear p138
    try clear q138
    obtain ⟨kq, x8_3, rfl, HA, HJ3, HO_7, HB⟩ := hcut
    cases kq with
    | zero => exact absurd HA.out (by simp [heliastlaw16_States.j0])
    | succ kj3 =>
      have H := HA.out
      clear HA
      simp only [heliastlaw16_States.j0] at H
      have H' := Aside0.mk H
      clear H
      go_wp2
      go_loopg [7, 9] kj3 (fun kq v7 v9 w' => ∃ (x7_2 : List (List (S69))) (x9_2 : Int), v9 = .int .i64 x9_2 ∧ Aside0 (heliastlaw16_States.l0 kq l0 l1 a2 x7_2 x8_3 x9_2 = some r) ∧ Aside0 (kq ≤ kj3) ∧ Aside0 (Kd.N (Kd.slice 69 k69) 63 w' w.heap.size (fun k_ => (w.heap.size ≤ k_)) v7 x7_2) ∧ Aside0 (Below w.heap.size w w'))
      case atStart => exact ⟨(([] : List (List (S69)))), (0), (by first | rfl | (simp; done) | (simp [*]; done)), H', ⟨Nat.le_refl _⟩, ⟨by (with_reducible repeat (first | apply Kd.N_alloc | apply Kd.N_drewN | apply Kd.N_drew)); exact HO_7.out⟩, ⟨by repeat (first | (with_reducible first | exact HB.out | apply below_alloc | apply pw_below_drewN | apply below_drew1) | exact HB.out)⟩⟩
      case round =>
        clear H'
        try clear c1
        try clear p1
        try clear q1
        try clear hx1
        try clear qi1
        try clear c2
        try clear p2
        try clear c5
        try clear c5b0
        try clear c5b1
        try clear c6
        try clear c6b0
        try clear c6b1
        try clear p6
        try clear hx138_0
        try clear p1
        try clear p138
        try clear p2
        try clear p6
        try clear q1
        try clear q138
        obtain ⟨x7_2, x9_2, rfl, HA, HK2, HO_7, HB⟩ := hrel
        cases gk with
        | zero => exact absurd HA.out (by simp [heliastlaw16_States.l0])
        | succ k2 =>
          have H := HA.out
          clear HA
          simp only [heliastlaw16_States.l0] at H
          by_cases c7 : x9_2 < x8_3
          · rw [if_pos c7] at H
            have c7b0 : decide (x9_2 < x8_3) = true := decide_eq_true c7
            clear c7
            obtain ⟨ji8, hji8⟩ : ∃ j_ : Int, (mn (l1.length : Int) (wrap64 (1 + (wrap64 (3 * x9_2))))) = j_ := ⟨_, rfl⟩
            replace H : (if 0 ≤ (ji8) then (if (ji8) ≤ (mn (l1.length : Int) (wrap64 ((ji8) + 6))) then (if (mn (l1.length : Int) (wrap64 ((ji8) + 6))) ≤ (l1.length : Int) then ((heliastlaw13_State.f k2 ((l1.take ((mn (l1.length : Int) (wrap64 ((ji8) + 6))) : Int).toNat).drop ((ji8) : Int).toNat) a2).bind fun t140 => ((heliastlaw13_State.f k2 l0 a2).bind fun t143 => ((heliastref13_Over.f k2 t143 t140).bind fun t146 => (if x7_2.length < 5864062014805 then (heliastlaw16_States.l0 k2 l0 l1 a2 (x7_2 ++ [t146]) x8_3 (wrap64 (x9_2 + 1))) else (none))))) else (none)) else (none)) else (none)) = some r := by first | (rw [hji8] at H; exact H) | (simp only [hji8] at H ⊢; exact H)
            have hji8_ : (if (wrap64 (1 + (wrap64 (3 * x9_2)))) < (l1.length : Int) then (wrap64 (1 + (wrap64 (3 * x9_2)))) else (l1.length : Int)) = ji8 := hji8
            obtain ⟨ji9, hji9⟩ : ∃ j_ : Int, (mn (l1.length : Int) (wrap64 ((ji8) + 6))) = j_ := ⟨_, rfl⟩
            replace H : (if 0 ≤ (ji8) then (if (ji8) ≤ (ji9) then (if (ji9) ≤ (l1.length : Int) then ((heliastlaw13_State.f k2 ((l1.take ((ji9) : Int).toNat).drop ((ji8) : Int).toNat) a2).bind fun t140 => ((heliastlaw13_State.f k2 l0 a2).bind fun t143 => ((heliastref13_Over.f k2 t143 t140).bind fun t146 => (if x7_2.length < 5864062014805 then (heliastlaw16_States.l0 k2 l0 l1 a2 (x7_2 ++ [t146]) x8_3 (wrap64 (x9_2 + 1))) else (none))))) else (none)) else (none)) else (none)) = some r := by first | (rw [hji9] at H; exact H) | (simp only [hji9] at H ⊢; exact H)
            have hji9_ : (if (wrap64 ((ji8) + 6)) < (l1.length : Int) then (wrap64 ((ji8) + 6)) else (l1.length : Int)) = ji9 := hji9
            by_cases c10 : 0 ≤ (ji8)
            · rw [if_pos c10] at H
              have c10b0 := eq_true c10
              have c10b1 : decide (0 ≤ (ji8)) = true := decide_eq_true c10
              clear c10
              by_cases c11 : (ji8) ≤ (ji9)
              · rw [if_pos c11] at H
                have c11b0 := eq_true c11
                have c11b1 : decide ((ji8) ≤ (ji9)) = true := decide_eq_true c11
                clear c11
                by_cases c12 : (ji9) ≤ (l1.length : Int)
                · rw [if_pos c12] at H
                  have c12b0 := eq_true c12
                  have c12b1 : decide ((ji9) ≤ (l1.length : Int)) = true := decide_eq_true c12
                  clear c12
                  replace H := Option.bind_eq_some_iff.mp H
                  obtain ⟨t140, A130, H⟩ := H
                  replace H : ((heliastlaw13_State.f k2 l0 a2).bind fun t143 => ((heliastref13_Over.f k2 t143 t140).bind fun t146 => (if x7_2.length < 5864062014805 then (heliastlaw16_States.l0 k2 l0 l1 a2 (x7_2 ++ [t146]) x8_3 (wrap64 (x9_2 + 1))) else (none)))) = some r := H
                  have A13 := Aside0.mk A130
                  clear A130
                  replace H := Option.bind_eq_some_iff.mp H
                  obtain ⟨t143, A140, H⟩ := H
                  replace H : ((heliastref13_Over.f k2 t143 t140).bind fun t146 => (if x7_2.length < 5864062014805 then (heliastlaw16_States.l0 k2 l0 l1 a2 (x7_2 ++ [t146]) x8_3 (wrap64 (x9_2 + 1))) else (none))) = some r := H
                  have A14 := Aside0.mk A140
                  clear A140
                  replace H := Option.bind_eq_some_iff.mp H
                  obtain ⟨t146, A150, H⟩ := H
                  replace H : (if x7_2.length < 5864062014805 then (heliastlaw16_States.l0 k2 l0 l1 a2 (x7_2 ++ [t146]) x8_3 (wrap64 (x9_2 + 1))) else (none)) = some r := H
                  have A15 := Aside0.mk A150
                  clear A150
                  by_cases c16 : x7_2.length < 5864062014805
                  · rw [if_pos c16] at H
                    have LMc16 := Aside0.mk c16
                    clear c16
                    obtain ⟨y149, hy149⟩ : ∃ y_ : List (List (S69)), y_ = (x7_2 ++ [t146]) := ⟨_, rfl⟩
                    replace H : (heliastlaw16_States.l0 k2 l0 l1 a2 y149 x8_3 (wrap64 (x9_2 + 1))) = some r := by first | (rw [hy149]; with_reducible exact H) | (have H2_ := (Option.bind_some _ _).symm.trans H; rw [hy149]; with_reducible exact H2_) | (have H2_ := (Option.bind_some _ _).symm.trans H; with_reducible exact H2_) | with_reducible exact H | (rw [hy149]; exact H) | exact H
                    have Ny149 := Aside0.mk hy149
                    clear hy149
                    have H' := Aside0.mk H
                    clear H
                    obtain ⟨i017, hi017, _, hsz17, _⟩ := info_parts info5
                    obtain ⟨A17, hcut17, hA17, hC17⟩ := print_mid_of (P := Try.prog) (Value.int .u8) 0 35 5 .i64 .i64 Try.underlying35 hi017 hsz17 A1 c1 l1 (ji8) (ji9) (of_decide_eq_true (by first | (with_reducible assumption) | assumption)) (by first | omega | exact of_decide_eq_true (by first | (with_reducible assumption) | assumption)) (of_decide_eq_true (by first | (with_reducible assumption) | assumption)) HC1.out
                    have HR139 := Aside0.mk (Kd.C_of_reads (h1 := fun _ => rfl) (hA17 _ (Kd.reads_of_C HR1.out)))
                    have HC139 := Aside0.mk hC17
                    clear hA17 hC17 hi017 hsz17
                    go_wp2_with (first | ((with_reducible refine gate_callee (f := 48) rfl ?_); refine goesL_ (some 40) rfl rfl Try.func48 (by kernel_rfl) rfl #[.slice A17 ((l1.take ((ji9) : Int).toNat).drop ((ji8) : Int).toNat).length (c1 - (ji8).toNat), .int .i64 a2] rfl (by (try simp only [List.map_toArray, List.map_cons, List.map_nil]); first | done | (rw [show ((l1.take ((ji9) : Int).toNat).drop ((ji8) : Int).toNat).length = ((ji9).toNat - (ji8).toNat) from (by rw [List.length_drop, List.length_take]; have h_ : ((ji9) : Int) ≤ (l1.length : Int) := of_decide_eq_true (by first | (with_reducible assumption) | assumption); omega)] <;> rfl) | (simp only [hji8, hji9]; rfl) | rfl | (simp only [List.length_drop, List.length_take]; rfl)) ?_; (with_reducible refine (heliastlaw13_State.calls k2 _ _ ((l1.take ((ji9) : Int).toNat).drop ((ji8) : Int).toNat) a2 t140 _ ?side1 ?side2 A13.out).mono ?_); (case side1 => repeat (first | exact (Kd.C_below HR139.out HB.out) | (with_reducible refine Kd.C_alloc ?_ _) | (with_reducible refine Kd.C_drewN ?_ _) | (with_reducible refine Kd.C_drew ?_))); (case side2 => exact HC139.out); rintro e w18 ⟨v141, rfl, ho0, hb⟩; refine ⟨_, rfl, ?_⟩; have n0_ := Aside0.mk (Kd.N_elder' (by (with_reducible repeat (first | apply Kd.N_alloc | apply Kd.N_drewN | apply Kd.N_drew)); exact HO_7.out) (Kd.R_base ho0) hb); have n1_ := Aside0.mk (Kd.R_lower (Kd.R_newM (M := fun k_ => (w.heap.size ≤ k_)) ho0 (below_size (by repeat (first | (with_reducible first | exact HB.out | apply below_alloc | apply pw_below_drewN | apply below_drew1) | exact HB.out))) (fun k_ h_ => h_)) (below_size (by repeat (first | (with_reducible first | exact HB.out | apply below_alloc | apply pw_below_drewN | apply below_drew1) | exact HB.out)))); have n2_ := Aside0.mk (below_step (by repeat (first | (with_reducible first | exact HB.out | apply below_alloc | apply pw_below_drewN | apply below_drew1) | exact HB.out)) hb); clear HO_7; clear HB; have HO_7 := n0_; have HO142 := n1_; have HB := n2_; clear n0_ n1_ n2_; (try clear hb); (try clear hb2); (try clear hk); (try clear hi); (try clear ho0)) | ((with_reducible refine gate_callee (f := 48) rfl ?_); refine goesL_ (some 44) rfl rfl Try.func48 (by kernel_rfl) rfl #[.slice A0 l0.length c0, .int .i64 a2] rfl (by (try simp only [List.map_toArray, List.map_cons, List.map_nil]); first | done | rfl | (simp only [List.length_drop, List.length_take]; rfl)) ?_; (with_reducible refine (heliastlaw13_State.calls k2 _ _ l0 a2 t143 _ ?side1 ?side2 A14.out).mono ?_); (case side1 => repeat (first | exact (Kd.C_below HR0.out HB.out) | (with_reducible refine Kd.C_alloc ?_ _) | (with_reducible refine Kd.C_drewN ?_ _) | (with_reducible refine Kd.C_drew ?_))); (case side2 => exact HC0.out); rintro e w19 ⟨v144, rfl, ho0, hb⟩; refine ⟨_, rfl, ?_⟩; have n0_ := Aside0.mk (Kd.N_elder' (by (with_reducible repeat (first | apply Kd.N_alloc | apply Kd.N_drewN | apply Kd.N_drew)); exact HO_7.out) (Kd.R_base ho0) hb); have n1_ := Aside0.mk (Kd.R_elder' (by (with_reducible repeat (first | apply Kd.R_alloc | apply Kd.R_drewN | apply Kd.R_drew)); exact HO142.out) (Kd.R_base ho0) hb); have n2_ := Aside0.mk (Kd.R_lower (Kd.R_new' (Kd.R_newM (M := fun k_ => (w.heap.size ≤ k_)) ho0 (below_size (by repeat (first | (with_reducible first | exact HB.out | apply below_alloc | apply pw_below_drewN | apply below_drew1) | exact HB.out))) (fun k_ h_ => h_)) (Kd.R_lt (by (with_reducible repeat (first | apply Kd.R_alloc | apply Kd.R_drewN | apply Kd.R_drew)); exact HO142.out))) (below_size (by repeat (first | (with_reducible first | exact HB.out | apply below_alloc | apply pw_below_drewN | apply below_drew1) | exact HB.out)))); have n3_ := Aside0.mk (below_step (by repeat (first | (with_reducible first | exact HB.out | apply below_alloc | apply pw_below_drewN | apply below_drew1) | exact HB.out)) hb); clear HO_7; clear HO142; clear HB; have HO_7 := n0_; have HO142 := n1_; have HO145 := n2_; have HB := n3_; clear n0_ n1_ n2_ n3_; (try clear hb); (try clear hb2); (try clear hk); (try clear hi); (try clear ho0); obtain ⟨Ao20, co20, eo20⟩ := Kd.R_slice HO145.out; subst eo20; obtain ⟨Ao21, co21, eo21⟩ := Kd.R_slice HO142.out; subst eo21) | ((with_reducible refine gate_callee (f := 70) rfl ?_); refine goesL_ (some 46) rfl rfl Try.func70 (by kernel_rfl) rfl #[.slice Ao20 t143.length co20, .slice Ao21 t140.length co21] rfl (by (try simp only [List.map_toArray, List.map_cons, List.map_nil]); first | done | rfl | (simp only [List.length_drop, List.length_take]; rfl)) ?_; (with_reducible refine (heliastref13_Over.calls k2 (fun k_ => some k_ = (.slice Ao20 t143.length co20 : Value).ownBlock) _ _ t143 _ _ t140 t146 _ ?side1 ?side2 ?side3 A15.out).mono ?_); (case side1 => exact Kd.R_V (Kd.R_tight rfl (Kd.R_apart' (HO145.out) (Kd.N_typed HO_7.out) (by decide)))); (case side2 => repeat (first | exact (Kd.R_reads' HO142.out).2.2 | (with_reducible refine Kd.C_alloc ?_ _) | (with_reducible refine Kd.C_drewN ?_ _) | (with_reducible refine Kd.C_drew ?_))); (case side3 => exact (Kd.R_reads' HO142.out).2.1); rintro e w22 ⟨v147, rfl, ho0, hb⟩; refine ⟨_, rfl, ?_⟩; have n0_ := Aside0.mk (Kd.N_below (by (with_reducible repeat (first | apply Kd.N_alloc | apply Kd.N_drewN | apply Kd.N_drew)); exact HO_7.out) hb); have n1_ := Aside0.mk (Kd.R_below (by (with_reducible repeat (first | apply Kd.R_alloc | apply Kd.R_drewN | apply Kd.R_drew)); exact HO142.out) hb); have n2_ := Aside0.mk (Kd.R_below (by (with_reducible repeat (first | apply Kd.R_alloc | apply Kd.R_drewN | apply Kd.R_drew)); exact HO145.out) hb); have n3_ := Aside0.mk (Kd.V_lower (Kd.V_mono (ok' := fun k_ => (w.heap.size ≤ k_) ∧ some k_ ≠ (u7 : Value).ownBlock ∧ some k_ ≠ (.slice Ao21 t140.length co21 : Value).ownBlock) ho0 (fun k_ hk_ => ⟨Or.elim hk_ (fun hs_ => ((Kd.R_apart' (HO145.out) (Kd.N_typed HO_7.out) (by decide)).1 k_ hs_.symm).1.1.1) (fun hn_ => (Nat.le_trans (below_size (by repeat (first | (with_reducible first | exact HB.out | apply below_alloc | apply pw_below_drewN | apply below_drew1) | exact HB.out))) hn_)), Or.elim hk_ (fun hs_ => ((Kd.R_apart' (HO145.out) (Kd.N_typed HO_7.out) (by decide)).1 k_ hs_.symm).2) (fun hn_ => (Kd.fresh' (Kd.N_lt (by (with_reducible repeat (first | apply Kd.N_alloc | apply Kd.N_drewN | apply Kd.N_drew)); exact HO_7.out)) k_ hn_)), Or.elim hk_ (fun hs_ => ((Kd.R_apart' (HO145.out) (Kd.N_typed HO_7.out) (by decide)).1 k_ hs_.symm).1.2) (fun hn_ => (Kd.fresh' (Kd.R_lt (by (with_reducible repeat (first | apply Kd.R_alloc | apply Kd.R_drewN | apply Kd.R_drew)); exact HO142.out)) k_ hn_))⟩)) (below_size (by repeat (first | (with_reducible first | exact HB.out | apply below_alloc | apply pw_below_drewN | apply below_drew1) | exact HB.out)))); have n4_ := Aside0.mk (below_step (by repeat (first | (with_reducible first | exact HB.out | apply below_alloc | apply pw_below_drewN | apply below_drew1) | exact HB.out)) hb); clear HO_7; clear HO142; clear HO145; clear HB; have HO_7 := n0_; have HO142 := n1_; have HO145 := n2_; have HO148 := n3_; have HB := n4_; clear n0_ n1_ n2_ n3_ n4_; (try clear hb); (try clear hb2); (try clear hk); (try clear hi); (try clear ho0); obtain ⟨Ao24, co24, eo24⟩ := Kd.V_slice HO148.out; subst eo24) | ((with_reducible refine gate_builtin (b := .append) (xs := #[.tmp 41, .tmp 47]) rfl ?_); at_builtin; refine Kd.N_append (Kd.slice 69 k69) (w0 := w) w.heap.size rfl (.tmp 41) (.tmp 47) 61 63 (.slice none 0 0) 24 rfl Try.underlying61 info63 rfl (by decide) (by omega) u7 x7_2 t146 [.slice Ao24 t146.length co24] (fun k_ => (w.heap.size ≤ k_) ∧ some k_ ≠ (.slice Ao21 t140.length co21 : Value).ownBlock) (fun k_ => ((fun k_ => (w.heap.size ≤ k_) ∧ some k_ ≠ (.slice Ao21 t140.length co21 : Value).ownBlock)) k_ ∧ some k_ ≠ (u7 : Value).ownBlock) rfl rfl ?aP (fun _ hk => hk) ?aF ?aO ?aB ?aS ?aL ?_; (case aP => exact (Kd.FK_slice_mk (Kd.V_reads' (Kd.V_mono (ok' := (fun k_ => ((fun k_ => (w.heap.size ≤ k_) ∧ some k_ ≠ (.slice Ao21 t140.length co21 : Value).ownBlock)) k_ ∧ some k_ ≠ (u7 : Value).ownBlock)) (HO148.out) (fun k_ hk => ⟨⟨hk.1, hk.2.2⟩, hk.2.1⟩))).2.1 (Kd.V_F (Kd.V_mono (ok' := (fun k_ => ((fun k_ => (w.heap.size ≤ k_) ∧ some k_ ≠ (.slice Ao21 t140.length co21 : Value).ownBlock)) k_ ∧ some k_ ≠ (u7 : Value).ownBlock)) (HO148.out) (fun k_ hk => ⟨⟨hk.1, hk.2.2⟩, hk.2.1⟩))))); (case aB => exact (by repeat (first | (with_reducible first | exact HB.out | apply below_alloc | apply pw_below_drewN | apply below_drew1) | exact HB.out))); (case aF => exact (fun k_ hk => ⟨(Nat.le_trans (below_size (by repeat (first | (with_reducible first | exact HB.out | apply below_alloc | apply pw_below_drewN | apply below_drew1) | exact HB.out))) hk), Kd.fresh' (Kd.R_lt (by (with_reducible repeat (first | apply Kd.R_alloc | apply Kd.R_drewN | apply Kd.R_drew)); exact HO142.out)) k_ hk⟩)); (case aO => exact (by (with_reducible repeat (first | apply Kd.N_alloc | apply Kd.N_drewN | apply Kd.N_drew)); exact Kd.N_mono HO_7.out (fun _ hk => ⟨hk.1.1, hk.1.2⟩))); (case aS => exact (below_size (by repeat (first | (with_reducible first | exact HB.out | apply below_alloc | apply pw_below_drewN | apply below_drew1) | exact HB.out)))); (case aL => have := LMc16.out; omega); intro v150 w23 ho hb hg hat; rw [← Ny149.out] at ho; have n0_ := Aside0.mk (Kd.R_over' (by (with_reducible repeat (first | apply Kd.R_alloc | apply Kd.R_drewN | apply Kd.R_drew)); exact HO142.out) (Kd.N_typed (by (with_reducible repeat (first | apply Kd.N_alloc | apply Kd.N_drewN | apply Kd.N_drew)); exact HO_7.out)) (by decide) hg); have n1_ := Aside0.mk (Kd.R_over' (by (with_reducible repeat (first | apply Kd.R_alloc | apply Kd.R_drewN | apply Kd.R_drew)); exact HO145.out) (Kd.N_typed (by (with_reducible repeat (first | apply Kd.N_alloc | apply Kd.N_drewN | apply Kd.N_drew)); exact HO_7.out)) (by decide) hg); have n2_ := Aside0.mk (Kd.V_afterv (ok := (fun k_ => (w.heap.size ≤ k_) ∧ some k_ ≠ (.slice Ao21 t140.length co21 : Value).ownBlock)) (by (with_reducible repeat (first | apply Kd.V_alloc | apply Kd.V_drewN | apply Kd.V_drew)); exact Kd.V_mono HO148.out (fun _ hk => ⟨⟨hk.1, hk.2.2⟩, hk.2.1⟩)) hg hat); have n3_ := Aside0.mk (hb); have n4_ := Aside0.mk (ho); clear HO142; clear HO145; clear HO148; clear HB; clear HO_7; have HO142 := n0_; have HO145 := n1_; have HO148 := n2_; have HB := n3_; have HO151 := n4_; clear n0_ n1_ n2_ n3_ n4_; clear ho hb hg hat))
                    go_roundg k2
                    case measure => have := HJ3.out; have := HK2.out; omega
                    case rel => exact ⟨(y149), (wrap64 (x9_2 + 1)), (by first | rfl | (simp; done) | (simp [*]; done)), H', ⟨by have := HJ3.out; have := HK2.out; omega⟩, ⟨by (with_reducible repeat (first | apply Kd.N_alloc | apply Kd.N_drewN | apply Kd.N_drew)); exact Kd.N_mono HO151.out (fun _ hk => hk.1)⟩, ⟨by repeat (first | (with_reducible first | exact HB.out | apply below_alloc | apply pw_below_drewN | apply below_drew1) | exact HB.out)⟩⟩
                  · rw [if_neg c16] at H
                    exact absurd H (by simp)
                · rw [if_neg c12] at H
                  exact absurd H (by simp)
              · rw [if_neg c11] at H
                exact absurd H (by simp)
            · rw [if_neg c10] at H
              exact absurd H (by simp)
          · rw [if_neg c7] at H
            have c7b0 : decide (x9_2 < x8_3) = false := decide_eq_false c7
            clear c7
            obtain rfl := Option.some.inj H
            go_wp2
            go_ret
            exact ⟨_, by first | rfl | (simp [errW_none, errW_some] <;> rfl) | (simp [*, errW_none, errW_some] <;> rfl), by (with_reducible repeat (first | apply Kd.N_alloc | apply Kd.N_drewN | apply Kd.N_drew)); exact HO_7.out, by repeat (first | (with_reducible first | exact HB.out | apply below_alloc | apply pw_below_drewN | apply below_drew1) | exact HB.out)⟩
end Go.Proofs.Ytmmalieacakcbaa.S
end

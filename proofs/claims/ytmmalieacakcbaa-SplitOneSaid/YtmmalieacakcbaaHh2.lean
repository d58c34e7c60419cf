-- Written by heprint.py (this session's, over the kit's print.py): not trusted, Lean checks it.
import Derived.Test.YtmmalieacakcbaaHh0
namespace Go.Proofs.Ytmmalieacakcbaa.S
open Go.RowKit Go.Proofs.YtmmalieacakcbaaW.PrintWords Go.Proofs.YtmmalieacakcbaaW.PrintLast Go.Proofs.YtmmalieacakcbaaW.PrintMore
attribute [local go_sem] max2_int min2_int max_two min_two max_three min_three max_four min_four   -- for this text's walks alone
set_option linter.unusedVariables false
set_option linter.unusedSimpArgs false

/-! ### api_Entry_73: function 73 -/
-- GIVEN slices.Clone[[]heliast/api.Entry,heliast/api.Entry] making as slices_Clone_Entry uses heliast/state.Get$1
open Go.Proofs.He
def encE (x : S69) : List Value := [.string x.f0, .string x.f1, .int .i64 x.f2]
theorem flatE : Flat k69 encE := ⟨fun _ => rfl, fun x u hu => by simp [encE] at hu; rcases hu with rfl | rfl | rfl <;> rfl, fun w base ok x cs => ⟨fun h => k69_openM h, fun h => by subst h; exact k69_mkM _ _ _ x⟩, fun w x cs => ⟨fun h => k69_open h, fun h => by subst h; exact k69_mk _ x⟩⟩
theorem szE : k69.sz = 3 := rfl
set_option maxHeartbeats 4000000 in
set_option maxRecDepth 100000 in
theorem slices_Clone_Entry.walk (A0 : Option Addr) (c0 : Nat) (l0 : List S69) (w : World) (hr0 : Kd.C k69 w A0 l0.length l0) (hlim : l0.length < 3518437208883) :
    Calls Try.prog 73 #[.slice A0 l0.length c0] w fun e w' => ∃ v, e = .returned v ∧ Kd.R k69 69 w' w.heap.size (fun _ => True) v l0 ∧ Below w.heap.size w w' := by
  have hnil : ∀ (w : World) (a : Option Addr) (n c : Nat), Sem.run Try.prog (binOp .eql 63 (.slice a n c) (.slice none 0 0)) w = .ok (.bool a.isNone) w := fun w a n c => Lib.run_eql_slice_nil w 63 69 a n c 0 0 Try.underlying63
  cases A0 with
  | none =>
    have h0 : l0 = [] := by
      rcases Nat.eq_zero_or_pos l0.length with h | h
      · exact List.eq_nil_of_length_eq_zero h
      · obtain ⟨_, h, _⟩ := hr0.2.2 h; cases h
    subst h0
    go_enter Try.func73, Try.ntmps73
    go_wp2
    go_ret
    exact ⟨_, rfl, Kd.R_nil _ _ _ _ _, Below.refl _ _⟩
  | some ad =>
    have HB := Aside0.mk ((Below.refl w.heap.size w).alloc (Nat.le_refl _) (Obj.cells #[] 69))
    have HO := Aside0.mk (show Kd.R k69 69 (w.alloc (.cells #[] 69)) w.heap.size (fun _ => True) (.slice (some ⟨w.heap.size, 0, none⟩) 0 0) [] from
      Flat.put flatE ⟨rfl, .inr ⟨w.heap.size, 0, #[], rfl, Nat.le_refl _, heap_alloc_new w _, Nat.le_refl _, by decide, rfl, rfl⟩⟩ (fun _ _ => trivial))
    have HR := Aside0.mk (Kd.C_below hr0 HB.out)
    clear hr0
    go_enter Try.func73, Try.ntmps73
    go_wp2_with (at_builtin; refine Kd.R_append_rows k69 (w0 := w) w.heap.size rfl (.tmp 5) (.tmp 6) 63 69 (.agg #[(.string ⟨#[]⟩), (.string ⟨#[]⟩), (.int .i64 0)]) 40 rfl Try.underlying63 info69 rfl (by decide) (by omega) (.slice (some ⟨w.heap.size, 0, none⟩) 0 0) ([] : List S69) l0 (some ad) l0.length c0 (fun _ => True) (fun _ => False) rfl rfl HO.out HR.out (fun x cs h => (flatE.M _ _ _ _ _).2 ((flatE.K _ _ _).1 h)) (fun _ h => h.elim) (fun _ _ => trivial) HB.out (by simp) (by simp; omega) ?_; intro v1 w1 hr1 hb1 _ _)
    go_ret
    exact ⟨_, rfl, by simpa using hr1, hb1⟩
def slices_Clone_Entry.f (l0 : List S69) : Option (List S69) := if l0.length < 3518437208883 then some l0 else none
theorem slices_Clone_Entry.calls (A0 : Option Addr) (c0 : Nat) (l0 : List S69) (r : List S69) (w : World) (hr0 : Kd.C k69 w A0 l0.length l0) (hc0 : l0.length ≤ c0) (h : slices_Clone_Entry.f l0 = some r) :
    Calls Try.prog 73 #[.slice A0 l0.length c0] w fun e w' => ∃ v0_ : Value, e = .returned (v0_) ∧ Kd.R k69 69 w' w.heap.size (fun _ => True) v0_ r ∧ Below w.heap.size w w' := by
  unfold slices_Clone_Entry.f at h
  split at h
  · obtain rfl := Option.some.inj h
    exact slices_Clone_Entry.walk A0 c0 l0 w hr0 ‹_›
  · cases h

/-! ### split_count_int: function 80 -/
-- GIVEN heliast/split.count[int] making
open Go.Proofs.He
noncomputable def cntIK : KK Try.prog 3 Int := intK Try.underlying3
abbrev CntI (w : World) (b : Nat) (xs : List Int) (C : List (Int × Int)) : Prop := Cnt cntIK Try.underlying3 w b xs C
theorem zero3 (w : World) : (zeroValue 3).run Try.prog w = .ok (.int .i64 0) w := by kernel_rfl
set_option maxHeartbeats 4000000 in
set_option maxRecDepth 100000 in
theorem split_count_int.walk (A0 : Option Addr) (c0 : Nat) (xs : List (List Int)) (w : World) (hr0 : Kd.C (Kd.slice 3 (Kd.int .i64)) w A0 xs.length xs) (hwf : ∀ x ∈ xs.flatten, (Lit.int .i64 x).wf = true) (hlim : xs.flatten.length < 17592186044416) :
    Calls Try.prog 80 #[.slice A0 xs.length c0] w fun e w' => ∃ b C, e = .returned (.map (some b)) ∧ w.heap.size ≤ b ∧ CntI w' b xs.flatten C ∧ Below w.heap.size w w' := by
  have hmm := @run_makeMap Try.prog
  have hlen : xs.length ≤ 9223372036854775807 := hr0.2.1
  have HR0 := Aside0.mk hr0
  have HWF := Aside0.mk hwf
  clear hr0 hwf
  have HO := Aside0.mk (show CntI (w.alloc (.map #[] 0)) w.heap.size (readTo xs 0 0) [] from by rw [readTo_zero]; exact Cnt.nil _ _ w)
  have HB := Aside0.mk ((Below.refl w.heap.size w).alloc (Nat.le_refl _) (Obj.map #[] 0))
  go_enter Try.func80, Try.ntmps80
  go_wp2
  clear hmm
  go_loopw [11] (fun v wr => ∃ (i : Nat) (C : List (Int × Int)), v = .int .i64 i ∧ i ≤ xs.length ∧ Aside0 (CntI wr w.heap.size (readTo xs i 0) C) ∧ Aside0 (Below w.heap.size w wr)) (fun v _ => xs.length - (intOf v).toNat)
  case atStart => exact ⟨0, [], rfl, Nat.zero_le _, HO, HB⟩
  case round =>
    clear HO HB
    obtain ⟨i, C, rfl, hi, HI, HB⟩ := hrel
    by_cases hlt : i < xs.length
    · obtain ⟨ad, Ar, cr, e, hrx, hrl, hrc⟩ := at_rows HR0.out (i : Int) (by omega) (by omega)
      cases e
      replace hrx := (HB.out.cell (World.block_lt_of_cell? w _ hrx)).trans hrx
      rw [Int.toNat_natCast] at hrx hrl hrc
      obtain ⟨ns, hns⟩ : ∃ ns, ns = xs.getD i [] := ⟨_, rfl⟩
      rw [← hns] at hrx hrl hrc
      have HN := Aside0.mk hns
      have HRC := Aside0.mk hrc
      have hnl : ns.length ≤ 9223372036854775807 := hrc.2.1
      clear hns hrc hrl
      go_wp2
      go_loopw [17] (fun v w5 => ∃ (j : Nat) (C : List (Int × Int)), v = .int .i64 j ∧ j ≤ ns.length ∧ Aside0 (CntI w5 w.heap.size (readTo xs i j) C) ∧ Aside0 (Below w.heap.size w w5)) (fun v _ => ns.length - (intOf v).toNat)
      case atStart => exact ⟨0, C, rfl, Nat.zero_le _, HI, HB⟩
      case round =>
        clear HI HB
        obtain ⟨j, C, rfl, hj, HI, HB⟩ := hrel
        by_cases hlt2 : j < ns.length
        · obtain ⟨ad2, e, hx⟩ := Kd.at_int (Kd.C_below HRC.out HB.out) (j : Int) (by omega) (by omega)
          cases e
          obtain ⟨x, hxd⟩ : ∃ x, x = rd ns j := ⟨_, rfl⟩
          rw [← hxd, Int.toNat_natCast] at hx
          have hxm : x = ns[j] := by rw [hxd]; simp [rd, hlt2]
          have hwf : (Lit.int .i64 x).wf = true := HWF.out x (mem_rows (i := i) (by rw [hxm, ← HN.out]; exact List.getElem_mem hlt2))
          have HX := Aside0.mk (show readTo xs i (j + 1) = readTo xs i j ++ [x] from by
            have := readTo_succ (xs := xs) (i := i) (j := j) (by rw [← HN.out]; exact hlt2)
            rw [this, hxm]; congr 2; simp only [HN.out])
          obtain ⟨n, hn⟩ : ∃ n : Int, ((readTo xs i j).count x : Int) = n := ⟨_, rfl⟩
          have hn0 : 0 ≤ n := by omega
          have hn1 : n < 17592186044416 := by have := List.count_le_length (a := x) (l := readTo xs i j); have := readTo_length (xs := xs) i j; omega
          have hcl : C.length < maxLen := by have := HI.out.len; have := readTo_length (xs := xs) i j; unfold maxLen; omega
          have HNN := Aside0.mk hn
          have HWX := Aside0.mk hwf
          have HCL := Aside0.mk hcl
          have HV := Aside0.mk (show (Lit.int .i64 (n + 1)).wf = true from WalkArith.wf_i64 (by omega))
          clear hxd hxm hn hwf hcl
          go_wp2_with (first | (at_lookup; refine wpList_cget rfl _ _ rfl Try.underlying118 (zero3 _) rfl HI.out x rfl HWX.out n HNN.out ?_) | (at_mapUpdate; refine wpList_mput rfl _ _ _ 118 rfl cntIK (intV Try.underlying3) 3 Try.underlying118 w.heap.size C rfl HI.out.own HCL.out x (n + 1) rfl rfl HWX.out HV.out ?_; intro w1 ho1 hg1) | go_in)
          have HB1 := Aside0.mk (HB.out.grown hg1 HB.out.size (fun k e => by cases e; exact Nat.le_refl _))
          have HI1 := Aside0.mk (show ∃ C, CntI w1 w.heap.size (readTo xs i (j + 1)) C from ⟨_, by rw [HX.out]; exact HI.out.put x (by rw [HNN.out]; exact ho1)⟩)
          clear ho1 hg1
          go_roundw
          case rel => obtain ⟨C1, h1⟩ := HI1.out; exact ⟨j + 1, C1, by go_num, by omega, ⟨h1⟩, HB1⟩
          case measure => simp [intOf]; omega
        · have hjl : j = ns.length := by omega
          have HI2 := Aside0.mk (show CntI _ w.heap.size (readTo xs (i + 1) 0) C from by rw [readTo_zero, ← readTo_row hlt, ← HN.out, ← hjl]; exact HI.out)
          go_wp2
          go_roundw
          case rel => exact ⟨i + 1, C, by go_num, by omega, HI2, HB⟩
          case measure => simp [intOf]; omega
    · have hil : i = xs.length := by omega
      have HF := Aside0.mk (show CntI wr w.heap.size xs.flatten C from by have := HI.out; rw [hil, readTo_zero, List.take_length] at this; exact this)
      go_wp2
      go_ret
      exact ⟨_, C, rfl, Nat.le_refl _, HF.out, HB.out⟩

/-! ### api_Entry_71: function 71 -/
-- GIVEN heliast/split.count[heliast/api.Entry] making uses slices.Clone[[]heliast/api.Entry,heliast/api.Entry] uses heliast/split.count[int]
open Go.Proofs.He
instance decSE : DecidableEq S69 := fun a b => decidable_of_iff (a.f0 = b.f0 ∧ a.f1 = b.f1 ∧ a.f2 = b.f2) ⟨fun h => by cases a; cases b; simp_all, fun h => by subst h; exact ⟨rfl, rfl, rfl⟩⟩
/-- What an entry that is read is: of lengths and a number that there are. -/
def EOk (x : S69) : Prop := x.f0.size ≤ 9223372036854775807 ∧ x.f1.size ≤ 9223372036854775807 ∧ -9223372036854775808 ≤ x.f2 ∧ x.f2 ≤ 9223372036854775807
instance (x : S69) : Decidable (EOk x) := inferInstanceAs (Decidable (_ ∧ _ ∧ _ ∧ _))
def litE (x : S69) : List Lit := [.string x.f0.data.toList, .string x.f1.data.toList, .int .i64 x.f2]
theorem wf_iff (n : Int) : (Lit.int .i64 n).wf = true ↔ -9223372036854775808 ≤ n ∧ n ≤ 9223372036854775807 := by
  simp [Lit.wf, IntKind.min, IntKind.max, IntKind.signed, IntKind.bits]
theorem cellsE : Try.prog.cellsOf 69 = 3 ∧ Try.prog.cellsOf 9 = 1 ∧ Try.prog.cellsOf 3 = 1 := ⟨by kernel_rfl, by kernel_rfl, by kernel_rfl⟩
set_option maxRecDepth 100000 in
theorem keyLitsE (d : Nat) (cs : List Value) (L : List Lit) : Try.prog.keyLits (d + 2) 69 cs = some L ↔ ∃ x, EOk x ∧ cs = encE x ∧ L = litE x := by
  obtain ⟨c1, c2, c3⟩ := cellsE
  have hs : ∀ (u : List Value) (l : List Lit), Try.prog.keyLits (d + 1) 9 u = some l ↔ ∃ s : ByteArray, s.size ≤ 9223372036854775807 ∧ u = [.string s] ∧ l = [.string s.data.toList] := by
    intro u l
    unfold Program.keyLits
    rw [Try.underlying9]
    constructor
    · intro h
      rcases u with _ | ⟨v, _ | ⟨v', u⟩⟩
      · simp at h
      · cases v with
        | string s =>
          by_cases h1 : s.size ≤ maxLen
          · simp only [h1, if_true, Option.some.injEq] at h
            exact ⟨s, h1, rfl, h.symm⟩
          · simp [h1] at h
        | _ => simp at h
      · cases v <;> simp at h
    · rintro ⟨s, h, rfl, rfl⟩
      simp [maxLen, h]
  have hi : ∀ (u : List Value) (l : List Lit), Try.prog.keyLits (d + 1) 3 u = some l ↔ ∃ n : Int, (Lit.int .i64 n).wf = true ∧ u = [.int .i64 n] ∧ l = [.int .i64 n] := by
    intro u l
    unfold Program.keyLits
    rw [Try.underlying3]
    constructor
    · intro h
      rcases u with _ | ⟨v, _ | ⟨v', u⟩⟩
      · simp at h
      · cases v <;> simp at h
        obtain ⟨⟨h1, h2⟩, rfl⟩ := h
        subst h1
        exact ⟨_, h2, rfl, rfl⟩
      · cases v <;> simp at h
    · rintro ⟨s, h, rfl, rfl⟩
      simp [h]
  unfold Program.keyLits
  rw [Try.underlying69]
  simp only [c1]
  constructor
  · intro h
    split at h
    · rename_i hh
      obtain ⟨hl, _⟩ := hh
      match cs, hl with
      | [u, v, z], _ =>
        simp only [List.mapM_cons, List.mapM_nil, c2, c3, List.drop_zero, List.take_succ_cons, List.take_zero, List.drop_succ_cons] at h
        cases h0 : Try.prog.keyLits (d + 1) 9 [u] with
        | none => simp [h0] at h
        | some l0 =>
          cases h1 : Try.prog.keyLits (d + 1) 9 [v] with
          | none => simp [h0, h1] at h
          | some l1 =>
            cases h2 : Try.prog.keyLits (d + 1) 3 [z] with
            | none => simp [h0, h1, h2] at h
            | some l2 =>
              simp [h0, h1, h2] at h
              obtain ⟨a, ha, e0, rfl⟩ := (hs _ _).1 h0
              obtain ⟨b, hb, e1, rfl⟩ := (hs _ _).1 h1
              obtain ⟨n, hn, e2, rfl⟩ := (hi _ _).1 h2
              cases e0; cases e1; cases e2
              exact ⟨⟨a, b, n⟩, ⟨ha, hb, (wf_iff n).1 hn⟩, rfl, h.symm⟩
    · cases h
  · rintro ⟨x, ⟨g0, g1, g2⟩, rfl, rfl⟩
    have h0 := (hs [.string x.f0] [.string x.f0.data.toList]).2 ⟨_, g0, rfl, rfl⟩
    have h1 := (hs [.string x.f1] [.string x.f1.data.toList]).2 ⟨_, g1, rfl, rfl⟩
    have h2 := (hi [.int .i64 x.f2] [.int .i64 x.f2]).2 ⟨_, (wf_iff _).2 g2, rfl, rfl⟩
    simp [encE, litE, c2, c3, h0, h1, h2]
theorem sizeT : ∃ m, Try.prog.types.size = m + 1 := ⟨Try.prog.types.size - 1, by have : 0 < Try.prog.types.size := of_decide_eq_true (by kernel_rfl); omega⟩
theorem wideE : (match Try.prog.underlying 69 with | some (.array _ _) | some (.struct _) => true | _ => false) = true := by rw [Try.underlying69]
set_option maxRecDepth 100000 in
theorem keyOfE (x : S69) (h : EOk x) : keyOf Try.prog 69 (.agg #[.string x.f0, .string x.f1, .int .i64 x.f2]) = some (.string (keyBytes (litE x))) := by
  obtain ⟨m, hm⟩ := sizeT
  have hk : Try.prog.keyType 69 = true := by kernel_rfl
  have hl := (keyLitsE m (encE x) (litE x)).2 ⟨x, h, rfl, rfl⟩
  have hf : (Value.agg #[.string x.f0, .string x.f1, .int .i64 x.f2]).formed Try.prog 69 = true := by
    simp [Value.formed, Try.underlying69, cellsE.1]
  have hc : (Value.agg #[.string x.f0, .string x.f1, .int .i64 x.f2]).cells.toList = encE x := rfl
  unfold keyOf
  rw [Try.underlying69]
  simp only [hk, hf, hc, hm, hl, Bool.and_self, if_true, Option.map_some]
set_option maxRecDepth 100000 in
theorem keyLawE : WideMaps.KeyLaw Try.prog 69 := deep_law_gate (by kernel_rfl) (of_decide_eq_true (by kernel_rfl)) (of_decide_eq_true (by kernel_rfl)) (by kernel_rfl) wideE
set_option maxRecDepth 100000 in
noncomputable def entK : KK Try.prog 69 {x : S69 // EOk x} where
  K := Maps.Keyed.of_law keyLawE
  val x := .agg #[.string x.1.f0, .string x.1.f1, .int .i64 x.1.f2]
  kl x := .string (keyBytes (litE x.1))
  ok _ := True
  of {x} _ := keyOfE x.1 x.2
  inv {v l} h := by
    obtain ⟨m, hm⟩ := sizeT
    obtain ⟨xs, L, rfl, h1, rfl⟩ := keyOf_top wideE h
    rw [hm] at h1
    obtain ⟨x, hx, e, rfl⟩ := (keyLitsE m _ _).1 h1
    refine ⟨⟨x, hx⟩, trivial, ?_, rfl⟩
    have : xs = #[.string x.f0, .string x.f1, .int .i64 x.f2] := Array.ext' e
    rw [this]
  inj {x y} h := by
    injection h with h
    have h1 := (keyLitsE 0 _ _).2 ⟨x.1, x.2, rfl, rfl⟩
    have h2 := (keyLitsE 0 _ _).2 ⟨y.1, y.2, rfl, rfl⟩
    have e := keyLits_inj h1 h2 h
    obtain ⟨⟨a, b, c⟩, hx⟩ := x
    obtain ⟨⟨a', b', c'⟩, hy⟩ := y
    simp only [litE, List.cons.injEq, Lit.string.injEq, Lit.int.injEq, true_and, and_true] at e
    obtain ⟨e1, e2, e3⟩ := e
    have e1' : a = a' := by cases a; cases a'; congr 1; exact Array.ext' e1
    have e2' : b = b' := by cases b; cases b'; congr 1; exact Array.ext' e2
    subst e1'; subst e2'; subst e3
    rfl
theorem zero3e (w : World) : (zeroValue 3).run Try.prog w = .ok (.int .i64 0) w := by kernel_rfl
abbrev CntE (w : World) (b : Nat) (xs : List {x : S69 // EOk x}) (C : List ({x : S69 // EOk x} × Int)) : Prop := Cnt entK Try.underlying3 w b xs C
set_option maxHeartbeats 4000000 in
set_option maxRecDepth 100000 in
theorem split_count_Entry.walk (A0 : Option Addr) (c0 : Nat) (xs : List (List S69)) (w : World) (hr0 : Kd.C (Kd.slice 69 k69) w A0 xs.length xs) (hwf : ∀ x ∈ xs.flatten, EOk x) (hlim : xs.flatten.length < 17592186044416) :
    Calls Try.prog 71 #[.slice A0 xs.length c0] w fun e w' => ∃ b zs C, e = .returned (.map (some b)) ∧ w.heap.size ≤ b ∧ zs.map (·.1) = xs.flatten ∧ CntE w' b zs C ∧ Below w.heap.size w w' := by
  have hmm := @run_makeMap Try.prog
  have hlen : xs.length ≤ 9223372036854775807 := hr0.2.1
  have HR0 := Aside0.mk hr0
  have HWF := Aside0.mk hwf
  clear hr0 hwf
  have HO := Aside0.mk (show ∃ zs C, zs.map (·.1) = readTo xs 0 0 ∧ CntE (w.alloc (.map #[] 0)) w.heap.size zs C from ⟨[], [], by rw [readTo_zero]; rfl, Cnt.nil _ _ w⟩)
  have HB := Aside0.mk ((Below.refl w.heap.size w).alloc (Nat.le_refl _) (Obj.map #[] 0))
  go_enter Try.func71, Try.ntmps71
  go_wp2
  clear hmm
  go_loopw [11] (fun v wr => ∃ (i : Nat), v = .int .i64 i ∧ i ≤ xs.length ∧ Aside0 (∃ zs C, zs.map (·.1) = readTo xs i 0 ∧ CntE wr w.heap.size zs C) ∧ Aside0 (Below w.heap.size w wr)) (fun v _ => xs.length - (intOf v).toNat)
  case atStart => exact ⟨0, rfl, Nat.zero_le _, HO, HB⟩
  case round =>
    clear HO HB
    obtain ⟨i, rfl, hi, HI, HB⟩ := hrel
    by_cases hlt : i < xs.length
    · obtain ⟨ad, Ar, cr, e, hrx, hrl, hrc⟩ := at_rows HR0.out (i : Int) (by omega) (by omega)
      cases e
      replace hrx := (HB.out.cell (World.block_lt_of_cell? w _ hrx)).trans hrx
      rw [Int.toNat_natCast] at hrx hrl hrc
      obtain ⟨ns, hns⟩ : ∃ ns, ns = xs.getD i [] := ⟨_, rfl⟩
      rw [← hns] at hrx hrl hrc
      have HN := Aside0.mk hns
      have HRC := Aside0.mk hrc
      have hnl : ns.length ≤ 9223372036854775807 := hrc.2.1
      clear hns hrc hrl
      go_wp2
      go_loopw [17] (fun v w5 => ∃ (j : Nat), v = .int .i64 j ∧ j ≤ ns.length ∧ Aside0 (∃ zs C, zs.map (·.1) = readTo xs i j ∧ CntE w5 w.heap.size zs C) ∧ Aside0 (Below w.heap.size w w5)) (fun v _ => ns.length - (intOf v).toNat)
      case atStart => exact ⟨0, rfl, Nat.zero_le _, HI, HB⟩
      case round =>
        clear HI HB
        obtain ⟨j, rfl, hj, HI, HB⟩ := hrel
        by_cases hlt2 : j < ns.length
        · obtain ⟨ad2, e, hx0, hx1, hx2⟩ := at_T69 (Kd.C_below HRC.out HB.out) (j : Int) (by omega) (by omega)
          cases e
          obtain ⟨x, hxd⟩ : ∃ x, x = rd_T69 ns j := ⟨_, rfl⟩
          rw [← hxd, Int.toNat_natCast] at hx0 hx1 hx2
          have hxm : x = ns[j] := by rw [hxd]; simp [rd_T69, hlt2]
          have HEO := Aside0.mk (HWF.out x (mem_rows (i := i) (by rw [hxm, ← HN.out]; exact List.getElem_mem hlt2)))
          have HX := Aside0.mk (show readTo xs i (j + 1) = readTo xs i j ++ [x] from by
            have := readTo_succ (xs := xs) (i := i) (j := j) (by rw [← HN.out]; exact hlt2)
            rw [this, hxm]; congr 2; simp only [HN.out])
          obtain ⟨zs, C, hzs, hC⟩ := HI.out
          obtain ⟨n, hn⟩ : ∃ n : Int, ((@List.count _ instBEqOfDecidableEq ⟨x, HEO.out⟩ zs : Nat) : Int) = n := ⟨_, rfl⟩
          have hzl : zs.length ≤ xs.flatten.length := by have := readTo_length (xs := xs) i j; have h2 := congrArg List.length hzs; rw [List.length_map] at h2; omega
          have hn1 : n < 17592186044416 := by have := @List.count_le_length _ instBEqOfDecidableEq ⟨x, HEO.out⟩ zs; omega
          have hn0 : 0 ≤ n := by omega
          have HZ := Aside0.mk hzs
          have HB0 := Aside0.mk (pw_below_drewN (below_alloc HB.out (Obj.cells #[.string x.f0, .string x.f1, .int .i64 x.f2] 69)) 1)
          have hC0 := hC.below (pw_below_drewN (below_alloc (Below.refl _ _) (Obj.cells #[.string x.f0, .string x.f1, .int .i64 x.f2] 69)) 1)
          obtain ⟨st, w1, w2, e1, e2, e3, e4, hC2, hg2⟩ := hC0.entry keyLawE Try.underlying109 zero3e (by have := hC.len; unfold maxLen; omega) ⟨x, HEO.out⟩ trivial (.agg #[.string x.f0, .string x.f1, .int .i64 x.f2]) rfl n hn (WalkArith.wf_i64 (by omega))
          replace e1 : (Instr.lookup 109 (.map (some w.heap.size)) (.agg #[.string x.f0, .string x.f1, .int .i64 x.f2]) false).run Try.prog (wr.alloc (Obj.cells #[.string x.f0, .string x.f1, .int .i64 x.f2] 69)).drew = .ok (.int .i64 n) (wr.alloc (Obj.cells #[.string x.f0, .string x.f1, .int .i64 x.f2] 69)).drew := e1
          replace e2 : (Instr.mapEntry 109 (.map (some w.heap.size)) (.agg #[.string x.f0, .string x.f1, .int .i64 x.f2])).run Try.prog (wr.alloc (Obj.cells #[.string x.f0, .string x.f1, .int .i64 x.f2] 69)).drew = .ok (.tuple #[.int .i64 n, .int .i64 st]) w1 := e2
          have HC2 := Aside0.mk hC2
          have HG2 := Aside0.mk hg2
          clear hxd hxm hC hC0 hn hC2 hg2 hzs hzl
          go_wp2
          have hwr : IntKind.i64.wrap (n + 1) = n + 1 := by rw [IntKind.wrap_i64]; omega
          go_region_law fail
          all_goals
            have HB2 := Aside0.mk (HB0.out.grown HG2.out HB0.out.size (fun k e => by cases e; exact Nat.le_refl _))
            have HI2 := Aside0.mk (show ∃ zs C, zs.map (·.1) = readTo xs i (j + 1) ∧ CntE w2 w.heap.size zs C from by obtain ⟨C', h⟩ := HC2.out; exact ⟨_, C', by rw [List.map_append, HZ.out, HX.out]; rfl, h⟩)
            clear HC2 HG2 e1 e2 e3 e4 hwr
            go_wp2
            go_roundw
            case rel => exact ⟨j + 1, by go_num, by omega, HI2, HB2⟩
            case measure => simp [intOf]; omega
        · have hjl : j = ns.length := by omega
          have HI2 := Aside0.mk (show ∃ zs C, zs.map (·.1) = readTo xs (i + 1) 0 ∧ CntE _ w.heap.size zs C from by rw [readTo_zero, ← readTo_row hlt, ← HN.out, ← hjl]; exact HI.out)
          go_wp2
          go_roundw
          case rel => exact ⟨i + 1, by go_num, by omega, HI2, HB⟩
          case measure => simp [intOf]; omega
    · have hil : i = xs.length := by omega
      have HF := Aside0.mk (show ∃ zs C, zs.map (·.1) = xs.flatten ∧ CntE wr w.heap.size zs C from by have := HI.out; rw [hil, readTo_zero, List.take_length] at this; exact this)
      go_wp2
      go_ret
      obtain ⟨zs, C, h1, h2⟩ := HF.out
      exact ⟨_, zs, C, rfl, Nat.le_refl _, h1, h2, HB.out⟩

/-! ### split_Alike_1: function 74 -/
-- GIVEN heliast/split.Alike$1 making uses heliast/split.count[heliast/api.Entry]
open Go.Proofs.He
set_option maxHeartbeats 4000000 in
set_option maxRecDepth 100000 in
theorem split_Alike_1.calls (pm pl b n c : Nat) (A : Option Addr) (zs : List {x : S69 // EOk x}) (C : List ({x : S69 // EOk x} × Int)) (x : S69) (hx : EOk x) (W : World) (h : CntE W b zs C)
    (hpm : W.heap[pm]? = some (.cells #[.map (some b)] 109 (0, 0))) (hpl : W.heap[pl]? = some (.cells #[.slice A n c] 61 (0, 0))) :
    Calls Try.prog 74 (#[.agg #[.string x.f0, .string x.f1, .int .i64 x.f2]] ++ #[.pointer (some ⟨pm, 0, none⟩), .pointer (some ⟨pl, 0, none⟩)]) W fun e W' => e = .returned (.bool (decide ((@List.count _ instBEqOfDecidableEq ⟨x, hx⟩ zs : Int) < (n : Int)))) ∧ Below W.heap.size W W' := by
  have hHB := (below_alloc (Below.refl W.heap.size W) (Obj.cells #[.string x.f0, .string x.f1, .int .i64 x.f2] 69))
  have h0 : (W.alloc (Obj.cells #[.string x.f0, .string x.f1, .int .i64 x.f2] 69)).cell? ⟨pm, 0, none⟩ = some (.map (some b)) := (blk_cell ((hHB.block pm (blk_lt hpm)).trans hpm) 0).trans rfl
  have h1 : (W.alloc (Obj.cells #[.string x.f0, .string x.f1, .int .i64 x.f2] 69)).cell? ⟨pl, 0, none⟩ = some (.slice A n c) := (blk_cell ((hHB.block pl (blk_lt hpl)).trans hpl) 0).trans rfl
  have hC := h.below hHB
  have hl := run_mget entK (intV Try.underlying3) Try.underlying109 0 rfl (zero3e _) hC.own ⟨x, hx⟩ trivial
  rw [hC.get ⟨x, hx⟩] at hl
  obtain ⟨m, hm⟩ : ∃ m : Int, ((@List.count _ instBEqOfDecidableEq ⟨x, hx⟩ zs : Nat) : Int) = m := ⟨_, rfl⟩
  rw [hm] at hl ⊢
  have hl' : ∀ q, (Instr.lookup 109 (.map (some b)) (.agg #[.string x.f0, .string x.f1, .int .i64 x.f2]) false).run Try.prog ((W.alloc (Obj.cells #[.string x.f0, .string x.f1, .int .i64 x.f2] 69)).drewN q) = .ok (.int .i64 m) ((W.alloc (Obj.cells #[.string x.f0, .string x.f1, .int .i64 x.f2] 69)).drewN q) := fun q => by
    have hq := (h.below (pw_below_drewN hHB q))
    have := run_mget entK (intV Try.underlying3) Try.underlying109 0 rfl (zero3e _) hq.own ⟨x, hx⟩ trivial
    rw [hq.get ⟨x, hx⟩, hm] at this
    exact this
  clear hl hC hm hpm hpl h
  have HB := Aside0.mk hHB
  clear hHB
  go_enter Try.func74, Try.ntmps74
  go_wp2
  go_quiet (fail)
  go_wp2
  go_ret
  exact ⟨rfl, pw_below_drewN HB.out _⟩

/-! ### api_Entry_108: function 108 -/
-- GIVEN slices.IndexFunc[[]heliast/api.Entry,heliast/api.Entry] making
open Go.Proofs.He
set_option maxHeartbeats 4000000 in
set_option maxRecDepth 100000 in
theorem slices_IndexFunc_Entry.calls (g : FuncId) (cb : Array Value) (eg : ∀ args w, (callFunc g args).run Try.prog w = .ok (.enter g args) w) (p : S69 → Bool) (A0 : Option Addr) (c0 : Nat) (l0 : List S69) (w : World) (hr0 : Kd.C k69 w A0 l0.length l0)
    (hp : ∀ x W, x ∈ l0 → Below w.heap.size w W → Calls Try.prog g (#[.agg #[.string x.f0, .string x.f1, .int .i64 x.f2]] ++ cb) W fun e W' => e = .returned (.bool (p x)) ∧ Below w.heap.size w W') :
    Calls Try.prog 108 #[.slice A0 l0.length c0, .func (.func g) #[] cb] w fun e w' => e = .returned (.int .i64 (idxOf p l0)) ∧ Below w.heap.size w w' := by
  have hu69 := Try.underlying69
  have HR0 := Aside0.mk hr0
  have HP := Aside0.mk hp
  have hlen : l0.length ≤ 9223372036854775807 := hr0.2.1
  clear hr0 hp
  go_enter Try.func108, Try.ntmps108
  go_wp2
  go_loopg [5, 8] l0.length (fun gg _ v8 wr => ∃ k : Nat, k ≤ l0.length ∧ l0.length - k ≤ gg ∧ v8 = .int .i64 k ∧ Aside0 (∀ j, j < k → ∀ x, l0[j]? = some x → p x = false) ∧ Aside0 (Below w.heap.size w wr))
  case atStart => exact ⟨0, Nat.zero_le _, by omega, rfl, ⟨fun j hj => absurd hj (Nat.not_lt_zero _)⟩, ⟨Below.refl _ _⟩⟩
  case round =>
    obtain ⟨k, hk, hg, rfl, HN, HB⟩ := hrel
    by_cases hlt : k < l0.length
    · obtain ⟨ad, e, hx0, hx1, hx2⟩ := at_T69 HR0.out k (by omega) (by omega)
      cases e
      replace hx0 := (HB.out.cell (World.block_lt_of_cell? w _ hx0)).trans hx0
      replace hx1 := (HB.out.cell (World.block_lt_of_cell? w _ hx1)).trans hx1
      replace hx2 := (HB.out.cell (World.block_lt_of_cell? w _ hx2)).trans hx2
      rw [Int.toNat_natCast] at hx0 hx1 hx2
      have hltz : (k : Int) < (l0.length : Int) := by omega
      have hrd : rd_T69 l0 k = l0[k] := by simp [rd_T69, hlt]
      have hcall := HP.out (rd_T69 l0 k) wr (by rw [hrd]; exact List.getElem_mem hlt) HB.out
      have HRD := Aside0.mk hrd
      clear hrd
      cases hq : p (rd_T69 l0 k) with
      | true =>
        rw [hq] at hcall
        go_wp2_with (go_at_fn g; refine hcall.mono ?_; rintro e w' ⟨rfl, hb'⟩)
        go_ret
        exact ⟨by rw [idxOf_hit hlt HN.out (by rw [← HRD.out]; exact hq)]; rfl, hb'⟩
      | false =>
        rw [hq] at hcall
        go_wp2_with (go_at_fn g; refine hcall.mono ?_; rintro e w' ⟨rfl, hb'⟩)
        go_roundg (l0.length - (k + 1))
        case measure => omega
        case rel =>
          refine ⟨k + 1, by omega, by omega, by go_num, ⟨fun j hj x hx => ?_⟩, ⟨hb'⟩⟩
          by_cases e : j = k
          · subst e
            rw [List.getElem?_eq_getElem hlt] at hx
            cases hx
            rw [← HRD.out]; exact hq
          · exact HN.out j (by omega) x hx
    · have hltz : ¬ (k : Int) < (l0.length : Int) := by omega
      have : k = l0.length := by omega
      subst this
      go_wp2
      go_ret
      exact ⟨by rw [idxOf_miss HN.out]; rfl, HB.out⟩

/-! ### api_Entry_72: function 72 -/
-- GIVEN slices.DeleteFunc[[]heliast/api.Entry,heliast/api.Entry] making as slices_DeleteFunc_Entry uses slices.IndexFunc[[]heliast/api.Entry,heliast/api.Entry] uses slices.Clone[[]heliast/api.Entry,heliast/api.Entry]
open Go.Proofs.He
theorem idxOf_casesE (p : S69 → Bool) (l : List S69) : (idxOf p l = -1 ∧ ∀ x ∈ l, p x = false) ∨ ∃ k, ∃ h : k < l.length, idxOf p l = k ∧ p l[k] = true ∧ ∀ j (hj : j < k), p l[j] = false := by
  unfold idxOf
  cases hf : l.findIdx? p with
  | none => exact .inl ⟨rfl, fun x hx => by rw [List.findIdx?_eq_none_iff] at hf; exact hf x hx⟩
  | some i =>
    obtain ⟨hi, h1, h2⟩ := List.findIdx?_eq_some_iff_getElem.1 hf
    exact .inr ⟨i, hi, rfl, h1, fun j hj => by simpa using h2 j hj⟩
instance inhE : Inhabited S69 := ⟨z69⟩
theorem rowE_form {e base : Nat} {w : World} {ok : Nat → Prop} {v : Value} {xs : List S69} (h : Kd.R k69 e w base ok v xs) (hp : 0 < xs.length) : ∃ g cap, v = .slice (some ⟨g, 0, none⟩) xs.length cap ∧ base ≤ g := by
  obtain ⟨ho, _⟩ := Flat.own flatE h
  rcases ho.2 with ⟨_, h0⟩ | ⟨g, cap, cur, rfl, hg, _⟩
  · omega
  · exact ⟨g, cap, rfl, hg⟩
set_option maxHeartbeats 8000000 in
set_option maxRecDepth 100000 in
/-- DeleteFunc of a row of the call's own, by a predicate that may make new blocks, and turns none. -/
theorem slices_DeleteFunc_Entry.calls (g : FuncId) (cb : Array Value) (eg : ∀ args w, (callFunc g args).run Try.prog w = .ok (.enter g args) w) (p : S69 → Bool) {base : Nat} {v : Value} {xs : List S69} {w : World} (h : Kd.R k69 69 w base (fun _ => True) v xs)
    (hp : ∀ x W, x ∈ xs → w.grownBy W v.ownBlock → Calls Try.prog g (#[.agg #[.string x.f0, .string x.f1, .int .i64 x.f2]] ++ cb) W fun e W' => e = .returned (.bool (p x)) ∧ Below W.heap.size W W') :
    Calls Try.prog 72 #[v, .func (.func g) #[] cb] w fun e w' => ∃ v', e = .returned v' ∧ Kd.R k69 69 w' base (fun _ => True) v' (xs.filter fun x => !p x) ∧ w.grownBy w' v.ownBlock := by
  have hu69 := Try.underlying69
  obtain ⟨A, c, rfl⟩ := Kd.R_slice h
  have hC := (Kd.R_reads' h).2.2
  have hIF := slices_IndexFunc_Entry.calls g cb eg p A c xs w hC (fun x W hx hb => (hp x W hx ⟨hb.os, hb.tape, hb.output, hb.size, fun k hk _ => hb.block k hk⟩).mono (fun e W' ⟨he, hb'⟩ => ⟨he, below_then hb hb.size hb'⟩))
  have hlen : xs.length ≤ 9223372036854775807 := hC.2.1
  rcases idxOf_casesE p xs with ⟨e1, hall⟩ | ⟨k0, hk0, e1, ht, hall⟩
  · rw [e1] at hIF
    have HF := Aside0.mk (show (xs.filter fun x => !p x) = xs from List.filter_eq_self.2 (fun x hx => by rw [hall x hx]; rfl))
    have HI := Aside0.mk hIF
    have HR := Aside0.mk h
    clear hIF h hC hp hall
    go_enter Try.func72, Try.ntmps72
    go_wp2_with (go_at_call 108; refine HI.out.mono ?_; rintro e w' ⟨rfl, hb⟩)
    go_ret
    rw [HF.out]
    exact ⟨_, rfl, Kd.R_below HR.out hb, ⟨hb.os, hb.tape, hb.output, hb.size, fun k hk _ => hb.block k hk⟩⟩
  · rw [e1] at hIF
    obtain ⟨g0, cap, e2, hbase⟩ := rowE_form h (by omega)
    cases e2
    obtain ⟨kp, HK⟩ : ∃ kp : Nat → Bool, Aside0 (kp = fun j => !p xs.toArray[j]!) := ⟨_, ⟨rfl⟩⟩
    have tl : ∀ j, (hj : j < xs.length) → xs.toArray[j]! = xs[j] := fun j hj => by rw [getElem!_pos xs.toArray j (by simpa using hj)]; simp
    have hfil : (xs.filter fun x => !p x) = Go.Lib.keptUpTo kp xs.toArray xs.length := by rw [HK.out]; have := Go.Lib.keptUpTo_filter (fun x => !p x) xs.toArray; simpa using this.symm
    rw [hfil]
    have hkeep : ∀ j, j < k0 → kp j = true := fun j hj => by rw [HK.out]; show (!p xs.toArray[j]!) = true; rw [tl j (by omega), hall j hj]; rfl
    have hdrop : kp k0 = false := by rw [HK.out]; show (!p xs.toArray[k0]!) = false; rw [tl k0 hk0, ht]; rfl
    have hne1 : ((k0 : Int) == -1) = false := beq_eq_false_iff_ne.2 (by omega)
    have HP := Aside0.mk hp
    have HI := Aside0.mk hIF
    have HST := Aside0.mk (Go.Lib.KeptInv.start (d := xs.toArray) hkeep hdrop)
    have TL := Aside0.mk tl
    have HB0 := Aside0.mk hbase
    have HR0 := Aside0.mk h
    clear hIF h hC hp hall hkeep hdrop hfil ht tl e1 hbase
    go_enter Try.func72, Try.ntmps72
    go_wp2_with (go_at_call 108; refine HI.out.mono ?_; rintro e w1 ⟨rfl, hb⟩)
    have HG1 := Aside0.mk (show w.grownBy w1 (some g0) from ⟨hb.os, hb.tape, hb.output, hb.size, fun k hk _ => hb.block k hk⟩)
    have HR1 := Aside0.mk (show Kd.R k69 69 w1 base (fun _ => True) (.slice (some ⟨g0, 0, none⟩) xs.length c) xs.toArray.toList from Kd.R_below HR0.out hb)
    clear hb HR0
    go_loopg [5, 6] xs.length (fun gg s5 s6 wr => ∃ (i j : Nat) (dk : Array S69), s5 = .int .i64 i ∧ s6 = .int .i64 j ∧ j ≤ xs.length ∧ xs.length - j ≤ gg ∧ Aside0 (Go.Lib.KeptInv kp xs.toArray j i dk) ∧ Aside0 (w.grownBy wr (some g0)) ∧ Aside0 (Kd.R k69 69 wr base (fun _ => True) (.slice (some ⟨g0, 0, none⟩) xs.length c) dk.toList))
    case atStart => exact ⟨k0, k0 + 1, xs.toArray, rfl, by go_num, by omega, by omega, HST, HG1, HR1⟩
    case round =>
      clear HR1 HG1 HST
      obtain ⟨i, j, dk, rfl, rfl, hjd, hgg, I2, HG, HR⟩ := hrel
      have hij := I2.out.lt
      have hds : dk.size = xs.length := by have := I2.out.size; simpa using this
      by_cases hlt : j < xs.length
      · have hltz : (j : Int) < (xs.length : Int) := by omega
        have hj1 : dk[j]! = xs[j] := by rw [I2.out.high j (by omega), TL.out j hlt]
        have hjr : rd_T69 dk.toList j = xs[j] := by
          rw [← hj1, getElem!_pos dk j (by omega)]
          simp [rd_T69, show j < dk.size from by omega]
        have HRC := Aside0.mk (Kd.R_reads' HR.out).2.2
        have hdl : (dk.toList.length : Int) = xs.length := by simp [hds]
        obtain ⟨ad, e, hx0, hx1, hx2⟩ := at_T69 HRC.out (j : Int) (by omega) (by omega)
        cases e
        rw [hjr, Int.toNat_natCast] at hx0 hx1 hx2
        simp only [add_plain] at hx0 hx1 hx2
        have hcall := fun W (hW : w.grownBy W (some g0)) => HP.out xs[j] W (List.getElem_mem hlt) hW
        have hkj : kp j = !p xs[j] := by rw [HK.out]; show (!p xs.toArray[j]!) = _; rw [TL.out j hlt]
        have hdj : xs.toArray[j]! = xs[j] := TL.out j hlt
        generalize xs[j] = u at hx0 hx1 hx2 hcall hkj hdj
        have HKJ := Aside0.mk hkj
        have HDJ := Aside0.mk hdj
        have HGA := Aside0.mk (HG.out.trans (World.grownBy_alloc wr (Obj.cells #[.string u.f0, .string u.f1, .int .i64 u.f2] 69) (some g0)))
        have HRA := Aside0.mk (Kd.R_alloc HR.out (Obj.cells #[.string u.f0, .string u.f1, .int .i64 u.f2] 69))
        have HCALL := Aside0.mk (hcall _ HGA.out)
        have HBL := Aside0.mk (heap_alloc_new wr (Obj.cells #[.string u.f0, .string u.f1, .int .i64 u.f2] 69))
        clear hkj hdj hj1 hjr hdl hcall HRC
        cases hq : p u with
        | false =>
          go_wp2_with fail
          refine HCALL.out.mono ?_
          rintro e w2 ⟨he, hb2⟩
          subst he
          rw [hq]
          have HX2 := Aside0.mk ((hb2.block wr.heap.size (by simp)).trans HBL.out)
          have HR2 := Aside0.mk (Kd.R_below HRA.out hb2)
          have HG2 := Aside0.mk (HGA.out.trans (show _ from ⟨hb2.os, hb2.tape, hb2.output, hb2.size, fun k hk _ => hb2.block k hk⟩ : World.grownBy _ w2 (some g0)))
          have hb0 : w2.cell? ⟨wr.heap.size, 0, none⟩ = some (.string u.f0) := (blk_cell HX2.out 0).trans rfl
          have hb1 : w2.cell? ⟨wr.heap.size, 1, none⟩ = some (.string u.f1) := (blk_cell HX2.out 1).trans rfl
          have hb3 : w2.cell? ⟨wr.heap.size, 2, none⟩ = some (.int .i64 u.f2) := (blk_cell HX2.out 2).trans rfl
          have hdl : dk.toList.length = xs.length := by simp [hds]
          obtain ⟨ce, hcl, hM, hcc, hfr⟩ := Kd.R_elem (d := k69) HR2.out z69 (i : Int) (by omega) (by omega)
          obtain rfl := k69_openM hM
          have hy0 : w2.cell? ⟨g0, i * 3, none⟩ = some (.string (rd_T69 dk.toList i).f0) := hcc 0 _ rfl
          have hy1 : w2.cell? ⟨g0, i * 3 + 1, none⟩ = some (.string (rd_T69 dk.toList i).f1) := hcc 1 _ rfl
          have hy2 : w2.cell? ⟨g0, i * 3 + 2, none⟩ = some (.int .i64 (rd_T69 dk.toList i).f2) := hcc 2 _ rfl
          have hz0 : w2.frozen? ⟨g0, i * 3, none⟩ = false := hfr 0
          have hz1 : w2.frozen? ⟨g0, i * 3 + 1, none⟩ = false := hfr 1
          have hz2 : w2.frozen? ⟨g0, i * 3 + 2, none⟩ = false := hfr 2
          have hP := Kd.R_seg HR2.out (i : Int) (by omega) (by omega) (seg := encE u) (j := 0) hcl hcc (show 3 ≤ 3 from by decide) (x' := u) (k69_mkM _ _ _ u) (fun _ hk => hk)
          have HR3 := Aside0.mk hP.1
          have HG3 := Aside0.mk (HG2.out.trans hP.2)
          simp only [encE, World.setCells, show k69.sz = 3 from rfl, Nat.add_zero, Int.toNat_natCast, Nat.add_assoc, Nat.reduceAdd] at HR3 HG3
          have hiz : (i : Int) < (xs.length : Int) := by omega
          clear hP hcl hM hcc hfr hdl hb2 HR2 HG2 HX2 hx0 hx1 hx2
          go_wp2
          go_roundg (xs.length - (j + 1))
          case measure => omega
          case rel =>
            refine ⟨i + 1, j + 1, dk.setIfInBounds i u, by go_num, by go_num, by omega, Nat.le_refl _, ⟨?_⟩, HG3, ⟨?_⟩⟩
            · have := I2.out.keep (by simpa using hlt) (by rw [HKJ.out, hq]; rfl)
              rwa [HDJ.out] at this
            · rw [Array.toList_setIfInBounds]; exact HR3.out
        | true =>
          go_wp2_with fail
          refine HCALL.out.mono ?_
          rintro e w2 ⟨he, hb2⟩
          subst he
          rw [hq]
          have HR2 := Aside0.mk (Kd.R_below HRA.out hb2)
          have HG2 := Aside0.mk (HGA.out.trans (show _ from ⟨hb2.os, hb2.tape, hb2.output, hb2.size, fun k hk _ => hb2.block k hk⟩ : World.grownBy _ w2 (some g0)))
          clear hb2 hx0 hx1 hx2
          go_wp2
          go_roundg (xs.length - (j + 1))
          case measure => omega
          case rel => exact ⟨i, j + 1, dk, rfl, by go_num, by omega, Nat.le_refl _, ⟨I2.out.skip (by rw [HKJ.out, hq]; rfl)⟩, HG2, HR2⟩
      · obtain rfl : j = xs.length := by omega
        have hltz : ¬ (xs.length : Int) < (xs.length : Int) := by omega
        obtain ⟨hown, hok⟩ := Flat.own flatE HR.out
        have hdl : dk.toList.length = xs.length := by simp [hds]
        rw [hdl] at hown
        obtain ⟨hrow, _⟩ := RowK.of hown
        have hcap : xs.length ≤ c := hrow.room
        have hzc : (Value.agg #[.string ⟨#[]⟩, .string ⟨#[]⟩, .int .i64 0]).cells.size = 3 := rfl
        have hcl : ∀ ty, (Builtin.clear_ #[63] ty #[.slice (some ⟨g0, i * 3, none⟩) (xs.length - i) (c - i)]).run Try.prog wr = .ok (.tuple #[]) (wr.setCells g0 (i * 3) (Builtin.zeroCells (Value.agg #[.string ⟨#[]⟩, .string ⟨#[]⟩, .int .i64 0]).cells (xs.length - i)).toList) :=
          fun ty => run_clear_rows wr 63 69 ty (.agg #[.string ⟨#[]⟩, .string ⟨#[]⟩, .int .i64 0]) Try.underlying63 (fun _ => by kernel_rfl) (by simp [Value.cells, Value.oneCell']) g0 (i * 3) (xs.length - i) (c - i) (by omega)
            (fun t ht => (hrow.at (i * 3 + t) (by rw [hzc] at ht; rw [szE]; omega)).1) (fun t ht => (hrow.at (i * 3 + t) (by rw [hzc] at ht; rw [szE]; omega)).2.1)
        have HROW := Aside0.mk hrow
        clear hrow hown hok hdl
        go_wp2
        go_ret
        have hI := I2.out
        have hl : (Go.Lib.keptUpTo kp xs.toArray xs.length).length = i := hI.len
        have htk : dk.toList.take i = Go.Lib.keptUpTo kp xs.toArray xs.length := by
          apply List.ext_getElem?
          intro t
          rw [List.getElem?_take]
          split
          · rename_i htt
            rw [hI.low t htt, Array.getElem?_toList, Array.getElem?_eq_getElem (by omega), getElem!_pos dk t (by omega)]
          · rw [List.getElem?_eq_none]; omega
        refine ⟨_, rfl, ?_, HG.out.trans (grown_setCells _ _ _ _)⟩
        refine Flat.put flatE ?_ (fun _ _ => trivial)
        have := (HROW.out.strike i (by omega) (Builtin.zeroCells (Value.agg #[.string ⟨#[]⟩, .string ⟨#[]⟩, .int .i64 0]).cells (xs.length - i)).toList (by rw [Array.length_toList, size_zeroCells]; rfl)).put HB0.out
        rw [← Flat.ftake flatE, htk] at this
        rw [hl]; exact this

/-! ### split_Alike: function 30 -/
-- GIVEN heliast/split.Alike making uses heliast/split.Alike$1 uses slices.DeleteFunc[[]heliast/api.Entry,heliast/api.Entry] uses slices.Clone[[]heliast/api.Entry,heliast/api.Entry] uses heliast/split.count[heliast/api.Entry]
open Go.Proofs.He
def alikeL (l : List (List S69)) : List S69 := (l.getD 0 []).filter fun x => !decide ((l.flatten.count x : Int) < (l.length : Int))
theorem count_sub {zs : List {x : S69 // EOk x}} {l : List S69} (h : zs.map (·.1) = l) (x : S69) (hx : EOk x) : @List.count _ instBEqOfDecidableEq ⟨x, hx⟩ zs = l.count x := by
  subst h
  induction zs with
  | nil => rfl
  | cons z zs ih =>
    rw [List.map_cons, @List.count_cons _ instBEqOfDecidableEq, List.count_cons, ih]
    congr 1
    by_cases e : z = ⟨x, hx⟩
    · subst e; simp
    · have : z.1 ≠ x := fun h => e (Subtype.ext h)
      simp [e, this]
set_option maxHeartbeats 4000000 in
set_option maxRecDepth 100000 in
theorem split_Alike.walk (A0 : Option Addr) (c0 : Nat) (l : List (List S69)) (w : World) (hr0 : Kd.C (Kd.slice 69 k69) w A0 l.length l) (hwf : ∀ x ∈ l.flatten, EOk x) (hlim : l.flatten.length < 3518437208883) :
    Calls Try.prog 30 #[.slice A0 l.length c0] w fun e w' => ∃ v, e = .returned v ∧ Kd.R k69 69 w' w.heap.size (fun _ => True) v (alikeL l) ∧ Below w.heap.size w w' := by
  have hb0 := below_alloc (Below.refl w.heap.size w) (Obj.cells #[.slice A0 l.length c0] 61)
  have hlen : l.length ≤ 9223372036854775807 := hr0.2.1
  have HR0 := Aside0.mk (Kd.C_below hr0 hb0)
  have HWF := Aside0.mk hwf
  have HPL := Aside0.mk (heap_alloc_new w (Obj.cells #[.slice A0 l.length c0] 61))
  have HB0 := Aside0.mk hb0
  clear hr0 hwf hb0
  by_cases hl0 : l.length = 0
  · have : l = [] := List.eq_nil_of_length_eq_zero hl0
    subst this
    go_enter Try.func30, Try.ntmps30
    go_wp2
    go_ret
    exact ⟨_, rfl, Kd.R_nil _ _ _ _ _, HB0.out⟩
  · have hlz : ((l.length : Int) == 0) = false := beq_eq_false_iff_ne.2 (by omega)
    have hlp : (0 : Int) < (l.length : Int) := by omega
    have HCC := Aside0.mk (split_count_Entry.walk A0 c0 l _ HR0.out HWF.out (by omega))
    go_enter Try.func30, Try.ntmps30
    go_wp2_with fail
    refine HCC.out.mono ?_
    rintro e w1 ⟨b, zs, C, rfl, hb, hzs, hC, hb1⟩
    have HZ := Aside0.mk hzs
    have HB1 := Aside0.mk (below_then HB0.out (by simp) hb1)
    have HPL1 := Aside0.mk ((hb1.block w.heap.size (by simp)).trans HPL.out)
    have HR1 := Aside0.mk (Kd.C_below HR0.out hb1)
    have hb2 := below_alloc (Below.refl w1.heap.size w1) (Obj.cells #[.map (some b)] 109)
    have HPM := Aside0.mk (heap_alloc_new w1 (Obj.cells #[.map (some b)] 109))
    have HC2 := Aside0.mk (hC.below hb2)
    have HR2 := Aside0.mk (Kd.C_below HR1.out hb2)
    have HPL2 := Aside0.mk ((hb2.block w.heap.size (by have := hb1.size; simp at this; omega)).trans HPL1.out)
    have HB2 := Aside0.mk (below_then HB1.out (by have := hb1.size; simp at this; omega) hb2)
    have hsz1 : w.heap.size < w1.heap.size := by have := hb1.size; simp at this; omega
    obtain ⟨ad, Ar, cr, e, hrx, hrl, hrc⟩ := at_rows HR2.out (0 : Int) (by omega) (by omega)
    cases e
    rw [Int.toNat_zero] at hrx hrl hrc
    have e0 : ad.add 0 = ad := by obtain ⟨x, y, z⟩ := ad; unfold Addr.add; split <;> simp_all
    rw [e0] at hrx
    clear e0
    have hml := readTo_length (xs := l) 0 (l.getD 0 []).length
    have hmz : readTo l 0 (l.getD 0 []).length = l.getD 0 [] := by simp [readTo]
    rw [hmz] at hml
    have HMEM := Aside0.mk (fun x (hx : x ∈ l.getD 0 []) => HWF.out x (mem_rows hx))
    obtain ⟨ns, hns⟩ : ∃ ns, ns = l.getD 0 [] := ⟨_, rfl⟩
    have HN := Aside0.mk hns
    rw [← hns] at hrx hrl hrc hml HMEM
    have HCL := Aside0.mk (slices_Clone_Entry.walk Ar cr ns _ hrc (by omega))
    have HNE := Aside0.mk (show w1.heap.size ≠ w.heap.size from by omega)
    have hpl0 : (w1.alloc (Obj.cells #[.map (some b)] 109)).cell? ⟨w.heap.size, 0, none⟩ = some (.slice (some ad) l.length c0) := (blk_cell HPL2.out 0).trans rfl
    clear hzs hb1 hb2 hC HR0 HPL HB0 HCC hns hml hmz hb hrc hrl HR1 HPL1 HB1
    go_wp2_with fail
    refine HCL.out.mono ?_
    rintro e w3 ⟨v3, rfl, hr3, hb3⟩
    have HC3 := Aside0.mk (HC2.out.below hb3)
    have HPL3 := Aside0.mk ((hb3.block w.heap.size (by simp; omega)).trans HPL2.out)
    have HPM3 := Aside0.mk ((hb3.block w1.heap.size (by simp)).trans HPM.out)
    have HB3 := Aside0.mk (below_then HB2.out (by simp; omega) hb3)
    have HR3 := Aside0.mk hr3
    have hdel := slices_DeleteFunc_Entry.calls 74 #[.pointer (some ⟨w1.heap.size, 0, none⟩), .pointer (some ⟨w.heap.size, 0, none⟩)] (enters_of Try.func74 (by kernel_rfl) rfl) (fun x => decide ((l.flatten.count x : Int) < (l.length : Int))) HR3.out (fun x W hx hg => by
      have hbs : ∀ q, q ≤ w1.heap.size → some q ≠ v3.ownBlock := fun q hq e => by
        have := own_base (Kd.R_own HR3.out).choose_spec q e.symm
        simp at this; omega
      have := split_Alike_1.calls w1.heap.size w.heap.size b l.length c0 (some ad) zs C x (HMEM.out x hx) W (HC3.out.grown hg (own_ne_row HC3.out.own HR3.out))
        ((hg.block _ (blk_lt HPM3.out) (hbs _ (Nat.le_refl _))).trans HPM3.out) ((hg.block _ (blk_lt HPL3.out) (hbs _ (by omega))).trans HPL3.out)
      rw [count_sub HZ.out] at this
      exact this)
    have HD := Aside0.mk hdel
    obtain ⟨Av, cv, rfl⟩ := Kd.R_slice HR3.out
    clear hdel hr3 hb3 HCL hpl0
    go_wp2_with fail
    refine HD.out.mono ?_
    rintro e w4 ⟨v4, rfl, hr4, hg4⟩
    go_wp2
    go_ret
    refine ⟨_, rfl, ?_, HB3.out.grown hg4 HB3.out.size (fun k e => Nat.le_trans (by simp; omega) (own_base (Kd.R_own HR3.out).choose_spec k e))⟩
    rw [alikeL, ← HN.out]
    exact Kd.R_lower hr4 (by simp; omega)
def split_Alike.f (l : List (List S69)) : Option (List S69) := if l.flatten.length < 3518437208883 ∧ (∀ x ∈ l.flatten, EOk x) then some (alikeL l) else none
theorem split_Alike.calls (A0 : Option Addr) (c0 : Nat) (l0 : List (List S69)) (r : List S69) (w : World) (hr0 : Kd.C (Kd.slice 69 k69) w A0 l0.length l0) (hc0 : l0.length ≤ c0) (h : split_Alike.f l0 = some r) :
    Calls Try.prog 30 #[.slice A0 l0.length c0] w fun e w' => ∃ v0_ : Value, e = .returned (v0_) ∧ Kd.R k69 69 w' w.heap.size (fun _ => True) v0_ r ∧ Below w.heap.size w w' := by
  unfold split_Alike.f at h
  split at h
  · rename_i hc
    obtain rfl := Option.some.inj h
    exact split_Alike.walk A0 c0 l0 w hr0 hc.2 hc.1
  · cases h

-- NOT PRINTED: function 135 (slices_Grow_int_int)

/-! ### slices_Concat_int_int: function 109 -/
-- GIVEN slices.Concat[[]int,int] making as slices_Concat_int uses slices.Grow[[]int,int]
open Go.Proofs.He
theorem grow_int (n : Nat) (hn : n ≤ 17592186044416) (w : World) :
    Calls Try.prog 135 #[.slice none 0 0, .int .i64 n] w fun e w' => ∃ v, e = .returned v ∧ (Kd.int .i64).R 3 w' w.heap.size (fun _ => True) v [] ∧ Below w.heap.size w w' := by
  rcases Nat.eq_zero_or_pos n with h0 | h0
  · refine (Any8.slices_Grow_room Try.laysGrow none 0 0 n w (Nat.le_refl _) (by omega) (by omega) (by omega)).mono ?_
    rintro e w' ⟨rfl, rfl⟩
    exact ⟨_, rfl, Kd.R_nil _ _ _ _ _, Below.refl _ _⟩
  · obtain ⟨i0, hi, hzz⟩ := Option.map_eq_some_iff.1 info3
    simp only [Prod.mk.injEq] at hzz
    obtain ⟨hz0, hz1, hz2⟩ := hzz
    refine (Any8.slices_Grow_grow Try.laysGrow i0 _ hi hz0 (by omega) none 0 0 n [] w (Nat.le_refl _) (by omega) (by rw [hz2]; omega) (by omega) (by simp) (fun _ => rfl) (fun a h => by cases h)).mono ?_
    rintro e w' ⟨rfl, rfl⟩
    have hge := grownCap_ge w (0 + n) 0 (Try.laysGrow_ren.t 25)
    have hle := grownCap_le_maxLen w (0 + n) 0 (Try.laysGrow_ren.t 25) (by unfold maxLen; omega)
    generalize grownCap w (0 + n) 0 (Try.laysGrow_ren.t 25) = G at hge hle ⊢
    refine ⟨_, rfl, Flat.put (flatScalar _ _) ⟨by simp, .inr ⟨w.heap.size, _, _, rfl, Nat.le_refl _, heap_alloc_new w.drew _, Nat.zero_le _, hle, ?_, by simp⟩⟩ (fun _ _ => trivial), (pw_below_drewN (Below.refl _ _) 1).alloc (Nat.le_refl _) _⟩
    have e1 : ∀ m, (Builtin.zeroCells (Value.int .i64 0).cells m).size = m := fun m => by rw [size_zeroCells]; simp [Value.cells]
    simp only [Array.size_append, e1]
    show _ = _ * 1
    simp
    omega
set_option maxHeartbeats 4000000 in
set_option maxRecDepth 100000 in
theorem slices_Concat_int.walk (A0 : Option Addr) (c0 : Nat) (xs : List (List Int)) (w : World) (hr0 : Kd.C (Kd.slice 3 (Kd.int .i64)) w A0 xs.length xs) (hlim : xs.flatten.length < 17592186044416) :
    Calls Try.prog 109 #[.slice A0 xs.length c0] w fun e w' => ∃ v, e = .returned v ∧ (Kd.int .i64).R 3 w' w.heap.size (fun _ => True) v xs.flatten ∧ Below w.heap.size w w' := by
  have hlen : xs.length ≤ 9223372036854775807 := hr0.2.1
  have HR0 := Aside0.mk hr0
  clear hr0
  go_enter Try.func109, Try.ntmps109
  go_wp2
  go_loop [3, 11] (fun v3 v11 => ∃ (i : Nat), v11 = .int .i64 i ∧ i ≤ xs.length ∧ v3 = .int .i64 ((readTo xs i 0).length : Int)) (fun _ v => xs.length - (intOf v).toNat)
  case atStart => exact ⟨0, rfl, Nat.zero_le _, by rw [readTo_zero]; rfl⟩
  case round =>
    obtain ⟨i, rfl, hi, rfl⟩ := hrel
    by_cases hlt : i < xs.length
    · obtain ⟨ad, Ar, cr, e, hrx, hrl, hrc⟩ := at_rows HR0.out (i : Int) (by omega) (by omega)
      cases e
      rw [Int.toNat_natCast] at hrx hrl hrc
      have hl1 := readTo_length (xs := xs) i 0
      have hl2 := readTo_length (xs := xs) (i + 1) 0
      have hl3 : (readTo xs (i + 1) 0).length = (readTo xs i 0).length + (xs.getD i []).length := by
        rw [readTo_zero, ← readTo_row hlt]; simp [readTo]
      generalize (xs.getD i []).length = q at hrx hrl hl3
      have HL := Aside0.mk hl3
      have hq : (readTo xs i 0).length + q < 17592186044416 := by omega
      clear hl3 hrc hl2
      generalize (readTo xs i 0).length = p at hq HL hl1 ⊢
      have hn : ¬ ((p : Int) + (q : Int) < 0) := by omega
      go_wp2
      go_round
      case rel => exact ⟨i + 1, by go_num, by omega, by rw [HL.out]; go_num⟩
      case measure => simp [intOf]; omega
    · have hil : i = xs.length := by omega
      have HF := Aside0.mk (show readTo xs i 0 = xs.flatten from by rw [hil, readTo_zero, List.take_length])
      rw [HF.out]
      obtain ⟨T, hT⟩ : ∃ T, xs.flatten.length = T := ⟨_, rfl⟩
      rw [hT] at hlim ⊢
      have HG := Aside0.mk (grow_int T (by omega) w)
      have HT := Aside0.mk hT
      clear HF hT
      go_wp2_with fail
      (with_reducible refine HG.out.mono ?_)
      rintro e w1 ⟨v1, rfl, hr1, hb1⟩
      have HB := Aside0.mk hb1
      have HR := Aside0.mk (show (Kd.int .i64).R 3 w1 w.heap.size (fun _ => True) v1 (readTo xs 0 0) from by rw [readTo_zero]; exact hr1)
      clear hr1 hb1 HG hlt
      have hlim2 := hlim
      rw [← HT.out] at hlim2
      subst hil
      clear hi
      go_wp2
      go_loopw [6, 27] (fun v6 v27 wr => ∃ (i : Nat), v27 = .int .i64 i ∧ i ≤ xs.length ∧ Aside0 ((Kd.int .i64).R 3 wr w.heap.size (fun _ => True) v6 (readTo xs i 0)) ∧ Aside0 (Below w.heap.size w wr)) (fun _ v _ => xs.length - (intOf v).toNat)
      case atStart => exact ⟨0, rfl, Nat.zero_le _, HR, HB⟩
      case round =>
        clear HR HB
        obtain ⟨i, rfl, hi, HR, HB⟩ := hrel
        by_cases hlt : i < xs.length
        · obtain ⟨ad, Ar, cr, e, hrx, hrl, hrc⟩ := at_rows HR0.out (i : Int) (by omega) (by omega)
          cases e
          replace hrx := (HB.out.cell (World.block_lt_of_cell? w _ hrx)).trans hrx
          rw [Int.toNat_natCast] at hrx hrl hrc
          have hl2 := readTo_length (xs := xs) (i + 1) 0
          have hl3 : readTo xs (i + 1) 0 = readTo xs i 0 ++ xs.getD i [] := by
            rw [readTo_zero, ← readTo_row hlt]; simp [readTo]
          obtain ⟨ns, hns⟩ : ∃ ns, ns = xs.getD i [] := ⟨_, rfl⟩
          rw [← hns] at hrx hrl hrc hl3
          have HL := Aside0.mk hl3
          have HC := Aside0.mk (Kd.C_below hrc HB.out)
          have hq : (readTo xs i 0).length + ns.length < 17592186044416 := by rw [hl3, List.length_append] at hl2; omega
          have HQ := Aside0.mk (show ((readTo xs i 0).length + ns.length) * 8 ≤ 140737488355328 from by omega)
          clear hl3 hrc hl2 hns hrl hq
          go_wp2_with (first | (at_builtin; refine Kd.R_append_rows (Kd.int .i64) (w0 := w) w.heap.size rfl (.tmp 31) (.tmp 32) 65 3 (.int .i64 0) 8 rfl Try.underlying65 info3 rfl (by decide) (by omega) _ (readTo xs i 0) ns Ar ns.length cr (fun _ => True) (fun _ => False) rfl rfl HR.out HC.out (fun x cs h => ((flatScalar _ _).M _ _ _ _ _).2 (((flatScalar _ _).K _ _ _).1 h)) (fun _ h => h.elim) (fun _ _ => trivial) HB.out HB.out.size HQ.out ?_; intro v2 w2 hr2 hb2 _ _) | go_in)
          have HR2 := Aside0.mk (show (Kd.int .i64).R 3 w2 w.heap.size (fun _ => True) v2 (readTo xs (i + 1) 0) from by rw [HL.out]; exact hr2)
          have HB2 := Aside0.mk hb2
          clear hr2 hb2
          go_roundw
          case rel => exact ⟨i + 1, by go_num, by omega, HR2, HB2⟩
          case measure => simp [intOf]; omega
        · have hil : i = xs.length := by omega
          have HF := Aside0.mk (show readTo xs i 0 = xs.flatten from by rw [hil, readTo_zero, List.take_length])
          rw [HF.out] at HR
          go_wp2
          go_ret
          exact ⟨_, rfl, HR.out, HB.out⟩

/-! ### slices_Sort_int_int: function 76 -/
-- GIVEN slices.Sort[[]int,int] making as slices_Sort_int
open Go.Proofs.He
theorem sort_int.walk {base : Nat} {ok : Nat → Prop} {v : Value} {xs : List Int} {w : World} (h : (Kd.int .i64).R 3 w base ok v xs) (hsz : xs.length < 4611686018427387904) :
    Calls Try.prog 76 #[v] w fun e' w' => e' = .returned (.tuple #[]) ∧ (Kd.int .i64).R 3 w' base ok v (xs.mergeSort fun x y => decide (x ≤ y)) ∧ w.grownBy w' v.ownBlock :=
  sort_row (srt := fun xs => xs.mergeSort fun x y => decide (x ≤ y)) (fun l => List.length_mergeSort l) (by simp) (fun p cap w => Any.slices_Sort_int_none Try.laysSort p cap w) (fun blk off cap zs w h1 h2 h3 => Any.slices_Sort_int Try.laysSort blk off cap zs w h1 h2 h3) h hsz

/-! ### slices_Compact_int_int: function 77 -/
-- GIVEN slices.Compact[[]int,int] making as slices_Compact_int
open Go.Proofs.He
theorem slices_Compact_int.walk {e base : Nat} {ok : Nat → Prop} {v : Value} {xs : List Int} {w : World} (h : (Kd.int .i64).R e w base ok v xs) :
    Calls Try.prog 77 #[v] w fun e' w' => ∃ v', e' = .returned v' ∧ (Kd.int .i64).R e w' base ok v' (Lib.compact xs) ∧ w.grownBy w' v.ownBlock :=
  compact_row (fun a cap w => Any.slices_Compact_int_empty Try.laysCompact a cap w) (fun blk off cap zs w h1 h2 h3 => Any.slices_Compact_int Try.laysCompact blk off cap zs w h1 h2 h3) h

/-! ### split_rising: function 75 -/
-- GIVEN heliast/split.rising making uses slices.Concat[[]int,int] uses slices.Sort[[]int,int] uses slices.Compact[[]int,int]
open Go.Proofs.He
set_option maxHeartbeats 4000000 in
set_option maxRecDepth 100000 in
theorem split_rising.walk (A0 : Option Addr) (c0 : Nat) (xs : List (List Int)) (w : World) (hr0 : Kd.C (Kd.slice 3 (Kd.int .i64)) w A0 xs.length xs) (hlim : xs.flatten.length < 17592186044416) :
    Calls Try.prog 75 #[.slice A0 xs.length c0] w fun e w' => ∃ v, e = .returned v ∧ (Kd.int .i64).R 3 w' w.heap.size (fun _ => True) v (riseL xs.flatten) ∧ Below w.heap.size w w' := by
  have HC0 := Aside0.mk (slices_Concat_int.walk A0 c0 xs w hr0 hlim)
  have HL := Aside0.mk hlim
  clear hr0 hlim
  go_enter Try.func75, Try.ntmps75
  go_wp2_with fail
  (with_reducible refine HC0.out.mono ?_)
  rintro e w0 ⟨v0, rfl, hr0, hb0⟩
  have HB0 := Aside0.mk hb0
  have HR0 := Aside0.mk hr0
  have HS := Aside0.mk (sort_int.walk hr0 (by have := HL.out; omega))
  clear hr0 hb0 HC0
  go_wp2_with (go_at_call 76; refine HS.out.mono ?_; rintro e w1 ⟨rfl, hr1, hg1⟩)
  have HB1 := Aside0.mk (HB0.out.grown hg1 HB0.out.size (fun k e => own_base (Kd.R_own HR0.out).choose_spec k e))
  have HR1 := Aside0.mk hr1
  have HC := Aside0.mk (slices_Compact_int.walk hr1)
  clear hg1 hr1
  go_wp2_with fail
  refine HC.out.mono ?_
  rintro e w2 ⟨v2, rfl, hr2, hg2⟩
  go_wp2
  go_ret
  exact ⟨_, rfl, hr2, HB1.out.grown hg2 HB1.out.size (fun k e => own_base (Kd.R_own HR1.out).choose_spec k e)⟩

end Go.Proofs.Ytmmalieacakcbaa.S

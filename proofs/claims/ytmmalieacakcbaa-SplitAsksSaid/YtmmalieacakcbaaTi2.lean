/- Parts of the walk and of the plain law, joined for this claim alone by a program of this session. -/
import Derived.Test.YtmmalieacakcbaaTi1
import Derived.Test.YtmmalieacakcbaaTi0
section
namespace Go.Proofs.Ytmmalieacakcbaa.S
open Go.RowKit Go.Proofs.YtmmalieacakcbaaW.PrintWords Go.Proofs.YtmmalieacakcbaaW.PrintLast Go.Proofs.YtmmalieacakcbaaW.PrintMore
attribute [local go_sem] max2_int min2_int max_two min_two max_three min_three max_four min_four
set_option linter.unusedVariables false
set_option linter.unusedSimpArgs false
open Go.Proofs.He
def encE (x : S69) : List Value := [.string x.f0, .string x.f1, .int .i64 x.f2]
theorem flatE : Flat k69 encE := ⟨fun _ => rfl, fun x u hu => by simp [encE] at hu; rcases hu with rfl | rfl | rfl <;> rfl, fun w base ok x cs => ⟨fun h => k69_openM h, fun h => by subst h; exact k69_mkM _ _ _ x⟩, fun w x cs => ⟨fun h => k69_open h, fun h => by subst h; exact k69_mk _ x⟩⟩
theorem szE : k69.sz = 3 := rfl
set_option maxHeartbeats 4000000 in
set_option maxRecDepth 100000 in
theorem slices_Clone_Entry.walk (A0 : Option Addr) (c0 : Nat) (l0 : List S69) (w : World) (hr0 : Kd.C k69 w A0 l0.length l0) (hlim : l0.length < 3518437208883) :
    Calls Try.prog 73 #[.slice A0 l0.length c0] w fun e w' => ∃ v, e = .returned v ∧ Kd.R k69 69 w' w.heap.size (fun _ => True) v l0 ∧ Below w.heap.size w w' := by
  have hnil : ∀ (w : World) (a : Option Addr) (n c : Nat), Sem.run Try.prog (binOp .eql 63 (.slice a n c) (.slice none 0 0)) w = .ok (.bool a.isNone) w := fun w a n c => Lib.run_eql_slice_nil w 63 69 a n c 0 0 Try.underlying63
  cases A0 with
  | none =>
    have h0 : l0 = [] := by
      rcases Nat.eq_zero_or_pos l0.length with h | h
      · exact List.eq_nil_of_length_eq_zero h
      · obtain ⟨_, h, _⟩ := hr0.2.2 h; cases h
    subst h0
    go_enter Try.func73, Try.ntmps73
    go_wp2
    go_ret
    exact ⟨_, rfl, Kd.R_nil _ _ _ _ _, Below.refl _ _⟩
  | some ad =>
    have HB := Aside0.mk ((Below.refl w.heap.size w).alloc (Nat.le_refl _) (Obj.cells #[] 69))
    have HO := Aside0.mk (show Kd.R k69 69 (w.alloc (.cells #[] 69)) w.heap.size (fun _ => True) (.slice (some ⟨w.heap.size, 0, none⟩) 0 0) [] from
      Flat.put flatE ⟨rfl, .inr ⟨w.heap.size, 0, #[], rfl, Nat.le_refl _, heap_alloc_new w _, Nat.le_refl _, by decide, rfl, rfl⟩⟩ (fun _ _ => trivial))
    have HR := Aside0.mk (Kd.C_below hr0 HB.out)
    clear hr0
    go_enter Try.func73, Try.ntmps73
    go_wp2_with (at_builtin; refine Kd.R_append_rows k69 (w0 := w) w.heap.size rfl (.tmp 5) (.tmp 6) 63 69 (.agg #[(.string ⟨#[]⟩), (.string ⟨#[]⟩), (.int .i64 0)]) 40 rfl Try.underlying63 info69 rfl (by decide) (by omega) (.slice (some ⟨w.heap.size, 0, none⟩) 0 0) ([] : List S69) l0 (some ad) l0.length c0 (fun _ => True) (fun _ => False) rfl rfl HO.out HR.out (fun x cs h => (flatE.M _ _ _ _ _).2 ((flatE.K _ _ _).1 h)) (fun _ h => h.elim) (fun _ _ => trivial) HB.out (by simp) (by simp; omega) ?_; intro v1 w1 hr1 hb1 _ _)
    go_ret
    exact ⟨_, rfl, by simpa using hr1, hb1⟩
def slices_Clone_Entry.f (l0 : List S69) : Option (List S69) := if l0.length < 3518437208883 then some l0 else none
theorem slices_Clone_Entry.calls (A0 : Option Addr) (c0 : Nat) (l0 : List S69) (r : List S69) (w : World) (hr0 : Kd.C k69 w A0 l0.length l0) (hc0 : l0.length ≤ c0) (h : slices_Clone_Entry.f l0 = some r) :
    Calls Try.prog 73 #[.slice A0 l0.length c0] w fun e w' => ∃ v0_ : Value, e = .returned (v0_) ∧ Kd.R k69 69 w' w.heap.size (fun _ => True) v0_ r ∧ Below w.heap.size w w' := by
  unfold slices_Clone_Entry.f at h
  split at h
  · obtain rfl := Option.some.inj h
    exact slices_Clone_Entry.walk A0 c0 l0 w hr0 ‹_›
  · cases h
open Go.Proofs.He
noncomputable def cntIK : KK Try.prog 3 Int := intK Try.underlying3
abbrev CntI (w : World) (b : Nat) (xs : List Int) (C : List (Int × Int)) : Prop := Cnt cntIK Try.underlying3 w b xs C
theorem zero3 (w : World) : (zeroValue 3).run Try.prog w = .ok (.int .i64 0) w := by kernel_rfl
set_option maxHeartbeats 4000000 in
set_option maxRecDepth 100000 in
theorem split_count_int.walk (A0 : Option Addr) (c0 : Nat) (xs : List (List Int)) (w : World) (hr0 : Kd.C (Kd.slice 3 (Kd.int .i64)) w A0 xs.length xs) (hwf : ∀ x ∈ xs.flatten, (Lit.int .i64 x).wf = true) (hlim : xs.flatten.length < 17592186044416) :
    Calls Try.prog 80 #[.slice A0 xs.length c0] w fun e w' => ∃ b C, e = .returned (.map (some b)) ∧ w.heap.size ≤ b ∧ CntI w' b xs.flatten C ∧ Below w.heap.size w w' := by
  have hmm := @run_makeMap Try.prog
  have hlen : xs.length ≤ 9223372036854775807 := hr0.2.1
  have HR0 := Aside0.mk hr0
  have HWF := Aside0.mk hwf
  clear hr0 hwf
  have HO := Aside0.mk (show CntI (w.alloc (.map #[] 0)) w.heap.size (readTo xs 0 0) [] from by rw [readTo_zero]; exact Cnt.nil _ _ w)
  have HB := Aside0.mk ((Below.refl w.heap.size w).alloc (Nat.le_refl _) (Obj.map #[] 0))
  go_enter Try.func80, Try.ntmps80
  go_wp2
  clear hmm
  go_loopw [11] (fun v wr => ∃ (i : Nat) (C : List (Int × Int)), v = .int .i64 i ∧ i ≤ xs.length ∧ Aside0 (CntI wr w.heap.size (readTo xs i 0) C) ∧ Aside0 (Below w.heap.size w wr)) (fun v _ => xs.length - (intOf v).toNat)
  case atStart => exact ⟨0, [], rfl, Nat.zero_le _, HO, HB⟩
  case round =>
    clear HO HB
    obtain ⟨i, C, rfl, hi, HI, HB⟩ := hrel
    by_cases hlt : i < xs.length
    · obtain ⟨ad, Ar, cr, e, hrx, hrl, hrc⟩ := at_rows HR0.out (i : Int) (by omega) (by omega)
      cases e
      replace hrx := (HB.out.cell (World.block_lt_of_cell? w _ hrx)).trans hrx
      rw [Int.toNat_natCast] at hrx hrl hrc
      obtain ⟨ns, hns⟩ : ∃ ns, ns = xs.getD i [] := ⟨_, rfl⟩
      rw [← hns] at hrx hrl hrc
      have HN := Aside0.mk hns
      have HRC := Aside0.mk hrc
      have hnl : ns.length ≤ 9223372036854775807 := hrc.2.1
      clear hns hrc hrl
      go_wp2
      go_loopw [17] (fun v w5 => ∃ (j : Nat) (C : List (Int × Int)), v = .int .i64 j ∧ j ≤ ns.length ∧ Aside0 (CntI w5 w.heap.size (readTo xs i j) C) ∧ Aside0 (Below w.heap.size w w5)) (fun v _ => ns.length - (intOf v).toNat)
      case atStart => exact ⟨0, C, rfl, Nat.zero_le _, HI, HB⟩
      case round =>
        clear HI HB
        obtain ⟨j, C, rfl, hj, HI, HB⟩ := hrel
        by_cases hlt2 : j < ns.length
        · obtain ⟨ad2, e, hx⟩ := Kd.at_int (Kd.C_below HRC.out HB.out) (j : Int) (by omega) (by omega)
          cases e
          obtain ⟨x, hxd⟩ : ∃ x, x = rd ns j := ⟨_, rfl⟩
          rw [← hxd, Int.toNat_natCast] at hx
          have hxm : x = ns[j] := by rw [hxd]; simp [rd, hlt2]
          have hwf : (Lit.int .i64 x).wf = true := HWF.out x (mem_rows (i := i) (by rw [hxm, ← HN.out]; exact List.getElem_mem hlt2))
          have HX := Aside0.mk (show readTo xs i (j + 1) = readTo xs i j ++ [x] from by
            have := readTo_succ (xs := xs) (i := i) (j := j) (by rw [← HN.out]; exact hlt2)
            rw [this, hxm]; congr 2; simp only [HN.out])
          obtain ⟨n, hn⟩ : ∃ n : Int, ((readTo xs i j).count x : Int) = n := ⟨_, rfl⟩
          have hn0 : 0 ≤ n := by omega
          have hn1 : n < 17592186044416 := by have := List.count_le_length (a := x) (l := readTo xs i j); have := readTo_length (xs := xs) i j; omega
          have hcl : C.length < maxLen := by have := HI.out.len; have := readTo_length (xs := xs) i j; unfold maxLen; omega
          have HNN := Aside0.mk hn
          have HWX := Aside0.mk hwf
          have HCL := Aside0.mk hcl
          have HV := Aside0.mk (show (Lit.int .i64 (n + 1)).wf = true from WalkArith.wf_i64 (by omega))
          clear hxd hxm hn hwf hcl
          go_wp2_with (first | (at_lookup; refine wpList_cget rfl _ _ rfl Try.underlying118 (zero3 _) rfl HI.out x rfl HWX.out n HNN.out ?_) | (at_mapUpdate; refine wpList_mput rfl _ _ _ 118 rfl cntIK (intV Try.underlying3) 3 Try.underlying118 w.heap.size C rfl HI.out.own HCL.out x (n + 1) rfl rfl HWX.out HV.out ?_; intro w1 ho1 hg1) | go_in)
          have HB1 := Aside0.mk (HB.out.grown hg1 HB.out.size (fun k e => by cases e; exact Nat.le_refl _))
          have HI1 := Aside0.mk (show ∃ C, CntI w1 w.heap.size (readTo xs i (j + 1)) C from ⟨_, by rw [HX.out]; exact HI.out.put x (by rw [HNN.out]; exact ho1)⟩)
          clear ho1 hg1
          go_roundw
          case rel => obtain ⟨C1, h1⟩ := HI1.out; exact ⟨j + 1, C1, by go_num, by omega, ⟨h1⟩, HB1⟩
          case measure => simp [intOf]; omega
        · have hjl : j = ns.length := by omega
          have HI2 := Aside0.mk (show CntI _ w.heap.size (readTo xs (i + 1) 0) C from by rw [readTo_zero, ← readTo_row hlt, ← HN.out, ← hjl]; exact HI.out)
          go_wp2
          go_roundw
          case rel => exact ⟨i + 1, C, by go_num, by omega, HI2, HB⟩
          case measure => simp [intOf]; omega
    · have hil : i = xs.length := by omega
      have HF := Aside0.mk (show CntI wr w.heap.size xs.flatten C from by have := HI.out; rw [hil, readTo_zero, List.take_length] at this; exact this)
      go_wp2
      go_ret
      exact ⟨_, C, rfl, Nat.le_refl _, HF.out, HB.out⟩
open Go.Proofs.He
instance decSE : DecidableEq S69 := fun a b => decidable_of_iff (a.f0 = b.f0 ∧ a.f1 = b.f1 ∧ a.f2 = b.f2) ⟨fun h => by cases a; cases b; simp_all, fun h => by subst h; exact ⟨rfl, rfl, rfl⟩⟩
def EOk (x : S69) : Prop := x.f0.size ≤ 9223372036854775807 ∧ x.f1.size ≤ 9223372036854775807 ∧ -9223372036854775808 ≤ x.f2 ∧ x.f2 ≤ 9223372036854775807
instance (x : S69) : Decidable (EOk x) := inferInstanceAs (Decidable (_ ∧ _ ∧ _ ∧ _))
def litE (x : S69) : List Lit := [.string x.f0.data.toList, .string x.f1.data.toList, .int .i64 x.f2]
theorem wf_iff (n : Int) : (Lit.int .i64 n).wf = true ↔ -9223372036854775808 ≤ n ∧ n ≤ 9223372036854775807 := by
  simp [Lit.wf, IntKind.min, IntKind.max, IntKind.signed, IntKind.bits]
theorem cellsE : Try.prog.cellsOf 69 = 3 ∧ Try.prog.cellsOf 9 = 1 ∧ Try.prog.cellsOf 3 = 1 := ⟨by kernel_rfl, by kernel_rfl, by kernel_rfl⟩
set_option maxRecDepth 100000 in
theorem keyLitsE (d : Nat) (cs : List Value) (L : List Lit) : Try.prog.keyLits (d + 2) 69 cs = some L ↔ ∃ x, EOk x ∧ cs = encE x ∧ L = litE x := by
  obtain ⟨c1, c2, c3⟩ := cellsE
  have hs : ∀ (u : List Value) (l : List Lit), Try.prog.keyLits (d + 1) 9 u = some l ↔ ∃ s : ByteArray, s.size ≤ 9223372036854775807 ∧ u = [.string s] ∧ l = [.string s.data.toList] := by
    intro u l
    unfold Program.keyLits
    rw [Try.underlying9]
    constructor
    · intro h
      rcases u with _ | ⟨v, _ | ⟨v', u⟩⟩
      · simp at h
      · cases v with
        | string s =>
          by_cases h1 : s.size ≤ maxLen
          · simp only [h1, if_true, Option.some.injEq] at h
            exact ⟨s, h1, rfl, h.symm⟩
          · simp [h1] at h
        | _ => simp at h
      · cases v <;> simp at h
    · rintro ⟨s, h, rfl, rfl⟩
      simp [maxLen, h]
  have hi : ∀ (u : List Value) (l : List Lit), Try.prog.keyLits (d + 1) 3 u = some l ↔ ∃ n : Int, (Lit.int .i64 n).wf = true ∧ u = [.int .i64 n] ∧ l = [.int .i64 n] := by
    intro u l
    unfold Program.keyLits
    rw [Try.underlying3]
    constructor
    · intro h
      rcases u with _ | ⟨v, _ | ⟨v', u⟩⟩
      · simp at h
      · cases v <;> simp at h
        obtain ⟨⟨h1, h2⟩, rfl⟩ := h
        subst h1
        exact ⟨_, h2, rfl, rfl⟩
      · cases v <;> simp at h
    · rintro ⟨s, h, rfl, rfl⟩
      simp [h]
  unfold Program.keyLits
  rw [Try.underlying69]
  simp only [c1]
  constructor
  · intro h
    split at h
    · rename_i hh
      obtain ⟨hl, _⟩ := hh
      match cs, hl with
      | [u, v, z], _ =>
        simp only [List.mapM_cons, List.mapM_nil, c2, c3, List.drop_zero, List.take_succ_cons, List.take_zero, List.drop_succ_cons] at h
        cases h0 : Try.prog.keyLits (d + 1) 9 [u] with
        | none => simp [h0] at h
        | some l0 =>
          cases h1 : Try.prog.keyLits (d + 1) 9 [v] with
          | none => simp [h0, h1] at h
          | some l1 =>
            cases h2 : Try.prog.keyLits (d + 1) 3 [z] with
            | none => simp [h0, h1, h2] at h
            | some l2 =>
              simp [h0, h1, h2] at h
              obtain ⟨a, ha, e0, rfl⟩ := (hs _ _).1 h0
              obtain ⟨b, hb, e1, rfl⟩ := (hs _ _).1 h1
              obtain ⟨n, hn, e2, rfl⟩ := (hi _ _).1 h2
              cases e0; cases e1; cases e2
              exact ⟨⟨a, b, n⟩, ⟨ha, hb, (wf_iff n).1 hn⟩, rfl, h.symm⟩
    · cases h
  · rintro ⟨x, ⟨g0, g1, g2⟩, rfl, rfl⟩
    have h0 := (hs [.string x.f0] [.string x.f0.data.toList]).2 ⟨_, g0, rfl, rfl⟩
    have h1 := (hs [.string x.f1] [.string x.f1.data.toList]).2 ⟨_, g1, rfl, rfl⟩
    have h2 := (hi [.int .i64 x.f2] [.int .i64 x.f2]).2 ⟨_, (wf_iff _).2 g2, rfl, rfl⟩
    simp [encE, litE, c2, c3, h0, h1, h2]
theorem sizeT : ∃ m, Try.prog.types.size = m + 1 := ⟨Try.prog.types.size - 1, by have : 0 < Try.prog.types.size := of_decide_eq_true (by kernel_rfl); omega⟩
theorem wideE : (match Try.prog.underlying 69 with | some (.array _ _) | some (.struct _) => true | _ => false) = true := by rw [Try.underlying69]
set_option maxRecDepth 100000 in
theorem keyOfE (x : S69) (h : EOk x) : keyOf Try.prog 69 (.agg #[.string x.f0, .string x.f1, .int .i64 x.f2]) = some (.string (keyBytes (litE x))) := by
  obtain ⟨m, hm⟩ := sizeT
  have hk : Try.prog.keyType 69 = true := by kernel_rfl
  have hl := (keyLitsE m (encE x) (litE x)).2 ⟨x, h, rfl, rfl⟩
  have hf : (Value.agg #[.string x.f0, .string x.f1, .int .i64 x.f2]).formed Try.prog 69 = true := by
    simp [Value.formed, Try.underlying69, cellsE.1]
  have hc : (Value.agg #[.string x.f0, .string x.f1, .int .i64 x.f2]).cells.toList = encE x := rfl
  unfold keyOf
  rw [Try.underlying69]
  simp only [hk, hf, hc, hm, hl, Bool.and_self, if_true, Option.map_some]
set_option maxRecDepth 100000 in
theorem keyLawE : WideMaps.KeyLaw Try.prog 69 := deep_law_gate (by kernel_rfl) (of_decide_eq_true (by kernel_rfl)) (of_decide_eq_true (by kernel_rfl)) (by kernel_rfl) wideE
set_option maxRecDepth 100000 in
noncomputable def entK : KK Try.prog 69 {x : S69 // EOk x} where
  K := Maps.Keyed.of_law keyLawE
  val x := .agg #[.string x.1.f0, .string x.1.f1, .int .i64 x.1.f2]
  kl x := .string (keyBytes (litE x.1))
  ok _ := True
  of {x} _ := keyOfE x.1 x.2
  inv {v l} h := by
    obtain ⟨m, hm⟩ := sizeT
    obtain ⟨xs, L, rfl, h1, rfl⟩ := keyOf_top wideE h
    rw [hm] at h1
    obtain ⟨x, hx, e, rfl⟩ := (keyLitsE m _ _).1 h1
    refine ⟨⟨x, hx⟩, trivial, ?_, rfl⟩
    have : xs = #[.string x.f0, .string x.f1, .int .i64 x.f2] := Array.ext' e
    rw [this]
  inj {x y} h := by
    injection h with h
    have h1 := (keyLitsE 0 _ _).2 ⟨x.1, x.2, rfl, rfl⟩
    have h2 := (keyLitsE 0 _ _).2 ⟨y.1, y.2, rfl, rfl⟩
    have e := keyLits_inj h1 h2 h
    obtain ⟨⟨a, b, c⟩, hx⟩ := x
    obtain ⟨⟨a', b', c'⟩, hy⟩ := y
    simp only [litE, List.cons.injEq, Lit.string.injEq, Lit.int.injEq, true_and, and_true] at e
    obtain ⟨e1, e2, e3⟩ := e
    have e1' : a = a' := by cases a; cases a'; congr 1; exact Array.ext' e1
    have e2' : b = b' := by cases b; cases b'; congr 1; exact Array.ext' e2
    subst e1'; subst e2'; subst e3
    rfl
theorem zero3e (w : World) : (zeroValue 3).run Try.prog w = .ok (.int .i64 0) w := by kernel_rfl
abbrev CntE (w : World) (b : Nat) (xs : List {x : S69 // EOk x}) (C : List ({x : S69 // EOk x} × Int)) : Prop := Cnt entK Try.underlying3 w b xs C
set_option maxHeartbeats 4000000 in
set_option maxRecDepth 100000 in
theorem split_count_Entry.walk (A0 : Option Addr) (c0 : Nat) (xs : List (List S69)) (w : World) (hr0 : Kd.C (Kd.slice 69 k69) w A0 xs.length xs) (hwf : ∀ x ∈ xs.flatten, EOk x) (hlim : xs.flatten.length < 17592186044416) :
    Calls Try.prog 71 #[.slice A0 xs.length c0] w fun e w' => ∃ b zs C, e = .returned (.map (some b)) ∧ w.heap.size ≤ b ∧ zs.map (·.1) = xs.flatten ∧ CntE w' b zs C ∧ Below w.heap.size w w' := by
  have hmm := @run_makeMap Try.prog
  have hlen : xs.length ≤ 9223372036854775807 := hr0.2.1
  have HR0 := Aside0.mk hr0
  have HWF := Aside0.mk hwf
  clear hr0 hwf
  have HO := Aside0.mk (show ∃ zs C, zs.map (·.1) = readTo xs 0 0 ∧ CntE (w.alloc (.map #[] 0)) w.heap.size zs C from ⟨[], [], by rw [readTo_zero]; rfl, Cnt.nil _ _ w⟩)
  have HB := Aside0.mk ((Below.refl w.heap.size w).alloc (Nat.le_refl _) (Obj.map #[] 0))
  go_enter Try.func71, Try.ntmps71
  go_wp2
  clear hmm
  go_loopw [11] (fun v wr => ∃ (i : Nat), v = .int .i64 i ∧ i ≤ xs.length ∧ Aside0 (∃ zs C, zs.map (·.1) = readTo xs i 0 ∧ CntE wr w.heap.size zs C) ∧ Aside0 (Below w.heap.size w wr)) (fun v _ => xs.length - (intOf v).toNat)
  case atStart => exact ⟨0, rfl, Nat.zero_le _, HO, HB⟩
  case round =>
    clear HO HB
    obtain ⟨i, rfl, hi, HI, HB⟩ := hrel
    by_cases hlt : i < xs.length
    · obtain ⟨ad, Ar, cr, e, hrx, hrl, hrc⟩ := at_rows HR0.out (i : Int) (by omega) (by omega)
      cases e
      replace hrx := (HB.out.cell (World.block_lt_of_cell? w _ hrx)).trans hrx
      rw [Int.toNat_natCast] at hrx hrl hrc
      obtain ⟨ns, hns⟩ : ∃ ns, ns = xs.getD i [] := ⟨_, rfl⟩
      rw [← hns] at hrx hrl hrc
      have HN := Aside0.mk hns
      have HRC := Aside0.mk hrc
      have hnl : ns.length ≤ 9223372036854775807 := hrc.2.1
      clear hns hrc hrl
      go_wp2
      go_loopw [17] (fun v w5 => ∃ (j : Nat), v = .int .i64 j ∧ j ≤ ns.length ∧ Aside0 (∃ zs C, zs.map (·.1) = readTo xs i j ∧ CntE w5 w.heap.size zs C) ∧ Aside0 (Below w.heap.size w w5)) (fun v _ => ns.length - (intOf v).toNat)
      case atStart => exact ⟨0, rfl, Nat.zero_le _, HI, HB⟩
      case round =>
        clear HI HB
        obtain ⟨j, rfl, hj, HI, HB⟩ := hrel
        by_cases hlt2 : j < ns.length
        · obtain ⟨ad2, e, hx0, hx1, hx2⟩ := at_T69 (Kd.C_below HRC.out HB.out) (j : Int) (by omega) (by omega)
          cases e
          obtain ⟨x, hxd⟩ : ∃ x, x = rd_T69 ns j := ⟨_, rfl⟩
          rw [← hxd, Int.toNat_natCast] at hx0 hx1 hx2
          have hxm : x = ns[j] := by rw [hxd]; simp [rd_T69, hlt2]
          have HEO := Aside0.mk (HWF.out x (mem_rows (i := i) (by rw [hxm, ← HN.out]; exact List.getElem_mem hlt2)))
          have HX := Aside0.mk (show readTo xs i (j + 1) = readTo xs i j ++ [x] from by
            have := readTo_succ (xs := xs) (i := i) (j := j) (by rw [← HN.out]; exact hlt2)
            rw [this, hxm]; congr 2; simp only [HN.out])
          obtain ⟨zs, C, hzs, hC⟩ := HI.out
          obtain ⟨n, hn⟩ : ∃ n : Int, ((@List.count _ instBEqOfDecidableEq ⟨x, HEO.out⟩ zs : Nat) : Int) = n := ⟨_, rfl⟩
          have hzl : zs.length ≤ xs.flatten.length := by have := readTo_length (xs := xs) i j; have h2 := congrArg List.length hzs; rw [List.length_map] at h2; omega
          have hn1 : n < 17592186044416 := by have := @List.count_le_length _ instBEqOfDecidableEq ⟨x, HEO.out⟩ zs; omega
          have hn0 : 0 ≤ n := by omega
          have HZ := Aside0.mk hzs
          have HB0 := Aside0.mk (pw_below_drewN (below_alloc HB.out (Obj.cells #[.string x.f0, .string x.f1, .int .i64 x.f2] 69)) 1)
          have hC0 := hC.below (pw_below_drewN (below_alloc (Below.refl _ _) (Obj.cells #[.string x.f0, .string x.f1, .int .i64 x.f2] 69)) 1)
          obtain ⟨st, w1, w2, e1, e2, e3, e4, hC2, hg2⟩ := hC0.entry keyLawE Try.underlying109 zero3e (by have := hC.len; unfold maxLen; omega) ⟨x, HEO.out⟩ trivial (.agg #[.string x.f0, .string x.f1, .int .i64 x.f2]) rfl n hn (WalkArith.wf_i64 (by omega))
          replace e1 : (Instr.lookup 109 (.map (some w.heap.size)) (.agg #[.string x.f0, .string x.f1, .int .i64 x.f2]) false).run Try.prog (wr.alloc (Obj.cells #[.string x.f0, .string x.f1, .int .i64 x.f2] 69)).drew = .ok (.int .i64 n) (wr.alloc (Obj.cells #[.string x.f0, .string x.f1, .int .i64 x.f2] 69)).drew := e1
          replace e2 : (Instr.mapEntry 109 (.map (some w.heap.size)) (.agg #[.string x.f0, .string x.f1, .int .i64 x.f2])).run Try.prog (wr.alloc (Obj.cells #[.string x.f0, .string x.f1, .int .i64 x.f2] 69)).drew = .ok (.tuple #[.int .i64 n, .int .i64 st]) w1 := e2
          have HC2 := Aside0.mk hC2
          have HG2 := Aside0.mk hg2
          clear hxd hxm hC hC0 hn hC2 hg2 hzs hzl
          go_wp2
          have hwr : IntKind.i64.wrap (n + 1) = n + 1 := by rw [IntKind.wrap_i64]; omega
          go_region_law fail
          all_goals
            have HB2 := Aside0.mk (HB0.out.grown HG2.out HB0.out.size (fun k e => by cases e; exact Nat.le_refl _))
            have HI2 := Aside0.mk (show ∃ zs C, zs.map (·.1) = readTo xs i (j + 1) ∧ CntE w2 w.heap.size zs C from by obtain ⟨C', h⟩ := HC2.out; exact ⟨_, C', by rw [List.map_append, HZ.out, HX.out]; rfl, h⟩)
            clear HC2 HG2 e1 e2 e3 e4 hwr
            go_wp2
            go_roundw
            case rel => exact ⟨j + 1, by go_num, by omega, HI2, HB2⟩
            case measure => simp [intOf]; omega
        · have hjl : j = ns.length := by omega
          have HI2 := Aside0.mk (show ∃ zs C, zs.map (·.1) = readTo xs (i + 1) 0 ∧ CntE _ w.heap.size zs C from by rw [readTo_zero, ← readTo_row hlt, ← HN.out, ← hjl]; exact HI.out)
          go_wp2
          go_roundw
          case rel => exact ⟨i + 1, by go_num, by omega, HI2, HB⟩
          case measure => simp [intOf]; omega
    · have hil : i = xs.length := by omega
      have HF := Aside0.mk (show ∃ zs C, zs.map (·.1) = xs.flatten ∧ CntE wr w.heap.size zs C from by have := HI.out; rw [hil, readTo_zero, List.take_length] at this; exact this)
      go_wp2
      go_ret
      obtain ⟨zs, C, h1, h2⟩ := HF.out
      exact ⟨_, zs, C, rfl, Nat.le_refl _, h1, h2, HB.out⟩
open Go.Proofs.He
set_option maxHeartbeats 4000000 in
set_option maxRecDepth 100000 in
theorem split_Alike_1.calls (pm pl b n c : Nat) (A : Option Addr) (zs : List {x : S69 // EOk x}) (C : List ({x : S69 // EOk x} × Int)) (x : S69) (hx : EOk x) (W : World) (h : CntE W b zs C)
    (hpm : W.heap[pm]? = some (.cells #[.map (some b)] 109 (0, 0))) (hpl : W.heap[pl]? = some (.cells #[.slice A n c] 61 (0, 0))) :
    Calls Try.prog 74 (#[.agg #[.string x.f0, .string x.f1, .int .i64 x.f2]] ++ #[.pointer (some ⟨pm, 0, none⟩), .pointer (some ⟨pl, 0, none⟩)]) W fun e W' => e = .returned (.bool (decide ((@List.count _ instBEqOfDecidableEq ⟨x, hx⟩ zs : Int) < (n : Int)))) ∧ Below W.heap.size W W' := by
  have hHB := (below_alloc (Below.refl W.heap.size W) (Obj.cells #[.string x.f0, .string x.f1, .int .i64 x.f2] 69))
  have h0 : (W.alloc (Obj.cells #[.string x.f0, .string x.f1, .int .i64 x.f2] 69)).cell? ⟨pm, 0, none⟩ = some (.map (some b)) := (blk_cell ((hHB.block pm (blk_lt hpm)).trans hpm) 0).trans rfl
  have h1 : (W.alloc (Obj.cells #[.string x.f0, .string x.f1, .int .i64 x.f2] 69)).cell? ⟨pl, 0, none⟩ = some (.slice A n c) := (blk_cell ((hHB.block pl (blk_lt hpl)).trans hpl) 0).trans rfl
  have hC := h.below hHB
  have hl := run_mget entK (intV Try.underlying3) Try.underlying109 0 rfl (zero3e _) hC.own ⟨x, hx⟩ trivial
  rw [hC.get ⟨x, hx⟩] at hl
  obtain ⟨m, hm⟩ : ∃ m : Int, ((@List.count _ instBEqOfDecidableEq ⟨x, hx⟩ zs : Nat) : Int) = m := ⟨_, rfl⟩
  rw [hm] at hl ⊢
  have hl' : ∀ q, (Instr.lookup 109 (.map (some b)) (.agg #[.string x.f0, .string x.f1, .int .i64 x.f2]) false).run Try.prog ((W.alloc (Obj.cells #[.string x.f0, .string x.f1, .int .i64 x.f2] 69)).drewN q) = .ok (.int .i64 m) ((W.alloc (Obj.cells #[.string x.f0, .string x.f1, .int .i64 x.f2] 69)).drewN q) := fun q => by
    have hq := (h.below (pw_below_drewN hHB q))
    have := run_mget entK (intV Try.underlying3) Try.underlying109 0 rfl (zero3e _) hq.own ⟨x, hx⟩ trivial
    rw [hq.get ⟨x, hx⟩, hm] at this
    exact this
  clear hl hC hm hpm hpl h
  have HB := Aside0.mk hHB
  clear hHB
  go_enter Try.func74, Try.ntmps74
  go_wp2
  go_quiet (fail)
  go_wp2
  go_ret
  exact ⟨rfl, pw_below_drewN HB.out _⟩
open Go.Proofs.He
set_option maxHeartbeats 4000000 in
set_option maxRecDepth 100000 in
theorem slices_IndexFunc_Entry.calls (g : FuncId) (cb : Array Value) (eg : ∀ args w, (callFunc g args).run Try.prog w = .ok (.enter g args) w) (p : S69 → Bool) (A0 : Option Addr) (c0 : Nat) (l0 : List S69) (w : World) (hr0 : Kd.C k69 w A0 l0.length l0)
    (hp : ∀ x W, x ∈ l0 → Below w.heap.size w W → Calls Try.prog g (#[.agg #[.string x.f0, .string x.f1, .int .i64 x.f2]] ++ cb) W fun e W' => e = .returned (.bool (p x)) ∧ Below w.heap.size w W') :
    Calls Try.prog 108 #[.slice A0 l0.length c0, .func (.func g) #[] cb] w fun e w' => e = .returned (.int .i64 (idxOf p l0)) ∧ Below w.heap.size w w' := by
  have hu69 := Try.underlying69
  have HR0 := Aside0.mk hr0
  have HP := Aside0.mk hp
  have hlen : l0.length ≤ 9223372036854775807 := hr0.2.1
  clear hr0 hp
  go_enter Try.func108, Try.ntmps108
  go_wp2
  go_loopg [5, 8] l0.length (fun gg _ v8 wr => ∃ k : Nat, k ≤ l0.length ∧ l0.length - k ≤ gg ∧ v8 = .int .i64 k ∧ Aside0 (∀ j, j < k → ∀ x, l0[j]? = some x → p x = false) ∧ Aside0 (Below w.heap.size w wr))
  case atStart => exact ⟨0, Nat.zero_le _, by omega, rfl, ⟨fun j hj => absurd hj (Nat.not_lt_zero _)⟩, ⟨Below.refl _ _⟩⟩
  case round =>
    obtain ⟨k, hk, hg, rfl, HN, HB⟩ := hrel
    by_cases hlt : k < l0.length
    · obtain ⟨ad, e, hx0, hx1, hx2⟩ := at_T69 HR0.out k (by omega) (by omega)
      cases e
      replace hx0 := (HB.out.cell (World.block_lt_of_cell? w _ hx0)).trans hx0
      replace hx1 := (HB.out.cell (World.block_lt_of_cell? w _ hx1)).trans hx1
      replace hx2 := (HB.out.cell (World.block_lt_of_cell? w _ hx2)).trans hx2
      rw [Int.toNat_natCast] at hx0 hx1 hx2
      have hltz : (k : Int) < (l0.length : Int) := by omega
      have hrd : rd_T69 l0 k = l0[k] := by simp [rd_T69, hlt]
      have hcall := HP.out (rd_T69 l0 k) wr (by rw [hrd]; exact List.getElem_mem hlt) HB.out
      have HRD := Aside0.mk hrd
      clear hrd
      cases hq : p (rd_T69 l0 k) with
      | true =>
        rw [hq] at hcall
        go_wp2_with (go_at_fn g; refine hcall.mono ?_; rintro e w' ⟨rfl, hb'⟩)
        go_ret
        exact ⟨by rw [idxOf_hit hlt HN.out (by rw [← HRD.out]; exact hq)]; rfl, hb'⟩
      | false =>
        rw [hq] at hcall
        go_wp2_with (go_at_fn g; refine hcall.mono ?_; rintro e w' ⟨rfl, hb'⟩)
        go_roundg (l0.length - (k + 1))
        case measure => omega
        case rel =>
          refine ⟨k + 1, by omega, by omega, by go_num, ⟨fun j hj x hx => ?_⟩, ⟨hb'⟩⟩
          by_cases e : j = k
          · subst e
            rw [List.getElem?_eq_getElem hlt] at hx
            cases hx
            rw [← HRD.out]; exact hq
          · exact HN.out j (by omega) x hx
    · have hltz : ¬ (k : Int) < (l0.length : Int) := by omega
      have : k = l0.length := by omega
      subst this
      go_wp2
      go_ret
      exact ⟨by rw [idxOf_miss HN.out]; rfl, HB.out⟩
open Go.Proofs.He
theorem idxOf_casesE (p : S69 → Bool) (l : List S69) : (idxOf p l = -1 ∧ ∀ x ∈ l, p x = false) ∨ ∃ k, ∃ h : k < l.length, idxOf p l = k ∧ p l[k] = true ∧ ∀ j (hj : j < k), p l[j] = false := by
  unfold idxOf
  cases hf : l.findIdx? p with
  | none => exact .inl ⟨rfl, fun x hx => by rw [List.findIdx?_eq_none_iff] at hf; exact hf x hx⟩
  | some i =>
    obtain ⟨hi, h1, h2⟩ := List.findIdx?_eq_some_iff_getElem.1 hf
    exact .inr ⟨i, hi, rfl, h1, fun j hj => by simpa using h2 j hj⟩
instance inhE : Inhabited S69 := ⟨z69⟩
theorem rowE_form {e base : Nat} {w : World} {ok : Nat → Prop} {v : Value} {xs : List S69} (h : Kd.R k69 e w base ok v xs) (hp : 0 < xs.length) : ∃ g cap, v = .slice (some ⟨g, 0, none⟩) xs.length cap ∧ base ≤ g := by
  obtain ⟨ho, _⟩ := Flat.own flatE h
  rcases ho.2 with ⟨_, h0⟩ | ⟨g, cap, cur, rfl, hg, _⟩
  · omega
  · exact ⟨g, cap, rfl, hg⟩
set_option maxHeartbeats 8000000 in
set_option maxRecDepth 100000 in
theorem slices_DeleteFunc_Entry.calls (g : FuncId) (cb : Array Value) (eg : ∀ args w, (callFunc g args).run Try.prog w = .ok (.enter g args) w) (p : S69 → Bool) {base : Nat} {v : Value} {xs : List S69} {w : World} (h : Kd.R k69 69 w base (fun _ => True) v xs)
    (hp : ∀ x W, x ∈ xs → w.grownBy W v.ownBlock → Calls Try.prog g (#[.agg #[.string x.f0, .string x.f1, .int .i64 x.f2]] ++ cb) W fun e W' => e = .returned (.bool (p x)) ∧ Below W.heap.size W W') :
    Calls Try.prog 72 #[v, .func (.func g) #[] cb] w fun e w' => ∃ v', e = .returned v' ∧ Kd.R k69 69 w' base (fun _ => True) v' (xs.filter fun x => !p x) ∧ w.grownBy w' v.ownBlock := by
  have hu69 := Try.underlying69
  obtain ⟨A, c, rfl⟩ := Kd.R_slice h
  have hC := (Kd.R_reads' h).2.2
  have hIF := slices_IndexFunc_Entry.calls g cb eg p A c xs w hC (fun x W hx hb => (hp x W hx ⟨hb.os, hb.tape, hb.output, hb.size, fun k hk _ => hb.block k hk⟩).mono (fun e W' ⟨he, hb'⟩ => ⟨he, below_then hb hb.size hb'⟩))
  have hlen : xs.length ≤ 9223372036854775807 := hC.2.1
  rcases idxOf_casesE p xs with ⟨e1, hall⟩ | ⟨k0, hk0, e1, ht, hall⟩
  · rw [e1] at hIF
    have HF := Aside0.mk (show (xs.filter fun x => !p x) = xs from List.filter_eq_self.2 (fun x hx => by rw [hall x hx]; rfl))
    have HI := Aside0.mk hIF
    have HR := Aside0.mk h
    clear hIF h hC hp hall
    go_enter Try.func72, Try.ntmps72
    go_wp2_with (go_at_call 108; refine HI.out.mono ?_; rintro e w' ⟨rfl, hb⟩)
    go_ret
    rw [HF.out]
    exact ⟨_, rfl, Kd.R_below HR.out hb, ⟨hb.os, hb.tape, hb.output, hb.size, fun k hk _ => hb.block k hk⟩⟩
  · rw [e1] at hIF
    obtain ⟨g0, cap, e2, hbase⟩ := rowE_form h (by omega)
    cases e2
    obtain ⟨kp, HK⟩ : ∃ kp : Nat → Bool, Aside0 (kp = fun j => !p xs.toArray[j]!) := ⟨_, ⟨rfl⟩⟩
    have tl : ∀ j, (hj : j < xs.length) → xs.toArray[j]! = xs[j] := fun j hj => by rw [getElem!_pos xs.toArray j (by simpa using hj)]; simp
    have hfil : (xs.filter fun x => !p x) = Go.Lib.keptUpTo kp xs.toArray xs.length := by rw [HK.out]; have := Go.Lib.keptUpTo_filter (fun x => !p x) xs.toArray; simpa using this.symm
    rw [hfil]
    have hkeep : ∀ j, j < k0 → kp j = true := fun j hj => by rw [HK.out]; show (!p xs.toArray[j]!) = true; rw [tl j (by omega), hall j hj]; rfl
    have hdrop : kp k0 = false := by rw [HK.out]; show (!p xs.toArray[k0]!) = false; rw [tl k0 hk0, ht]; rfl
    have hne1 : ((k0 : Int) == -1) = false := beq_eq_false_iff_ne.2 (by omega)
    have HP := Aside0.mk hp
    have HI := Aside0.mk hIF
    have HST := Aside0.mk (Go.Lib.KeptInv.start (d := xs.toArray) hkeep hdrop)
    have TL := Aside0.mk tl
    have HB0 := Aside0.mk hbase
    have HR0 := Aside0.mk h
    clear hIF h hC hp hall hkeep hdrop hfil ht tl e1 hbase
    go_enter Try.func72, Try.ntmps72
    go_wp2_with (go_at_call 108; refine HI.out.mono ?_; rintro e w1 ⟨rfl, hb⟩)
    have HG1 := Aside0.mk (show w.grownBy w1 (some g0) from ⟨hb.os, hb.tape, hb.output, hb.size, fun k hk _ => hb.block k hk⟩)
    have HR1 := Aside0.mk (show Kd.R k69 69 w1 base (fun _ => True) (.slice (some ⟨g0, 0, none⟩) xs.length c) xs.toArray.toList from Kd.R_below HR0.out hb)
    clear hb HR0
    go_loopg [5, 6] xs.length (fun gg s5 s6 wr => ∃ (i j : Nat) (dk : Array S69), s5 = .int .i64 i ∧ s6 = .int .i64 j ∧ j ≤ xs.length ∧ xs.length - j ≤ gg ∧ Aside0 (Go.Lib.KeptInv kp xs.toArray j i dk) ∧ Aside0 (w.grownBy wr (some g0)) ∧ Aside0 (Kd.R k69 69 wr base (fun _ => True) (.slice (some ⟨g0, 0, none⟩) xs.length c) dk.toList))
    case atStart => exact ⟨k0, k0 + 1, xs.toArray, rfl, by go_num, by omega, by omega, HST, HG1, HR1⟩
    case round =>
      clear HR1 HG1 HST
      obtain ⟨i, j, dk, rfl, rfl, hjd, hgg, I2, HG, HR⟩ := hrel
      have hij := I2.out.lt
      have hds : dk.size = xs.length := by have := I2.out.size; simpa using this
      by_cases hlt : j < xs.length
      · have hltz : (j : Int) < (xs.length : Int) := by omega
        have hj1 : dk[j]! = xs[j] := by rw [I2.out.high j (by omega), TL.out j hlt]
        have hjr : rd_T69 dk.toList j = xs[j] := by
          rw [← hj1, getElem!_pos dk j (by omega)]
          simp [rd_T69, show j < dk.size from by omega]
        have HRC := Aside0.mk (Kd.R_reads' HR.out).2.2
        have hdl : (dk.toList.length : Int) = xs.length := by simp [hds]
        obtain ⟨ad, e, hx0, hx1, hx2⟩ := at_T69 HRC.out (j : Int) (by omega) (by omega)
        cases e
        rw [hjr, Int.toNat_natCast] at hx0 hx1 hx2
        simp only [add_plain] at hx0 hx1 hx2
        have hcall := fun W (hW : w.grownBy W (some g0)) => HP.out xs[j] W (List.getElem_mem hlt) hW
        have hkj : kp j = !p xs[j] := by rw [HK.out]; show (!p xs.toArray[j]!) = _; rw [TL.out j hlt]
        have hdj : xs.toArray[j]! = xs[j] := TL.out j hlt
        generalize xs[j] = u at hx0 hx1 hx2 hcall hkj hdj
        have HKJ := Aside0.mk hkj
        have HDJ := Aside0.mk hdj
        have HGA := Aside0.mk (HG.out.trans (World.grownBy_alloc wr (Obj.cells #[.string u.f0, .string u.f1, .int .i64 u.f2] 69) (some g0)))
        have HRA := Aside0.mk (Kd.R_alloc HR.out (Obj.cells #[.string u.f0, .string u.f1, .int .i64 u.f2] 69))
        have HCALL := Aside0.mk (hcall _ HGA.out)
        have HBL := Aside0.mk (heap_alloc_new wr (Obj.cells #[.string u.f0, .string u.f1, .int .i64 u.f2] 69))
        clear hkj hdj hj1 hjr hdl hcall HRC
        cases hq : p u with
        | false =>
          go_wp2_with fail
          refine HCALL.out.mono ?_
          rintro e w2 ⟨he, hb2⟩
          subst he
          rw [hq]
          have HX2 := Aside0.mk ((hb2.block wr.heap.size (by simp)).trans HBL.out)
          have HR2 := Aside0.mk (Kd.R_below HRA.out hb2)
          have HG2 := Aside0.mk (HGA.out.trans (show _ from ⟨hb2.os, hb2.tape, hb2.output, hb2.size, fun k hk _ => hb2.block k hk⟩ : World.grownBy _ w2 (some g0)))
          have hb0 : w2.cell? ⟨wr.heap.size, 0, none⟩ = some (.string u.f0) := (blk_cell HX2.out 0).trans rfl
          have hb1 : w2.cell? ⟨wr.heap.size, 1, none⟩ = some (.string u.f1) := (blk_cell HX2.out 1).trans rfl
          have hb3 : w2.cell? ⟨wr.heap.size, 2, none⟩ = some (.int .i64 u.f2) := (blk_cell HX2.out 2).trans rfl
          have hdl : dk.toList.length = xs.length := by simp [hds]
          obtain ⟨ce, hcl, hM, hcc, hfr⟩ := Kd.R_elem (d := k69) HR2.out z69 (i : Int) (by omega) (by omega)
          obtain rfl := k69_openM hM
          have hy0 : w2.cell? ⟨g0, i * 3, none⟩ = some (.string (rd_T69 dk.toList i).f0) := hcc 0 _ rfl
          have hy1 : w2.cell? ⟨g0, i * 3 + 1, none⟩ = some (.string (rd_T69 dk.toList i).f1) := hcc 1 _ rfl
          have hy2 : w2.cell? ⟨g0, i * 3 + 2, none⟩ = some (.int .i64 (rd_T69 dk.toList i).f2) := hcc 2 _ rfl
          have hz0 : w2.frozen? ⟨g0, i * 3, none⟩ = false := hfr 0
          have hz1 : w2.frozen? ⟨g0, i * 3 + 1, none⟩ = false := hfr 1
          have hz2 : w2.frozen? ⟨g0, i * 3 + 2, none⟩ = false := hfr 2
          have hP := Kd.R_seg HR2.out (i : Int) (by omega) (by omega) (seg := encE u) (j := 0) hcl hcc (show 3 ≤ 3 from by decide) (x' := u) (k69_mkM _ _ _ u) (fun _ hk => hk)
          have HR3 := Aside0.mk hP.1
          have HG3 := Aside0.mk (HG2.out.trans hP.2)
          simp only [encE, World.setCells, show k69.sz = 3 from rfl, Nat.add_zero, Int.toNat_natCast, Nat.add_assoc, Nat.reduceAdd] at HR3 HG3
          have hiz : (i : Int) < (xs.length : Int) := by omega
          clear hP hcl hM hcc hfr hdl hb2 HR2 HG2 HX2 hx0 hx1 hx2
          go_wp2
          go_roundg (xs.length - (j + 1))
          case measure => omega
          case rel =>
            refine ⟨i + 1, j + 1, dk.setIfInBounds i u, by go_num, by go_num, by omega, Nat.le_refl _, ⟨?_⟩, HG3, ⟨?_⟩⟩
            · have := I2.out.keep (by simpa using hlt) (by rw [HKJ.out, hq]; rfl)
              rwa [HDJ.out] at this
            · rw [Array.toList_setIfInBounds]; exact HR3.out
        | true =>
          go_wp2_with fail
          refine HCALL.out.mono ?_
          rintro e w2 ⟨he, hb2⟩
          subst he
          rw [hq]
          have HR2 := Aside0.mk (Kd.R_below HRA.out hb2)
          have HG2 := Aside0.mk (HGA.out.trans (show _ from ⟨hb2.os, hb2.tape, hb2.output, hb2.size, fun k hk _ => hb2.block k hk⟩ : World.grownBy _ w2 (some g0)))
          clear hb2 hx0 hx1 hx2
          go_wp2
          go_roundg (xs.length - (j + 1))
          case measure => omega
          case rel => exact ⟨i, j + 1, dk, rfl, by go_num, by omega, Nat.le_refl _, ⟨I2.out.skip (by rw [HKJ.out, hq]; rfl)⟩, HG2, HR2⟩
      · obtain rfl : j = xs.length := by omega
        have hltz : ¬ (xs.length : Int) < (xs.length : Int) := by omega
        obtain ⟨hown, hok⟩ := Flat.own flatE HR.out
        have hdl : dk.toList.length = xs.length := by simp [hds]
        rw [hdl] at hown
        obtain ⟨hrow, _⟩ := RowK.of hown
        have hcap : xs.length ≤ c := hrow.room
        have hzc : (Value.agg #[.string ⟨#[]⟩, .string ⟨#[]⟩, .int .i64 0]).cells.size = 3 := rfl
        have hcl : ∀ ty, (Builtin.clear_ #[63] ty #[.slice (some ⟨g0, i * 3, none⟩) (xs.length - i) (c - i)]).run Try.prog wr = .ok (.tuple #[]) (wr.setCells g0 (i * 3) (Builtin.zeroCells (Value.agg #[.string ⟨#[]⟩, .string ⟨#[]⟩, .int .i64 0]).cells (xs.length - i)).toList) :=
          fun ty => run_clear_rows wr 63 69 ty (.agg #[.string ⟨#[]⟩, .string ⟨#[]⟩, .int .i64 0]) Try.underlying63 (fun _ => by kernel_rfl) (by simp [Value.cells, Value.oneCell']) g0 (i * 3) (xs.length - i) (c - i) (by omega)
            (fun t ht => (hrow.at (i * 3 + t) (by rw [hzc] at ht; rw [szE]; omega)).1) (fun t ht => (hrow.at (i * 3 + t) (by rw [hzc] at ht; rw [szE]; omega)).2.1)
        have HROW := Aside0.mk hrow
        clear hrow hown hok hdl
        go_wp2
        go_ret
        have hI := I2.out
        have hl : (Go.Lib.keptUpTo kp xs.toArray xs.length).length = i := hI.len
        have htk : dk.toList.take i = Go.Lib.keptUpTo kp xs.toArray xs.length := by
          apply List.ext_getElem?
          intro t
          rw [List.getElem?_take]
          split
          · rename_i htt
            rw [hI.low t htt, Array.getElem?_toList, Array.getElem?_eq_getElem (by omega), getElem!_pos dk t (by omega)]
          · rw [List.getElem?_eq_none]; omega
        refine ⟨_, rfl, ?_, HG.out.trans (grown_setCells _ _ _ _)⟩
        refine Flat.put flatE ?_ (fun _ _ => trivial)
        have := (HROW.out.strike i (by omega) (Builtin.zeroCells (Value.agg #[.string ⟨#[]⟩, .string ⟨#[]⟩, .int .i64 0]).cells (xs.length - i)).toList (by rw [Array.length_toList, size_zeroCells]; rfl)).put HB0.out
        rw [← Flat.ftake flatE, htk] at this
        rw [hl]; exact this
open Go.Proofs.He
def alikeL (l : List (List S69)) : List S69 := (l.getD 0 []).filter fun x => !decide ((l.flatten.count x : Int) < (l.length : Int))
theorem count_sub {zs : List {x : S69 // EOk x}} {l : List S69} (h : zs.map (·.1) = l) (x : S69) (hx : EOk x) : @List.count _ instBEqOfDecidableEq ⟨x, hx⟩ zs = l.count x := by
  subst h
  induction zs with
  | nil => rfl
  | cons z zs ih =>
    rw [List.map_cons, @List.count_cons _ instBEqOfDecidableEq, List.count_cons, ih]
    congr 1
    by_cases e : z = ⟨x, hx⟩
    · subst e; simp
    · have : z.1 ≠ x := fun h => e (Subtype.ext h)
      simp [e, this]
set_option maxHeartbeats 4000000 in
set_option maxRecDepth 100000 in
theorem split_Alike.walk (A0 : Option Addr) (c0 : Nat) (l : List (List S69)) (w : World) (hr0 : Kd.C (Kd.slice 69 k69) w A0 l.length l) (hwf : ∀ x ∈ l.flatten, EOk x) (hlim : l.flatten.length < 3518437208883) :
    Calls Try.prog 30 #[.slice A0 l.length c0] w fun e w' => ∃ v, e = .returned v ∧ Kd.R k69 69 w' w.heap.size (fun _ => True) v (alikeL l) ∧ Below w.heap.size w w' := by
  have hb0 := below_alloc (Below.refl w.heap.size w) (Obj.cells #[.slice A0 l.length c0] 61)
  have hlen : l.length ≤ 9223372036854775807 := hr0.2.1
  have HR0 := Aside0.mk (Kd.C_below hr0 hb0)
  have HWF := Aside0.mk hwf
  have HPL := Aside0.mk (heap_alloc_new w (Obj.cells #[.slice A0 l.length c0] 61))
  have HB0 := Aside0.mk hb0
  clear hr0 hwf hb0
  by_cases hl0 : l.length = 0
  · have : l = [] := List.eq_nil_of_length_eq_zero hl0
    subst this
    go_enter Try.func30, Try.ntmps30
    go_wp2
    go_ret
    exact ⟨_, rfl, Kd.R_nil _ _ _ _ _, HB0.out⟩
  · have hlz : ((l.length : Int) == 0) = false := beq_eq_false_iff_ne.2 (by omega)
    have hlp : (0 : Int) < (l.length : Int) := by omega
    have HCC := Aside0.mk (split_count_Entry.walk A0 c0 l _ HR0.out HWF.out (by omega))
    go_enter Try.func30, Try.ntmps30
    go_wp2_with fail
    refine HCC.out.mono ?_
    rintro e w1 ⟨b, zs, C, rfl, hb, hzs, hC, hb1⟩
    have HZ := Aside0.mk hzs
    have HB1 := Aside0.mk (below_then HB0.out (by simp) hb1)
    have HPL1 := Aside0.mk ((hb1.block w.heap.size (by simp)).trans HPL.out)
    have HR1 := Aside0.mk (Kd.C_below HR0.out hb1)
    have hb2 := below_alloc (Below.refl w1.heap.size w1) (Obj.cells #[.map (some b)] 109)
    have HPM := Aside0.mk (heap_alloc_new w1 (Obj.cells #[.map (some b)] 109))
    have HC2 := Aside0.mk (hC.below hb2)
    have HR2 := Aside0.mk (Kd.C_below HR1.out hb2)
    have HPL2 := Aside0.mk ((hb2.block w.heap.size (by have := hb1.size; simp at this; omega)).trans HPL1.out)
    have HB2 := Aside0.mk (below_then HB1.out (by have := hb1.size; simp at this; omega) hb2)
    have hsz1 : w.heap.size < w1.heap.size := by have := hb1.size; simp at this; omega
    obtain ⟨ad, Ar, cr, e, hrx, hrl, hrc⟩ := at_rows HR2.out (0 : Int) (by omega) (by omega)
    cases e
    rw [Int.toNat_zero] at hrx hrl hrc
    have e0 : ad.add 0 = ad := by obtain ⟨x, y, z⟩ := ad; unfold Addr.add; split <;> simp_all
    rw [e0] at hrx
    clear e0
    have hml := readTo_length (xs := l) 0 (l.getD 0 []).length
    have hmz : readTo l 0 (l.getD 0 []).length = l.getD 0 [] := by simp [readTo]
    rw [hmz] at hml
    have HMEM := Aside0.mk (fun x (hx : x ∈ l.getD 0 []) => HWF.out x (mem_rows hx))
    obtain ⟨ns, hns⟩ : ∃ ns, ns = l.getD 0 [] := ⟨_, rfl⟩
    have HN := Aside0.mk hns
    rw [← hns] at hrx hrl hrc hml HMEM
    have HCL := Aside0.mk (slices_Clone_Entry.walk Ar cr ns _ hrc (by omega))
    have HNE := Aside0.mk (show w1.heap.size ≠ w.heap.size from by omega)
    have hpl0 : (w1.alloc (Obj.cells #[.map (some b)] 109)).cell? ⟨w.heap.size, 0, none⟩ = some (.slice (some ad) l.length c0) := (blk_cell HPL2.out 0).trans rfl
    clear hzs hb1 hb2 hC HR0 HPL HB0 HCC hns hml hmz hb hrc hrl HR1 HPL1 HB1
    go_wp2_with fail
    refine HCL.out.mono ?_
    rintro e w3 ⟨v3, rfl, hr3, hb3⟩
    have HC3 := Aside0.mk (HC2.out.below hb3)
    have HPL3 := Aside0.mk ((hb3.block w.heap.size (by simp; omega)).trans HPL2.out)
    have HPM3 := Aside0.mk ((hb3.block w1.heap.size (by simp)).trans HPM.out)
    have HB3 := Aside0.mk (below_then HB2.out (by simp; omega) hb3)
    have HR3 := Aside0.mk hr3
    have hdel := slices_DeleteFunc_Entry.calls 74 #[.pointer (some ⟨w1.heap.size, 0, none⟩), .pointer (some ⟨w.heap.size, 0, none⟩)] (enters_of Try.func74 (by kernel_rfl) rfl) (fun x => decide ((l.flatten.count x : Int) < (l.length : Int))) HR3.out (fun x W hx hg => by
      have hbs : ∀ q, q ≤ w1.heap.size → some q ≠ v3.ownBlock := fun q hq e => by
        have := own_base (Kd.R_own HR3.out).choose_spec q e.symm
        simp at this; omega
      have := split_Alike_1.calls w1.heap.size w.heap.size b l.length c0 (some ad) zs C x (HMEM.out x hx) W (HC3.out.grown hg (own_ne_row HC3.out.own HR3.out))
        ((hg.block _ (blk_lt HPM3.out) (hbs _ (Nat.le_refl _))).trans HPM3.out) ((hg.block _ (blk_lt HPL3.out) (hbs _ (by omega))).trans HPL3.out)
      rw [count_sub HZ.out] at this
      exact this)
    have HD := Aside0.mk hdel
    obtain ⟨Av, cv, rfl⟩ := Kd.R_slice HR3.out
    clear hdel hr3 hb3 HCL hpl0
    go_wp2_with fail
    refine HD.out.mono ?_
    rintro e w4 ⟨v4, rfl, hr4, hg4⟩
    go_wp2
    go_ret
    refine ⟨_, rfl, ?_, HB3.out.grown hg4 HB3.out.size (fun k e => Nat.le_trans (by simp; omega) (own_base (Kd.R_own HR3.out).choose_spec k e))⟩
    rw [alikeL, ← HN.out]
    exact Kd.R_lower hr4 (by simp; omega)
def split_Alike.f (l : List (List S69)) : Option (List S69) := if l.flatten.length < 3518437208883 ∧ (∀ x ∈ l.flatten, EOk x) then some (alikeL l) else none
theorem split_Alike.calls (A0 : Option Addr) (c0 : Nat) (l0 : List (List S69)) (r : List S69) (w : World) (hr0 : Kd.C (Kd.slice 69 k69) w A0 l0.length l0) (hc0 : l0.length ≤ c0) (h : split_Alike.f l0 = some r) :
    Calls Try.prog 30 #[.slice A0 l0.length c0] w fun e w' => ∃ v0_ : Value, e = .returned (v0_) ∧ Kd.R k69 69 w' w.heap.size (fun _ => True) v0_ r ∧ Below w.heap.size w w' := by
  unfold split_Alike.f at h
  split at h
  · rename_i hc
    obtain rfl := Option.some.inj h
    exact split_Alike.walk A0 c0 l0 w hr0 hc.2 hc.1
  · cases h
open Go.Proofs.He
theorem grow_int (n : Nat) (hn : n ≤ 17592186044416) (w : World) :
    Calls Try.prog 135 #[.slice none 0 0, .int .i64 n] w fun e w' => ∃ v, e = .returned v ∧ (Kd.int .i64).R 3 w' w.heap.size (fun _ => True) v [] ∧ Below w.heap.size w w' := by
  rcases Nat.eq_zero_or_pos n with h0 | h0
  · refine (Any8.slices_Grow_room Try.laysGrow none 0 0 n w (Nat.le_refl _) (by omega) (by omega) (by omega)).mono ?_
    rintro e w' ⟨rfl, rfl⟩
    exact ⟨_, rfl, Kd.R_nil _ _ _ _ _, Below.refl _ _⟩
  · obtain ⟨i0, hi, hzz⟩ := Option.map_eq_some_iff.1 info3
    simp only [Prod.mk.injEq] at hzz
    obtain ⟨hz0, hz1, hz2⟩ := hzz
    refine (Any8.slices_Grow_grow Try.laysGrow i0 _ hi hz0 (by omega) none 0 0 n [] w (Nat.le_refl _) (by omega) (by rw [hz2]; omega) (by omega) (by simp) (fun _ => rfl) (fun a h => by cases h)).mono ?_
    rintro e w' ⟨rfl, rfl⟩
    have hge := grownCap_ge w (0 + n) 0 (Try.laysGrow_ren.t 25)
    have hle := grownCap_le_maxLen w (0 + n) 0 (Try.laysGrow_ren.t 25) (by unfold maxLen; omega)
    generalize grownCap w (0 + n) 0 (Try.laysGrow_ren.t 25) = G at hge hle ⊢
    refine ⟨_, rfl, Flat.put (flatScalar _ _) ⟨by simp, .inr ⟨w.heap.size, _, _, rfl, Nat.le_refl _, heap_alloc_new w.drew _, Nat.zero_le _, hle, ?_, by simp⟩⟩ (fun _ _ => trivial), (pw_below_drewN (Below.refl _ _) 1).alloc (Nat.le_refl _) _⟩
    have e1 : ∀ m, (Builtin.zeroCells (Value.int .i64 0).cells m).size = m := fun m => by rw [size_zeroCells]; simp [Value.cells]
    simp only [Array.size_append, e1]
    show _ = _ * 1
    simp
    omega
set_option maxHeartbeats 4000000 in
set_option maxRecDepth 100000 in
theorem slices_Concat_int.walk (A0 : Option Addr) (c0 : Nat) (xs : List (List Int)) (w : World) (hr0 : Kd.C (Kd.slice 3 (Kd.int .i64)) w A0 xs.length xs) (hlim : xs.flatten.length < 17592186044416) :
    Calls Try.prog 109 #[.slice A0 xs.length c0] w fun e w' => ∃ v, e = .returned v ∧ (Kd.int .i64).R 3 w' w.heap.size (fun _ => True) v xs.flatten ∧ Below w.heap.size w w' := by
  have hlen : xs.length ≤ 9223372036854775807 := hr0.2.1
  have HR0 := Aside0.mk hr0
  clear hr0
  go_enter Try.func109, Try.ntmps109
  go_wp2
  go_loop [3, 11] (fun v3 v11 => ∃ (i : Nat), v11 = .int .i64 i ∧ i ≤ xs.length ∧ v3 = .int .i64 ((readTo xs i 0).length : Int)) (fun _ v => xs.length - (intOf v).toNat)
  case atStart => exact ⟨0, rfl, Nat.zero_le _, by rw [readTo_zero]; rfl⟩
  case round =>
    obtain ⟨i, rfl, hi, rfl⟩ := hrel
    by_cases hlt : i < xs.length
    · obtain ⟨ad, Ar, cr, e, hrx, hrl, hrc⟩ := at_rows HR0.out (i : Int) (by omega) (by omega)
      cases e
      rw [Int.toNat_natCast] at hrx hrl hrc
      have hl1 := readTo_length (xs := xs) i 0
      have hl2 := readTo_length (xs := xs) (i + 1) 0
      have hl3 : (readTo xs (i + 1) 0).length = (readTo xs i 0).length + (xs.getD i []).length := by
        rw [readTo_zero, ← readTo_row hlt]; simp [readTo]
      generalize (xs.getD i []).length = q at hrx hrl hl3
      have HL := Aside0.mk hl3
      have hq : (readTo xs i 0).length + q < 17592186044416 := by omega
      clear hl3 hrc hl2
      generalize (readTo xs i 0).length = p at hq HL hl1 ⊢
      have hn : ¬ ((p : Int) + (q : Int) < 0) := by omega
      go_wp2
      go_round
      case rel => exact ⟨i + 1, by go_num, by omega, by rw [HL.out]; go_num⟩
      case measure => simp [intOf]; omega
    · have hil : i = xs.length := by omega
      have HF := Aside0.mk (show readTo xs i 0 = xs.flatten from by rw [hil, readTo_zero, List.take_length])
      rw [HF.out]
      obtain ⟨T, hT⟩ : ∃ T, xs.flatten.length = T := ⟨_, rfl⟩
      rw [hT] at hlim ⊢
      have HG := Aside0.mk (grow_int T (by omega) w)
      have HT := Aside0.mk hT
      clear HF hT
      go_wp2_with fail
      (with_reducible refine HG.out.mono ?_)
      rintro e w1 ⟨v1, rfl, hr1, hb1⟩
      have HB := Aside0.mk hb1
      have HR := Aside0.mk (show (Kd.int .i64).R 3 w1 w.heap.size (fun _ => True) v1 (readTo xs 0 0) from by rw [readTo_zero]; exact hr1)
      clear hr1 hb1 HG hlt
      have hlim2 := hlim
      rw [← HT.out] at hlim2
      subst hil
      clear hi
      go_wp2
      go_loopw [6, 27] (fun v6 v27 wr => ∃ (i : Nat), v27 = .int .i64 i ∧ i ≤ xs.length ∧ Aside0 ((Kd.int .i64).R 3 wr w.heap.size (fun _ => True) v6 (readTo xs i 0)) ∧ Aside0 (Below w.heap.size w wr)) (fun _ v _ => xs.length - (intOf v).toNat)
      case atStart => exact ⟨0, rfl, Nat.zero_le _, HR, HB⟩
      case round =>
        clear HR HB
        obtain ⟨i, rfl, hi, HR, HB⟩ := hrel
        by_cases hlt : i < xs.length
        · obtain ⟨ad, Ar, cr, e, hrx, hrl, hrc⟩ := at_rows HR0.out (i : Int) (by omega) (by omega)
          cases e
          replace hrx := (HB.out.cell (World.block_lt_of_cell? w _ hrx)).trans hrx
          rw [Int.toNat_natCast] at hrx hrl hrc
          have hl2 := readTo_length (xs := xs) (i + 1) 0
          have hl3 : readTo xs (i + 1) 0 = readTo xs i 0 ++ xs.getD i [] := by
            rw [readTo_zero, ← readTo_row hlt]; simp [readTo]
          obtain ⟨ns, hns⟩ : ∃ ns, ns = xs.getD i [] := ⟨_, rfl⟩
          rw [← hns] at hrx hrl hrc hl3
          have HL := Aside0.mk hl3
          have HC := Aside0.mk (Kd.C_below hrc HB.out)
          have hq : (readTo xs i 0).length + ns.length < 17592186044416 := by rw [hl3, List.length_append] at hl2; omega
          have HQ := Aside0.mk (show ((readTo xs i 0).length + ns.length) * 8 ≤ 140737488355328 from by omega)
          clear hl3 hrc hl2 hns hrl hq
          go_wp2_with (first | (at_builtin; refine Kd.R_append_rows (Kd.int .i64) (w0 := w) w.heap.size rfl (.tmp 31) (.tmp 32) 65 3 (.int .i64 0) 8 rfl Try.underlying65 info3 rfl (by decide) (by omega) _ (readTo xs i 0) ns Ar ns.length cr (fun _ => True) (fun _ => False) rfl rfl HR.out HC.out (fun x cs h => ((flatScalar _ _).M _ _ _ _ _).2 (((flatScalar _ _).K _ _ _).1 h)) (fun _ h => h.elim) (fun _ _ => trivial) HB.out HB.out.size HQ.out ?_; intro v2 w2 hr2 hb2 _ _) | go_in)
          have HR2 := Aside0.mk (show (Kd.int .i64).R 3 w2 w.heap.size (fun _ => True) v2 (readTo xs (i + 1) 0) from by rw [HL.out]; exact hr2)
          have HB2 := Aside0.mk hb2
          clear hr2 hb2
          go_roundw
          case rel => exact ⟨i + 1, by go_num, by omega, HR2, HB2⟩
          case measure => simp [intOf]; omega
        · have hil : i = xs.length := by omega
          have HF := Aside0.mk (show readTo xs i 0 = xs.flatten from by rw [hil, readTo_zero, List.take_length])
          rw [HF.out] at HR
          go_wp2
          go_ret
          exact ⟨_, rfl, HR.out, HB.out⟩
open Go.Proofs.He
theorem sort_int.walk {base : Nat} {ok : Nat → Prop} {v : Value} {xs : List Int} {w : World} (h : (Kd.int .i64).R 3 w base ok v xs) (hsz : xs.length < 4611686018427387904) :
    Calls Try.prog 76 #[v] w fun e' w' => e' = .returned (.tuple #[]) ∧ (Kd.int .i64).R 3 w' base ok v (xs.mergeSort fun x y => decide (x ≤ y)) ∧ w.grownBy w' v.ownBlock :=
  sort_row (srt := fun xs => xs.mergeSort fun x y => decide (x ≤ y)) (fun l => List.length_mergeSort l) (by simp) (fun p cap w => Any.slices_Sort_int_none Try.laysSort p cap w) (fun blk off cap zs w h1 h2 h3 => Any.slices_Sort_int Try.laysSort blk off cap zs w h1 h2 h3) h hsz
open Go.Proofs.He
theorem slices_Compact_int.walk {e base : Nat} {ok : Nat → Prop} {v : Value} {xs : List Int} {w : World} (h : (Kd.int .i64).R e w base ok v xs) :
    Calls Try.prog 77 #[v] w fun e' w' => ∃ v', e' = .returned v' ∧ (Kd.int .i64).R e w' base ok v' (Lib.compact xs) ∧ w.grownBy w' v.ownBlock :=
  compact_row (fun a cap w => Any.slices_Compact_int_empty Try.laysCompact a cap w) (fun blk off cap zs w h1 h2 h3 => Any.slices_Compact_int Try.laysCompact blk off cap zs w h1 h2 h3) h
open Go.Proofs.He
set_option maxHeartbeats 4000000 in
set_option maxRecDepth 100000 in
theorem split_rising.walk (A0 : Option Addr) (c0 : Nat) (xs : List (List Int)) (w : World) (hr0 : Kd.C (Kd.slice 3 (Kd.int .i64)) w A0 xs.length xs) (hlim : xs.flatten.length < 17592186044416) :
    Calls Try.prog 75 #[.slice A0 xs.length c0] w fun e w' => ∃ v, e = .returned v ∧ (Kd.int .i64).R 3 w' w.heap.size (fun _ => True) v (riseL xs.flatten) ∧ Below w.heap.size w w' := by
  have HC0 := Aside0.mk (slices_Concat_int.walk A0 c0 xs w hr0 hlim)
  have HL := Aside0.mk hlim
  clear hr0 hlim
  go_enter Try.func75, Try.ntmps75
  go_wp2_with fail
  (with_reducible refine HC0.out.mono ?_)
  rintro e w0 ⟨v0, rfl, hr0, hb0⟩
  have HB0 := Aside0.mk hb0
  have HR0 := Aside0.mk hr0
  have HS := Aside0.mk (sort_int.walk hr0 (by have := HL.out; omega))
  clear hr0 hb0 HC0
  go_wp2_with (go_at_call 76; refine HS.out.mono ?_; rintro e w1 ⟨rfl, hr1, hg1⟩)
  have HB1 := Aside0.mk (HB0.out.grown hg1 HB0.out.size (fun k e => own_base (Kd.R_own HR0.out).choose_spec k e))
  have HR1 := Aside0.mk hr1
  have HC := Aside0.mk (slices_Compact_int.walk hr1)
  clear hg1 hr1
  go_wp2_with fail
  refine HC.out.mono ?_
  rintro e w2 ⟨v2, rfl, hr2, hg2⟩
  go_wp2
  go_ret
  exact ⟨_, rfl, hr2, HB1.out.grown hg2 HB1.out.size (fun k e => own_base (Kd.R_own HR1.out).choose_spec k e)⟩
end Go.Proofs.Ytmmalieacakcbaa.S
end
section
namespace Go.Proofs.Ytmmalieacakcbaa.S
open Go.RowKit Go.Proofs.YtmmalieacakcbaaW.PrintWords Go.Proofs.YtmmalieacakcbaaW.PrintLast Go.Proofs.YtmmalieacakcbaaW.PrintMore
attribute [local go_sem] max2_int min2_int max_two min_two max_three min_three max_four min_four
set_option linter.unusedVariables false
set_option linter.unusedSimpArgs false
theorem eqA69 (d : Nat) (w : World) (x0 y0 : ByteArray) (x1 y1 : ByteArray) (x2 y2 : Int) :
    (Op.equalIn (d + 2) 69 (.agg #[.string x0, .string x1, .int .i64 x2]) (.agg #[.string y0, .string y1, .int .i64 y2])).run Try.prog w = .ok (x0.toList == y0.toList && (x1.toList == y1.toList && (x2 == y2))) w := by
  refine eqA_of Try.underlying69 (by kernel_rfl) ?_
  refine eqf_cons (by rfl) (by go_simp; rfl) (by go_simp; rfl) (by go_simp) ?_
  refine eqf_cons (by rfl) (by go_simp; rfl) (by go_simp; rfl) (by go_simp) ?_
  exact eqf_last (by rfl) (by go_simp; rfl) (by go_simp; rfl) (by go_simp)
end Go.Proofs.Ytmmalieacakcbaa.S
end
section
namespace Go.Proofs.Ytmmalieacakcbaa.S
open Go.RowKit Go.Proofs.YtmmalieacakcbaaW.PrintWords Go.Proofs.YtmmalieacakcbaaW.PrintLast Go.Proofs.YtmmalieacakcbaaW.PrintMore
attribute [local go_sem] max2_int min2_int max_two min_two max_three min_three max_four min_four
set_option linter.unusedVariables false
set_option linter.unusedSimpArgs false
attribute [local go_sem high] eqA69
open Go.Proofs.He
def apartL (l : List (List S69)) : List Int := riseL ((l.flatten.filter fun x => decide ((l.flatten.count x : Int) < (l.length : Int))).map fun x => x.f2)
theorem apart_eq {zs : List {x : S69 // EOk x}} {l : List (List S69)} (h : zs.map (·.1) = l.flatten) {ys : List Int} (hy : ∀ z, z ∈ ys ↔ ∃ x ∈ zs, (@List.count _ instBEqOfDecidableEq x zs : Int) < (l.length : Int) ∧ x.1.f2 = z) : riseL ys = apartL l := by
  refine riseL_eq (fun z => ?_)
  rw [hy, List.mem_map]
  constructor
  · rintro ⟨x, h1, h2, h3⟩
    refine ⟨x.1, List.mem_filter.2 ⟨by rw [← h]; exact List.mem_map.2 ⟨x, h1, rfl⟩, ?_⟩, h3⟩
    rw [decide_eq_true_iff, ← count_sub h x.1 x.2]; exact h2
  · rintro ⟨x, h1, h2⟩
    obtain ⟨h3, h4⟩ := List.mem_filter.1 h1
    rw [← h] at h3
    obtain ⟨x', h5, rfl⟩ := List.mem_map.1 h3
    rw [decide_eq_true_iff, ← count_sub h x'.1 x'.2] at h4
    exact ⟨x', h5, h4, h2⟩
abbrev FewE (C : List ({x : S69 // EOk x} × Int)) (w : World) (b r base : Nat) (n : Int) (v : Value) (ys : List Int) (todo : List {x : S69 // EOk x}) : Prop := Few entK Try.underlying3 (fun x => x.1.f2) C w b r base n v ys todo
set_option maxHeartbeats 8000000 in
set_option maxRecDepth 100000 in
theorem split_Apart.walk (A0 : Option Addr) (c0 : Nat) (l : List (List S69)) (w : World) (hr0 : Kd.C (Kd.slice 69 k69) w A0 l.length l) (hwf : ∀ x ∈ l.flatten, EOk x) (hlim : l.flatten.length < 3518437208883) :
    Calls Try.prog 31 #[.slice A0 l.length c0] w fun e w' => ∃ v, e = .returned v ∧ (Kd.int .i64).R 3 w' w.heap.size (fun _ => True) v (apartL l) ∧ Below w.heap.size w w' := by
  have hu69 := Try.underlying69
  have hlen : l.length ≤ 9223372036854775807 := hr0.2.1
  have HCC := Aside0.mk (split_count_Entry.walk A0 c0 l w hr0 hwf (by omega))
  have HLIM := Aside0.mk hlim
  clear hr0 hwf hlim
  go_enter Try.func31, Try.ntmps31
  go_wp2_with fail
  refine HCC.out.mono ?_
  rintro e w1 ⟨b, zs, C, rfl, hb, hzs, hC, hb1⟩
  have HZ := Aside0.mk hzs
  have HB1 := Aside0.mk hb1
  have HC := Aside0.mk hC
  have hcl := hC.len
  have hzl := congrArg List.length hzs
  rw [List.length_map] at hzl
  have HCL := Aside0.mk (show C.length < 3518437208883 from by have := HLIM.out; omega)
  clear hzs hC hb1 hcl hzl HCC
  go_wp2_with (first | (at_range; refine wpList_mrange rfl _ 109 rfl entK (intV Try.underlying3) 3 Try.underlying109 b C rfl HC.out.own ?_; intro w2 hi0 hg0 hs0) | go_in)
  go_frame
  generalize hrI : w1.heap.size = rI at hi0 ⊢
  have HBR := Aside0.mk (show b < rI ∧ w.heap.size ≤ rI from ⟨by rw [← hrI]; exact HC.out.own.lt, by rw [← hrI]; exact HB1.out.size⟩)
  have HC2 := Aside0.mk (HC.out.grown hg0 (by simp))
  have H0 := Aside0.mk (show FewE C w2 b rI w.heap.size l.length (.slice none 0 0) [] (C.map (·.1)) from ⟨hi0, Kd.R_nil _ _ _ _ _, fun z => ⟨fun h => by simp at h, fun ⟨p, h1, h2, _⟩ => absurd (List.mem_map.2 ⟨p, h1, rfl⟩) h2⟩, by simp⟩)
  have HB := Aside0.mk (HB1.out.grown hg0 HB1.out.size (fun k e => by cases e))
  clear hrI hi0 hg0 hs0 HB1 hb
  go_loopw [3] (fun v wr => ∃ (ys : List Int) (todo : List {x : S69 // EOk x}), Aside0 (FewE C wr b rI w.heap.size l.length v ys todo) ∧ Aside0 (Below w.heap.size w wr)) (fun _ wr => wr.rangeLeft b rI)
  case atStart => exact ⟨[], _, H0, HB⟩
  case round =>
    clear H0 HB
    obtain ⟨ys, todo, HI, HB⟩ := hrel
    go_wp2_with (first | (at_next; refine wpList_mnext rfl _ rfl entK (intV Try.underlying3) b rI C rfl HI.out.it ?_ ?_) | go_in)
    · intro ht
      subst ht
      have HY := Aside0.mk (apart_eq HZ.out (HI.out.done HC.out))
      have hyl : ys.length < 3518437208883 := by have := HI.out.len; have := HCL.out; simp at *; omega
      obtain ⟨Ay, cy, hv3, hyc, hry⟩ := Kd.R_reads HI.out.row
      subst hv3
      have hb9 := below_alloc (Below.refl wr.heap.size wr) (Obj.cells #[.slice Ay ys.length cy] 65)
      have HRS := Aside0.mk (split_rising.walk (some ⟨wr.heap.size, 0, none⟩) 1 [ys] _ (C_lit_rows (t := 65) [(Ay, cy, ys)] (heap_alloc_new wr (Obj.cells #[.slice Ay ys.length cy] 65)) (fun q hq => by rw [List.mem_singleton.1 hq]; exact ⟨hyc, Kd.C_below hry hb9⟩) (by simp)) (by simp; omega))
      have HB9 := Aside0.mk (below_then HB.out HB.out.size hb9)
      clear hry hyc hb9 hyl
      go_wp2_with (go_at_call 75; refine HRS.out.mono ?_; rintro e w9 ⟨v9, rfl, hr9, hb9⟩)
      go_ret
      refine ⟨_, rfl, ?_, below_then HB9.out HB9.out.size hb9⟩
      rw [← HY.out]
      have := Kd.R_lower hr9 HB9.out.size
      simpa using this
    · intro x hxo y w4 hx hxM hi1 hlt1 hg1 hs1 hen
      have hen' : (Instr.entry (.pointer (some ⟨rI, 0, none⟩))).run Try.prog w4 = .ok (.tuple #[.agg #[.string x.f0, .string x.f1, .int .i64 x.f2], .int .i64 y]) w4 := hen
      clear hen
      have hrv : some rI ≠ u3.ownBlock := iter_ne_row HI.out.it HI.out.row
      have hbv : some b ≠ u3.ownBlock := own_ne_row HI.out.it.own HI.out.row
      have HBV := Aside0.mk hbv
      have HRV := Aside0.mk hrv
      have HR1 := Aside0.mk (Kd.R_grown1 HI.out.row rfl hg1 hrv)
      have HB4 := Aside0.mk (HB.out.grown hg1 HB.out.size (fun k e => by cases e; exact HBR.out.2))
      have HG1 := Aside0.mk hlt1
      have HI1 := Aside0.mk hi1
      have HX := Aside0.mk hx
      have HXM := Aside0.mk hxM
      have hl : (ys.length + 1) * 8 ≤ 140737488355328 := by have := HI.out.len; have := HCL.out; omega
      have HL := Aside0.mk hl
      have HGA := Aside0.mk (World.grownBy_alloc w4 (Obj.cells #[.string x.f0, .string x.f1, .int .i64 x.f2] 69) none)
      have HRA := Aside0.mk (Kd.R_alloc HR1.out (Obj.cells #[.string x.f0, .string x.f1, .int .i64 x.f2] 69))
      have HBA := Aside0.mk (below_alloc HB4.out (Obj.cells #[.string x.f0, .string x.f1, .int .i64 x.f2] 69))
      have HIA := Aside0.mk (HI1.out.grown HGA.out (by simp) (by simp))
      have HLA := Aside0.mk (HI1.out.left_grown HGA.out (by simp) (by simp))
      clear hg1 hlt1 hi1 hx hxM hl hs1 hrv hbv HR1 HB4
      by_cases hy : y < (l.length : Int)
      · go_wp2_with (first | (at_builtin; refine Kd.R_append (Kd.int .i64) (w0 := w) w.heap.size rfl _ _ 65 3 (.int .i64 0) 8 rfl Try.underlying65 info3 rfl (by decide) (by omega) u3 ys x.f2 [.int .i64 x.f2] (fun _ => True) (fun _ => False) rfl (by first | rfl | (go_simp; done) | (simp [World.alloc, Act.eval]; done)) rfl (fun _ hk => hk.elim) (fun _ _ => trivial) HRA.out HBA.out HBA.out.size HL.out ?_; intro v2 w5 hr2 hb2 hg2 hat2) | go_in)
        go_roundw
        case rel => exact ⟨_, _, ⟨HI.out.yes HX.out HXM.out hy (HIA.out.grown hg2 HBV.out HRV.out) hr2⟩, ⟨hb2⟩⟩
        case measure => rw [HIA.out.left_grown hg2 HBV.out HRV.out, HLA.out]; exact HG1.out
      · go_wp2
        go_roundw
        case rel => exact ⟨_, _, ⟨HI.out.no HX.out HXM.out hy HIA.out HRA.out⟩, HBA⟩
        case measure => rw [HLA.out]; exact HG1.out
def split_Apart.f (l : List (List S69)) : Option (List Int) := if l.flatten.length < 3518437208883 ∧ (∀ x ∈ l.flatten, EOk x) then some (apartL l) else none
theorem split_Apart.calls (A0 : Option Addr) (c0 : Nat) (l0 : List (List S69)) (r : List Int) (w : World) (hr0 : Kd.C (Kd.slice 69 k69) w A0 l0.length l0) (hc0 : l0.length ≤ c0) (h : split_Apart.f l0 = some r) :
    Calls Try.prog 31 #[.slice A0 l0.length c0] w fun e w' => ∃ v0_ : Value, e = .returned (v0_) ∧ (Kd.int .i64).R 3 w' w.heap.size (fun _ => True) v0_ r ∧ Below w.heap.size w w' := by
  unfold split_Apart.f at h
  split at h
  · rename_i hc
    obtain rfl := Option.some.inj h
    exact split_Apart.walk A0 c0 l0 w hr0 hc.2 hc.1
  · cases h
def heliastref13_Same.l0 : Nat → List (S69) → List (S69) → Int → Option (Bool)
  | 0, _, _, _ => none
  | k + 1, x0, x1, x5 => if x5 < (x0.length : Int) then (if 0 ≤ x5 then (if x5 < (x1.length : Int) then (if (!((((rd_T69 x0 x5).f0).toList) == (((rd_T69 x1 x5).f0).toList)) || (!((((rd_T69 x0 x5).f1).toList) == (((rd_T69 x1 x5).f1).toList)) || (!(((rd_T69 x0 x5).f2) == ((rd_T69 x1 x5).f2))))) = true then (some false) else (heliastref13_Same.l0 k x0 x1 (wrap64 (x5 + 1)))) else (none)) else (none)) else (some true)
def heliastref13_Same.f (k : Nat) (l0 : List (S69)) (l1 : List (S69)) : Option (Bool) := if (l0.length : Int) = (l1.length : Int) then (heliastref13_Same.l0 k l0 l1 0) else (some false)
theorem heliastref13_Same.mono_l : ∀ k, (∀ y0 y1 y2, LeO (heliastref13_Same.l0 k y0 y1 y2) (heliastref13_Same.l0 (k + 1) y0 y1 y2))
  | 0 => fun _ _ _ r h => by simp [heliastref13_Same.l0] at h
  | k + 1 => by
    have ih0 := heliastref13_Same.mono_l k
    · intro y0 y1 y2
      unfold heliastref13_Same.l0
      repeat' first
      | (with_reducible exact ih0 _ _ _)
      | (with_reducible exact LeO.refl _)
      | (with_reducible exact LeO.none _)
      | (with_reducible refine LeO.ite ?_ ?_)
      | (with_reducible refine LeO.bind ?_ (fun _ => ?_))
      | exact ih0 _ _ _
      | exact LeO.none _
      | refine LeO.ite ?_ ?_
      | refine LeO.bind ?_ (fun _ => ?_)
theorem heliastref13_Same.mono : ∀ a0 a1 k, LeO (heliastref13_Same.f k a0 a1) (heliastref13_Same.f (k + 1) a0 a1) := by
  intro a0 a1 k
  have ih0 := heliastref13_Same.mono_l k
  unfold heliastref13_Same.f
  repeat' first
      | (with_reducible exact ih0 _ _ _)
      | (with_reducible exact LeO.refl _)
      | (with_reducible exact LeO.none _)
      | (with_reducible refine LeO.ite ?_ ?_)
      | (with_reducible refine LeO.bind ?_ (fun _ => ?_))
      | exact ih0 _ _ _
      | exact LeO.none _
      | refine LeO.ite ?_ ?_
      | refine LeO.bind ?_ (fun _ => ?_)
set_option maxHeartbeats 8000000 in
set_option maxRecDepth 100000 in
theorem heliastref13_Same.calls (k : Nat) (A0 : Option Addr) (c0 : Nat) (l0 : List (S69)) (A1 : Option Addr) (c1 : Nat) (l1 : List (S69)) (r : Bool) (w : World) (hr0 : Kd.C k69 w A0 l0.length l0) (hc0 : l0.length ≤ c0) (hr1 : Kd.C k69 w A1 l1.length l1) (hc1 : l1.length ≤ c1) (h : heliastref13_Same.f k l0 l1 = some r) :
    Calls Try.prog 78 #[.slice A0 l0.length c0, .slice A1 l1.length c1] w fun e w' => e = .returned (.bool r) ∧ Drawn0 w w' := by
  have hu69 := Try.underlying69
  have HR0 := Aside0.mk hr0
  have HC0 := Aside0.mk hc0
  clear hr0 hc0
  have HR1 := Aside0.mk hr1
  have HC1 := Aside0.mk hc1
  clear hr1 hc1
  have H : (if (l0.length : Int) = (l1.length : Int) then (heliastref13_Same.l0 k l0 l1 0) else (some false)) = some r := h
  clear h
  by_cases c3 : (l0.length : Int) = (l1.length : Int)
  · rw [if_pos c3] at H
    have c3b0 : ((l0.length : Int) == (l1.length : Int)) = true := beq_iff_eq.mpr c3
    have c3b1 : ((l0.length : Int) != (l1.length : Int)) = false := bne_eq_false_iff_eq.mpr c3
    have c3b2 : (l0.length == l1.length) = true := by first | simpa using c3 | (simp at c3 ⊢; omega)
    clear c3
    have H' := Aside0.mk H
    clear H
    go_enter Try.func78, Try.ntmps78
    go_wp2
    repeat (go_quiet (fail); try go_wp2)
    go_loopg [5] k (fun kq v5 w' => ∃ (x5_1 : Int), v5 = .int .i64 x5_1 ∧ Aside0 (heliastref13_Same.l0 kq l0 l1 x5_1 = some r) ∧ Aside0 (kq ≤ k) ∧ Drawn0 w w')
    case atStart => exact ⟨(0), (by first | rfl | (simp; done) | (simp [*]; done)), H', ⟨Nat.le_refl _⟩, by repeat (first | exact Drawn0.refl _ | apply Drawn0.step)⟩
    case round =>
      clear H'
      try clear c1
      try clear p2
      try clear c3
      try clear c3b0
      try clear c3b1
      try clear c3b2
      obtain ⟨x5_1, rfl, HA, HK1, ⟨m1, rfl⟩⟩ := hrel
      cases gk with
      | zero => exact absurd HA.out (by simp [heliastref13_Same.l0])
      | succ k1 =>
        have H := HA.out
        clear HA
        simp only [heliastref13_Same.l0] at H
        by_cases c4 : x5_1 < (l0.length : Int)
        · rw [if_pos c4] at H
          have c4b0 : decide (x5_1 < (l0.length : Int)) = true := decide_eq_true c4
          clear c4
          by_cases c5 : 0 ≤ x5_1
          · rw [if_pos c5] at H
            have c5b0 : decide (0 ≤ x5_1) = true := decide_eq_true c5
            clear c5
            by_cases c6 : x5_1 < (l1.length : Int)
            · rw [if_pos c6] at H
              have c6b0 : decide (x5_1 < (l1.length : Int)) = true := decide_eq_true c6
              clear c6
              by_cases c7 : (!((((rd_T69 l0 x5_1).f0).toList) == (((rd_T69 l1 x5_1).f0).toList)) || (!((((rd_T69 l0 x5_1).f1).toList) == (((rd_T69 l1 x5_1).f1).toList)) || (!(((rd_T69 l0 x5_1).f2) == ((rd_T69 l1 x5_1).f2))))) = true
              · rw [if_pos c7] at H
                have c7b0 : (!((((rd_T69 l0 x5_1).f0).toList) == (((rd_T69 l1 x5_1).f0).toList)) || (!((((rd_T69 l0 x5_1).f1).toList) == (((rd_T69 l1 x5_1).f1).toList)) || (!(((rd_T69 l0 x5_1).f2) == ((rd_T69 l1 x5_1).f2))))) = true := c7
                clear c7
                obtain rfl := Option.some.inj H
                have p152 : 0 ≤ (x5_1 : Int) := of_decide_eq_true (by first | (with_reducible assumption) | assumption)
                have q152 : x5_1 < (l0.length : Int) := of_decide_eq_true (by first | (with_reducible assumption) | assumption)
                obtain ⟨ad152, e152, hx152_0, hx152_1, hx152_2⟩ := at_T69 HR0.out x5_1 p152 q152
                cases e152
                replace p152 := eq_true p152
                replace q152 := eq_true q152
                have p153 : 0 ≤ (x5_1 : Int) := of_decide_eq_true (by first | (with_reducible assumption) | assumption)
                have q153 : x5_1 < (l1.length : Int) := of_decide_eq_true (by first | (with_reducible assumption) | assumption)
                obtain ⟨ad153, e153, hx153_0, hx153_1, hx153_2⟩ := at_T69 HR1.out x5_1 p153 q153
                cases e153
                replace p153 := eq_true p153
                replace q153 := eq_true q153
                go_wp2
                repeat (go_quiet (fail); try go_wp2)
                go_ret
                exact ⟨by first | rfl | (simp; done) | (simp [*]; done), by repeat (first | exact Drawn0.refl _ | apply Drawn0.step)⟩
              · rw [if_neg c7] at H
                have c7b0 : (!((((rd_T69 l0 x5_1).f0).toList) == (((rd_T69 l1 x5_1).f0).toList)) || (!((((rd_T69 l0 x5_1).f1).toList) == (((rd_T69 l1 x5_1).f1).toList)) || (!(((rd_T69 l0 x5_1).f2) == ((rd_T69 l1 x5_1).f2))))) = false := by simpa using c7
                clear c7
                have H' := Aside0.mk H
                clear H
                have p152 : 0 ≤ (x5_1 : Int) := of_decide_eq_true (by first | (with_reducible assumption) | assumption)
                have q152 : x5_1 < (l0.length : Int) := of_decide_eq_true (by first | (with_reducible assumption) | assumption)
                obtain ⟨ad152, e152, hx152_0, hx152_1, hx152_2⟩ := at_T69 HR0.out x5_1 p152 q152
                cases e152
                replace p152 := eq_true p152
                replace q152 := eq_true q152
                have p153 : 0 ≤ (x5_1 : Int) := of_decide_eq_true (by first | (with_reducible assumption) | assumption)
                have q153 : x5_1 < (l1.length : Int) := of_decide_eq_true (by first | (with_reducible assumption) | assumption)
                obtain ⟨ad153, e153, hx153_0, hx153_1, hx153_2⟩ := at_T69 HR1.out x5_1 p153 q153
                cases e153
                replace p153 := eq_true p153
                replace q153 := eq_true q153
                go_wp2
                repeat (go_quiet (fail); try go_wp2)
                go_roundg k1
                case measure => have := HK1.out; omega
                case rel => exact ⟨(wrap64 (x5_1 + 1)), (by first | rfl | (simp; done) | (simp [*]; done)), H', ⟨by have := HK1.out; omega⟩, by repeat (first | exact Drawn0.refl _ | apply Drawn0.step)⟩
            · rw [if_neg c6] at H
              exact absurd H (by simp)
          · rw [if_neg c5] at H
            exact absurd H (by simp)
        · rw [if_neg c4] at H
          have c4b0 : decide (x5_1 < (l0.length : Int)) = false := decide_eq_false c4
          clear c4
          obtain rfl := Option.some.inj H
          go_wp2
          repeat (go_quiet (fail); try go_wp2)
          go_ret
          exact ⟨by first | rfl | (simp; done) | (simp [*]; done), by repeat (first | exact Drawn0.refl _ | apply Drawn0.step)⟩
  · rw [if_neg c3] at H
    have c3b0 : ((l0.length : Int) == (l1.length : Int)) = false := beq_eq_false_iff_ne.mpr c3
    have c3b1 : ((l0.length : Int) != (l1.length : Int)) = true := bne_iff_ne.mpr c3
    have c3b2 : (l0.length == l1.length) = false := by first | simpa using c3 | (simp at c3 ⊢; omega)
    obtain rfl := Option.some.inj H
    go_enter Try.func78, Try.ntmps78
    go_wp2
    repeat (go_quiet (fail); try go_wp2)
    go_ret
    exact ⟨by first | rfl | (simp; done) | (simp [*]; done), by repeat (first | exact Drawn0.refl _ | apply Drawn0.step)⟩
def heliastref12_Same.l0 : Nat → List Int → List Int → Int → Option (Bool)
  | 0, _, _, _ => none
  | k + 1, x0, x1, x5 => if x5 < (x0.length : Int) then (if 0 ≤ x5 then (if x5 < (x1.length : Int) then (if (rd x0 x5) = (rd x1 x5) then (heliastref12_Same.l0 k x0 x1 (wrap64 (x5 + 1))) else (some false)) else (none)) else (none)) else (some true)
def heliastref12_Same.f (k : Nat) (l0 : List Int) (l1 : List Int) : Option (Bool) := if (l0.length : Int) = (l1.length : Int) then (heliastref12_Same.l0 k l0 l1 0) else (some false)
theorem heliastref12_Same.mono_l : ∀ k, (∀ y0 y1 y2, LeO (heliastref12_Same.l0 k y0 y1 y2) (heliastref12_Same.l0 (k + 1) y0 y1 y2))
  | 0 => fun _ _ _ r h => by simp [heliastref12_Same.l0] at h
  | k + 1 => by
    have ih0 := heliastref12_Same.mono_l k
    · intro y0 y1 y2
      unfold heliastref12_Same.l0
      repeat' first
      | (with_reducible exact ih0 _ _ _)
      | (with_reducible exact LeO.refl _)
      | (with_reducible exact LeO.none _)
      | (with_reducible refine LeO.ite ?_ ?_)
      | (with_reducible refine LeO.bind ?_ (fun _ => ?_))
      | exact ih0 _ _ _
      | exact LeO.none _
      | refine LeO.ite ?_ ?_
      | refine LeO.bind ?_ (fun _ => ?_)
theorem heliastref12_Same.mono : ∀ a0 a1 k, LeO (heliastref12_Same.f k a0 a1) (heliastref12_Same.f (k + 1) a0 a1) := by
  intro a0 a1 k
  have ih0 := heliastref12_Same.mono_l k
  unfold heliastref12_Same.f
  repeat' first
      | (with_reducible exact ih0 _ _ _)
      | (with_reducible exact LeO.refl _)
      | (with_reducible exact LeO.none _)
      | (with_reducible refine LeO.ite ?_ ?_)
      | (with_reducible refine LeO.bind ?_ (fun _ => ?_))
      | exact ih0 _ _ _
      | exact LeO.none _
      | refine LeO.ite ?_ ?_
      | refine LeO.bind ?_ (fun _ => ?_)
set_option maxHeartbeats 8000000 in
set_option maxRecDepth 100000 in
theorem heliastref12_Same.calls (k : Nat) (A0 : Option Addr) (c0 : Nat) (l0 : List Int) (A1 : Option Addr) (c1 : Nat) (l1 : List Int) (r : Bool) (w : World) (hr0 : Kd.C (Kd.int .i64) w A0 l0.length l0) (hc0 : l0.length ≤ c0) (hr1 : Kd.C (Kd.int .i64) w A1 l1.length l1) (hc1 : l1.length ≤ c1) (h : heliastref12_Same.f k l0 l1 = some r) :
    Calls Try.prog 40 #[.slice A0 l0.length c0, .slice A1 l1.length c1] w fun e w' => e = .returned (.bool r) ∧ Drawn0 w w' := by
  have HR0 := Aside0.mk hr0
  have HC0 := Aside0.mk hc0
  clear hr0 hc0
  have HR1 := Aside0.mk hr1
  have HC1 := Aside0.mk hc1
  clear hr1 hc1
  have H : (if (l0.length : Int) = (l1.length : Int) then (heliastref12_Same.l0 k l0 l1 0) else (some false)) = some r := h
  clear h
  by_cases c3 : (l0.length : Int) = (l1.length : Int)
  · rw [if_pos c3] at H
    have c3b0 : ((l0.length : Int) == (l1.length : Int)) = true := beq_iff_eq.mpr c3
    have c3b1 : ((l0.length : Int) != (l1.length : Int)) = false := bne_eq_false_iff_eq.mpr c3
    have c3b2 : (l0.length == l1.length) = true := by first | simpa using c3 | (simp at c3 ⊢; omega)
    clear c3
    have H' := Aside0.mk H
    clear H
    go_enter Try.func40, Try.ntmps40
    go_wp2
    repeat (go_quiet (fail); try go_wp2)
    go_loopg [5] k (fun kq v5 w' => ∃ (x5_1 : Int), v5 = .int .i64 x5_1 ∧ Aside0 (heliastref12_Same.l0 kq l0 l1 x5_1 = some r) ∧ Aside0 (kq ≤ k) ∧ Drawn0 w w')
    case atStart => exact ⟨(0), (by first | rfl | (simp; done) | (simp [*]; done)), H', ⟨Nat.le_refl _⟩, by repeat (first | exact Drawn0.refl _ | apply Drawn0.step)⟩
    case round =>
      clear H'
      try clear c1
      try clear p2
      try clear c3
      try clear c3b0
      try clear c3b1
      try clear c3b2
      obtain ⟨x5_1, rfl, HA, HK1, ⟨m1, rfl⟩⟩ := hrel
      cases gk with
      | zero => exact absurd HA.out (by simp [heliastref12_Same.l0])
      | succ k1 =>
        have H := HA.out
        clear HA
        simp only [heliastref12_Same.l0] at H
        by_cases c4 : x5_1 < (l0.length : Int)
        · rw [if_pos c4] at H
          have c4b0 : decide (x5_1 < (l0.length : Int)) = true := decide_eq_true c4
          clear c4
          by_cases c5 : 0 ≤ x5_1
          · rw [if_pos c5] at H
            have c5b0 : decide (0 ≤ x5_1) = true := decide_eq_true c5
            clear c5
            by_cases c6 : x5_1 < (l1.length : Int)
            · rw [if_pos c6] at H
              have c6b0 : decide (x5_1 < (l1.length : Int)) = true := decide_eq_true c6
              clear c6
              by_cases c7 : (rd l0 x5_1) = (rd l1 x5_1)
              · rw [if_pos c7] at H
                have c7b0 : ((rd l0 x5_1) == (rd l1 x5_1)) = true := beq_iff_eq.mpr c7
                have c7b1 : ((rd l0 x5_1) != (rd l1 x5_1)) = false := bne_eq_false_iff_eq.mpr c7
                clear c7
                have H' := Aside0.mk H
                clear H
                have p154 : 0 ≤ (x5_1 : Int) := of_decide_eq_true (by first | (with_reducible assumption) | assumption)
                have q154 : x5_1 < (l0.length : Int) := of_decide_eq_true (by first | (with_reducible assumption) | assumption)
                obtain ⟨ad154, e154, hx154_0⟩ := Kd.at_int HR0.out x5_1 p154 q154
                cases e154
                replace p154 := eq_true p154
                replace q154 := eq_true q154
                have p155 : 0 ≤ (x5_1 : Int) := of_decide_eq_true (by first | (with_reducible assumption) | assumption)
                have q155 : x5_1 < (l1.length : Int) := of_decide_eq_true (by first | (with_reducible assumption) | assumption)
                obtain ⟨ad155, e155, hx155_0⟩ := Kd.at_int HR1.out x5_1 p155 q155
                cases e155
                replace p155 := eq_true p155
                replace q155 := eq_true q155
                go_wp2
                repeat (go_quiet (fail); try go_wp2)
                go_roundg k1
                case measure => have := HK1.out; omega
                case rel => exact ⟨(wrap64 (x5_1 + 1)), (by first | rfl | (simp; done) | (simp [*]; done)), H', ⟨by have := HK1.out; omega⟩, by repeat (first | exact Drawn0.refl _ | apply Drawn0.step)⟩
              · rw [if_neg c7] at H
                have c7b0 : ((rd l0 x5_1) == (rd l1 x5_1)) = false := beq_eq_false_iff_ne.mpr c7
                have c7b1 : ((rd l0 x5_1) != (rd l1 x5_1)) = true := bne_iff_ne.mpr c7
                obtain rfl := Option.some.inj H
                have p154 : 0 ≤ (x5_1 : Int) := of_decide_eq_true (by first | (with_reducible assumption) | assumption)
                have q154 : x5_1 < (l0.length : Int) := of_decide_eq_true (by first | (with_reducible assumption) | assumption)
                obtain ⟨ad154, e154, hx154_0⟩ := Kd.at_int HR0.out x5_1 p154 q154
                cases e154
                replace p154 := eq_true p154
                replace q154 := eq_true q154
                have p155 : 0 ≤ (x5_1 : Int) := of_decide_eq_true (by first | (with_reducible assumption) | assumption)
                have q155 : x5_1 < (l1.length : Int) := of_decide_eq_true (by first | (with_reducible assumption) | assumption)
                obtain ⟨ad155, e155, hx155_0⟩ := Kd.at_int HR1.out x5_1 p155 q155
                cases e155
                replace p155 := eq_true p155
                replace q155 := eq_true q155
                go_wp2
                repeat (go_quiet (fail); try go_wp2)
                go_ret
                exact ⟨by first | rfl | (simp; done) | (simp [*]; done), by repeat (first | exact Drawn0.refl _ | apply Drawn0.step)⟩
            · rw [if_neg c6] at H
              exact absurd H (by simp)
          · rw [if_neg c5] at H
            exact absurd H (by simp)
        · rw [if_neg c4] at H
          have c4b0 : decide (x5_1 < (l0.length : Int)) = false := decide_eq_false c4
          clear c4
          obtain rfl := Option.some.inj H
          go_wp2
          repeat (go_quiet (fail); try go_wp2)
          go_ret
          exact ⟨by first | rfl | (simp; done) | (simp [*]; done), by repeat (first | exact Drawn0.refl _ | apply Drawn0.step)⟩
  · rw [if_neg c3] at H
    have c3b0 : ((l0.length : Int) == (l1.length : Int)) = false := beq_eq_false_iff_ne.mpr c3
    have c3b1 : ((l0.length : Int) != (l1.length : Int)) = true := bne_iff_ne.mpr c3
    have c3b2 : (l0.length == l1.length) = false := by first | simpa using c3 | (simp at c3 ⊢; omega)
    obtain rfl := Option.some.inj H
    go_enter Try.func40, Try.ntmps40
    go_wp2
    repeat (go_quiet (fail); try go_wp2)
    go_ret
    exact ⟨by first | rfl | (simp; done) | (simp [*]; done), by repeat (first | exact Drawn0.refl _ | apply Drawn0.step)⟩
open Go.Proofs.He
def kn16a : List S69 := [⟨⟨#[109, 46, 114, 111, 111, 109, 46, 99, 114, 101, 97, 116, 101]⟩, ⟨#[]⟩, 0⟩, ⟨⟨#[109, 46, 114, 111, 111, 109, 46, 109, 101, 109, 98, 101, 114]⟩, ⟨#[]⟩, 1⟩]
def kn16b : List S69 := [⟨⟨#[109, 46, 114, 111, 111, 109, 46, 99, 114, 101, 97, 116, 101]⟩, ⟨#[]⟩, 0⟩, ⟨⟨#[109, 46, 114, 111, 111, 109, 46, 109, 101, 109, 98, 101, 114]⟩, ⟨#[]⟩, 2⟩]
def kn16o : List S69 := [⟨⟨#[109, 46, 114, 111, 111, 109, 46, 99, 114, 101, 97, 116, 101]⟩, ⟨#[]⟩, 0⟩]
theorem kn16_alike : split_Alike.f [kn16a, kn16b] = some kn16o := by decide +kernel
theorem kn16_apart : split_Apart.f [kn16a, kn16b] = some [1, 2] := by
  have h1 : [kn16a, kn16b].flatten.length < 3518437208883 ∧ (∀ x ∈ [kn16a, kn16b].flatten, EOk x) := by decide +kernel
  have h2 : (([kn16a, kn16b].flatten.filter fun x => decide (([kn16a, kn16b].flatten.count x : Int) < ([kn16a, kn16b].length : Int))).map fun x => x.f2) = [1, 2] := by decide +kernel
  unfold split_Apart.f apartL
  rw [if_pos h1, h2]
  exact congrArg some (rises_eq (riseL_spec _).1 (by decide) (riseL_spec _).2)
theorem kn16_none : split_Alike.f [] = some [] := by decide +kernel
theorem kn16_same : heliastref13_Same.f 5 kn16o kn16o = some true := by decide +kernel
theorem kn16_same12 : heliastref12_Same.f 5 [1, 2] [1, 2] = some true := by decide +kernel
def kn16W (w : World) : World := ((w.alloc (Obj.cells #[.string ⟨#[109, 46, 114, 111, 111, 109, 46, 99, 114, 101, 97, 116, 101]⟩, .string ⟨#[]⟩, .int .i64 0, .string ⟨#[109, 46, 114, 111, 111, 109, 46, 109, 101, 109, 98, 101, 114]⟩, .string ⟨#[]⟩, .int .i64 1] 69)).alloc
  (Obj.cells #[.string ⟨#[109, 46, 114, 111, 111, 109, 46, 99, 114, 101, 97, 116, 101]⟩, .string ⟨#[]⟩, .int .i64 0, .string ⟨#[109, 46, 114, 111, 111, 109, 46, 109, 101, 109, 98, 101, 114]⟩, .string ⟨#[]⟩, .int .i64 2] 69)).alloc (Obj.cells #[.slice (some ⟨w.heap.size, 0, none⟩) 2 2, .slice (some ⟨w.heap.size + 1, 0, none⟩) 2 2] 63)
theorem cellsC {W : World} {g : Nat} {l : List S69} {cs : Array Value} {t : TypeId} (hg : W.heap[g]? = some (.cells cs t (0, 0))) (hm : l.length ≤ 9223372036854775807) (hc : ∀ (j : Nat) (u : Value), (l.flatMap encE)[j]? = some u → cs[j]? = some u) : Kd.C k69 W (some ⟨g, 0, none⟩) l.length l :=
  Flat.C_mk flatE hm (fun j u hj => by rw [add_plain, blk_cell hg]; exact hc j u hj)
theorem kn16_facts (w : World) : Kd.C (Kd.slice 69 k69) (kn16W w) (some ⟨w.heap.size + 1 + 1, 0, none⟩) 2 [kn16a, kn16b] ∧ Kd.C k69 (kn16W w) (some ⟨w.heap.size, 0, none⟩) 1 kn16o ∧ Below w.heap.size w (kn16W w) := by
  have h0 : (kn16W w).heap[w.heap.size]? = some (Obj.cells #[.string ⟨#[109, 46, 114, 111, 111, 109, 46, 99, 114, 101, 97, 116, 101]⟩, .string ⟨#[]⟩, .int .i64 0, .string ⟨#[109, 46, 114, 111, 111, 109, 46, 109, 101, 109, 98, 101, 114]⟩, .string ⟨#[]⟩, .int .i64 1] 69) := by
    exact (heap_alloc_old _ _ (by simp; omega)).trans ((heap_alloc_old _ _ (by simp)).trans (heap_alloc_new w _))
  have h1 : (kn16W w).heap[w.heap.size + 1]? = some (Obj.cells #[.string ⟨#[109, 46, 114, 111, 111, 109, 46, 99, 114, 101, 97, 116, 101]⟩, .string ⟨#[]⟩, .int .i64 0, .string ⟨#[109, 46, 114, 111, 111, 109, 46, 109, 101, 109, 98, 101, 114]⟩, .string ⟨#[]⟩, .int .i64 2] 69) := by
    exact (heap_alloc_old _ _ (by simp)).trans (by have := heap_alloc_new (w.alloc (Obj.cells #[.string ⟨#[109, 46, 114, 111, 111, 109, 46, 99, 114, 101, 97, 116, 101]⟩, .string ⟨#[]⟩, .int .i64 0, .string ⟨#[109, 46, 114, 111, 111, 109, 46, 109, 101, 109, 98, 101, 114]⟩, .string ⟨#[]⟩, .int .i64 1] 69)) (Obj.cells #[.string ⟨#[109, 46, 114, 111, 111, 109, 46, 99, 114, 101, 97, 116, 101]⟩, .string ⟨#[]⟩, .int .i64 0, .string ⟨#[109, 46, 114, 111, 111, 109, 46, 109, 101, 109, 98, 101, 114]⟩, .string ⟨#[]⟩, .int .i64 2] 69); rwa [World.size_alloc] at this)
  have h2 : (kn16W w).heap[w.heap.size + 1 + 1]? = some (Obj.cells #[.slice (some ⟨w.heap.size, 0, none⟩) 2 2, .slice (some ⟨w.heap.size + 1, 0, none⟩) 2 2] 63) := by
    have : (kn16W w).heap[(kn16W w).heap.size - 1]? = some (Obj.cells #[.slice (some ⟨w.heap.size, 0, none⟩) 2 2, .slice (some ⟨w.heap.size + 1, 0, none⟩) 2 2] 63) := by unfold kn16W; rw [World.size_alloc, Nat.add_sub_cancel]; exact heap_alloc_new _ _
    have e : (kn16W w).heap.size - 1 = w.heap.size + 1 + 1 := by unfold kn16W; simp
    rwa [e] at this
  refine ⟨?_, ?_, ?_⟩
  · refine C_lit_rows (t := 63) [(some ⟨w.heap.size, 0, none⟩, 2, kn16a), (some ⟨w.heap.size + 1, 0, none⟩, 2, kn16b)] h2 (fun q hq => ?_) (by simp)
    rcases List.mem_cons.1 hq with rfl | hq
    · exact ⟨Nat.le_refl _, cellsC h0 (show kn16a.length ≤ _ by decide) (fun j u hj => by simpa [kn16a, encE] using hj)⟩
    · rw [List.mem_singleton.1 hq]; exact ⟨Nat.le_refl _, cellsC h1 (show kn16b.length ≤ _ by decide) (fun j u hj => by simpa [kn16b, encE] using hj)⟩
  · refine cellsC (l := kn16o) h0 (by decide) (fun j u hj => ?_)
    match j, hj with
    | 0, hj => exact hj
    | 1, hj => exact hj
    | 2, hj => exact hj
    | j + 3, hj => simp [kn16o, encE] at hj
  · unfold kn16W; exact (((Below.refl _ _).alloc (Nat.le_refl _) _).alloc (by simp) _).alloc (by simp; omega) _
set_option maxHeartbeats 8000000 in
set_option maxRecDepth 100000 in
theorem law16_known.walk (w : World) : Calls Try.prog 35 #[] w fun e w' => e = .returned (.bool true) ∧ Below w.heap.size w w' := by
  obtain ⟨hl, ha, hb⟩ := kn16_facts w
  have HB := Aside0.mk hb
  have HAL : Aside0 (∀ W, Below (kn16W w).heap.size (kn16W w) W → Calls Try.prog 30 #[.slice (some ⟨w.heap.size + 1 + 1, 0, none⟩) 2 2] W fun e w' => ∃ v, e = .returned v ∧ Kd.R k69 69 w' W.heap.size (fun _ => True) v kn16o ∧ Below W.heap.size W w') := ⟨fun W hW => split_Alike.calls _ 2 [kn16a, kn16b] kn16o W (Kd.C_below hl hW) (by decide) kn16_alike⟩
  have HNL : Aside0 (∀ W : World, Calls Try.prog 30 #[.slice none 0 0] W fun e w' => ∃ v, e = .returned v ∧ Kd.R k69 69 w' W.heap.size (fun _ => True) v [] ∧ Below W.heap.size W w') := ⟨fun W => split_Alike.calls none 0 [] [] W ⟨rfl, by simp, fun h => by simp at h⟩ (by decide) kn16_none⟩
  have HSA : Aside0 (∀ W, Below (kn16W w).heap.size (kn16W w) W → ∀ A c, Kd.C k69 W A 1 kn16o → 1 ≤ c → Calls Try.prog 78 #[.slice A 1 c, .slice (some ⟨w.heap.size, 0, none⟩) 1 2] W fun e w' => e = .returned (.bool true) ∧ Drawn0 W w') := ⟨fun W hW A c hA hc => heliastref13_Same.calls 5 A c kn16o _ 2 kn16o true W hA hc (Kd.C_below ha hW) (by decide) kn16_same⟩
  have HAP : Aside0 (∀ W, Below (kn16W w).heap.size (kn16W w) W → Calls Try.prog 31 #[.slice (some ⟨w.heap.size + 1 + 1, 0, none⟩) 2 2] W fun e w' => ∃ v, e = .returned v ∧ (Kd.int .i64).R 3 w' W.heap.size (fun _ => True) v [1, 2] ∧ Below W.heap.size W w') := ⟨fun W hW => split_Apart.calls _ 2 [kn16a, kn16b] [1, 2] W (Kd.C_below hl hW) (by decide) kn16_apart⟩
  have HS12 : Aside0 (∀ (W : World) A c g, Kd.C (Kd.int .i64) W A 2 [1, 2] → 2 ≤ c → W.heap[g]? = some (Obj.cells #[.int .i64 1, .int .i64 2] 3 (0, 0)) → Calls Try.prog 40 #[.slice A 2 c, .slice (some ⟨g, 0, none⟩) 2 2] W fun e w' => e = .returned (.bool true) ∧ Drawn0 W w') := ⟨fun W A c g hA hc hg => heliastref12_Same.calls 5 A c [1, 2] _ 2 [1, 2] true _ hA hc (Flat.C_mk (flatScalar _ _) (by decide) (fun j u hj => by
    rw [add_plain, blk_cell hg]
    simpa using hj)) (by decide) kn16_same12⟩
  clear hl ha hb
  go_enter Try.func35, Try.ntmps35
  go_wp2
  change Code.wp _ _ _ _ (kn16W w)
  go_region_with (first
    | (go_at_call 30; (with_reducible refine (HNL.out _).mono ?_); rintro e w5 ⟨v5, rfl, hr5, hb5⟩; have HB5 := Aside0.mk (below_then HB4.out HB4.out.size hb5); obtain ⟨A5, c5, rfl, _, _⟩ := Kd.R_reads hr5; clear hr5 hb5)
    | (go_at_call 30; (with_reducible refine (HAL.out _ (below_drew1 (Below.refl _ _))).mono ?_); rintro e w1 ⟨v1, rfl, hr1, hb1⟩; have HB1 := Aside0.mk (below_then (below_drew1 (Below.refl (kn16W w).heap.size (kn16W w))) (Nat.le_refl _) hb1); obtain ⟨A1, c1, rfl, hc1, hC1⟩ := Kd.R_reads hr1; have HC1 := Aside0.mk hC1; have HCC1 := Aside0.mk hc1; clear hr1 hb1 hC1 hc1)
    | (go_at_call 78; refine (HSA.out _ HB1.out A1 c1 HC1.out HCC1.out).mono ?_; rintro e w2 ⟨rfl, hd2⟩; have HB2 := Aside0.mk (below_then HB1.out HB1.out.size hd2.below); clear hd2)
    | (go_at_call 31; (with_reducible refine (HAP.out _ HB2.out).mono ?_); rintro e w3 ⟨v3, rfl, hr3, hb3⟩; have HB3 := Aside0.mk (below_then HB2.out HB2.out.size hb3); obtain ⟨A3, c3, rfl, hc3, hC3⟩ := Kd.R_reads hr3; have HC3 := Aside0.mk hC3; have HCC3 := Aside0.mk hc3; clear hr3 hb3 hC3 hc3)
    | (go_at_call 31; (with_reducible refine (HAP.out _ (below_alloc HB2.out _)).mono ?_); rintro e w3 ⟨v3, rfl, hr3, hb3⟩; have HB3 := Aside0.mk (below_then (below_alloc HB2.out _) (below_alloc HB2.out _).size hb3); have HG3 := Aside0.mk ((hb3.block w2.heap.size (by simp)).trans (heap_alloc_new w2 (Obj.cells #[.int .i64 1, .int .i64 2] 3))); obtain ⟨A3, c3, rfl, hc3, hC3⟩ := Kd.R_reads hr3; have HC3 := Aside0.mk hC3; have HCC3 := Aside0.mk hc3; clear hr3 hb3 hC3 hc3)
    | (go_at_call 40; refine (HS12.out _ A3 c3 w2.heap.size HC3.out HCC3.out HG3.out).mono ?_; rintro e w4 ⟨rfl, hd4⟩; have HB4 := Aside0.mk (below_then HB3.out HB3.out.size hd4.below); clear hd4)
    | (go_at_call 40; refine (HS12.out _ A3 c3 w3.heap.size (Kd.C_below HC3.out (below_alloc (Below.refl _ _) _)) HCC3.out (heap_alloc_new w3 (Obj.cells #[.int .i64 1, .int .i64 2] 3))).mono ?_; rintro e w4 ⟨rfl, hd4⟩; have HB4 := Aside0.mk (below_then (below_alloc HB3.out (Obj.cells #[.int .i64 1, .int .i64 2] 3)) (below_alloc HB3.out (Obj.cells #[.int .i64 1, .int .i64 2] 3)).size hd4.below); clear hd4))
  all_goals
    go_wp2
    go_ret
    exact ⟨rfl, below_then HB.out HB.out.size HB5.out⟩
def heliastlaw16_known.f : Option Bool := some true
theorem heliastlaw16_known.calls (r : Bool) (w : World) (h : heliastlaw16_known.f = some r) :
    Calls Try.prog 35 #[] w fun e w' => e = .returned (.bool r) ∧ Below w.heap.size w w' := by
  obtain rfl := Option.some.inj h
  exact law16_known.walk w
mutual
def heliastlaw12_Graph.l0 : Nat → List Int → List (List Int) → Int → Option ((List (List Int)))
  | 0, _, _, _ => none
  | k + 1, x0, x3, x4 => if x4 < (x0.length : Int) then (heliastlaw12_Graph.j1 k x0 x3 x4 (decide (x4 < 24))) else (heliastlaw12_Graph.j1 k x0 x3 x4 false)
def heliastlaw12_Graph.j1 : Nat → List Int → List (List Int) → Int → Bool → Option ((List (List Int)))
  | 0, _, _, _, _ => none
  | k + 1, x0, x3, x4, x14 => if x14 = true then (heliastlaw12_Graph.l1 k x0 x3 x4 ([] : List Int) 0) else (some x3)
def heliastlaw12_Graph.l1 : Nat → List Int → List (List Int) → Int → List Int → Int → Option ((List (List Int)))
  | 0, _, _, _, _, _ => none
  | k + 1, x0, x3, x4, x5, x6 => if x6 < x4 then (if 0 ≤ x4 then (if x4 < (x0.length : Int) then (if (x0.length : Int) = 0 then (none) else (if 0 ≤ (Int.tmod (wrap64 (x4 + x6)) (x0.length : Int)) then (if (Int.tmod (wrap64 (x4 + x6)) (x0.length : Int)) < (x0.length : Int) then (if (Int.tmod (wrap64 ((wrap64 ((wrap64 (rd x0 x4)) + (wrap64 (x6 * 7)))) + (wrap64 (rd x0 (Int.tmod (wrap64 (x4 + x6)) (x0.length : Int)))))) 5) = 0 then (if x5.length < 17592186044416 then (heliastlaw12_Graph.l1 k x0 x3 x4 (x5 ++ [x6]) (wrap64 (x6 + 1))) else (none)) else (if x6 = (wrap64 (x4 - 1)) then (if (Int.tmod (rd x0 x4) 3) = 0 then (if x5.length < 17592186044416 then (heliastlaw12_Graph.l1 k x0 x3 x4 (x5 ++ [x6]) (wrap64 (x6 + 1))) else (none)) else (heliastlaw12_Graph.l1 k x0 x3 x4 x5 (wrap64 (x6 + 1)))) else (heliastlaw12_Graph.l1 k x0 x3 x4 x5 (wrap64 (x6 + 1))))) else (none)) else (none))) else (none)) else (none)) else (if x3.length < 5864062014805 then (heliastlaw12_Graph.l0 k x0 (x3 ++ [x5]) (wrap64 (x4 + 1))) else (none))
end
def heliastlaw12_Graph.f (k : Nat) (l0 : List Int) : Option ((List (List Int))) := heliastlaw12_Graph.l0 k l0 ([] : List (List Int)) 0
theorem heliastlaw12_Graph.mono_l : ∀ k, (∀ y0 y1 y2, LeO (heliastlaw12_Graph.l0 k y0 y1 y2) (heliastlaw12_Graph.l0 (k + 1) y0 y1 y2)) ∧ (∀ y0 y1 y2 y3, LeO (heliastlaw12_Graph.j1 k y0 y1 y2 y3) (heliastlaw12_Graph.j1 (k + 1) y0 y1 y2 y3)) ∧ (∀ y0 y1 y2 y3 y4, LeO (heliastlaw12_Graph.l1 k y0 y1 y2 y3 y4) (heliastlaw12_Graph.l1 (k + 1) y0 y1 y2 y3 y4))
  | 0 => ⟨fun _ _ _ r h => by simp [heliastlaw12_Graph.l0] at h, fun _ _ _ _ r h => by simp [heliastlaw12_Graph.j1] at h, fun _ _ _ _ _ r h => by simp [heliastlaw12_Graph.l1] at h⟩
  | k + 1 => by
    obtain ⟨ih0, ih1, ih2⟩ := heliastlaw12_Graph.mono_l k
    refine ⟨?_, ?_, ?_⟩
    · intro y0 y1 y2
      unfold heliastlaw12_Graph.l0
      repeat' first
      | (with_reducible exact ih0 _ _ _)
      | (with_reducible exact ih1 _ _ _ _)
      | (with_reducible exact ih2 _ _ _ _ _)
      | (with_reducible exact LeO.refl _)
      | (with_reducible exact LeO.none _)
      | (with_reducible refine LeO.ite ?_ ?_)
      | (with_reducible refine LeO.bind ?_ (fun _ => ?_))
      | exact ih0 _ _ _
      | exact ih1 _ _ _ _
      | exact ih2 _ _ _ _ _
      | exact LeO.none _
      | refine LeO.ite ?_ ?_
      | refine LeO.bind ?_ (fun _ => ?_)
    · intro y0 y1 y2 y3
      unfold heliastlaw12_Graph.j1
      repeat' first
      | (with_reducible exact ih0 _ _ _)
      | (with_reducible exact ih1 _ _ _ _)
      | (with_reducible exact ih2 _ _ _ _ _)
      | (with_reducible exact LeO.refl _)
      | (with_reducible exact LeO.none _)
      | (with_reducible refine LeO.ite ?_ ?_)
      | (with_reducible refine LeO.bind ?_ (fun _ => ?_))
      | exact ih0 _ _ _
      | exact ih1 _ _ _ _
      | exact ih2 _ _ _ _ _
      | exact LeO.none _
      | refine LeO.ite ?_ ?_
      | refine LeO.bind ?_ (fun _ => ?_)
    · intro y0 y1 y2 y3 y4
      unfold heliastlaw12_Graph.l1
      repeat' first
      | (with_reducible exact ih0 _ _ _)
      | (with_reducible exact ih1 _ _ _ _)
      | (with_reducible exact ih2 _ _ _ _ _)
      | (with_reducible exact LeO.refl _)
      | (with_reducible exact LeO.none _)
      | (with_reducible refine LeO.ite ?_ ?_)
      | (with_reducible refine LeO.bind ?_ (fun _ => ?_))
      | exact ih0 _ _ _
      | exact ih1 _ _ _ _
      | exact ih2 _ _ _ _ _
      | exact LeO.none _
      | refine LeO.ite ?_ ?_
      | refine LeO.bind ?_ (fun _ => ?_)
theorem heliastlaw12_Graph.mono : ∀ a0 k, LeO (heliastlaw12_Graph.f k a0) (heliastlaw12_Graph.f (k + 1) a0) := by
  intro a0 k
  obtain ⟨ih0, ih1, ih2⟩ := heliastlaw12_Graph.mono_l k
  unfold heliastlaw12_Graph.f
  repeat' first
      | (with_reducible exact ih0 _ _ _)
      | (with_reducible exact ih1 _ _ _ _)
      | (with_reducible exact ih2 _ _ _ _ _)
      | (with_reducible exact LeO.refl _)
      | (with_reducible exact LeO.none _)
      | (with_reducible refine LeO.ite ?_ ?_)
      | (with_reducible refine LeO.bind ?_ (fun _ => ?_))
      | exact ih0 _ _ _
      | exact ih1 _ _ _ _
      | exact ih2 _ _ _ _ _
      | exact LeO.none _
      | refine LeO.ite ?_ ?_
      | refine LeO.bind ?_ (fun _ => ?_)
set_option maxHeartbeats 8000000 in
set_option maxRecDepth 100000 in
theorem heliastlaw12_Graph.calls (k : Nat) (A0 : Option Addr) (c0 : Nat) (l0 : List Int) (r : List (List Int)) (w : World) (hr0 : Kd.C (Kd.int .u8) w A0 l0.length l0) (hc0 : l0.length ≤ c0) (h : heliastlaw12_Graph.f k l0 = some r) :
    Calls Try.prog 37 #[.slice A0 l0.length c0] w fun e w' => ∃ v0_ : Value, e = .returned (v0_) ∧ Kd.S (Kd.slice 3 (Kd.int .i64)) 65 w' w.heap.size (fun _ => True) v0_ r ∧ Below w.heap.size w w' := by
  have HR0 := Aside0.mk hr0
  have HC0 := Aside0.mk hc0
  clear hr0 hc0
  have HB := Aside0.mk (Below.refl w.heap.size w)
  have H : (heliastlaw12_Graph.l0 k l0 ([] : List (List Int)) 0) = some r := h
  clear h
  have H' := Aside0.mk H
  clear H
  go_enter Try.func37, Try.ntmps37
  go_wp2
  repeat (go_quiet (fail); try go_wp2)
  go_loopg [3, 4] k (fun kq v3 v4 w' => ∃ (x3_1 : List (List Int)) (x4_1 : Int), v4 = .int .i64 x4_1 ∧ Aside0 (heliastlaw12_Graph.l0 kq l0 x3_1 x4_1 = some r) ∧ Aside0 (kq ≤ k) ∧ Aside0 (Kd.S (Kd.slice 3 (Kd.int .i64)) 65 w' w.heap.size (fun _ => True) v3 x3_1) ∧ Aside0 (Below w.heap.size w w'))
  case atStart => exact ⟨(([] : List (List Int))), (0), (by first | rfl | (simp; done) | (simp [*]; done)), H', ⟨Nat.le_refl _⟩, ⟨by first | exact Kd.S_nil _ _ _ _ _ | exact Kd.N_nil _ _ _ _ _ | exact Kd.V_nil _ _ _ _ _ | exact Kd.Q_nil _ _ _ _ _ | exact Kd.R_nil _ _ _ _ _⟩, ⟨by repeat (first | (with_reducible first | exact HB.out | apply below_alloc | apply pw_below_drewN | apply below_drew1) | exact HB.out)⟩⟩
  case round =>
    clear H'
    obtain ⟨x3_1, x4_1, rfl, HA, HK1, HO_3, HB⟩ := hrel
    cases gk with
    | zero => exact absurd HA.out (by simp [heliastlaw12_Graph.l0])
    | succ k1 =>
      have H := HA.out
      clear HA
      simp only [heliastlaw12_Graph.l0] at H
      have HC2 := Aside0.mk H
      clear H
      go_upto_region 3 with (fail)
      repeat (go_quiet (fail); go_upto_region 3 with (fail))
      go_cut [14] (fun v14 wc => ∃ (kq : Nat) (x14_1 : Bool), v14 = .bool x14_1 ∧ Aside0 (heliastlaw12_Graph.j1 kq l0 x3_1 x4_1 x14_1 = some r) ∧ Aside0 (kq ≤ k1) ∧ Aside0 (Kd.S (Kd.slice 3 (Kd.int .i64)) 65 wc w.heap.size (fun _ => True) u3 x3_1) ∧ Aside0 (Below w.heap.size w wc))
      case first =>
        have H := HC2.out
        clear HC2
        by_cases c3 : x4_1 < (l0.length : Int)
        · rw [if_pos c3] at H
          have c3b0 : decide (x4_1 < (l0.length : Int)) = true := decide_eq_true c3
          clear c3
          (first | rw [c3b0] | (simp only [i64_w, i32_w]; rw [c3b0]) | skip)
          have H' := Aside0.mk H
          clear H
          go_wp2
          repeat (go_quiet (fail); try go_wp2)
          go_meet
          case rel => exact ⟨_, (decide (x4_1 < 24)), (by first | rfl | (simp; done) | (simp [*]; done)), H', ⟨by have := HK1.out; first | omega | exact Nat.le_refl _⟩, ⟨by (with_reducible repeat (first | apply Kd.S_alloc | apply Kd.S_drewN | apply Kd.S_drew)); exact HO_3.out⟩, ⟨by repeat (first | (with_reducible first | exact HB.out | apply below_alloc | apply pw_below_drewN | apply below_drew1) | exact HB.out)⟩⟩
        · rw [if_neg c3] at H
          have c3b0 : decide (x4_1 < (l0.length : Int)) = false := decide_eq_false c3
          clear c3
          (first | rw [c3b0] | (simp only [i64_w, i32_w]; rw [c3b0]) | skip)
          have H' := Aside0.mk H
          clear H
          go_wp2
          repeat (go_quiet (fail); try go_wp2)
          go_meet
          case rel => exact ⟨_, (false), (by first | rfl | (simp; done) | (simp [*]; done)), H', ⟨by have := HK1.out; first | omega | exact Nat.le_refl _⟩, ⟨by (with_reducible repeat (first | apply Kd.S_alloc | apply Kd.S_drewN | apply Kd.S_drew)); exact HO_3.out⟩, ⟨by repeat (first | (with_reducible first | exact HB.out | apply below_alloc | apply pw_below_drewN | apply below_drew1) | exact HB.out)⟩⟩
      case rest =>
        clear HC2
        try clear p2
        try clear c3
        try clear c3b0
        obtain ⟨kq, x14_1, rfl, HA, HJ1, HO_3, HB⟩ := hcut
        cases kq with
        | zero => exact absurd HA.out (by simp [heliastlaw12_Graph.j1])
        | succ kj1 =>
          have H := HA.out
          clear HA
          simp only [heliastlaw12_Graph.j1] at H
          by_cases c4 : x14_1 = true
          · subst c4
            have H1 : (heliastlaw12_Graph.l1 kj1 l0 x3_1 x4_1 ([] : List Int) 0) = some r := by rw [if_pos rfl] at H; exact H
            clear H
            have H := H1
            clear H1
            have H' := Aside0.mk H
            clear H
            go_wp2
            repeat (go_quiet (fail); try go_wp2)
            go_loopg [5, 6] kj1 (fun kq v5 v6 w' => ∃ (x5_3 : List Int) (x6_3 : Int), v6 = .int .i64 x6_3 ∧ Aside0 (heliastlaw12_Graph.l1 kq l0 x3_1 x4_1 x5_3 x6_3 = some r) ∧ Aside0 (kq ≤ kj1) ∧ Aside0 (Kd.S (Kd.slice 3 (Kd.int .i64)) 65 w' w.heap.size (fun k_ => some k_ ≠ (v5 : Value).ownBlock) u3 x3_1) ∧ Aside0 (Kd.R (Kd.int .i64) 3 w' w.heap.size (fun _ => True) v5 x5_3) ∧ Aside0 (Below w.heap.size w w'))
            case atStart => exact ⟨(([] : List Int)), (0), (by first | rfl | (simp; done) | (simp [*]; done)), H', ⟨Nat.le_refl _⟩, ⟨by (with_reducible repeat (first | apply Kd.S_alloc | apply Kd.S_drewN | apply Kd.S_drew)); exact Kd.S_mono HO_3.out (fun _ hk => (by simp [Value.ownBlock]))⟩, ⟨by first | exact Kd.R_nil _ _ _ _ _ | exact Kd.N_nil _ _ _ _ _ | exact Kd.V_nil _ _ _ _ _ | exact Kd.Q_nil _ _ _ _ _ | exact Kd.S_nil _ _ _ _ _⟩, ⟨by repeat (first | (with_reducible first | exact HB.out | apply below_alloc | apply pw_below_drewN | apply below_drew1) | exact HB.out)⟩⟩
            case round =>
              clear H'
              try clear p2
              try clear c3
              try clear c3b0
              try clear c4
              try clear p2
              obtain ⟨x5_3, x6_3, rfl, HA, HK3, HO_3, HO_5, HB⟩ := hrel
              cases gk with
              | zero => exact absurd HA.out (by simp [heliastlaw12_Graph.l1])
              | succ k3 =>
                have H := HA.out
                clear HA
                simp only [heliastlaw12_Graph.l1] at H
                by_cases c5 : x6_3 < x4_1
                · rw [if_pos c5] at H
                  have c5b0 : decide (x6_3 < x4_1) = true := decide_eq_true c5
                  clear c5
                  by_cases c6 : 0 ≤ x4_1
                  · rw [if_pos c6] at H
                    have c6b0 : decide (0 ≤ x4_1) = true := decide_eq_true c6
                    clear c6
                    by_cases c7 : x4_1 < (l0.length : Int)
                    · rw [if_pos c7] at H
                      have c7b0 : decide (x4_1 < (l0.length : Int)) = true := decide_eq_true c7
                      clear c7
                      by_cases c8 : (l0.length : Int) = 0
                      · rw [if_pos c8] at H
                        exact absurd H (by simp)
                      · rw [if_neg c8] at H
                        have c8b0 : ((l0.length : Int) == 0) = false := beq_eq_false_iff_ne.mpr c8
                        have c8b1 : ((l0.length : Int) != 0) = true := bne_iff_ne.mpr c8
                        have c8b2 : ¬ (l0 = []) := fun h_ => c8 (by rw [h_]; rfl)
                        obtain ⟨ji9, hji9⟩ : ∃ j_ : Int, (Int.tmod (wrap64 (x4_1 + x6_3)) (l0.length : Int)) = j_ := ⟨_, rfl⟩
                        replace H : (if 0 ≤ (ji9) then (if (ji9) < (l0.length : Int) then (if (Int.tmod (wrap64 ((wrap64 ((wrap64 (rd l0 x4_1)) + (wrap64 (x6_3 * 7)))) + (wrap64 (rd l0 (ji9))))) 5) = 0 then (if x5_3.length < 17592186044416 then (heliastlaw12_Graph.l1 k3 l0 x3_1 x4_1 (x5_3 ++ [x6_3]) (wrap64 (x6_3 + 1))) else (none)) else (if x6_3 = (wrap64 (x4_1 - 1)) then (if (Int.tmod (rd l0 x4_1) 3) = 0 then (if x5_3.length < 17592186044416 then (heliastlaw12_Graph.l1 k3 l0 x3_1 x4_1 (x5_3 ++ [x6_3]) (wrap64 (x6_3 + 1))) else (none)) else (heliastlaw12_Graph.l1 k3 l0 x3_1 x4_1 x5_3 (wrap64 (x6_3 + 1)))) else (heliastlaw12_Graph.l1 k3 l0 x3_1 x4_1 x5_3 (wrap64 (x6_3 + 1))))) else (none)) else (none)) = some r := by first | (rw [hji9] at H; exact H) | (simp only [hji9] at H ⊢; exact H)
                        by_cases c10 : 0 ≤ (ji9)
                        · rw [if_pos c10] at H
                          have c10b0 : decide (0 ≤ (ji9)) = true := decide_eq_true c10
                          clear c10
                          by_cases c11 : (ji9) < (l0.length : Int)
                          · rw [if_pos c11] at H
                            have c11b0 : decide ((ji9) < (l0.length : Int)) = true := decide_eq_true c11
                            clear c11
                            by_cases c12 : (Int.tmod (wrap64 ((wrap64 ((wrap64 (rd l0 x4_1)) + (wrap64 (x6_3 * 7)))) + (wrap64 (rd l0 (ji9))))) 5) = 0
                            · rw [if_pos c12] at H
                              have c12b0 : ((Int.tmod (wrap64 ((wrap64 ((wrap64 (rd l0 x4_1)) + (wrap64 (x6_3 * 7)))) + (wrap64 (rd l0 (ji9))))) 5) == 0) = true := beq_iff_eq.mpr c12
                              have c12b1 : ((Int.tmod (wrap64 ((wrap64 ((wrap64 (rd l0 x4_1)) + (wrap64 (x6_3 * 7)))) + (wrap64 (rd l0 (ji9))))) 5) != 0) = false := bne_eq_false_iff_eq.mpr c12
                              clear c12
                              by_cases c13 : x5_3.length < 17592186044416
                              · rw [if_pos c13] at H
                                have LMc13 := Aside0.mk c13
                                clear c13
                                obtain ⟨y158, hy158⟩ : ∃ y_ : List Int, y_ = (x5_3 ++ [x6_3]) := ⟨_, rfl⟩
                                replace H : (heliastlaw12_Graph.l1 k3 l0 x3_1 x4_1 y158 (wrap64 (x6_3 + 1))) = some r := by first | (rw [hy158]; with_reducible exact H) | (have H2_ := (Option.bind_some _ _).symm.trans H; rw [hy158]; with_reducible exact H2_) | (have H2_ := (Option.bind_some _ _).symm.trans H; with_reducible exact H2_) | with_reducible exact H | (rw [hy158]; exact H) | exact H
                                have Ny158 := Aside0.mk hy158
                                clear hy158
                                have H' := Aside0.mk H
                                clear H
                                have p156 : 0 ≤ (x4_1 : Int) := of_decide_eq_true (by first | (with_reducible assumption) | assumption)
                                have q156 : x4_1 < (l0.length : Int) := of_decide_eq_true (by first | (with_reducible assumption) | assumption)
                                obtain ⟨ad156, e156, hx156_0⟩ := Kd.at_int HR0.out x4_1 p156 q156
                                cases e156
                                replace hx156_0 := (HB.out.cell (World.block_lt_of_cell? w _ hx156_0)).trans hx156_0
                                replace p156 := eq_true p156
                                replace q156 := eq_true q156
                                have p157 : 0 ≤ ((ji9) : Int) := of_decide_eq_true (by first | (with_reducible assumption) | assumption)
                                have q157 : (ji9) < (l0.length : Int) := of_decide_eq_true (by first | (with_reducible assumption) | assumption)
                                obtain ⟨ad157, e157, hx157_0⟩ := Kd.at_int HR0.out (ji9) p157 q157
                                obtain rfl : ad156 = ad157 := (by injection e157)
                                replace hx157_0 := (HB.out.cell (World.block_lt_of_cell? w _ hx157_0)).trans hx157_0
                                replace p157 := eq_true p157
                                replace q157 := eq_true q157
                                go_wp2_with (first | ((with_reducible refine gate_builtin (b := .append) (xs := #[.tmp 57, .tmp 59]) rfl ?_); at_builtin; refine Kd.R_append (Kd.int .i64) (w0 := w) w.heap.size rfl (.tmp 57) (.tmp 59) 65 3 (.int .i64 0) 8 rfl Try.underlying65 info3 rfl (by decide) (by omega) u5 x5_3 x6_3 [.int .i64 x6_3] (fun _ => True) (fun _ => False) rfl rfl ?aP (fun _ hk => hk.elim) ?aF ?aO ?aB ?aS ?aL ?_; (case aP => exact rfl); (case aB => exact (by repeat (first | (with_reducible first | exact HB.out | apply below_alloc | apply pw_below_drewN | apply below_drew1) | exact HB.out))); (case aF => exact (fun _ _ => trivial)); (case aO => exact (by (with_reducible repeat (first | apply Kd.R_alloc | apply Kd.R_drewN | apply Kd.R_drew)); exact HO_5.out)); (case aS => exact (below_size (by repeat (first | (with_reducible first | exact HB.out | apply below_alloc | apply pw_below_drewN | apply below_drew1) | exact HB.out)))); (case aL => have := LMc13.out; omega); intro v159 w14 ho hb hg hat; rw [← Ny158.out] at ho; have n0_ := Aside0.mk (Kd.S_after (ok := (fun _ => True)) (by (with_reducible repeat (first | apply Kd.S_alloc | apply Kd.S_drewN | apply Kd.S_drew)); exact Kd.S_mono HO_3.out (fun _ hk => ⟨trivial, hk⟩)) hg hat); have n1_ := Aside0.mk (hb); have n2_ := Aside0.mk (ho); clear HO_3; clear HB; clear HO_5; have HO_3 := n0_; have HB := n1_; have HO160 := n2_; clear n0_ n1_ n2_; clear ho hb hg hat))
                                repeat (go_quiet (first | ((with_reducible refine gate_builtin (b := .append) (xs := #[.tmp 57, .tmp 59]) rfl ?_); at_builtin; refine Kd.R_append (Kd.int .i64) (w0 := w) w.heap.size rfl (.tmp 57) (.tmp 59) 65 3 (.int .i64 0) 8 rfl Try.underlying65 info3 rfl (by decide) (by omega) u5 x5_3 x6_3 [.int .i64 x6_3] (fun _ => True) (fun _ => False) rfl rfl ?aP (fun _ hk => hk.elim) ?aF ?aO ?aB ?aS ?aL ?_; (case aP => exact rfl); (case aB => exact (by repeat (first | (with_reducible first | exact HB.out | apply below_alloc | apply pw_below_drewN | apply below_drew1) | exact HB.out))); (case aF => exact (fun _ _ => trivial)); (case aO => exact (by (with_reducible repeat (first | apply Kd.R_alloc | apply Kd.R_drewN | apply Kd.R_drew)); exact HO_5.out)); (case aS => exact (below_size (by repeat (first | (with_reducible first | exact HB.out | apply below_alloc | apply pw_below_drewN | apply below_drew1) | exact HB.out)))); (case aL => have := LMc13.out; omega); intro v159 w14 ho hb hg hat; rw [← Ny158.out] at ho; have n0_ := Aside0.mk (Kd.S_after (ok := (fun _ => True)) (by (with_reducible repeat (first | apply Kd.S_alloc | apply Kd.S_drewN | apply Kd.S_drew)); exact Kd.S_mono HO_3.out (fun _ hk => ⟨trivial, hk⟩)) hg hat); have n1_ := Aside0.mk (hb); have n2_ := Aside0.mk (ho); clear HO_3; clear HB; clear HO_5; have HO_3 := n0_; have HB := n1_; have HO160 := n2_; clear n0_ n1_ n2_; clear ho hb hg hat)); try go_wp2_with (first | ((with_reducible refine gate_builtin (b := .append) (xs := #[.tmp 57, .tmp 59]) rfl ?_); at_builtin; refine Kd.R_append (Kd.int .i64) (w0 := w) w.heap.size rfl (.tmp 57) (.tmp 59) 65 3 (.int .i64 0) 8 rfl Try.underlying65 info3 rfl (by decide) (by omega) u5 x5_3 x6_3 [.int .i64 x6_3] (fun _ => True) (fun _ => False) rfl rfl ?aP (fun _ hk => hk.elim) ?aF ?aO ?aB ?aS ?aL ?_; (case aP => exact rfl); (case aB => exact (by repeat (first | (with_reducible first | exact HB.out | apply below_alloc | apply pw_below_drewN | apply below_drew1) | exact HB.out))); (case aF => exact (fun _ _ => trivial)); (case aO => exact (by (with_reducible repeat (first | apply Kd.R_alloc | apply Kd.R_drewN | apply Kd.R_drew)); exact HO_5.out)); (case aS => exact (below_size (by repeat (first | (with_reducible first | exact HB.out | apply below_alloc | apply pw_below_drewN | apply below_drew1) | exact HB.out)))); (case aL => have := LMc13.out; omega); intro v159 w14 ho hb hg hat; rw [← Ny158.out] at ho; have n0_ := Aside0.mk (Kd.S_after (ok := (fun _ => True)) (by (with_reducible repeat (first | apply Kd.S_alloc | apply Kd.S_drewN | apply Kd.S_drew)); exact Kd.S_mono HO_3.out (fun _ hk => ⟨trivial, hk⟩)) hg hat); have n1_ := Aside0.mk (hb); have n2_ := Aside0.mk (ho); clear HO_3; clear HB; clear HO_5; have HO_3 := n0_; have HB := n1_; have HO160 := n2_; clear n0_ n1_ n2_; clear ho hb hg hat)))
                                go_roundg k3
                                case measure => have := HK1.out; have := HJ1.out; have := HK3.out; omega
                                case rel => exact ⟨(y158), (wrap64 (x6_3 + 1)), (by first | rfl | (simp; done) | (simp [*]; done)), H', ⟨by have := HK1.out; have := HJ1.out; have := HK3.out; omega⟩, ⟨by (with_reducible repeat (first | apply Kd.S_alloc | apply Kd.S_drewN | apply Kd.S_drew)); exact Kd.S_mono HO_3.out (fun _ hk => hk.2)⟩, ⟨by (with_reducible repeat (first | apply Kd.R_alloc | apply Kd.R_drewN | apply Kd.R_drew)); exact HO160.out⟩, ⟨by repeat (first | (with_reducible first | exact HB.out | apply below_alloc | apply pw_below_drewN | apply below_drew1) | exact HB.out)⟩⟩
                              · rw [if_neg c13] at H
                                exact absurd H (by simp)
                            · rw [if_neg c12] at H
                              have c12b0 : ((Int.tmod (wrap64 ((wrap64 ((wrap64 (rd l0 x4_1)) + (wrap64 (x6_3 * 7)))) + (wrap64 (rd l0 (ji9))))) 5) == 0) = false := beq_eq_false_iff_ne.mpr c12
                              have c12b1 : ((Int.tmod (wrap64 ((wrap64 ((wrap64 (rd l0 x4_1)) + (wrap64 (x6_3 * 7)))) + (wrap64 (rd l0 (ji9))))) 5) != 0) = true := bne_iff_ne.mpr c12
                              by_cases c15 : x6_3 = (wrap64 (x4_1 - 1))
                              · rw [if_pos c15] at H
                                have c15b0 : (x6_3 == (wrap64 (x4_1 - 1))) = true := beq_iff_eq.mpr c15
                                have c15b1 : (x6_3 != (wrap64 (x4_1 - 1))) = false := bne_eq_false_iff_eq.mpr c15
                                clear c15
                                by_cases c16 : (Int.tmod (rd l0 x4_1) 3) = 0
                                · rw [if_pos c16] at H
                                  have c16b0 : ((Int.tmod (rd l0 x4_1) 3) == 0) = true := beq_iff_eq.mpr c16
                                  have c16b1 : ((Int.tmod (rd l0 x4_1) 3) != 0) = false := bne_eq_false_iff_eq.mpr c16
                                  clear c16
                                  by_cases c17 : x5_3.length < 17592186044416
                                  · rw [if_pos c17] at H
                                    have LMc17 := Aside0.mk c17
                                    clear c17
                                    obtain ⟨y162, hy162⟩ : ∃ y_ : List Int, y_ = (x5_3 ++ [x6_3]) := ⟨_, rfl⟩
                                    replace H : (heliastlaw12_Graph.l1 k3 l0 x3_1 x4_1 y162 (wrap64 (x6_3 + 1))) = some r := by first | (rw [hy162]; with_reducible exact H) | (have H2_ := (Option.bind_some _ _).symm.trans H; rw [hy162]; with_reducible exact H2_) | (have H2_ := (Option.bind_some _ _).symm.trans H; with_reducible exact H2_) | with_reducible exact H | (rw [hy162]; exact H) | exact H
                                    have Ny162 := Aside0.mk hy162
                                    clear hy162
                                    have H' := Aside0.mk H
                                    clear H
                                    have p156 : 0 ≤ (x4_1 : Int) := of_decide_eq_true (by first | (with_reducible assumption) | assumption)
                                    have q156 : x4_1 < (l0.length : Int) := of_decide_eq_true (by first | (with_reducible assumption) | assumption)
                                    obtain ⟨ad156, e156, hx156_0⟩ := Kd.at_int HR0.out x4_1 p156 q156
                                    cases e156
                                    replace hx156_0 := (HB.out.cell (World.block_lt_of_cell? w _ hx156_0)).trans hx156_0
                                    replace p156 := eq_true p156
                                    replace q156 := eq_true q156
                                    have p157 : 0 ≤ ((ji9) : Int) := of_decide_eq_true (by first | (with_reducible assumption) | assumption)
                                    have q157 : (ji9) < (l0.length : Int) := of_decide_eq_true (by first | (with_reducible assumption) | assumption)
                                    obtain ⟨ad157, e157, hx157_0⟩ := Kd.at_int HR0.out (ji9) p157 q157
                                    obtain rfl : ad156 = ad157 := (by injection e157)
                                    replace hx157_0 := (HB.out.cell (World.block_lt_of_cell? w _ hx157_0)).trans hx157_0
                                    replace p157 := eq_true p157
                                    replace q157 := eq_true q157
                                    have p161 : 0 ≤ (x4_1 : Int) := of_decide_eq_true (by first | (with_reducible assumption) | assumption)
                                    have q161 : x4_1 < (l0.length : Int) := of_decide_eq_true (by first | (with_reducible assumption) | assumption)
                                    obtain ⟨ad161, e161, hx161_0⟩ := Kd.at_int HR0.out x4_1 p161 q161
                                    obtain rfl : ad156 = ad161 := (by injection e161)
                                    replace hx161_0 := (HB.out.cell (World.block_lt_of_cell? w _ hx161_0)).trans hx161_0
                                    replace p161 := eq_true p161
                                    replace q161 := eq_true q161
                                    go_wp2_with (first | ((with_reducible refine gate_builtin (b := .append) (xs := #[.tmp 57, .tmp 59]) rfl ?_); at_builtin; refine Kd.R_append (Kd.int .i64) (w0 := w) w.heap.size rfl (.tmp 57) (.tmp 59) 65 3 (.int .i64 0) 8 rfl Try.underlying65 info3 rfl (by decide) (by omega) u5 x5_3 x6_3 [.int .i64 x6_3] (fun _ => True) (fun _ => False) rfl rfl ?aP (fun _ hk => hk.elim) ?aF ?aO ?aB ?aS ?aL ?_; (case aP => exact rfl); (case aB => exact (by repeat (first | (with_reducible first | exact HB.out | apply below_alloc | apply pw_below_drewN | apply below_drew1) | exact HB.out))); (case aF => exact (fun _ _ => trivial)); (case aO => exact (by (with_reducible repeat (first | apply Kd.R_alloc | apply Kd.R_drewN | apply Kd.R_drew)); exact HO_5.out)); (case aS => exact (below_size (by repeat (first | (with_reducible first | exact HB.out | apply below_alloc | apply pw_below_drewN | apply below_drew1) | exact HB.out)))); (case aL => have := LMc17.out; omega); intro v163 w18 ho hb hg hat; rw [← Ny162.out] at ho; have n0_ := Aside0.mk (Kd.S_after (ok := (fun _ => True)) (by (with_reducible repeat (first | apply Kd.S_alloc | apply Kd.S_drewN | apply Kd.S_drew)); exact Kd.S_mono HO_3.out (fun _ hk => ⟨trivial, hk⟩)) hg hat); have n1_ := Aside0.mk (hb); have n2_ := Aside0.mk (ho); clear HO_3; clear HB; clear HO_5; have HO_3 := n0_; have HB := n1_; have HO164 := n2_; clear n0_ n1_ n2_; clear ho hb hg hat))
                                    repeat (go_quiet (first | ((with_reducible refine gate_builtin (b := .append) (xs := #[.tmp 57, .tmp 59]) rfl ?_); at_builtin; refine Kd.R_append (Kd.int .i64) (w0 := w) w.heap.size rfl (.tmp 57) (.tmp 59) 65 3 (.int .i64 0) 8 rfl Try.underlying65 info3 rfl (by decide) (by omega) u5 x5_3 x6_3 [.int .i64 x6_3] (fun _ => True) (fun _ => False) rfl rfl ?aP (fun _ hk => hk.elim) ?aF ?aO ?aB ?aS ?aL ?_; (case aP => exact rfl); (case aB => exact (by repeat (first | (with_reducible first | exact HB.out | apply below_alloc | apply pw_below_drewN | apply below_drew1) | exact HB.out))); (case aF => exact (fun _ _ => trivial)); (case aO => exact (by (with_reducible repeat (first | apply Kd.R_alloc | apply Kd.R_drewN | apply Kd.R_drew)); exact HO_5.out)); (case aS => exact (below_size (by repeat (first | (with_reducible first | exact HB.out | apply below_alloc | apply pw_below_drewN | apply below_drew1) | exact HB.out)))); (case aL => have := LMc17.out; omega); intro v163 w18 ho hb hg hat; rw [← Ny162.out] at ho; have n0_ := Aside0.mk (Kd.S_after (ok := (fun _ => True)) (by (with_reducible repeat (first | apply Kd.S_alloc | apply Kd.S_drewN | apply Kd.S_drew)); exact Kd.S_mono HO_3.out (fun _ hk => ⟨trivial, hk⟩)) hg hat); have n1_ := Aside0.mk (hb); have n2_ := Aside0.mk (ho); clear HO_3; clear HB; clear HO_5; have HO_3 := n0_; have HB := n1_; have HO164 := n2_; clear n0_ n1_ n2_; clear ho hb hg hat)); try go_wp2_with (first | ((with_reducible refine gate_builtin (b := .append) (xs := #[.tmp 57, .tmp 59]) rfl ?_); at_builtin; refine Kd.R_append (Kd.int .i64) (w0 := w) w.heap.size rfl (.tmp 57) (.tmp 59) 65 3 (.int .i64 0) 8 rfl Try.underlying65 info3 rfl (by decide) (by omega) u5 x5_3 x6_3 [.int .i64 x6_3] (fun _ => True) (fun _ => False) rfl rfl ?aP (fun _ hk => hk.elim) ?aF ?aO ?aB ?aS ?aL ?_; (case aP => exact rfl); (case aB => exact (by repeat (first | (with_reducible first | exact HB.out | apply below_alloc | apply pw_below_drewN | apply below_drew1) | exact HB.out))); (case aF => exact (fun _ _ => trivial)); (case aO => exact (by (with_reducible repeat (first | apply Kd.R_alloc | apply Kd.R_drewN | apply Kd.R_drew)); exact HO_5.out)); (case aS => exact (below_size (by repeat (first | (with_reducible first | exact HB.out | apply below_alloc | apply pw_below_drewN | apply below_drew1) | exact HB.out)))); (case aL => have := LMc17.out; omega); intro v163 w18 ho hb hg hat; rw [← Ny162.out] at ho; have n0_ := Aside0.mk (Kd.S_after (ok := (fun _ => True)) (by (with_reducible repeat (first | apply Kd.S_alloc | apply Kd.S_drewN | apply Kd.S_drew)); exact Kd.S_mono HO_3.out (fun _ hk => ⟨trivial, hk⟩)) hg hat); have n1_ := Aside0.mk (hb); have n2_ := Aside0.mk (ho); clear HO_3; clear HB; clear HO_5; have HO_3 := n0_; have HB := n1_; have HO164 := n2_; clear n0_ n1_ n2_; clear ho hb hg hat)))
                                    go_roundg k3
                                    case measure => have := HK1.out; have := HJ1.out; have := HK3.out; omega
                                    case rel => exact ⟨(y162), (wrap64 (x6_3 + 1)), (by first | rfl | (simp; done) | (simp [*]; done)), H', ⟨by have := HK1.out; have := HJ1.out; have := HK3.out; omega⟩, ⟨by (with_reducible repeat (first | apply Kd.S_alloc | apply Kd.S_drewN | apply Kd.S_drew)); exact Kd.S_mono HO_3.out (fun _ hk => hk.2)⟩, ⟨by (with_reducible repeat (first | apply Kd.R_alloc | apply Kd.R_drewN | apply Kd.R_drew)); exact HO164.out⟩, ⟨by repeat (first | (with_reducible first | exact HB.out | apply below_alloc | apply pw_below_drewN | apply below_drew1) | exact HB.out)⟩⟩
                                  · rw [if_neg c17] at H
                                    exact absurd H (by simp)
                                · rw [if_neg c16] at H
                                  have c16b0 : ((Int.tmod (rd l0 x4_1) 3) == 0) = false := beq_eq_false_iff_ne.mpr c16
                                  have c16b1 : ((Int.tmod (rd l0 x4_1) 3) != 0) = true := bne_iff_ne.mpr c16
                                  have H' := Aside0.mk H
                                  clear H
                                  have p156 : 0 ≤ (x4_1 : Int) := of_decide_eq_true (by first | (with_reducible assumption) | assumption)
                                  have q156 : x4_1 < (l0.length : Int) := of_decide_eq_true (by first | (with_reducible assumption) | assumption)
                                  obtain ⟨ad156, e156, hx156_0⟩ := Kd.at_int HR0.out x4_1 p156 q156
                                  cases e156
                                  replace hx156_0 := (HB.out.cell (World.block_lt_of_cell? w _ hx156_0)).trans hx156_0
                                  replace p156 := eq_true p156
                                  replace q156 := eq_true q156
                                  have p157 : 0 ≤ ((ji9) : Int) := of_decide_eq_true (by first | (with_reducible assumption) | assumption)
                                  have q157 : (ji9) < (l0.length : Int) := of_decide_eq_true (by first | (with_reducible assumption) | assumption)
                                  obtain ⟨ad157, e157, hx157_0⟩ := Kd.at_int HR0.out (ji9) p157 q157
                                  obtain rfl : ad156 = ad157 := (by injection e157)
                                  replace hx157_0 := (HB.out.cell (World.block_lt_of_cell? w _ hx157_0)).trans hx157_0
                                  replace p157 := eq_true p157
                                  replace q157 := eq_true q157
                                  have p161 : 0 ≤ (x4_1 : Int) := of_decide_eq_true (by first | (with_reducible assumption) | assumption)
                                  have q161 : x4_1 < (l0.length : Int) := of_decide_eq_true (by first | (with_reducible assumption) | assumption)
                                  obtain ⟨ad161, e161, hx161_0⟩ := Kd.at_int HR0.out x4_1 p161 q161
                                  obtain rfl : ad156 = ad161 := (by injection e161)
                                  replace hx161_0 := (HB.out.cell (World.block_lt_of_cell? w _ hx161_0)).trans hx161_0
                                  replace p161 := eq_true p161
                                  replace q161 := eq_true q161
                                  go_wp2
                                  repeat (go_quiet (fail); try go_wp2)
                                  go_roundg k3
                                  case measure => have := HK1.out; have := HJ1.out; have := HK3.out; omega
                                  case rel => exact ⟨(x5_3), (wrap64 (x6_3 + 1)), (by first | rfl | (simp; done) | (simp [*]; done)), H', ⟨by have := HK1.out; have := HJ1.out; have := HK3.out; omega⟩, ⟨by (with_reducible repeat (first | apply Kd.S_alloc | apply Kd.S_drewN | apply Kd.S_drew)); exact HO_3.out⟩, ⟨by (with_reducible repeat (first | apply Kd.R_alloc | apply Kd.R_drewN | apply Kd.R_drew)); exact HO_5.out⟩, ⟨by repeat (first | (with_reducible first | exact HB.out | apply below_alloc | apply pw_below_drewN | apply below_drew1) | exact HB.out)⟩⟩
                              · rw [if_neg c15] at H
                                have c15b0 : (x6_3 == (wrap64 (x4_1 - 1))) = false := beq_eq_false_iff_ne.mpr c15
                                have c15b1 : (x6_3 != (wrap64 (x4_1 - 1))) = true := bne_iff_ne.mpr c15
                                have H' := Aside0.mk H
                                clear H
                                have p156 : 0 ≤ (x4_1 : Int) := of_decide_eq_true (by first | (with_reducible assumption) | assumption)
                                have q156 : x4_1 < (l0.length : Int) := of_decide_eq_true (by first | (with_reducible assumption) | assumption)
                                obtain ⟨ad156, e156, hx156_0⟩ := Kd.at_int HR0.out x4_1 p156 q156
                                cases e156
                                replace hx156_0 := (HB.out.cell (World.block_lt_of_cell? w _ hx156_0)).trans hx156_0
                                replace p156 := eq_true p156
                                replace q156 := eq_true q156
                                have p157 : 0 ≤ ((ji9) : Int) := of_decide_eq_true (by first | (with_reducible assumption) | assumption)
                                have q157 : (ji9) < (l0.length : Int) := of_decide_eq_true (by first | (with_reducible assumption) | assumption)
                                obtain ⟨ad157, e157, hx157_0⟩ := Kd.at_int HR0.out (ji9) p157 q157
                                obtain rfl : ad156 = ad157 := (by injection e157)
                                replace hx157_0 := (HB.out.cell (World.block_lt_of_cell? w _ hx157_0)).trans hx157_0
                                replace p157 := eq_true p157
                                replace q157 := eq_true q157
                                go_wp2
                                repeat (go_quiet (fail); try go_wp2)
                                go_roundg k3
                                case measure => have := HK1.out; have := HJ1.out; have := HK3.out; omega
                                case rel => exact ⟨(x5_3), (wrap64 (x6_3 + 1)), (by first | rfl | (simp; done) | (simp [*]; done)), H', ⟨by have := HK1.out; have := HJ1.out; have := HK3.out; omega⟩, ⟨by (with_reducible repeat (first | apply Kd.S_alloc | apply Kd.S_drewN | apply Kd.S_drew)); exact HO_3.out⟩, ⟨by (with_reducible repeat (first | apply Kd.R_alloc | apply Kd.R_drewN | apply Kd.R_drew)); exact HO_5.out⟩, ⟨by repeat (first | (with_reducible first | exact HB.out | apply below_alloc | apply pw_below_drewN | apply below_drew1) | exact HB.out)⟩⟩
                          · rw [if_neg c11] at H
                            exact absurd H (by simp)
                        · rw [if_neg c10] at H
                          exact absurd H (by simp)
                    · rw [if_neg c7] at H
                      exact absurd H (by simp)
                  · rw [if_neg c6] at H
                    exact absurd H (by simp)
                · rw [if_neg c5] at H
                  have c5b0 : decide (x6_3 < x4_1) = false := decide_eq_false c5
                  clear c5
                  by_cases c19 : x3_1.length < 5864062014805
                  · rw [if_pos c19] at H
                    have LMc19 := Aside0.mk c19
                    clear c19
                    obtain ⟨y165, hy165⟩ : ∃ y_ : List (List Int), y_ = (x3_1 ++ [x5_3]) := ⟨_, rfl⟩
                    replace H : (heliastlaw12_Graph.l0 k3 l0 y165 (wrap64 (x4_1 + 1))) = some r := by first | (rw [hy165]; with_reducible exact H) | (have H2_ := (Option.bind_some _ _).symm.trans H; rw [hy165]; with_reducible exact H2_) | (have H2_ := (Option.bind_some _ _).symm.trans H; with_reducible exact H2_) | with_reducible exact H | (rw [hy165]; exact H) | exact H
                    have Ny165 := Aside0.mk hy165
                    clear hy165
                    have H' := Aside0.mk H
                    clear H
                    obtain ⟨Ao21, co21, eo21⟩ := Kd.R_slice HO_5.out
                    subst eo21
                    go_wp2_with (first | ((with_reducible refine gate_builtin (b := .append) (xs := #[.tmp 61, .tmp 63]) rfl ?_); at_builtin; refine Kd.S_append (Kd.slice 3 (Kd.int .i64)) (w0 := w) w.heap.size rfl (.tmp 61) (.tmp 63) 74 65 (.slice none 0 0) 24 rfl Try.underlying74 info65 rfl (by decide) (by omega) u3 x3_1 x5_3 [.slice Ao21 x5_3.length co21] (fun _ => True) (fun k_ => some k_ = (.slice Ao21 x5_3.length co21 : Value).ownBlock) rfl rfl ?aP (fun k_ hk_ => ((Kd.R_mono (ok' := fun k_ => ((fun _ => True)) k_ ∧ some k_ ≠ (u3 : Value).ownBlock) (Kd.R_apart' (HO_5.out) (Kd.S_typed HO_3.out) (by decide)) (fun k_ hk => ⟨trivial, hk.2⟩))).1 k_ hk_.symm) ?aF ?aO ?aB ?aS ?aL ?_; (case aP => exact Kd.M_row (Kd.R_mono (Kd.R_tight rfl (Kd.R_mono (ok' := fun k_ => ((fun _ => True)) k_ ∧ some k_ ≠ (u3 : Value).ownBlock) (Kd.R_apart' (HO_5.out) (Kd.S_typed HO_3.out) (by decide)) (fun k_ hk => ⟨trivial, hk.2⟩))) (fun _ h_ => h_))); (case aB => exact (by repeat (first | (with_reducible first | exact HB.out | apply below_alloc | apply pw_below_drewN | apply below_drew1) | exact HB.out))); (case aF => exact (fun _ _ => trivial)); (case aO => exact (by (with_reducible repeat (first | apply Kd.S_alloc | apply Kd.S_drewN | apply Kd.S_drew)); exact Kd.S_mono HO_3.out (fun k_ hk => ⟨trivial, fun e_ => hk e_⟩))); (case aS => exact (below_size (by repeat (first | (with_reducible first | exact HB.out | apply below_alloc | apply pw_below_drewN | apply below_drew1) | exact HB.out)))); (case aL => have := LMc19.out; omega); intro v166 w20 ho hb hg hat; rw [← Ny165.out] at ho; have n0_ := Aside0.mk (hb); have n1_ := Aside0.mk (ho); clear HB; clear HO_3; clear HO_5; have HB := n0_; have HO167 := n1_; clear n0_ n1_; clear ho hb hg hat))
                    repeat (go_quiet (first | ((with_reducible refine gate_builtin (b := .append) (xs := #[.tmp 61, .tmp 63]) rfl ?_); at_builtin; refine Kd.S_append (Kd.slice 3 (Kd.int .i64)) (w0 := w) w.heap.size rfl (.tmp 61) (.tmp 63) 74 65 (.slice none 0 0) 24 rfl Try.underlying74 info65 rfl (by decide) (by omega) u3 x3_1 x5_3 [.slice Ao21 x5_3.length co21] (fun _ => True) (fun k_ => some k_ = (.slice Ao21 x5_3.length co21 : Value).ownBlock) rfl rfl ?aP (fun k_ hk_ => ((Kd.R_mono (ok' := fun k_ => ((fun _ => True)) k_ ∧ some k_ ≠ (u3 : Value).ownBlock) (Kd.R_apart' (HO_5.out) (Kd.S_typed HO_3.out) (by decide)) (fun k_ hk => ⟨trivial, hk.2⟩))).1 k_ hk_.symm) ?aF ?aO ?aB ?aS ?aL ?_; (case aP => exact Kd.M_row (Kd.R_mono (Kd.R_tight rfl (Kd.R_mono (ok' := fun k_ => ((fun _ => True)) k_ ∧ some k_ ≠ (u3 : Value).ownBlock) (Kd.R_apart' (HO_5.out) (Kd.S_typed HO_3.out) (by decide)) (fun k_ hk => ⟨trivial, hk.2⟩))) (fun _ h_ => h_))); (case aB => exact (by repeat (first | (with_reducible first | exact HB.out | apply below_alloc | apply pw_below_drewN | apply below_drew1) | exact HB.out))); (case aF => exact (fun _ _ => trivial)); (case aO => exact (by (with_reducible repeat (first | apply Kd.S_alloc | apply Kd.S_drewN | apply Kd.S_drew)); exact Kd.S_mono HO_3.out (fun k_ hk => ⟨trivial, fun e_ => hk e_⟩))); (case aS => exact (below_size (by repeat (first | (with_reducible first | exact HB.out | apply below_alloc | apply pw_below_drewN | apply below_drew1) | exact HB.out)))); (case aL => have := LMc19.out; omega); intro v166 w20 ho hb hg hat; rw [← Ny165.out] at ho; have n0_ := Aside0.mk (hb); have n1_ := Aside0.mk (ho); clear HB; clear HO_3; clear HO_5; have HB := n0_; have HO167 := n1_; clear n0_ n1_; clear ho hb hg hat)); try go_wp2_with (first | ((with_reducible refine gate_builtin (b := .append) (xs := #[.tmp 61, .tmp 63]) rfl ?_); at_builtin; refine Kd.S_append (Kd.slice 3 (Kd.int .i64)) (w0 := w) w.heap.size rfl (.tmp 61) (.tmp 63) 74 65 (.slice none 0 0) 24 rfl Try.underlying74 info65 rfl (by decide) (by omega) u3 x3_1 x5_3 [.slice Ao21 x5_3.length co21] (fun _ => True) (fun k_ => some k_ = (.slice Ao21 x5_3.length co21 : Value).ownBlock) rfl rfl ?aP (fun k_ hk_ => ((Kd.R_mono (ok' := fun k_ => ((fun _ => True)) k_ ∧ some k_ ≠ (u3 : Value).ownBlock) (Kd.R_apart' (HO_5.out) (Kd.S_typed HO_3.out) (by decide)) (fun k_ hk => ⟨trivial, hk.2⟩))).1 k_ hk_.symm) ?aF ?aO ?aB ?aS ?aL ?_; (case aP => exact Kd.M_row (Kd.R_mono (Kd.R_tight rfl (Kd.R_mono (ok' := fun k_ => ((fun _ => True)) k_ ∧ some k_ ≠ (u3 : Value).ownBlock) (Kd.R_apart' (HO_5.out) (Kd.S_typed HO_3.out) (by decide)) (fun k_ hk => ⟨trivial, hk.2⟩))) (fun _ h_ => h_))); (case aB => exact (by repeat (first | (with_reducible first | exact HB.out | apply below_alloc | apply pw_below_drewN | apply below_drew1) | exact HB.out))); (case aF => exact (fun _ _ => trivial)); (case aO => exact (by (with_reducible repeat (first | apply Kd.S_alloc | apply Kd.S_drewN | apply Kd.S_drew)); exact Kd.S_mono HO_3.out (fun k_ hk => ⟨trivial, fun e_ => hk e_⟩))); (case aS => exact (below_size (by repeat (first | (with_reducible first | exact HB.out | apply below_alloc | apply pw_below_drewN | apply below_drew1) | exact HB.out)))); (case aL => have := LMc19.out; omega); intro v166 w20 ho hb hg hat; rw [← Ny165.out] at ho; have n0_ := Aside0.mk (hb); have n1_ := Aside0.mk (ho); clear HB; clear HO_3; clear HO_5; have HB := n0_; have HO167 := n1_; clear n0_ n1_; clear ho hb hg hat)))
                    go_roundg k3
                    case measure => have := HK1.out; have := HJ1.out; have := HK3.out; omega
                    case rel => exact ⟨(y165), (wrap64 (x4_1 + 1)), (by first | rfl | (simp; done) | (simp [*]; done)), H', ⟨by have := HK1.out; have := HJ1.out; have := HK3.out; omega⟩, ⟨by (with_reducible repeat (first | apply Kd.S_alloc | apply Kd.S_drewN | apply Kd.S_drew)); exact HO167.out⟩, ⟨by repeat (first | (with_reducible first | exact HB.out | apply below_alloc | apply pw_below_drewN | apply below_drew1) | exact HB.out)⟩⟩
                  · rw [if_neg c19] at H
                    exact absurd H (by simp)
          · replace c4 := Bool.eq_false_iff.mpr c4
            subst c4
            have H1 : (some x3_1) = some r := by rw [if_neg (show ¬ (false = true) by decide)] at H; exact H
            clear H
            have H := H1
            clear H1
            obtain rfl := Option.some.inj H
            go_wp2
            repeat (go_quiet (fail); try go_wp2)
            go_ret
            exact ⟨_, by first | rfl | (simp [errW_none, errW_some] <;> rfl) | (simp [*, errW_none, errW_some] <;> rfl), by (with_reducible repeat (first | apply Kd.S_alloc | apply Kd.S_drewN | apply Kd.S_drew)); exact HO_3.out, by repeat (first | (with_reducible first | exact HB.out | apply below_alloc | apply pw_below_drewN | apply below_drew1) | exact HB.out)⟩
end Go.Proofs.Ytmmalieacakcbaa.S
end
section
namespace Go.Proofs.Ytmmalieacakcbaa.S
open Go.RowKit Go.Proofs.YtmmalieacakcbaaW.PrintWords Go.Proofs.YtmmalieacakcbaaW.PrintLast Go.Proofs.YtmmalieacakcbaaW.PrintMore
attribute [local go_sem] max2_int min2_int max_two min_two max_three min_three max_four min_four
set_option linter.unusedVariables false
set_option linter.unusedSimpArgs false
attribute [local go_sem high] eqA69
open Go.Proofs.He
def placesL (l : List S69) : List Int := Lib.compact ((l.map fun x => x.f2).mergeSort fun x y => decide (x ≤ y))
set_option maxHeartbeats 4000000 in
set_option maxRecDepth 100000 in
theorem state_Places.walk (A0 : Option Addr) (c0 : Nat) (l0 : List S69) (w : World) (hr0 : Kd.C k69 w A0 l0.length l0) (hlim : l0.length < 17592186044416) :
    Calls Try.prog 34 #[.slice A0 l0.length c0] w fun e w' => ∃ v, e = .returned v ∧ (Kd.int .i64).R 3 w' w.heap.size (fun _ => True) v (placesL l0) ∧ Below w.heap.size w w' := by
  have hu69 := Try.underlying69
  have HR0 := Aside0.mk hr0
  clear hr0
  go_enter Try.func34, Try.ntmps34
  go_wp2
  go_loopg [3, 5, 8] l0.length (fun gg v3 _ v8 wr => ∃ k : Nat, k ≤ l0.length ∧ l0.length - k ≤ gg ∧ v8 = .int .i64 k ∧ Aside0 ((Kd.int .i64).R 3 wr w.heap.size (fun _ => True) v3 ((l0.take k).map fun x => x.f2)) ∧ Aside0 (Below w.heap.size w wr))
  case atStart => exact ⟨0, Nat.zero_le _, by omega, rfl, ⟨Kd.R_nil _ _ _ _ _⟩, ⟨Below.refl _ _⟩⟩
  case round =>
    obtain ⟨k, hk, hg, rfl, HR, HB⟩ := hrel
    by_cases hlt : k < l0.length
    · obtain ⟨ad, e, hx0, hx1, hx2⟩ := at_T69 HR0.out k (by omega) (by omega)
      cases e
      replace hx0 := (HB.out.cell (World.block_lt_of_cell? w _ hx0)).trans hx0
      replace hx1 := (HB.out.cell (World.block_lt_of_cell? w _ hx1)).trans hx1
      replace hx2 := (HB.out.cell (World.block_lt_of_cell? w _ hx2)).trans hx2
      rw [Int.toNat_natCast] at hx0 hx1 hx2
      have hltz : (k : Int) < (l0.length : Int) := by omega
      have hrd : (l0.take k).map (fun x => x.f2) ++ [(rd_T69 l0 k).f2] = (l0.take (k + 1)).map fun x => x.f2 := by
        rw [List.take_succ_eq_append_getElem hlt, List.map_append]; simp [rd_T69, hlt]
      have HRD := Aside0.mk hrd
      have hll : (((l0.take k).map fun x => x.f2).length + 1) * 8 ≤ 140737488355328 := by rw [List.length_map, List.length_take]; omega
      have HLL := Aside0.mk hll
      clear hrd hll
      go_wp2_with (first | (at_builtin; refine Kd.R_append (Kd.int .i64) (w0 := w) w.heap.size rfl _ _ 65 3 (.int .i64 0) 8 rfl Try.underlying65 info3 rfl (by decide) (by omega) u3 ((l0.take k).map fun x => x.f2) (rd_T69 l0 k).f2 [.int .i64 (rd_T69 l0 k).f2] (fun _ => True) (fun _ => False) rfl (by first | rfl | (go_simp; done) | (simp [World.alloc, Act.eval]; done)) rfl (fun _ hk => hk.elim) (fun _ _ => trivial) (Kd.R_alloc HR.out _) (below_alloc HB.out _) (below_alloc HB.out _).size HLL.out ?_; intro v2 w2 hr2 hb2 hg2 hat2) | go_in)
      go_roundg (l0.length - (k + 1))
      case measure => omega
      case rel => exact ⟨k + 1, by omega, by omega, by go_num, ⟨by rw [← HRD.out]; exact hr2⟩, ⟨hb2⟩⟩
    · have hltz : ¬ (k : Int) < (l0.length : Int) := by omega
      have : k = l0.length := by omega
      subst this
      have hrr := HR.out
      rw [List.take_length] at hrr
      have HS := Aside0.mk (sort_int.walk hrr (by rw [List.length_map]; omega))
      clear hrr
      go_wp2_with (go_at_call 76; refine HS.out.mono ?_; rintro e w1 ⟨rfl, hr1, hg1⟩)
      have HB1 := Aside0.mk (HB.out.grown hg1 HB.out.size (fun k e => own_base (Kd.R_own HR.out).choose_spec k e))
      have HR1 := Aside0.mk hr1
      have HC := Aside0.mk (slices_Compact_int.walk hr1)
      clear hg1 hr1
      go_wp2_with fail
      refine HC.out.mono ?_
      rintro e w2 ⟨v2, rfl, hr2, hg2⟩
      go_wp2
      go_ret
      exact ⟨_, rfl, hr2, HB1.out.grown hg2 HB1.out.size (fun k e => own_base (Kd.R_own HR1.out).choose_spec k e)⟩
def state_Places.f (l0 : List S69) : Option (List Int) := if l0.length < 17592186044416 then some (placesL l0) else none
theorem state_Places.calls (A0 : Option Addr) (c0 : Nat) (l0 : List S69) (r : List Int) (w : World) (hr0 : Kd.C k69 w A0 l0.length l0) (hc0 : l0.length ≤ c0) (h : state_Places.f l0 = some r) :
    Calls Try.prog 34 #[.slice A0 l0.length c0] w fun e w' => ∃ v0_ : Value, e = .returned (v0_) ∧ (Kd.int .i64).R 3 w' w.heap.size (fun _ => True) v0_ r ∧ Below w.heap.size w w' := by
  unfold state_Places.f at h
  split at h
  · obtain rfl := Option.some.inj h
    exact state_Places.walk A0 c0 l0 w hr0 ‹_›
  · cases h
open Go.Proofs.He
noncomputable def setK : KK Try.prog 3 Int := intK Try.underlying3
abbrev OwnSet (w : World) (b : Nat) (M : List (Int × Unit)) : Prop := Own setK unitV w b M
theorem zero103 (w : World) : (zeroValue 103).run Try.prog w = .ok (.agg #[]) w := by kernel_rfl
set_option maxHeartbeats 1000000 in
theorem set_has.walk (b : Nat) (M : List (Int × Unit)) (x : Int) (w : World) (h : OwnSet w b M) (hx : (Lit.int .i64 x).wf = true) :
    Calls Try.prog 91 #[.map (some b), .int .i64 x] w fun e w' => e = .returned (.bool (decide (x ∈ M.map (·.1)))) ∧ w' = w.alloc (.cells #[] 103) := by
  go_enter Try.func91, Try.ntmps91
  go_wp2_with (first | (at_lookup; refine wpList_mhas rfl _ _ 121 rfl setK 103 Try.underlying121 (zero103 _) b M rfl h x rfl hx ?_) | go_in)
  go_ret
  exact ⟨rfl, rfl⟩
set_option maxHeartbeats 1000000 in
theorem set_put.walk (b : Nat) (M : List (Int × Unit)) (x : Int) (w : World) (h : OwnSet w b M) (hx : (Lit.int .i64 x).wf = true) (hn : M.length < maxLen) :
    Calls Try.prog 89 #[.map (some b), .int .i64 x] w fun e w' => e = .returned (.tuple #[]) ∧ OwnSet w' b (putM M x ()) ∧ w.grownBy w' (some b) := by
  go_enter Try.func89, Try.ntmps89
  go_wp2_with (first | (at_mapUpdate; refine wpList_mput rfl _ _ _ 121 rfl setK unitV 103 Try.underlying121 b M rfl h hn x () rfl rfl hx trivial ?_; intro w1 hown1 hgrow1) | go_in)
  go_end0
  exact ⟨rfl, hown1, hgrow1⟩
theorem length_putM {M : List (Int × Unit)} {x : Int} : (putM M x ()).length ≤ M.length + 1 := by
  unfold putM delM; rw [List.length_cons]; have := List.length_filter_le (fun p : Int × Unit => decide (p.1 ≠ x)) M; omega
theorem mem_take_succ (l : List Int) (j : Nat) (hj : j < l.length) (x : Int) : x ∈ l.take (j + 1) ↔ x ∈ l.take j ∨ x = rd l j := by
  have e : rd l j = l[j] := by simp [rd, hj]
  rw [List.take_succ_eq_append_getElem hj, List.mem_append, List.mem_singleton, e]
structure OfInv (g : List (List Int)) (l : List Int) (w : World) (b j : Nat) (M : List (Int × Unit)) : Prop where
  own : OwnSet w b M
  len : M.length ≤ j
  mem : ∀ x, x ∈ M.map (·.1) ↔ x ∈ l.take j ∧ 0 ≤ x ∧ x < g.length
theorem OfInv.skip {g : List (List Int)} {l : List Int} {w : World} {b j : Nat} {M : List (Int × Unit)} (h : OfInv g l w b j M) (hj : j < l.length) (hx : ¬ (0 ≤ rd l j ∧ rd l j < g.length)) : OfInv g l w b (j + 1) M :=
  ⟨h.own, by have := h.len; omega, fun x => by
    rw [h.mem, mem_take_succ l j hj]
    constructor
    · rintro ⟨h1, h2⟩; exact ⟨.inl h1, h2⟩
    · rintro ⟨h1 | h1, h2⟩
      · exact ⟨h1, h2⟩
      · subst h1; exact absurd h2 hx⟩
theorem OfInv.put {g : List (List Int)} {l : List Int} {w w' : World} {b j : Nat} {M : List (Int × Unit)} (h : OfInv g l w b j M) (hj : j < l.length) {x : Int} (hx : x = rd l j) (h0 : 0 ≤ x) (h1 : x < g.length) (ho : OwnSet w' b (putM M x ())) : OfInv g l w' b (j + 1) (putM M x ()) := by
  subst hx; exact
  ⟨ho, by have := h.len; have := length_putM (M := M) (x := rd l j); omega, fun x => by
    rw [keys_putM, h.mem, mem_take_succ l j hj]
    constructor
    · rintro (rfl | ⟨h1, h2⟩)
      · exact ⟨.inr rfl, h0, h1⟩
      · exact ⟨.inl h1, h2⟩
    · rintro ⟨h1 | h1, h2⟩
      · exact .inr ⟨h1, h2⟩
      · exact .inl h1⟩
set_option maxHeartbeats 4000000 in
set_option maxRecDepth 100000 in
theorem graph_of.walk (A0 : Option Addr) (c0 : Nat) (g : List (List Int)) (A1 : Option Addr) (c1 : Nat) (l : List Int) (w : World) (hg : g.length ≤ 9223372036854775807) (hr1 : Kd.C (Kd.int .i64) w A1 l.length l) :
    Calls Try.prog 88 #[.slice A0 g.length c0, .slice A1 l.length c1] w fun e w' => ∃ b M, e = .returned (.map (some b)) ∧ w.heap.size ≤ b ∧ OwnSet w' b M ∧ (∀ x, x ∈ M.map (·.1) ↔ x ∈ l ∧ 0 ≤ x ∧ x < g.length) ∧ Below w.heap.size w w' := by
  have hmm := @run_makeMap Try.prog
  have hlen : l.length ≤ 9223372036854775807 := hr1.2.1
  have HR1 := Aside0.mk hr1
  clear hr1
  have HO := Aside0.mk (show OfInv g l (w.alloc (.map #[] 0)) w.heap.size 0 [] from ⟨Own.made _ _ _, Nat.le_refl _, by simp⟩)
  have HB := Aside0.mk ((Below.refl w.heap.size w).alloc (Nat.le_refl _) (Obj.map #[] 0))
  go_enter Try.func88, Try.ntmps88
  go_wp2
  clear hmm
  go_loopw [11] (fun v wr => ∃ (j : Nat) (M : List (Int × Unit)), v = .int .i64 j ∧ j ≤ l.length ∧ Aside0 (OfInv g l wr w.heap.size j M) ∧ Aside0 (Below w.heap.size w wr)) (fun v _ => l.length - (intOf v).toNat)
  case atStart => exact ⟨0, [], rfl, Nat.zero_le _, HO, HB⟩
  case round =>
    clear HO HB
    obtain ⟨j, M, rfl, hj, HI, HB⟩ := hrel
    by_cases hlt : j < l.length
    · obtain ⟨ad, e, hx⟩ := Kd.at_int (Kd.C_below HR1.out HB.out) (j : Int) (by omega) (by omega)
      cases e
      obtain ⟨x, hxd⟩ : ∃ x, x = rd l j := ⟨_, rfl⟩
      rw [← hxd, Int.toNat_natCast] at hx
      have HX := Aside0.mk hxd
      clear hxd
      have hm : M.length < maxLen := by have := HI.out.len; unfold maxLen; omega
      by_cases h0 : 0 ≤ x
      · by_cases h1 : x < g.length
        · have hwf : (Lit.int .i64 x).wf = true := WalkArith.wf_i64 (by omega)
          have HP := Aside0.mk (fun W (hW : OwnSet W w.heap.size M) => set_put.walk w.heap.size M x W hW hwf hm)
          clear hwf hm
          go_wp2_with (first | (go_at_call 89; refine (HP.out _ HI.out.own).mono ?_; rintro e w1 ⟨rfl, ho1, hg1⟩) | go_in)
          have HB1 := Aside0.mk (HB.out.grown hg1 HB.out.size (fun k e => by cases e; exact Nat.le_refl _))
          go_roundw
          case rel => exact ⟨j + 1, _, by go_num, by omega, ⟨HI.out.put hlt HX.out h0 h1 ho1⟩, HB1⟩
          case measure => simp [intOf]; omega
        · go_wp2
          go_roundw
          case rel => exact ⟨j + 1, M, by go_num, by omega, ⟨HI.out.skip hlt (by rw [← HX.out]; omega)⟩, HB⟩
          case measure => simp [intOf]; omega
      · go_wp2
        go_roundw
        case rel => exact ⟨j + 1, M, by go_num, by omega, ⟨HI.out.skip hlt (by rw [← HX.out]; omega)⟩, HB⟩
        case measure => simp [intOf]; omega
    · have hjl : j = l.length := by omega
      go_wp2
      go_ret
      exact ⟨_, M, rfl, Nat.le_refl _, HI.out.own, fun x => by rw [HI.out.mem, hjl, List.take_length], HB.out⟩
structure RiseInv (M : List (Int × Unit)) (w : World) (b r base : Nat) (v : Value) (xs todo : List Int) : Prop where
  it : Iter setK unitV w b r M todo
  row : (Kd.int .i64).R 3 w base (fun _ => True) v xs
  nodup : xs.Nodup
  mem : ∀ x, x ∈ xs ↔ x ∈ M.map (·.1) ∧ x ∉ todo
  len : xs.length + todo.length = M.length
theorem RiseInv.step {M : List (Int × Unit)} {w w2 : World} {b r base : Nat} {v v2 : Value} {xs todo : List Int} (h : RiseInv M w b r base v xs todo) {x : Int} (hx : x ∈ todo)
    (hi : Iter setK unitV w2 b r M (strikeL todo x)) (hr : (Kd.int .i64).R 3 w2 base (fun _ => True) v2 (xs ++ [x])) : RiseInv M w2 b r base v2 (xs ++ [x]) (strikeL todo x) where
  it := hi
  row := hr
  nodup := List.nodup_append.2 ⟨h.nodup, by simp, fun a ha b hb e => by rw [List.mem_singleton.1 hb] at e; subst e; exact ((h.mem a).1 ha).2 hx⟩
  mem z := by
    rw [List.mem_append, List.mem_singleton, h.mem, mem_strikeL]
    by_cases e : z = x
    · subst e; simp [h.it.sub z hx]
    · simp [e]
  len := by have := h.len; have := length_strike1 h.it.nodup hx; rw [List.length_append]; simp; omega
set_option maxHeartbeats 4000000 in
set_option maxRecDepth 100000 in
theorem set_rising.walk (b : Nat) (M : List (Int × Unit)) (w : World) (h : OwnSet w b M) (hlim : M.length < 17592186044416) :
    Calls Try.prog 82 #[.map (some b)] w fun e w' => ∃ v ys, e = .returned v ∧ (Kd.int .i64).R 3 w' w.heap.size (fun _ => True) v ys ∧ ys.Pairwise (· < ·) ∧ (∀ x, x ∈ ys ↔ x ∈ M.map (·.1)) ∧ Below w.heap.size w w' := by
  have HO := Aside0.mk h
  clear h
  go_enter Try.func82, Try.ntmps82
  go_wp2_with (first | (at_range; refine wpList_mrange rfl _ 121 rfl setK unitV 103 Try.underlying121 b M rfl HO.out ?_; intro w0 hi0 hg0 hs0) | go_in)
  go_frame
  have hb0 : b < w.heap.size := HO.out.lt
  have H0 := Aside0.mk (show RiseInv M w0 b w.heap.size w.heap.size (.slice none 0 0) [] (M.map (·.1)) from ⟨hi0, Kd.R_nil _ _ _ _ _, by simp, by simp, by simp⟩)
  have HB := Aside0.mk ((Below.refl w.heap.size w).grown hg0 (Nat.le_refl _) (fun k e => by cases e))
  clear hi0 hg0 hs0
  go_loopw [3] (fun v wr => ∃ (xs todo : List Int), Aside0 (RiseInv M wr b w.heap.size w.heap.size v xs todo) ∧ Aside0 (Below w.heap.size w wr)) (fun _ wr => wr.rangeLeft b w.heap.size)
  case atStart => exact ⟨[], _, H0, HB⟩
  case round =>
    clear H0 HB
    obtain ⟨xs, todo, HI, HB⟩ := hrel
    go_wp2_with (first | (at_next; refine wpList_mnext rfl _ rfl setK unitV b w.heap.size M rfl HI.out.it ?_ ?_) | go_in)
    · intro ht
      subst ht
      have HS := Aside0.mk (sort_int.walk HI.out.row (by have := HI.out.len; omega))
      go_wp2_with (first | (go_at_call 76; refine HS.out.mono ?_; rintro e w1 ⟨rfl, hr1, hg1⟩) | go_in)
      go_ret
      refine ⟨_, _, rfl, hr1, sort_rises HI.out.nodup, fun x => ?_, HB.out.grown hg1 HB.out.size (fun k e => ?_)⟩
      · rw [(List.mergeSort_perm _ _).mem_iff, HI.out.mem]; simp
      · exact own_base (Kd.R_own HI.out.row).choose_spec k e
    · intro x y w1 hx hxM hi1 hlt1 hg1 hs1 hen
      have hen' : (Instr.entry (.pointer (some ⟨w.heap.size, 0, none⟩))).run Try.prog w1 = .ok (.tuple #[.int .i64 x, .agg #[]]) w1 := hen
      clear hen
      have hrv : some w.heap.size ≠ u3.ownBlock := fun e => by
        obtain ⟨inner, ho⟩ := Kd.R_own HI.out.row
        obtain ⟨cells, hc⟩ := own_typed ho _ e.symm
        exact HI.out.it.off hc rfl
      have hbv : some b ≠ u3.ownBlock := fun e => by
        obtain ⟨inner, ho⟩ := Kd.R_own HI.out.row
        obtain ⟨cells, hc⟩ := own_typed ho _ e.symm
        exact HI.out.it.own.off hc rfl
      have HBV := Aside0.mk hbv
      have HRV := Aside0.mk hrv
      have HR1 := Aside0.mk (Kd.R_grown1 HI.out.row rfl hg1 hrv)
      have HB1 := Aside0.mk (HB.out.grown hg1 HB.out.size (fun k e => by cases e; exact Nat.le_refl _))
      have HG1 := Aside0.mk hlt1
      have HI1 := Aside0.mk hi1
      have HX := Aside0.mk hx
      have hl : (xs.length + 1) * 8 ≤ 140737488355328 := by have := HI.out.len; omega
      have HL := Aside0.mk hl
      have HSZ := Aside0.mk (show w.heap.size ≤ w1.heap.size from HB1.out.size)
      clear hg1 hlt1 hi1 hx hxM hl hs1 hrv hbv
      go_wp2_with (first | (at_builtin; refine Kd.R_append (Kd.int .i64) (w0 := w) w.heap.size rfl _ _ 65 3 (.int .i64 0) 8 rfl Try.underlying65 info3 rfl (by decide) (by omega) u3 xs x [.int .i64 x] (fun _ => True) (fun _ => False) rfl rfl rfl (fun _ hk => hk.elim) (fun _ _ => trivial) HR1.out HB1.out HSZ.out HL.out ?_; intro v2 w2 hr2 hb2 hg2 hat2) | go_in)
      go_roundw
      case rel => exact ⟨_, _, ⟨HI.out.step HX.out (HI1.out.grown hg2 HBV.out HRV.out) hr2⟩, ⟨hb2⟩⟩
      case measure => rw [HI1.out.left_grown hg2 HBV.out HRV.out]; exact HG1.out
structure ReachInv (g : List (List Int)) (l : List Int) (w : World) (b base : Nat) (v : Value) (L : List Int) (M : List (Int × Unit)) : Prop where
  own : OwnSet w b M
  row : (Kd.int .i64).R 3 w base (fun _ => True) v L
  nodup : L.Nodup
  sub : ∀ x ∈ L, x ∈ M.map (·.1)
  sound : ∀ x ∈ M.map (·.1), Rch g l x
  start : ∀ x ∈ l, 0 ≤ x → x < g.length → x ∈ M.map (·.1)
  closed : ∀ a ∈ M.map (·.1), a ∉ L → ∀ c, goesTo g a c → c ∈ M.map (·.1)
structure RoundInv (g : List (List Int)) (l : List Int) (w : World) (b base : Nat) (v : Value) (L : List Int) (M : List (Int × Unit)) (n : Int) (j : Nat) : Prop where
  own : OwnSet w b M
  row : (Kd.int .i64).R 3 w base (fun _ => True) v L
  nodup : L.Nodup
  sub : ∀ x ∈ L, x ∈ M.map (·.1)
  sound : ∀ x ∈ M.map (·.1), Rch g l x
  start : ∀ x ∈ l, 0 ≤ x → x < g.length → x ∈ M.map (·.1)
  at_n : n ∈ M.map (·.1)
  closed : ∀ a ∈ M.map (·.1), a ∉ L → a ≠ n → ∀ c, goesTo g a c → c ∈ M.map (·.1)
  part : ∀ i, i < j → ∀ c, c = rd (g.getD n.toNat []) i → 0 ≤ c → c < n → c ∈ M.map (·.1)
theorem mem_rd {l : List Int} {c : Int} (h : c ∈ l) : ∃ i : Nat, i < l.length ∧ c = rd l i := by
  obtain ⟨i, hi, rfl⟩ := List.getElem_of_mem h
  exact ⟨i, hi, by simp [rd, hi]⟩
theorem rd_mem {l : List Int} {i : Nat} (h : i < l.length) : rd l i ∈ l := by
  have : rd l i = l[i] := by simp [rd, h]
  rw [this]; exact List.getElem_mem h
theorem small_set {g : List (List Int)} {l : List Int} {w : World} {b : Nat} {M : List (Int × Unit)} (ho : OwnSet w b M) (hs : ∀ x ∈ M.map (·.1), Rch g l x) : M.length ≤ (rchL g l).length := by
  have := ho.nodup.length_le_of_subset (l₂ := rchL g l) (fun x hx => mem_rchL.2 (hs x hx))
  simpa using this
theorem small_rch (g : List (List Int)) (l : List Int) : (rchL g l).length ≤ g.length := by
  unfold rchL pickL
  exact Nat.le_trans (List.length_filter_le _ _) (by simp)
theorem ReachInv.pop {g : List (List Int)} {l : List Int} {w : World} {b base : Nat} {v v' : Value} {L : List Int} {n : Int} {M : List (Int × Unit)} (h : ReachInv g l w b base v (L ++ [n]) M) (hr : (Kd.int .i64).R 3 w base (fun _ => True) v' L) : RoundInv g l w b base v' L M n 0 where
  own := h.own
  row := hr
  nodup := (List.nodup_append.1 h.nodup).1
  sub x hx := h.sub x (List.mem_append_left _ hx)
  sound := h.sound
  start := h.start
  at_n := h.sub n (by simp)
  closed a ha hL hn := h.closed a ha (by simp [hL, hn])
  part i hi := absurd hi (Nat.not_lt_zero _)
theorem RoundInv.done {g : List (List Int)} {l : List Int} {w : World} {b base : Nat} {v : Value} {L : List Int} {n : Int} {M : List (Int × Unit)} {j : Nat} (h : RoundInv g l w b base v L M n j) (hj : (g.getD n.toNat []).length ≤ j) : ReachInv g l w b base v L M where
  own := h.own
  row := h.row
  nodup := h.nodup
  sub := h.sub
  sound := h.sound
  start := h.start
  closed a ha hL c hc := by
    by_cases e : a = n
    · subst e
      obtain ⟨i, hi, rfl⟩ := mem_rd hc.2.1
      exact h.part i (by omega) _ rfl hc.2.2.1 hc.2.2.2
    · exact h.closed a ha hL e c hc
theorem RoundInv.skip {g : List (List Int)} {l : List Int} {w : World} {b base : Nat} {v : Value} {L : List Int} {n : Int} {M : List (Int × Unit)} {j : Nat} (h : RoundInv g l w b base v L M n j) {x : Int} (hx : x = rd (g.getD n.toNat []) j) (hs : 0 ≤ x → x < n → x ∈ M.map (·.1))
    {w' : World} (ho : OwnSet w' b M) (hr : (Kd.int .i64).R 3 w' base (fun _ => True) v L) : RoundInv g l w' b base v L M n (j + 1) where
  own := ho
  row := hr
  nodup := h.nodup
  sub := h.sub
  sound := h.sound
  start := h.start
  at_n := h.at_n
  closed := h.closed
  part i hi c hc h0 h1 := by
    by_cases e : i = j
    · subst e; rw [← hx] at hc; subst hc; exact hs h0 h1
    · exact h.part i (by omega) c hc h0 h1
theorem RoundInv.push {g : List (List Int)} {l : List Int} {w : World} {b base : Nat} {v v' : Value} {L : List Int} {n : Int} {M : List (Int × Unit)} {j : Nat} (h : RoundInv g l w b base v L M n j) {x : Int} (hx : x = rd (g.getD n.toNat []) j) (hj : j < (g.getD n.toNat []).length) (h0 : 0 ≤ x) (h1 : x < n) (hn : x ∉ M.map (·.1))
    {w' : World} (ho : OwnSet w' b (putM M x ())) (hr : (Kd.int .i64).R 3 w' base (fun _ => True) v' (L ++ [x])) : RoundInv g l w' b base v' (L ++ [x]) (putM M x ()) n (j + 1) where
  own := ho
  row := hr
  nodup := List.nodup_append.2 ⟨h.nodup, by simp, fun a ha c hc e => by rw [List.mem_singleton.1 hc] at e; subst e; exact hn (h.sub a ha)⟩
  sub z hz := by
    rw [keys_putM]
    rcases List.mem_append.1 hz with hz | hz
    · exact .inr (h.sub z hz)
    · exact .inl (List.mem_singleton.1 hz)
  sound z hz := by
    rcases keys_putM.1 hz with rfl | hz
    · exact .step (h.sound n h.at_n) ⟨(h.sound n h.at_n).valid.1, by rw [hx]; exact rd_mem hj, h0, h1⟩
    · exact h.sound z hz
  start z hz h2 h3 := keys_putM.2 (.inr (h.start z hz h2 h3))
  at_n := keys_putM.2 (.inr h.at_n)
  closed a ha hL hna c hc := by
    rcases keys_putM.1 ha with rfl | ha
    · exact absurd (by simp) hL
    · exact keys_putM.2 (.inr (h.closed a ha (fun h' => hL (List.mem_append_left _ h')) hna c hc))
  part i hi c hc h2 h3 := by
    rw [keys_putM]
    by_cases e : i = j
    · subst e; rw [← hx] at hc; exact .inl hc
    · exact .inr (h.part i (by omega) c hc h2 h3)
theorem ReachInv.all {g : List (List Int)} {l : List Int} {w : World} {b base : Nat} {v : Value} {M : List (Int × Unit)} (h : ReachInv g l w b base v [] M) (x : Int) : x ∈ M.map (·.1) ↔ Rch g l x := by
  refine ⟨h.sound x, fun hx => ?_⟩
  induction hx with
  | base h1 h2 h3 => exact h.start _ h1 h2 h3
  | step h1 h2 ih => exact h.closed _ ih (by simp) _ h2
set_option maxHeartbeats 8000000 in
set_option maxRecDepth 100000 in
theorem graph_reach.walk (A0 : Option Addr) (c0 : Nat) (g : List (List Int)) (A1 : Option Addr) (c1 : Nat) (l : List Int) (w : World) (hr0 : Kd.C (Kd.slice 3 (Kd.int .i64)) w A0 g.length g) (hr1 : Kd.C (Kd.int .i64) w A1 l.length l) (hlim : g.length < 17592186044416) :
    Calls Try.prog 81 #[.slice A0 g.length c0, .slice A1 l.length c1] w fun e w' => ∃ b M, e = .returned (.map (some b)) ∧ w.heap.size ≤ b ∧ OwnSet w' b M ∧ (∀ x, x ∈ M.map (·.1) ↔ Rch g l x) ∧ Below w.heap.size w w' := by
  have HR0 := Aside0.mk hr0
  have HR1 := Aside0.mk hr1
  clear hr0 hr1
  go_enter Try.func81, Try.ntmps81
  go_wp2_with fail
  refine (graph_of.walk A0 c0 g A1 c1 l w (by omega) HR1.out).mono ?_
  rintro e w1 ⟨b, M1, rfl, hb, ho1, hm1, hb1⟩
  have HM1 := Aside0.mk hm1
  have HO1 := Aside0.mk ho1
  have HB1 := Aside0.mk hb1
  have HBB := Aside0.mk hb
  have hs1 : M1.length ≤ g.length := by
    have := ho1.nodup.length_le_of_subset (l₂ := rchL g l) (fun x hx => mem_rchL.2 (by obtain ⟨h1, h2, h3⟩ := (hm1 x).1 hx; exact .base h1 h2 h3))
    have h' := small_rch g l
    simp at this; omega
  clear hm1 ho1 hb1 hb
  go_wp2_with fail
  refine (set_rising.walk b M1 w1 HO1.out (by omega)).mono ?_
  rintro e w2 ⟨v, ys, rfl, hr2, hp2, hm2, hb2⟩
  have HI := Aside0.mk (show ReachInv g l w2 b w.heap.size v ys M1 from {
    own := HO1.out.below hb2
    row := Kd.R_lower hr2 HB1.out.size
    nodup := hp2.imp (fun h => by omega)
    sub := fun x hx => (hm2 x).1 hx
    sound := fun x hx => by obtain ⟨h1, h2, h3⟩ := (HM1.out x).1 hx; exact .base h1 h2 h3
    start := fun x h1 h2 h3 => (HM1.out x).2 ⟨h1, h2, h3⟩
    closed := fun a ha hL => absurd ((hm2 a).2 ha) hL })
  have HB := Aside0.mk (below_then HB1.out HB1.out.size hb2)
  clear hr2 hp2 hm2 hb2 HM1 HO1 HB1 hs1
  go_wp2
  go_loopg [6] (2 * ((rchL g l).length - M1.length) + ys.length) (fun kq v6 wr => ∃ (L : List Int) (M : List (Int × Unit)), Aside0 (ReachInv g l wr b w.heap.size v6 L M) ∧ Aside0 (2 * ((rchL g l).length - M.length) + L.length ≤ kq) ∧ Aside0 (Below w.heap.size w wr))
  case atStart => exact ⟨ys, M1, HI, ⟨Nat.le_refl _⟩, HB⟩
  case round =>
    clear HI HB
    obtain ⟨L, M, HI, HK, HB⟩ := hrel
    rcases List.eq_nil_or_concat L with hL | ⟨L', n, hL⟩
    · subst hL
      obtain ⟨A, c, rfl⟩ := Kd.R_slice HI.out.row
      go_wp2
      go_ret
      exact ⟨b, M, rfl, HBB.out, HI.out.own, HI.out.all, HB.out⟩
    · rw [List.concat_eq_append] at hL
      subst hL
      obtain ⟨gb, cap, hv, hc, hcell, hrow⟩ := row_last HI.out.row
      subst hv
      have HP := Aside0.mk (HI.out.pop hrow)
      have hnv := (HI.out.sound n (HI.out.sub n (by simp))).valid
      have hn0 := hnv.1
      have hn1 := hnv.2
      clear hnv hrow
      have hLm : L'.length + 1 ≤ 9223372036854775807 := by
        have h1 := HI.out.nodup.length_le_of_subset (l₂ := rchL g l) (fun x hx => mem_rchL.2 (HI.out.sound x (HI.out.sub x hx)))
        have h2 := small_rch g l
        simp at h1; omega
      obtain ⟨ad, Ar, cr, e, hrx, hrl, hrc⟩ := at_row HR0.out n hn0 hn1
      cases e
      replace hrx := (HB.out.cell (World.block_lt_of_cell? w _ hrx)).trans hrx
      obtain ⟨ns, hns⟩ : ∃ ns, ns = g.getD n.toNat [] := ⟨_, rfl⟩
      rw [← hns] at hrx hrl hrc
      have HN := Aside0.mk hns
      have HRC := Aside0.mk hrc
      have hnl : ns.length ≤ 9223372036854775807 := hrc.2.1
      clear hns hrc hrl
      obtain ⟨i0, hi0, hzz⟩ := Option.map_eq_some_iff.1 info3
      simp only [Prod.mk.injEq] at hzz
      have hcut := cut_up (P := Try.prog) 65 3 Try.underlying65 hi0 (some ⟨gb, 0, none⟩) (L'.length + 1) cap L'.length (L'.length : Int) rfl (by omega)
      clear hi0 hzz
      obtain ⟨ko, rfl⟩ : ∃ k, gk = k + 1 := ⟨gk - 1, by have := HK.out; simp at this; omega⟩
      have HK1 := Aside0.mk (show 2 * ((rchL g l).length - M.length) + L'.length ≤ ko by have := HK.out; simp at this; omega)
      clear HK HI
      go_wp2
      go_loopg [6, 34] ns.length (fun kq v6 v34 w3 => ∃ (L : List Int) (M : List (Int × Unit)) (j : Nat), v34 = .int .i64 j ∧ j ≤ ns.length ∧ Aside0 (RoundInv g l w3 b w.heap.size v6 L M n j) ∧ Aside0 (ns.length - j ≤ kq) ∧ Aside0 (2 * ((rchL g l).length - M.length) + L.length ≤ ko) ∧ Aside0 (Below w.heap.size w w3))
      case atStart => exact ⟨L', M, 0, rfl, Nat.zero_le _, HP, ⟨by omega⟩, HK1, HB⟩
      case round =>
        clear HP HK1 HB hcell hcut hc hrx
        obtain ⟨L, M, j, rfl, hj, HI, HJ, HK, HB⟩ := hrel
        by_cases hlt : j < ns.length
        · obtain ⟨ad2, e, hx⟩ := Kd.at_int (Kd.C_below HRC.out HB.out) (j : Int) (by omega) (by omega)
          cases e
          obtain ⟨x, hxd⟩ : ∃ x, x = rd ns j := ⟨_, rfl⟩
          rw [← hxd, Int.toNat_natCast] at hx
          have HX := Aside0.mk (hxd.trans (by rw [HN.out]) : x = rd (g.getD n.toNat []) j)
          clear hxd
          by_cases h0 : 0 ≤ x
          · by_cases h1 : x < n
            · have hwf : (Lit.int .i64 x).wf = true := WalkArith.wf_i64 (by omega)
              by_cases hin : x ∈ M.map (·.1)
              · have HH := Aside0.mk (fun W (hW : OwnSet W b M) => (set_has.walk b M x W hW hwf).mono (R' := fun e w' => e = .returned (.bool true) ∧ w' = W.alloc (.cells #[] 103)) (fun _ _ h => by rw [decide_eq_true hin] at h; exact h))
                have HIN := Aside0.mk hin
                clear hin hwf
                go_wp2_with (first | (go_at_call 91; refine (HH.out _ HI.out.own).mono ?_; rintro e w4 ⟨rfl, rfl⟩) | go_in)
                go_roundg (ns.length - (j + 1))
                case measure => have := HJ.out; omega
                case rel => exact ⟨L, M, j + 1, by go_num, by omega, ⟨HI.out.skip HX.out (fun _ _ => HIN.out) (HI.out.own.below ((Below.refl _ _).alloc (Nat.le_refl _) _)) (Kd.R_below HI.out.row ((Below.refl _ _).alloc (Nat.le_refl _) _))⟩, ⟨Nat.le_refl _⟩, HK, ⟨below_alloc HB.out _⟩⟩
              · have HH := Aside0.mk (fun W (hW : OwnSet W b M) => (set_has.walk b M x W hW hwf).mono (R' := fun e w' => e = .returned (.bool false) ∧ w' = W.alloc (.cells #[] 103)) (fun _ _ h => by rw [decide_eq_false hin] at h; exact h))
                have hsm := small_set HI.out.own HI.out.sound
                have hsr := small_rch g l
                have HP := Aside0.mk (fun W (hW : OwnSet W b M) => set_put.walk b M x W hW hwf (by unfold maxLen; omega))
                have HIN := Aside0.mk hin
                have hLm : L.length ≤ g.length := by
                  have h1 := HI.out.nodup.length_le_of_subset (l₂ := rchL g l) (fun x hx => mem_rchL.2 (HI.out.sound x (HI.out.sub x hx)))
                  omega
                have hll : (L.length + 1) * 8 ≤ 140737488355328 := by omega
                have HLL := Aside0.mk hll
                have hlp : (putM M x ()).length = M.length + 1 := by
                  have : delM M x = M := List.filter_eq_self.2 (fun p hp => by simp; rintro rfl; exact hin (List.mem_map.2 ⟨p, hp, rfl⟩))
                  unfold putM; rw [this, List.length_cons]
                have HLP := Aside0.mk hlp
                have hs2 : M.length + 1 ≤ (rchL g l).length := by
                  rw [← hlp]
                  have hnd := nodup_putM HI.out.own.nodup x ()
                  have := hnd.length_le_of_subset (l₂ := rchL g l) (fun z hz => mem_rchL.2 (by
                    rcases keys_putM.1 hz with rfl | hz
                    · exact .step (HI.out.sound n HI.out.at_n) ⟨hn0, by rw [HX.out]; exact rd_mem (by rw [← HN.out]; exact hlt), h0, h1⟩
                    · exact HI.out.sound z hz))
                  simpa using this
                have HS2 := Aside0.mk hs2
                clear hin hwf hsm hsr hLm hll hlp hs2
                go_wp2_with (go_at_call 91; refine (HH.out _ HI.out.own).mono ?_; rintro e w4 ⟨rfl, rfl⟩)
                have HO4 := Aside0.mk (HI.out.own.below ((Below.refl _ _).alloc (Nat.le_refl _) (.cells #[] 103)))
                have HR4 := Aside0.mk (Kd.R_below HI.out.row ((Below.refl _ _).alloc (Nat.le_refl _) (.cells #[] 103)))
                have HB4 := Aside0.mk (below_alloc HB.out (.cells #[] 103))
                go_wp2_with fail
                refine (HP.out _ HO4.out).mono ?_
                rintro e w5 ⟨rfl, ho5, hg5⟩
                have hbv : some b ≠ u6.ownBlock := fun e => by
                  obtain ⟨inner, ho⟩ := Kd.R_own HR4.out
                  obtain ⟨cells, hc⟩ := own_typed ho _ e.symm
                  exact HO4.out.off hc rfl
                have HBV := Aside0.mk hbv
                have HR5 := Aside0.mk (Kd.R_grown1 HR4.out rfl hg5 hbv)
                have HO5 := Aside0.mk ho5
                have HB5 := Aside0.mk (HB4.out.grown hg5 HB4.out.size (fun k e => by cases e; exact HBB.out))
                have HSZ := Aside0.mk (show w.heap.size ≤ w5.heap.size from HB5.out.size)
                clear hbv ho5 hg5
                go_wp2_with (first | (at_builtin; refine Kd.R_append (Kd.int .i64) (w0 := w) w.heap.size rfl _ _ 65 3 (.int .i64 0) 8 rfl Try.underlying65 info3 rfl (by decide) (by omega) u6 L x [.int .i64 x] (fun _ => True) (fun _ => False) rfl rfl rfl (fun _ hk => hk.elim) (fun _ _ => trivial) HR5.out HB5.out HSZ.out HLL.out ?_; intro v2 w6 hr2 hb2 hg2 hat2) | go_in)
                go_roundg (ns.length - (j + 1))
                case measure => have := HJ.out; omega
                case rel => exact ⟨L ++ [x], putM M x (), j + 1, by go_num, by omega, ⟨HI.out.push HX.out (by rw [← HN.out]; exact hlt) h0 h1 HIN.out (HO5.out.grown hg2 HBV.out) hr2⟩, ⟨Nat.le_refl _⟩, ⟨by rw [HLP.out, List.length_append]; have := HS2.out; have := HK.out; simp; omega⟩, ⟨hb2⟩⟩
            · go_wp2
              go_roundg (ns.length - (j + 1))
              case measure => have := HJ.out; omega
              case rel => exact ⟨L, M, j + 1, by go_num, by omega, ⟨HI.out.skip HX.out (fun _ h => by omega) HI.out.own HI.out.row⟩, ⟨Nat.le_refl _⟩, HK, HB⟩
          · go_wp2
            go_roundg (ns.length - (j + 1))
            case measure => have := HJ.out; omega
            case rel => exact ⟨L, M, j + 1, by go_num, by omega, ⟨HI.out.skip HX.out (fun h => by omega) HI.out.own HI.out.row⟩, ⟨Nat.le_refl _⟩, HK, HB⟩
        · go_wp2
          go_roundg ko
          case measure => omega
          case rel => exact ⟨L, M, ⟨HI.out.done (by rw [← HN.out]; omega)⟩, HK, HB⟩
set_option maxHeartbeats 2000000 in
theorem graph_Reach.walk (A0 : Option Addr) (c0 : Nat) (g : List (List Int)) (A1 : Option Addr) (c1 : Nat) (l : List Int) (w : World) (hr0 : Kd.C (Kd.slice 3 (Kd.int .i64)) w A0 g.length g) (hr1 : Kd.C (Kd.int .i64) w A1 l.length l) (hlim : g.length < 17592186044416) :
    Calls Try.prog 39 #[.slice A0 g.length c0, .slice A1 l.length c1] w fun e w' => ∃ v, e = .returned v ∧ (Kd.int .i64).R 3 w' w.heap.size (fun _ => True) v (rchL g l) ∧ Below w.heap.size w w' := by
  have HR0 := Aside0.mk hr0
  have HR1 := Aside0.mk hr1
  clear hr0 hr1
  go_enter Try.func39, Try.ntmps39
  go_wp2_with fail
  refine (graph_reach.walk A0 c0 g A1 c1 l w HR0.out HR1.out hlim).mono ?_
  rintro e w1 ⟨b, M1, rfl, hb, ho1, hm1, hb1⟩
  have HM1 := Aside0.mk hm1
  have HO1 := Aside0.mk ho1
  have HB1 := Aside0.mk hb1
  have hsm := small_set ho1 (fun x hx => (hm1 x).1 hx)
  have hsr := small_rch g l
  clear hm1 ho1 hb1 hb
  go_wp2_with fail
  refine (set_rising.walk b M1 w1 HO1.out (by omega)).mono ?_
  rintro e w2 ⟨v, ys, rfl, hr2, hp2, hm2, hb2⟩
  have HE := Aside0.mk (show ys = rchL g l from rises_eq hp2 (pickL_rises g _) (fun x => by rw [hm2, HM1.out]; exact (mem_rchL (g := g) (l := l)).symm))
  have HR2 := Aside0.mk (Kd.R_lower hr2 HB1.out.size)
  have HB2 := Aside0.mk (below_then HB1.out HB1.out.size hb2)
  clear hr2 hp2 hm2 hb2
  go_wp2
  go_ret
  exact ⟨v, rfl, by rw [← HE.out]; exact HR2.out, HB2.out⟩
def graph_Reach.f (g : List (List Int)) (l : List Int) : Option (List Int) := if g.length < 17592186044416 then some (rchL g l) else none
theorem graph_Reach.calls (A0 : Option Addr) (c0 : Nat) (l0 : List (List Int)) (A1 : Option Addr) (c1 : Nat) (l1 : List Int) (r : List Int) (w : World) (hr0 : Kd.C (Kd.slice 3 (Kd.int .i64)) w A0 l0.length l0) (hc0 : l0.length ≤ c0) (hr1 : Kd.C (Kd.int .i64) w A1 l1.length l1) (hc1 : l1.length ≤ c1) (h : graph_Reach.f l0 l1 = some r) :
    Calls Try.prog 39 #[.slice A0 l0.length c0, .slice A1 l1.length c1] w fun e w' => ∃ v0_ : Value, e = .returned (v0_) ∧ (Kd.int .i64).R 3 w' w.heap.size (fun _ => True) v0_ r ∧ Below w.heap.size w w' := by
  unfold graph_Reach.f at h
  split at h
  · obtain rfl := Option.some.inj h
    exact graph_Reach.walk A0 c0 l0 A1 c1 l1 w hr0 hr1 ‹_›
  · cases h
open Go.Proofs.He
def chainRows (g : List (List Int)) (l : List (List S69)) : List (List Int) := l.map fun s => rchL g (placesL s)
def chainsL (g : List (List Int)) (l : List (List S69)) : List Int := riseL ((chainRows g l).flatten.filter fun x => decide (((chainRows g l).flatten.count x : Int) < (l.length : Int)))
theorem chains_eq {zs : List Int} {n : Int} {ys : List Int} (hy : ∀ z, z ∈ ys ↔ ∃ x ∈ zs, (@List.count _ instBEqOfDecidableEq x zs : Int) < n ∧ id x = z) : riseL ys = riseL (zs.filter fun x => decide ((zs.count x : Int) < n)) := by
  refine riseL_eq (fun z => ?_)
  rw [hy, List.mem_filter]
  constructor
  · rintro ⟨x, h1, h2, rfl⟩
    exact ⟨h1, by rw [decide_eq_true_iff]; exact h2⟩
  · rintro ⟨h1, h2⟩
    rw [decide_eq_true_iff] at h2
    exact ⟨z, h1, h2, rfl⟩
theorem chain_flat (g : List (List Int)) : ∀ (l : List (List S69)), (chainRows g l).flatten.length ≤ l.length * g.length
  | [] => by simp [chainRows]
  | s :: l => by
    have h1 := chain_flat g l
    have h2 := small_rch g (placesL s)
    unfold chainRows at *
    rw [List.map_cons, List.flatten_cons, List.length_append, List.length_cons, Nat.succ_mul]; omega
theorem rch_range {g : List (List Int)} {l : List Int} {x : Int} (h : x ∈ rchL g l) : 0 ≤ x ∧ x < g.length := by
  unfold rchL pickL at h
  obtain ⟨n, hn, rfl⟩ := List.mem_map.1 (List.mem_filter.1 h).1
  have := List.mem_range.1 hn
  show 0 ≤ (n : Int) ∧ (n : Int) < g.length
  omega
abbrev FewI (C : List (Int × Int)) (w : World) (b r base : Nat) (n : Int) (v : Value) (ys : List Int) (todo : List Int) : Prop := Few cntIK Try.underlying3 id C w b r base n v ys todo
set_option maxHeartbeats 8000000 in
set_option maxRecDepth 100000 in
theorem split_Chains.walk (A0 : Option Addr) (c0 : Nat) (g : List (List Int)) (A1 : Option Addr) (c1 : Nat) (l : List (List S69)) (w : World) (hr0 : Kd.C (Kd.slice 3 (Kd.int .i64)) w A0 g.length g) (hr1 : Kd.C (Kd.slice 69 k69) w A1 l.length l)
    (hlim : l.flatten.length < 3518437208883) (hg : g.length < 17592186044416) (hlg : l.length * g.length < 3518437208883) (hll : l.length < 3518437208883) :
    Calls Try.prog 38 #[.slice A0 g.length c0, .slice A1 l.length c1] w fun e w' => ∃ v, e = .returned v ∧ (Kd.int .i64).R 3 w' w.heap.size (fun _ => True) v (chainsL g l) ∧ Below w.heap.size w w' := by
  have hlen : l.length ≤ 9223372036854775807 := hr1.2.1
  have HR0 := Aside0.mk hr0
  have HR1 := Aside0.mk hr1
  have HLIM := Aside0.mk hlim
  have HLG := Aside0.mk hlg
  clear hr0 hr1 hlim hlg
  go_enter Try.func38, Try.ntmps38
  go_wp2
  go_loopw [5, 13] (fun v5 v13 wr => ∃ i : Nat, v13 = .int .i64 i ∧ i ≤ l.length ∧ Aside0 (Kd.R (Kd.slice 3 (Kd.int .i64)) 65 wr w.heap.size (fun _ => True) v5 (chainRows g (l.take i))) ∧ Aside0 (Below w.heap.size w wr)) (fun _ v _ => l.length - (intOf v).toNat)
  case atStart => exact ⟨0, rfl, Nat.zero_le _, ⟨Kd.R_nil _ _ _ _ _⟩, ⟨Below.refl _ _⟩⟩
  case round =>
    obtain ⟨i, rfl, hi, HR, HB⟩ := hrel
    by_cases hlt : i < l.length
    · obtain ⟨ad, Ar, cr, e, hrx, hrl, hrc⟩ := at_rows HR1.out (i : Int) (by omega) (by omega)
      cases e
      replace hrx := (HB.out.cell (World.block_lt_of_cell? w _ hrx)).trans hrx
      rw [Int.toNat_natCast] at hrx hrl hrc
      have hml := readTo_length (xs := l) i (l.getD i []).length
      have hns2 : l.getD i [] = l[i] := by simp [List.getD_eq_getElem?_getD, hlt]
      obtain ⟨ns, hns⟩ : ∃ ns, ns = l.getD i [] := ⟨_, rfl⟩
      rw [← hns] at hrx hrl hrc hml
      have hnl : ns.length < 3518437208883 := by have := HLIM.out; unfold readTo at hml; rw [← hns, List.take_length, List.length_append] at hml; omega
      have HX := Aside0.mk (show chainRows g (l.take (i + 1)) = chainRows g (l.take i) ++ [rchL g (placesL ns)] from by
        unfold chainRows
        rw [List.take_succ_eq_append_getElem hlt, List.map_append, hns, hns2]; rfl)
      have HP := Aside0.mk (state_Places.walk Ar cr ns _ (Kd.C_below hrc HB.out) (by omega))
      clear hrc hrl hml hns hns2
      go_wp2_with fail
      (with_reducible refine HP.out.mono ?_)
      rintro e w1 ⟨v1, rfl, hr1, hb1⟩
      have HB1 := Aside0.mk (below_then HB.out HB.out.size hb1)
      have HRA := Aside0.mk (Kd.R_below HR.out hb1)
      obtain ⟨A2, c2, rfl, hc2, hC2⟩ := Kd.R_reads hr1
      have HG := Aside0.mk (graph_Reach.walk A0 c0 g A2 c2 (placesL ns) w1 (Kd.C_below HR0.out HB1.out) hC2 hg)
      clear hr1 hb1 hc2 hC2
      go_wp2_with fail
      (with_reducible refine HG.out.mono ?_)
      rintro e w2 ⟨v2, rfl, hr2, hb2⟩
      have HB2 := Aside0.mk (below_then HB1.out HB1.out.size hb2)
      have HRB := Aside0.mk (Kd.R_below HRA.out hb2)
      have HR2 := Aside0.mk (Kd.R_mono (Kd.R_lower (Kd.R_bound hr2) HB1.out.size) (ok' := fun k => some k ≠ u5.ownBlock) (fun k hk e => by
        obtain ⟨inner, ho⟩ := Kd.R_own HRA.out
        have := own_lt ho k e.symm
        have := hk.2.1; omega))
      have HL := Aside0.mk (show ((chainRows g (l.take i)).length + 1) * 24 ≤ 140737488355328 from by unfold chainRows; rw [List.length_map, List.length_take]; omega)
      obtain ⟨A3, c3, hv3⟩ := Kd.R_slice hr2
      subst hv3
      clear hr2 hb2
      go_wp2_with (first | (at_builtin; refine Kd.R_append (Kd.slice 3 (Kd.int .i64)) (w0 := w) w.heap.size rfl _ _ 74 65 (.slice none 0 0) 24 rfl Try.underlying74 info65 rfl (by decide) (by omega) u5 (chainRows g (l.take i)) (rchL g (placesL ns)) [.slice A3 (rchL g (placesL ns)).length c3] (fun _ => True) (fun k => some k ≠ u5.ownBlock) rfl (by first | rfl | (go_simp; done) | (simp [World.alloc, Act.eval]; done)) ⟨_, rfl, HR2.out⟩ (fun _ hk => ⟨trivial, hk⟩) (fun _ _ => trivial) HRB.out HB2.out HB2.out.size HL.out ?_; intro v4 w4 hr4 hb4 hg4 hat4) | go_in)
      go_roundw
      case rel => exact ⟨i + 1, by go_num, by omega, ⟨by rw [HX.out]; exact hr4⟩, ⟨hb4⟩⟩
      case measure => simp [intOf]; omega
    · have hil : i = l.length := by omega
      have hr9 := HR.out
      rw [hil, List.take_length] at hr9
      obtain ⟨A5, c5, hv5, hc5, hC5⟩ := Kd.R_reads hr9
      subst hv5
      have hcn := chain_flat g l
      have hlg := HLG.out
      have HWF := Aside0.mk (show ∀ x ∈ (chainRows g l).flatten, (Lit.int .i64 x).wf = true from fun x hx => by
        obtain ⟨r, hr, hx⟩ := List.mem_flatten.1 hx
        unfold chainRows at hr
        obtain ⟨s, _, rfl⟩ := List.mem_map.1 hr
        have := rch_range hx
        exact WalkArith.wf_i64 (by omega))
      have hrl : (chainRows g l).length = l.length := by simp [chainRows]
      obtain ⟨rows, hrows⟩ : ∃ rows, rows = chainRows g l := ⟨_, rfl⟩
      rw [← hrows] at hC5 hc5 hcn HWF hrl
      have HROWS := Aside0.mk hrows
      have HCC := Aside0.mk (split_count_int.walk A5 c5 rows _ hC5 HWF.out (by omega))
      have HCN := Aside0.mk (show rows.flatten.length < 3518437208883 from by omega)
      clear hr9 hC5 hc5 hcn hrows HR hlg hrl
      rw [← HROWS.out]
      go_wp2_with fail
      (with_reducible refine HCC.out.mono ?_)
      rintro e w1 ⟨b, C, rfl, hb, hC, hb1⟩
      have HB1 := Aside0.mk (below_then HB.out HB.out.size hb1)
      have HC := Aside0.mk hC
      have hcl := hC.len
      have HCL := Aside0.mk (show C.length < 3518437208883 from by have := HCN.out; omega)
      clear hC hb1 hcl HCC
      go_wp2_with (first | (at_range; refine wpList_mrange rfl _ 118 rfl cntIK (intV Try.underlying3) 3 Try.underlying118 b C rfl HC.out.own ?_; intro w2 hi0 hg0 hs0) | go_in)
      go_frame
      generalize hrI : w1.heap.size = rI at hi0 ⊢
      have HBR := Aside0.mk (show w.heap.size ≤ rI from by rw [← hrI]; exact HB1.out.size)
      have H0 := Aside0.mk (show FewI C w2 b rI w.heap.size l.length (.slice none 0 0) [] (C.map (·.1)) from ⟨hi0, Kd.R_nil _ _ _ _ _, fun z => ⟨fun h => by simp at h, fun ⟨p, h1, h2, _⟩ => absurd (List.mem_map.2 ⟨p, h1, rfl⟩) h2⟩, by simp⟩)
      have HB := Aside0.mk (HB1.out.grown hg0 HB1.out.size (fun k e => by cases e))
      clear hrI hi0 hg0 hs0 HB1 hb
      go_loopw [8] (fun v wr => ∃ (ys : List Int) (todo : List Int), Aside0 (FewI C wr b rI w.heap.size l.length v ys todo) ∧ Aside0 (Below w.heap.size w wr)) (fun _ wr => wr.rangeLeft b rI)
      case atStart => exact ⟨[], _, H0, HB⟩
      case round =>
        clear H0 HB
        obtain ⟨ys, todo, HI, HB⟩ := hrel
        go_wp2_with (first | (at_next; refine wpList_mnext rfl _ rfl cntIK (intV Try.underlying3) b rI C rfl HI.out.it ?_ ?_) | go_in)
        · intro ht
          subst ht
          have HY := Aside0.mk (show riseL ys = chainsL g l from by have := chains_eq (HI.out.done HC.out); rw [this, HROWS.out]; rfl)
          have hyl : ys.length < 3518437208883 := by have := HI.out.len; have := HCL.out; simp at *; omega
          obtain ⟨Ay, cy, hv3, hyc, hry⟩ := Kd.R_reads HI.out.row
          subst hv3
          have hb9 := below_alloc (Below.refl wr.heap.size wr) (Obj.cells #[.slice Ay ys.length cy] 65)
          have HRS := Aside0.mk (split_rising.walk (some ⟨wr.heap.size, 0, none⟩) 1 [ys] _ (C_lit_rows (t := 65) [(Ay, cy, ys)] (heap_alloc_new wr (Obj.cells #[.slice Ay ys.length cy] 65)) (fun q hq => by rw [List.mem_singleton.1 hq]; exact ⟨hyc, Kd.C_below hry hb9⟩) (by simp)) (by simp; omega))
          have HB9 := Aside0.mk (below_then HB.out HB.out.size hb9)
          clear hry hyc hb9 hyl
          go_wp2_with (go_at_call 75; refine HRS.out.mono ?_; rintro e w9 ⟨v9, rfl, hr9, hb9⟩)
          go_ret
          refine ⟨_, rfl, ?_, below_then HB9.out HB9.out.size hb9⟩
          rw [← HY.out]
          have := Kd.R_lower hr9 HB9.out.size
          simpa using this
        · intro x y w4 hx hxM hi1 hlt1 hg1 hs1 hen
          have hen' : (Instr.entry (.pointer (some ⟨rI, 0, none⟩))).run Try.prog w4 = .ok (.tuple #[.int .i64 x, .int .i64 y]) w4 := hen
          clear hen
          have hrv : some rI ≠ u8.ownBlock := iter_ne_row HI.out.it HI.out.row
          have hbv : some b ≠ u8.ownBlock := own_ne_row HI.out.it.own HI.out.row
          have HBV := Aside0.mk hbv
          have HRV := Aside0.mk hrv
          have HR4 := Aside0.mk (Kd.R_grown1 HI.out.row rfl hg1 hrv)
          have HB4 := Aside0.mk (HB.out.grown hg1 HB.out.size (fun k e => by cases e; exact HBR.out))
          have HG1 := Aside0.mk hlt1
          have HI1 := Aside0.mk hi1
          have HX := Aside0.mk hx
          have HXM := Aside0.mk hxM
          have hl : (ys.length + 1) * 8 ≤ 140737488355328 := by have := HI.out.len; have := HCL.out; omega
          have HL := Aside0.mk hl
          clear hg1 hlt1 hi1 hx hxM hl hs1 hrv hbv
          by_cases hy : y < (l.length : Int)
          · go_wp2_with (first | (at_builtin; refine Kd.R_append (Kd.int .i64) (w0 := w) w.heap.size rfl _ _ 65 3 (.int .i64 0) 8 rfl Try.underlying65 info3 rfl (by decide) (by omega) u8 ys x [.int .i64 x] (fun _ => True) (fun _ => False) rfl (by first | rfl | (go_simp; done) | (simp [World.alloc, Act.eval]; done)) rfl (fun _ hk => hk.elim) (fun _ _ => trivial) HR4.out HB4.out HB4.out.size HL.out ?_; intro v2 w5 hr2 hb2 hg2 hat2) | go_in)
            go_roundw
            case rel => exact ⟨_, _, ⟨HI.out.yes HX.out HXM.out hy (HI1.out.grown hg2 HBV.out HRV.out) hr2⟩, ⟨hb2⟩⟩
            case measure => rw [HI1.out.left_grown hg2 HBV.out HRV.out]; exact HG1.out
          · go_wp2
            go_roundw
            case rel => exact ⟨_, _, ⟨HI.out.no HX.out HXM.out hy HI1.out HR4.out⟩, HB4⟩
            case measure => exact HG1.out
def SplitFits (g : List (List Int)) (l : List (List S69)) : Prop := l.flatten.length < 3518437208883 ∧ g.length < 17592186044416 ∧ l.length * g.length < 3518437208883 ∧ l.length < 3518437208883
instance (g : List (List Int)) (l : List (List S69)) : Decidable (SplitFits g l) := inferInstanceAs (Decidable (_ ∧ _ ∧ _ ∧ _))
def split_Chains.f (g : List (List Int)) (l : List (List S69)) : Option (List Int) := if SplitFits g l then some (chainsL g l) else none
theorem split_Chains.calls (A0 : Option Addr) (c0 : Nat) (l0 : List (List Int)) (A1 : Option Addr) (c1 : Nat) (l1 : List (List S69)) (r : List Int) (w : World) (hr0 : Kd.C (Kd.slice 3 (Kd.int .i64)) w A0 l0.length l0) (hc0 : l0.length ≤ c0) (hr1 : Kd.C (Kd.slice 69 k69) w A1 l1.length l1) (hc1 : l1.length ≤ c1) (h : split_Chains.f l0 l1 = some r) :
    Calls Try.prog 38 #[.slice A0 l0.length c0, .slice A1 l1.length c1] w fun e w' => ∃ v0_ : Value, e = .returned (v0_) ∧ (Kd.int .i64).R 3 w' w.heap.size (fun _ => True) v0_ r ∧ Below w.heap.size w w' := by
  unfold split_Chains.f at h
  split at h
  · rename_i hc
    obtain rfl := Option.some.inj h
    exact split_Chains.walk A0 c0 l0 A1 c1 l1 w hr0 hr1 hc.1 hc.2.1 hc.2.2.1 hc.2.2.2
  · cases h
open Go.Proofs.He
def bothL (g : List (List Int)) (l : List (List S69)) : List Int := riseL (apartL l ++ chainsL g l)
set_option maxHeartbeats 4000000 in
set_option maxRecDepth 100000 in
theorem split_Both.walk (A0 : Option Addr) (c0 : Nat) (g : List (List Int)) (A1 : Option Addr) (c1 : Nat) (l : List (List S69)) (w : World) (hr0 : Kd.C (Kd.slice 3 (Kd.int .i64)) w A0 g.length g) (hr1 : Kd.C (Kd.slice 69 k69) w A1 l.length l) (hwf : ∀ x ∈ l.flatten, EOk x)
    (hlim : l.flatten.length < 3518437208883) (hg : g.length < 17592186044416) (hlg : l.length * g.length < 3518437208883) (hll : l.length < 3518437208883) :
    Calls Try.prog 44 #[.slice A0 g.length c0, .slice A1 l.length c1] w fun e w' => ∃ v, e = .returned v ∧ (Kd.int .i64).R 3 w' w.heap.size (fun _ => True) v (bothL g l) ∧ Below w.heap.size w w' := by
  have HA := Aside0.mk (split_Apart.walk A1 c1 l w hr1 hwf hlim)
  have HCH := Aside0.mk (fun W (hb : Below w.heap.size w W) => split_Chains.walk A0 c0 g A1 c1 l W (Kd.C_below hr0 hb) (Kd.C_below hr1 hb) hlim hg hlg hll)
  have hal : (apartL l).length ≤ l.flatten.length := by
    unfold apartL; refine Nat.le_trans (riseL_length _) ?_; rw [List.length_map]; exact List.length_filter_le _ _
  have hcl : (chainsL g l).length ≤ l.length * g.length := by
    unfold chainsL; exact Nat.le_trans (riseL_length _) (Nat.le_trans (List.length_filter_le _ _) (chain_flat g l))
  obtain ⟨a, ha⟩ : ∃ a, a = apartL l := ⟨_, rfl⟩
  obtain ⟨c, hc⟩ : ∃ c, c = chainsL g l := ⟨_, rfl⟩
  have HE := Aside0.mk (show bothL g l = riseL (a ++ c) from by rw [ha, hc]; rfl)
  rw [← ha] at HA hal
  rw [← hc] at HCH hcl
  have HS := Aside0.mk (show a.length + c.length < 17592186044416 from by omega)
  clear hr0 hr1 hwf hal hcl ha hc
  go_enter Try.func44, Try.ntmps44
  go_wp2_with fail
  (with_reducible refine HA.out.mono ?_)
  rintro e w1 ⟨v1, rfl, hr1, hb1⟩
  have HB1 := Aside0.mk hb1
  have HR1 := Aside0.mk hr1
  obtain ⟨A3, c3, rfl⟩ := Kd.R_slice hr1
  have HC2 := Aside0.mk (HCH.out w1 hb1)
  clear hr1 hb1 HA HCH
  go_wp2_with fail
  (with_reducible refine HC2.out.mono ?_)
  rintro e w2 ⟨v2, rfl, hr2, hb2⟩
  obtain ⟨A4, c4, rfl, hc4, hC4⟩ := Kd.R_reads hr2
  have h3 := (Kd.R_reads' (Kd.R_below HR1.out hb2)).2
  have HB2 := Aside0.mk (below_then HB1.out HB1.out.size hb2)
  have hb9 := below_alloc (Below.refl w2.heap.size w2) (Obj.cells #[.slice A3 a.length c3, .slice A4 c.length c4] 65)
  have HRS := Aside0.mk (split_rising.walk (some ⟨w2.heap.size, 0, none⟩) 2 [a, c] _ (C_lit_rows (t := 65) [(A3, c3, a), (A4, c4, c)] (heap_alloc_new w2 (Obj.cells #[.slice A3 a.length c3, .slice A4 c.length c4] 65)) (fun q hq => by
    rcases List.mem_cons.1 hq with rfl | hq
    · exact ⟨h3.1, Kd.C_below h3.2 hb9⟩
    · rw [List.mem_singleton.1 hq]; exact ⟨hc4, Kd.C_below hC4 hb9⟩) (by simp)) (by have := HS.out; simp; omega))
  have HB9 := Aside0.mk (below_then HB2.out HB2.out.size hb9)
  clear hr2 hb2 hC4 hc4 h3 hb9 HC2
  go_wp2_with (go_at_call 75; refine HRS.out.mono ?_; rintro e w9 ⟨v9, rfl, hr9, hb9⟩)
  go_ret
  refine ⟨_, rfl, ?_, below_then HB9.out HB9.out.size hb9⟩
  rw [HE.out]
  have := Kd.R_lower hr9 HB9.out.size
  simpa using this
def split_Both.f (g : List (List Int)) (l : List (List S69)) : Option (List Int) := if SplitFits g l ∧ (∀ x ∈ l.flatten, EOk x) then some (bothL g l) else none
theorem split_Both.calls (A0 : Option Addr) (c0 : Nat) (l0 : List (List Int)) (A1 : Option Addr) (c1 : Nat) (l1 : List (List S69)) (r : List Int) (w : World) (hr0 : Kd.C (Kd.slice 3 (Kd.int .i64)) w A0 l0.length l0) (hc0 : l0.length ≤ c0) (hr1 : Kd.C (Kd.slice 69 k69) w A1 l1.length l1) (hc1 : l1.length ≤ c1) (h : split_Both.f l0 l1 = some r) :
    Calls Try.prog 44 #[.slice A0 l0.length c0, .slice A1 l1.length c1] w fun e w' => ∃ v0_ : Value, e = .returned (v0_) ∧ (Kd.int .i64).R 3 w' w.heap.size (fun _ => True) v0_ r ∧ Below w.heap.size w w' := by
  unfold split_Both.f at h
  split at h
  · rename_i hc
    obtain rfl := Option.some.inj h
    exact split_Both.walk A0 c0 l0 A1 c1 l1 w hr0 hr1 hc.2 hc.1.1 hc.1.2.1 hc.1.2.2.1 hc.1.2.2.2
  · cases h
def heliastref16_has.l0 : Nat → List (S69) → Int → ByteArray → ByteArray → Int → Option (Bool)
  | 0, _, _, _, _, _ => none
  | k + 1, x0, x5, x169000, x169001, x169002 => if x5 < (x0.length : Int) then (if 0 ≤ x5 then (if ((((rd_T69 x0 x5).f0).toList) == x169000.toList && ((((rd_T69 x0 x5).f1).toList) == x169001.toList && (((rd_T69 x0 x5).f2) == x169002))) = true then (some true) else (heliastref16_has.l0 k x0 (wrap64 (x5 + 1)) x169000 x169001 x169002)) else (none)) else (some false)
def heliastref16_has.f (k : Nat) (l0 : List (S69)) (a1_0 : ByteArray) (a1_1 : ByteArray) (a1_2 : Int) : Option (Bool) := heliastref16_has.l0 k l0 0 a1_0 a1_1 a1_2
theorem heliastref16_has.mono_l : ∀ k, (∀ y0 y1 y2 y3 y4, LeO (heliastref16_has.l0 k y0 y1 y2 y3 y4) (heliastref16_has.l0 (k + 1) y0 y1 y2 y3 y4))
  | 0 => fun _ _ _ _ _ r h => by simp [heliastref16_has.l0] at h
  | k + 1 => by
    have ih0 := heliastref16_has.mono_l k
    · intro y0 y1 y2 y3 y4
      unfold heliastref16_has.l0
      repeat' first
      | (with_reducible exact ih0 _ _ _ _ _)
      | (with_reducible exact LeO.refl _)
      | (with_reducible exact LeO.none _)
      | (with_reducible refine LeO.ite ?_ ?_)
      | (with_reducible refine LeO.bind ?_ (fun _ => ?_))
      | exact ih0 _ _ _ _ _
      | exact LeO.none _
      | refine LeO.ite ?_ ?_
      | refine LeO.bind ?_ (fun _ => ?_)
theorem heliastref16_has.mono : ∀ a0 a1 a2 a3 k, LeO (heliastref16_has.f k a0 a1 a2 a3) (heliastref16_has.f (k + 1) a0 a1 a2 a3) := by
  intro a0 a1 a2 a3 k
  have ih0 := heliastref16_has.mono_l k
  unfold heliastref16_has.f
  repeat' first
      | (with_reducible exact ih0 _ _ _ _ _)
      | (with_reducible exact LeO.refl _)
      | (with_reducible exact LeO.none _)
      | (with_reducible refine LeO.ite ?_ ?_)
      | (with_reducible refine LeO.bind ?_ (fun _ => ?_))
      | exact ih0 _ _ _ _ _
      | exact LeO.none _
      | refine LeO.ite ?_ ?_
      | refine LeO.bind ?_ (fun _ => ?_)
set_option maxHeartbeats 8000000 in
set_option maxRecDepth 100000 in
theorem heliastref16_has.calls (k : Nat) (A0 : Option Addr) (c0 : Nat) (l0 : List (S69)) (a1_0 : ByteArray) (a1_1 : ByteArray) (a1_2 : Int) (r : Bool) (w : World) (hr0 : Kd.C k69 w A0 l0.length l0) (hc0 : l0.length ≤ c0) (h : heliastref16_has.f k l0 a1_0 a1_1 a1_2 = some r) :
    Calls Try.prog 113 #[.slice A0 l0.length c0, .agg #[.string a1_0, .string a1_1, .int .i64 a1_2]] w fun e w' => e = .returned (.bool r) ∧ Below w.heap.size w w' := by
  have hu69 := Try.underlying69
  have HR0 := Aside0.mk hr0
  have HC0 := Aside0.mk hc0
  clear hr0 hc0
  have HB := Aside0.mk (Below.refl w.heap.size w)
  have H : (heliastref16_has.l0 k l0 0 a1_0 a1_1 a1_2) = some r := h
  clear h
  have H' := Aside0.mk H
  clear H
  go_enter Try.func113, Try.ntmps113
  go_wp2_with (first | ((with_reducible refine gate_dst (N := 3) rfl ?_); refine box_event ?hg (N := 3) ?hd (cs := #[.string a1_0, .string a1_1, .int .i64 a1_2]) (t := 69) ?hr ?_; (case hd => rfl); (case hg => rfl); (case hr => first | (go_simp; done) | (go_simp; rfl)); intro gb168 hg w3 hbox hb; have n0_ := Aside0.mk (below_step (by repeat (first | (with_reducible first | exact HB.out | apply below_alloc | apply pw_below_drewN | apply below_drew1) | exact HB.out)) hb); have n1_ := Aside0.mk (hbox); have n2_ := Aside0.mk ((by rw [hg]; exact (below_size (by repeat (first | (with_reducible first | exact HB.out | apply below_alloc | apply pw_below_drewN | apply below_drew1) | exact HB.out))) : w.heap.size ≤ gb168)); have n3_ := Aside0.mk ((by rw [hg]; exact (below_size (by repeat (first | (with_reducible first | exact HB.out | apply below_alloc | apply pw_below_drewN | apply below_drew1) | exact HB.out))) : w.heap.size ≤ gb168)); clear HB; have HB := n0_; have BK168 := n1_; have GW168 := n2_; have GE168 := n3_; clear n0_ n1_ n2_ n3_; clear hb hbox hg))
  repeat (go_quiet (first | ((with_reducible refine gate_dst (N := 3) rfl ?_); refine box_event ?hg (N := 3) ?hd (cs := #[.string a1_0, .string a1_1, .int .i64 a1_2]) (t := 69) ?hr ?_; (case hd => rfl); (case hg => rfl); (case hr => first | (go_simp; done) | (go_simp; rfl)); intro gb168 hg w3 hbox hb; have n0_ := Aside0.mk (below_step (by repeat (first | (with_reducible first | exact HB.out | apply below_alloc | apply pw_below_drewN | apply below_drew1) | exact HB.out)) hb); have n1_ := Aside0.mk (hbox); have n2_ := Aside0.mk ((by rw [hg]; exact (below_size (by repeat (first | (with_reducible first | exact HB.out | apply below_alloc | apply pw_below_drewN | apply below_drew1) | exact HB.out))) : w.heap.size ≤ gb168)); have n3_ := Aside0.mk ((by rw [hg]; exact (below_size (by repeat (first | (with_reducible first | exact HB.out | apply below_alloc | apply pw_below_drewN | apply below_drew1) | exact HB.out))) : w.heap.size ≤ gb168)); clear HB; have HB := n0_; have BK168 := n1_; have GW168 := n2_; have GE168 := n3_; clear n0_ n1_ n2_ n3_; clear hb hbox hg)); try go_wp2_with (first | ((with_reducible refine gate_dst (N := 3) rfl ?_); refine box_event ?hg (N := 3) ?hd (cs := #[.string a1_0, .string a1_1, .int .i64 a1_2]) (t := 69) ?hr ?_; (case hd => rfl); (case hg => rfl); (case hr => first | (go_simp; done) | (go_simp; rfl)); intro gb168 hg w3 hbox hb; have n0_ := Aside0.mk (below_step (by repeat (first | (with_reducible first | exact HB.out | apply below_alloc | apply pw_below_drewN | apply below_drew1) | exact HB.out)) hb); have n1_ := Aside0.mk (hbox); have n2_ := Aside0.mk ((by rw [hg]; exact (below_size (by repeat (first | (with_reducible first | exact HB.out | apply below_alloc | apply pw_below_drewN | apply below_drew1) | exact HB.out))) : w.heap.size ≤ gb168)); have n3_ := Aside0.mk ((by rw [hg]; exact (below_size (by repeat (first | (with_reducible first | exact HB.out | apply below_alloc | apply pw_below_drewN | apply below_drew1) | exact HB.out))) : w.heap.size ≤ gb168)); clear HB; have HB := n0_; have BK168 := n1_; have GW168 := n2_; have GE168 := n3_; clear n0_ n1_ n2_ n3_; clear hb hbox hg)))
  go_loopg [5] k (fun kq v5 w' => ∃ (x5_1 : Int), v5 = .int .i64 x5_1 ∧ Aside0 (heliastref16_has.l0 kq l0 x5_1 a1_0 a1_1 a1_2 = some r) ∧ Aside0 (kq ≤ k) ∧ Aside0 (w'.heap[gb168]? = some (.cells #[.string a1_0, .string a1_1, .int .i64 a1_2] 69 (0, 0))) ∧ Aside0 (Below w.heap.size w w'))
  case atStart => exact ⟨(0), (by first | rfl | (simp; done) | (simp [*]; done)), H', ⟨Nat.le_refl _⟩, ⟨by (with_reducible repeat (first | refine blk_drewN ?_ _ | refine blk_drew ?_ | refine blk_alloc ?_ _)); exact BK168.out⟩, ⟨by repeat (first | (with_reducible first | exact HB.out | apply below_alloc | apply pw_below_drewN | apply below_drew1 | refine below_set ?_ GE168.out) | exact HB.out)⟩⟩
  case round =>
    clear H'
    try clear c1
    try clear p2
    obtain ⟨x5_1, rfl, HA, HK1, BK168, HB⟩ := hrel
    cases gk with
    | zero => exact absurd HA.out (by simp [heliastref16_has.l0])
    | succ k1 =>
      have H := HA.out
      clear HA
      simp only [heliastref16_has.l0] at H
      by_cases c4 : x5_1 < (l0.length : Int)
      · rw [if_pos c4] at H
        have c4b0 : decide (x5_1 < (l0.length : Int)) = true := decide_eq_true c4
        clear c4
        by_cases c5 : 0 ≤ x5_1
        · rw [if_pos c5] at H
          have c5b0 : decide (0 ≤ x5_1) = true := decide_eq_true c5
          clear c5
          by_cases c6 : ((((rd_T69 l0 x5_1).f0).toList) == a1_0.toList && ((((rd_T69 l0 x5_1).f1).toList) == a1_1.toList && (((rd_T69 l0 x5_1).f2) == a1_2))) = true
          · rw [if_pos c6] at H
            have c6b0 : ((((rd_T69 l0 x5_1).f0).toList) == a1_0.toList && ((((rd_T69 l0 x5_1).f1).toList) == a1_1.toList && (((rd_T69 l0 x5_1).f2) == a1_2))) = true := c6
            (try (have c6b1 : decide ((((rd_T69 l0 x5_1).f0).toList) = a1_0.toList && ((((rd_T69 l0 x5_1).f1).toList) == a1_1.toList && (((rd_T69 l0 x5_1).f2) == a1_2))) = true := by simpa using c6))
            (try (have c6b2 : ((((rd_T69 l0 x5_1).f0).toList) == a1_0.toList && ((((rd_T69 l0 x5_1).f1).toList) == a1_1.toList && (((rd_T69 l0 x5_1).f2) == a1_2))) = true := by simpa using c6))
            clear c6
            obtain rfl := Option.some.inj H
            have p169 : 0 ≤ (x5_1 : Int) := of_decide_eq_true (by first | (with_reducible assumption) | assumption)
            have q169 : x5_1 < (l0.length : Int) := of_decide_eq_true (by first | (with_reducible assumption) | assumption)
            obtain ⟨ad169, e169, hx169_0, hx169_1, hx169_2⟩ := at_T69 HR0.out x5_1 p169 q169
            cases e169
            replace hx169_0 := (HB.out.cell (World.block_lt_of_cell? w _ hx169_0)).trans hx169_0
            replace hx169_1 := (HB.out.cell (World.block_lt_of_cell? w _ hx169_1)).trans hx169_1
            replace hx169_2 := (HB.out.cell (World.block_lt_of_cell? w _ hx169_2)).trans hx169_2
            replace p169 := eq_true p169
            replace q169 := eq_true q169
            have hcz7_0 : wr.cell? ⟨gb168, 0, none⟩ = some (.string a1_0) := (blk_cell BK168.out 0).trans rfl
            have hcz7_1 : wr.cell? ⟨gb168, 1, none⟩ = some (.string a1_1) := (blk_cell BK168.out 1).trans rfl
            have hcz7_2 : wr.cell? ⟨gb168, 2, none⟩ = some (.int .i64 a1_2) := (blk_cell BK168.out 2).trans rfl
            have hfz7_0 := blk_frozen BK168.out 0
            have hfz7_1 := blk_frozen BK168.out 1
            have hfz7_2 := blk_frozen BK168.out 2
            go_wp2
            repeat (go_quiet (fail); try go_wp2)
            go_ret
            exact ⟨by first | rfl | (simp [errW_none, errW_some] <;> rfl) | (simp [*, errW_none, errW_some] <;> rfl), by repeat (first | (with_reducible first | exact HB.out | apply below_alloc | apply pw_below_drewN | apply below_drew1 | refine below_set ?_ GE168.out) | exact HB.out)⟩
          · rw [if_neg c6] at H
            have c6b0 : ((((rd_T69 l0 x5_1).f0).toList) == a1_0.toList && ((((rd_T69 l0 x5_1).f1).toList) == a1_1.toList && (((rd_T69 l0 x5_1).f2) == a1_2))) = false := by simpa using c6
            (try (have c6b1 : decide ((((rd_T69 l0 x5_1).f0).toList) = a1_0.toList && ((((rd_T69 l0 x5_1).f1).toList) == a1_1.toList && (((rd_T69 l0 x5_1).f2) == a1_2))) = false := by simpa using c6))
            (try (have c6b2 : ((((rd_T69 l0 x5_1).f0).toList) == a1_0.toList && ((((rd_T69 l0 x5_1).f1).toList) == a1_1.toList && (((rd_T69 l0 x5_1).f2) == a1_2))) = false := by simpa using c6))
            (try (have c6b3 : ¬ ((((rd_T69 l0 x5_1).f0).toList) = a1_0.toList && ((((rd_T69 l0 x5_1).f1).toList) == a1_1.toList && (((rd_T69 l0 x5_1).f2) == a1_2))) := by simpa using c6))
            clear c6
            have H' := Aside0.mk H
            clear H
            have p169 : 0 ≤ (x5_1 : Int) := of_decide_eq_true (by first | (with_reducible assumption) | assumption)
            have q169 : x5_1 < (l0.length : Int) := of_decide_eq_true (by first | (with_reducible assumption) | assumption)
            obtain ⟨ad169, e169, hx169_0, hx169_1, hx169_2⟩ := at_T69 HR0.out x5_1 p169 q169
            cases e169
            replace hx169_0 := (HB.out.cell (World.block_lt_of_cell? w _ hx169_0)).trans hx169_0
            replace hx169_1 := (HB.out.cell (World.block_lt_of_cell? w _ hx169_1)).trans hx169_1
            replace hx169_2 := (HB.out.cell (World.block_lt_of_cell? w _ hx169_2)).trans hx169_2
            replace p169 := eq_true p169
            replace q169 := eq_true q169
            have hcz8_0 : wr.cell? ⟨gb168, 0, none⟩ = some (.string a1_0) := (blk_cell BK168.out 0).trans rfl
            have hcz8_1 : wr.cell? ⟨gb168, 1, none⟩ = some (.string a1_1) := (blk_cell BK168.out 1).trans rfl
            have hcz8_2 : wr.cell? ⟨gb168, 2, none⟩ = some (.int .i64 a1_2) := (blk_cell BK168.out 2).trans rfl
            have hfz8_0 := blk_frozen BK168.out 0
            have hfz8_1 := blk_frozen BK168.out 1
            have hfz8_2 := blk_frozen BK168.out 2
            go_wp2
            repeat (go_quiet (fail); try go_wp2)
            go_roundg k1
            case measure => have := HK1.out; omega
            case rel => exact ⟨(wrap64 (x5_1 + 1)), (by first | rfl | (simp; done) | (simp [*]; done)), H', ⟨by have := HK1.out; omega⟩, ⟨by (with_reducible repeat (first | refine blk_drewN ?_ _ | refine blk_drew ?_ | refine blk_alloc ?_ _)); exact BK168.out⟩, ⟨by repeat (first | (with_reducible first | exact HB.out | apply below_alloc | apply pw_below_drewN | apply below_drew1 | refine below_set ?_ GE168.out) | exact HB.out)⟩⟩
        · rw [if_neg c5] at H
          exact absurd H (by simp)
      · rw [if_neg c4] at H
        have c4b0 : decide (x5_1 < (l0.length : Int)) = false := decide_eq_false c4
        clear c4
        obtain rfl := Option.some.inj H
        go_wp2
        repeat (go_quiet (fail); try go_wp2)
        go_ret
        exact ⟨by first | rfl | (simp [errW_none, errW_some] <;> rfl) | (simp [*, errW_none, errW_some] <;> rfl), by repeat (first | (with_reducible first | exact HB.out | apply below_alloc | apply pw_below_drewN | apply below_drew1 | refine below_set ?_ GE168.out) | exact HB.out)⟩
end Go.Proofs.Ytmmalieacakcbaa.S
end
section
namespace Go.Proofs.Ytmmalieacakcbaa.S
open Go.RowKit Go.Proofs.YtmmalieacakcbaaW.PrintWords Go.Proofs.YtmmalieacakcbaaW.PrintLast Go.Proofs.YtmmalieacakcbaaW.PrintMore
attribute [local go_sem] max2_int min2_int max_two min_two max_three min_three max_four min_four
set_option linter.unusedVariables false
set_option linter.unusedSimpArgs false
mutual
def heliastref16_Alike.l0 : Nat → List (List (S69)) → List (S69) → Int → Option ((List (S69)))
  | 0, _, _, _ => none
  | k + 1, x0, x3, x4 => if (x0.length : Int) > 0 then (if 0 < (x0.length : Int) then (heliastref16_Alike.j1 k x0 x3 x4 (decide (x4 < ((rd_L4 x0 0).length : Int)))) else (none)) else (heliastref16_Alike.j1 k x0 x3 x4 false)
def heliastref16_Alike.j1 : Nat → List (List (S69)) → List (S69) → Int → Bool → Option ((List (S69)))
  | 0, _, _, _, _ => none
  | k + 1, x0, x3, x4, x17 => if x17 = true then (heliastref16_Alike.l1 k x0 x3 x4 true 0) else (some x3)
def heliastref16_Alike.l1 : Nat → List (List (S69)) → List (S69) → Int → Bool → Int → Option ((List (S69)))
  | 0, _, _, _, _, _ => none
  | k + 1, x0, x3, x4, x5, x6 => if x6 < (x0.length : Int) then (if x5 = true then (if 0 ≤ x6 then (if 0 < (x0.length : Int) then (if 0 ≤ x4 then (if x4 < ((rd_L4 x0 0).length : Int) then ((heliastref16_has.f k (rd_L4 x0 x6) ((rd_T69 (rd_L4 x0 0) x4).f0) ((rd_T69 (rd_L4 x0 0) x4).f1) ((rd_T69 (rd_L4 x0 0) x4).f2)).bind fun t174 => (heliastref16_Alike.l1 k x0 x3 x4 t174 (wrap64 (x6 + 1)))) else (none)) else (none)) else (none)) else (none)) else (heliastref16_Alike.l1 k x0 x3 x4 false (wrap64 (x6 + 1)))) else (if x5 = true then (if 0 < (x0.length : Int) then (if 0 ≤ x4 then (if x4 < ((rd_L4 x0 0).length : Int) then (if x3.length < 3518437208883 then (heliastref16_Alike.l0 k x0 (x3 ++ [(⟨(rd_T69 (rd_L4 x0 0) x4).f0, (rd_T69 (rd_L4 x0 0) x4).f1, (rd_T69 (rd_L4 x0 0) x4).f2⟩ : S69)]) (wrap64 (x4 + 1))) else (none)) else (none)) else (none)) else (none)) else (heliastref16_Alike.l0 k x0 x3 (wrap64 (x4 + 1))))
end
def heliastref16_Alike.f (k : Nat) (l0 : List (List (S69))) : Option ((List (S69))) := heliastref16_Alike.l0 k l0 ([] : List (S69)) 0
theorem heliastref16_Alike.mono_l : ∀ k, (∀ y0 y1 y2, LeO (heliastref16_Alike.l0 k y0 y1 y2) (heliastref16_Alike.l0 (k + 1) y0 y1 y2)) ∧ (∀ y0 y1 y2 y3, LeO (heliastref16_Alike.j1 k y0 y1 y2 y3) (heliastref16_Alike.j1 (k + 1) y0 y1 y2 y3)) ∧ (∀ y0 y1 y2 y3 y4, LeO (heliastref16_Alike.l1 k y0 y1 y2 y3 y4) (heliastref16_Alike.l1 (k + 1) y0 y1 y2 y3 y4))
  | 0 => ⟨fun _ _ _ r h => by simp [heliastref16_Alike.l0] at h, fun _ _ _ _ r h => by simp [heliastref16_Alike.j1] at h, fun _ _ _ _ _ r h => by simp [heliastref16_Alike.l1] at h⟩
  | k + 1 => by
    obtain ⟨ih0, ih1, ih2⟩ := heliastref16_Alike.mono_l k
    refine ⟨?_, ?_, ?_⟩
    · intro y0 y1 y2
      unfold heliastref16_Alike.l0
      repeat' first
      | (with_reducible exact ih0 _ _ _)
      | (with_reducible exact ih1 _ _ _ _)
      | (with_reducible exact ih2 _ _ _ _ _)
      | (with_reducible exact heliastref16_has.mono _ _ _ _ _)
      | (with_reducible exact LeO.refl _)
      | (with_reducible exact LeO.none _)
      | (with_reducible refine LeO.ite ?_ ?_)
      | (with_reducible refine LeO.bind ?_ (fun _ => ?_))
      | exact ih0 _ _ _
      | exact ih1 _ _ _ _
      | exact ih2 _ _ _ _ _
      | exact heliastref16_has.mono _ _ _ _ _
      | exact LeO.none _
      | refine LeO.ite ?_ ?_
      | refine LeO.bind ?_ (fun _ => ?_)
    · intro y0 y1 y2 y3
      unfold heliastref16_Alike.j1
      repeat' first
      | (with_reducible exact ih0 _ _ _)
      | (with_reducible exact ih1 _ _ _ _)
      | (with_reducible exact ih2 _ _ _ _ _)
      | (with_reducible exact heliastref16_has.mono _ _ _ _ _)
      | (with_reducible exact LeO.refl _)
      | (with_reducible exact LeO.none _)
      | (with_reducible refine LeO.ite ?_ ?_)
      | (with_reducible refine LeO.bind ?_ (fun _ => ?_))
      | exact ih0 _ _ _
      | exact ih1 _ _ _ _
      | exact ih2 _ _ _ _ _
      | exact heliastref16_has.mono _ _ _ _ _
      | exact LeO.none _
      | refine LeO.ite ?_ ?_
      | refine LeO.bind ?_ (fun _ => ?_)
    · intro y0 y1 y2 y3 y4
      unfold heliastref16_Alike.l1
      repeat' first
      | (with_reducible exact ih0 _ _ _)
      | (with_reducible exact ih1 _ _ _ _)
      | (with_reducible exact ih2 _ _ _ _ _)
      | (with_reducible exact heliastref16_has.mono _ _ _ _ _)
      | (with_reducible exact LeO.refl _)
      | (with_reducible exact LeO.none _)
      | (with_reducible refine LeO.ite ?_ ?_)
      | (with_reducible refine LeO.bind ?_ (fun _ => ?_))
      | exact ih0 _ _ _
      | exact ih1 _ _ _ _
      | exact ih2 _ _ _ _ _
      | exact heliastref16_has.mono _ _ _ _ _
      | exact LeO.none _
      | refine LeO.ite ?_ ?_
      | refine LeO.bind ?_ (fun _ => ?_)
theorem heliastref16_Alike.mono : ∀ a0 k, LeO (heliastref16_Alike.f k a0) (heliastref16_Alike.f (k + 1) a0) := by
  intro a0 k
  obtain ⟨ih0, ih1, ih2⟩ := heliastref16_Alike.mono_l k
  unfold heliastref16_Alike.f
  repeat' first
      | (with_reducible exact ih0 _ _ _)
      | (with_reducible exact ih1 _ _ _ _)
      | (with_reducible exact ih2 _ _ _ _ _)
      | (with_reducible exact heliastref16_has.mono _ _ _ _ _)
      | (with_reducible exact LeO.refl _)
      | (with_reducible exact LeO.none _)
      | (with_reducible refine LeO.ite ?_ ?_)
      | (with_reducible refine LeO.bind ?_ (fun _ => ?_))
      | exact ih0 _ _ _
      | exact ih1 _ _ _ _
      | exact ih2 _ _ _ _ _
      | exact heliastref16_has.mono _ _ _ _ _
      | exact LeO.none _
      | refine LeO.ite ?_ ?_
      | refine LeO.bind ?_ (fun _ => ?_)
def heliastref16_Alike.T9 : Bool × List (List Nat × List Nat) := (true, [([], []), ([0], [0]), ([1], [1]), ([1], [1]), ([2, 3, 1], [1, 2, 3]), ([4, 1], [1, 4]), ([1], [1]), ([6, 1], [1, 6]), ([7, 1], [1, 7]), ([1], [1]), ([8, 9, 1], [1, 8, 9]), ([10, 1], [1, 10]), ([5, 11, 1, 1], [1, 5, 11]), ([1, 12], [1, 12]), ([13, 12, 0, 1, 2, 3, 4, 5, 6, 7, 8, 9, 10, 11, 12, 13], [0, 13])])
def heliastref16_Alike.B9 : List Nat := [0, 1, 3, 3, 15, 31, 3, 67, 195, 3, 963, 1987, 4095, 8191, 16383]
theorem heliastref16_Alike.tab9 : rtab .any (opsOf Try.f83 9) = heliastref16_Alike.T9 := by kernel_rfl
theorem heliastref16_Alike.bits9 : waitsOk heliastref16_Alike.T9.2 heliastref16_Alike.B9 = true := by kernel_rfl
set_option maxHeartbeats 8000000 in
set_option maxRecDepth 100000 in
theorem heliastref16_Alike.calls (k : Nat) (A0 : Option Addr) (c0 : Nat) (l0 : List (List (S69))) (r : List (S69)) (w : World) (hr0 : Kd.C (Kd.slice 69 k69) w A0 l0.length l0) (hc0 : l0.length ≤ c0) (h : heliastref16_Alike.f k l0 = some r) :
    Calls Try.prog 83 #[.slice A0 l0.length c0] w fun e w' => ∃ v0_ : Value, e = .returned (v0_) ∧ Kd.R k69 69 w' w.heap.size (fun _ => True) v0_ r ∧ Below w.heap.size w w' := by
  have hu69 := Try.underlying69
  have HR0 := Aside0.mk hr0
  have HC0 := Aside0.mk hc0
  clear hr0 hc0
  have HB := Aside0.mk (Below.refl w.heap.size w)
  have H : (heliastref16_Alike.l0 k l0 ([] : List (S69)) 0) = some r := h
  clear h
  have H' := Aside0.mk H
  clear H
  go_enter Try.func83, Try.ntmps83
  go_wp2
  go_loopg [3, 4] k (fun kq v3 v4 w' => ∃ (x3_1 : List (S69)) (x4_1 : Int), v4 = .int .i64 x4_1 ∧ Aside0 (heliastref16_Alike.l0 kq l0 x3_1 x4_1 = some r) ∧ Aside0 (kq ≤ k) ∧ Aside0 (Kd.R k69 69 w' w.heap.size (fun _ => True) v3 x3_1) ∧ Aside0 (Below w.heap.size w w'))
  case atStart => exact ⟨(([] : List (S69))), (0), (by first | rfl | (simp; done) | (simp [*]; done)), H', ⟨Nat.le_refl _⟩, ⟨by first | exact Kd.R_nil _ _ _ _ _ | exact Kd.N_nil _ _ _ _ _ | exact Kd.V_nil _ _ _ _ _ | exact Kd.Q_nil _ _ _ _ _ | exact Kd.S_nil _ _ _ _ _⟩, ⟨by repeat (first | (with_reducible first | exact HB.out | apply below_alloc | apply pw_below_drewN | apply below_drew1) | exact HB.out)⟩⟩
  case round =>
    clear H'
    obtain ⟨x3_1, x4_1, rfl, HA, HK1, HO_3, HB⟩ := hrel
    cases gk with
    | zero => exact absurd HA.out (by simp [heliastref16_Alike.l0])
    | succ k1 =>
      have H := HA.out
      clear HA
      simp only [heliastref16_Alike.l0] at H
      have HC2 := Aside0.mk H
      clear H
      go_upto_region 3 with (fail)
      go_cut [17] (fun v17 wc => ∃ (kq : Nat) (x17_1 : Bool), v17 = .bool x17_1 ∧ Aside0 (heliastref16_Alike.j1 kq l0 x3_1 x4_1 x17_1 = some r) ∧ Aside0 (kq ≤ k1) ∧ Aside0 (Kd.R k69 69 wc w.heap.size (fun _ => True) u3 x3_1) ∧ Aside0 (Below w.heap.size w wc))
      case first =>
        have H := HC2.out
        clear HC2
        by_cases c3 : (l0.length : Int) > 0
        · rw [if_pos c3] at H
          have c3b0 : decide (0 < (l0.length : Int)) = true := decide_eq_true c3
          have c3b1 : decide (0 < l0.length) = true := decide_eq_true (by omega)
          clear c3
          (first | rw [c3b0] | (simp only [i64_w, i32_w]; rw [c3b0]) | rw [c3b1] | skip)
          by_cases c4 : 0 < (l0.length : Int)
          · rw [if_pos c4] at H
            have c4b0 : decide (0 < (l0.length : Int)) = true := decide_eq_true c4
            have c4b1 : decide (0 < l0.length) = true := decide_eq_true (by omega)
            clear c4
            have H' := Aside0.mk H
            clear H
            have p170 : 0 ≤ (0 : Int) := (by omega)
            have q170 : 0 < (l0.length : Int) := of_decide_eq_true (by first | (with_reducible assumption) | assumption)
            obtain ⟨ad170, A170_0, c170_0, e170, hx170_0, hl170_0, hi170_0⟩ := at_L4 HR0.out 0 p170 q170
            cases e170
            have qi170 : (0 < l0.length) = True := eq_true (by omega)
            (try rw [show ((0 : Int)).toNat = 0 from rfl] at hx170_0)
            (try rw [Addr.add_zero'] at hx170_0)
            replace hx170_0 := (HB.out.cell (World.block_lt_of_cell? w _ hx170_0)).trans hx170_0
            have HR170_0 := Aside0.mk hi170_0
            have HC170_0 := Aside0.mk hl170_0
            clear hi170_0 hl170_0
            replace p170 := eq_true p170
            replace q170 := eq_true q170
            go_wp2
            go_meet
            case rel => exact ⟨_, (decide (x4_1 < ((rd_L4 l0 0).length : Int))), (by first | rfl | (simp; done) | (simp [*]; done)), H', ⟨by have := HK1.out; first | omega | exact Nat.le_refl _⟩, ⟨by (with_reducible repeat (first | apply Kd.R_alloc | apply Kd.R_drewN | apply Kd.R_drew)); exact HO_3.out⟩, ⟨by repeat (first | (with_reducible first | exact HB.out | apply below_alloc | apply pw_below_drewN | apply below_drew1) | exact HB.out)⟩⟩
          · rw [if_neg c4] at H
            exact absurd H (by simp)
        · rw [if_neg c3] at H
          have c3b0 : decide (0 < (l0.length : Int)) = false := decide_eq_false c3
          have c3b1 : decide (0 < l0.length) = false := decide_eq_false (by omega)
          clear c3
          (first | rw [c3b0] | (simp only [i64_w, i32_w]; rw [c3b0]) | rw [c3b1] | skip)
          have H' := Aside0.mk H
          clear H
          go_wp2
          go_meet
          case rel => exact ⟨_, (false), (by first | rfl | (simp; done) | (simp [*]; done)), H', ⟨by have := HK1.out; first | omega | exact Nat.le_refl _⟩, ⟨by (with_reducible repeat (first | apply Kd.R_alloc | apply Kd.R_drewN | apply Kd.R_drew)); exact HO_3.out⟩, ⟨by repeat (first | (with_reducible first | exact HB.out | apply below_alloc | apply pw_below_drewN | apply below_drew1) | exact HB.out)⟩⟩
      case rest =>
        clear HC2
        try clear c1
        try clear p1
        try clear q1
        try clear hx1
        try clear qi1
        try clear p2
        try clear c3
        try clear c3b0
        try clear c3b1
        try clear c4
        try clear c4b0
        try clear c4b1
        try clear hx170_0
        try clear p170
        try clear q170
        obtain ⟨kq, x17_1, rfl, HA, HJ1, HO_3, HB⟩ := hcut
        cases kq with
        | zero => exact absurd HA.out (by simp [heliastref16_Alike.j1])
        | succ kj1 =>
          have H := HA.out
          clear HA
          simp only [heliastref16_Alike.j1] at H
          by_cases c5 : x17_1 = true
          · subst c5
            have H1 : (heliastref16_Alike.l1 kj1 l0 x3_1 x4_1 true 0) = some r := by rw [if_pos rfl] at H; exact H
            clear H
            have H := H1
            clear H1
            have H' := Aside0.mk H
            clear H
            go_wp2
            go_loopg [5, 6] kj1 (fun kq v5 v6 w' => ∃ (x5_3 : Bool) (x6_3 : Int), v5 = .bool x5_3 ∧ v6 = .int .i64 x6_3 ∧ Aside0 (heliastref16_Alike.l1 kq l0 x3_1 x4_1 x5_3 x6_3 = some r) ∧ Aside0 (kq ≤ kj1) ∧ Aside0 (Kd.R k69 69 w' w.heap.size (fun _ => True) u3 x3_1) ∧ Aside0 (Below w.heap.size w w'))
            case atStart => exact ⟨(true), (0), (by first | rfl | (simp; done) | (simp [*]; done)), (by first | rfl | (simp; done) | (simp [*]; done)), H', ⟨Nat.le_refl _⟩, ⟨by (with_reducible repeat (first | apply Kd.R_alloc | apply Kd.R_drewN | apply Kd.R_drew)); exact HO_3.out⟩, ⟨by repeat (first | (with_reducible first | exact HB.out | apply below_alloc | apply pw_below_drewN | apply below_drew1) | exact HB.out)⟩⟩
            case round =>
              clear H'
              try clear c1
              try clear p1
              try clear q1
              try clear hx1
              try clear qi1
              try clear p2
              try clear c3
              try clear c3b0
              try clear c3b1
              try clear c4
              try clear c4b0
              try clear c4b1
              try clear c5
              try clear hx170_0
              try clear p1
              try clear p170
              try clear p2
              try clear q1
              try clear q170
              obtain ⟨x5_3, x6_3, rfl, rfl, HA, HK3, HO_3, HB⟩ := hrel
              cases gk with
              | zero => exact absurd HA.out (by simp [heliastref16_Alike.l1])
              | succ k3 =>
                have H := HA.out
                clear HA
                simp only [heliastref16_Alike.l1] at H
                by_cases c6 : x6_3 < (l0.length : Int)
                · rw [if_pos c6] at H
                  have c6b0 : decide (x6_3 < (l0.length : Int)) = true := decide_eq_true c6
                  clear c6
                  by_cases c7 : x5_3 = true
                  · subst c7
                    have H1 : (if 0 ≤ x6_3 then (if 0 < (l0.length : Int) then (if 0 ≤ x4_1 then (if x4_1 < ((rd_L4 l0 0).length : Int) then ((heliastref16_has.f k3 (rd_L4 l0 x6_3) ((rd_T69 (rd_L4 l0 0) x4_1).f0) ((rd_T69 (rd_L4 l0 0) x4_1).f1) ((rd_T69 (rd_L4 l0 0) x4_1).f2)).bind fun t174 => (heliastref16_Alike.l1 k3 l0 x3_1 x4_1 t174 (wrap64 (x6_3 + 1)))) else (none)) else (none)) else (none)) else (none)) = some r := by rw [if_pos rfl] at H; exact H
                    clear H
                    have H := H1
                    clear H1
                    by_cases c8 : 0 ≤ x6_3
                    · rw [if_pos c8] at H
                      have c8b0 : decide (0 ≤ x6_3) = true := decide_eq_true c8
                      clear c8
                      by_cases c9 : 0 < (l0.length : Int)
                      · rw [if_pos c9] at H
                        have c9b0 : decide (0 < (l0.length : Int)) = true := decide_eq_true c9
                        have c9b1 : decide (0 < l0.length) = true := decide_eq_true (by omega)
                        clear c9
                        by_cases c10 : 0 ≤ x4_1
                        · rw [if_pos c10] at H
                          have c10b0 : decide (0 ≤ x4_1) = true := decide_eq_true c10
                          clear c10
                          by_cases c11 : x4_1 < ((rd_L4 l0 0).length : Int)
                          · rw [if_pos c11] at H
                            have c11b0 : decide (x4_1 < ((rd_L4 l0 0).length : Int)) = true := decide_eq_true c11
                            clear c11
                            replace H := Option.bind_eq_some_iff.mp H
                            obtain ⟨t174, A120, H⟩ := H
                            replace H : (heliastref16_Alike.l1 k3 l0 x3_1 x4_1 t174 (wrap64 (x6_3 + 1))) = some r := H
                            have A12 := Aside0.mk A120
                            clear A120
                            have H' := Aside0.mk H
                            clear H
                            try go_wp2
                            have n0_ := Aside0.mk (Kd.R_drew HO_3.out)
                            have n1_ := Aside0.mk (below_drew1 HB.out)
                            clear HO_3
                            clear HB
                            have HO_3 := n0_
                            have HB := n1_
                            clear n0_ n1_
                            have p171 : 0 ≤ (x6_3 : Int) := of_decide_eq_true (by first | (with_reducible assumption) | assumption)
                            have q171 : x6_3 < (l0.length : Int) := of_decide_eq_true (by first | (with_reducible assumption) | assumption)
                            obtain ⟨ad171, A171_0, c171_0, e171, hx171_0, hl171_0, hi171_0⟩ := at_L4 HR0.out x6_3 p171 q171
                            have hw171_0 := hx171_0
                            cases e171
                            replace hx171_0 := (HB.out.cell (World.block_lt_of_cell? w _ hx171_0)).trans hx171_0
                            have HR171_0 := Aside0.mk hi171_0
                            have HC171_0 := Aside0.mk hl171_0
                            clear hi171_0 hl171_0
                            replace p171 := eq_true p171
                            replace q171 := eq_true q171
                            have p172 : 0 ≤ (0 : Int) := (by omega)
                            have q172 : 0 < (l0.length : Int) := of_decide_eq_true (by first | (with_reducible assumption) | assumption)
                            obtain ⟨ad172, A172_0, c172_0, e172, hx172_0, hl172_0, hi172_0⟩ := at_L4 HR0.out 0 p172 q172
                            have hw172_0 := hx172_0
                            (try rw [show ((0 : Int)).toNat = 0 from rfl] at hw172_0)
                            (try rw [show 0 * 1 = 0 from rfl] at hw172_0)
                            (try rw [Addr.add_zero'] at hw172_0)
                            obtain rfl : ad171 = ad172 := (by injection e172)
                            have qi172 : (0 < l0.length) = True := eq_true (by omega)
                            (try rw [show ((0 : Int)).toNat = 0 from rfl] at hx172_0)
                            (try rw [Addr.add_zero'] at hx172_0)
                            replace hx172_0 := (HB.out.cell (World.block_lt_of_cell? w _ hx172_0)).trans hx172_0
                            have HR172_0 := Aside0.mk hi172_0
                            have HC172_0 := Aside0.mk hl172_0
                            clear hi172_0 hl172_0
                            replace p172 := eq_true p172
                            replace q172 := eq_true q172
                            have p173 : 0 ≤ (x4_1 : Int) := of_decide_eq_true (by first | (with_reducible assumption) | assumption)
                            have q173 : x4_1 < ((rd_L4 l0 0).length : Int) := of_decide_eq_true (by first | (with_reducible assumption) | assumption)
                            obtain ⟨ad173, e173, hx173_0, hx173_1, hx173_2⟩ := at_T69 HR172_0.out x4_1 p173 q173
                            have hw173_2 := hx173_2
                            have hw173_1 := hx173_1
                            have hw173_0 := hx173_0
                            cases e173
                            replace hx173_0 := (HB.out.cell (World.block_lt_of_cell? w _ hx173_0)).trans hx173_0
                            replace hx173_1 := (HB.out.cell (World.block_lt_of_cell? w _ hx173_1)).trans hx173_1
                            replace hx173_2 := (HB.out.cell (World.block_lt_of_cell? w _ hx173_2)).trans hx173_2
                            replace p173 := eq_true p173
                            replace q173 := eq_true q173
                            refine start_ (n := 15) (S := fun w' => w'.cell? (ad171.add (x6_3).toNat) = some (.slice A171_0 (rd_L4 l0 x6_3).length c171_0) ∧ w'.cell? ad171 = some (.slice (some ad173) (rd_L4 l0 0).length c172_0) ∧ w'.cell? (ad173.add ((x4_1).toNat * 3)) = some (.string ((rd_T69 (rd_L4 l0 0) x4_1).f0)) ∧ w'.cell? ⟨(ad173.add ((x4_1).toNat * 3)).block, (ad173.add ((x4_1).toNat * 3)).off + 1, none⟩ = some (.string ((rd_T69 (rd_L4 l0 0) x4_1).f1)) ∧ w'.cell? ⟨(ad173.add ((x4_1).toNat * 3)).block, (ad173.add ((x4_1).toNat * 3)).off + 2, none⟩ = some (.int .i64 ((rd_T69 (rd_L4 l0 0) x4_1).f2))) (ds := []) #[false, false, false, false, false, false, false, false, false, false, false, false, false, false, false] (by kernel_rfl) rfl rfl ⟨((HB.out.cell (World.block_lt_of_cell? w _ hw171_0)).trans hw171_0), ((HB.out.cell (World.block_lt_of_cell? w _ hw172_0)).trans hw172_0), ((HB.out.cell (World.block_lt_of_cell? w _ hw173_0)).trans hw173_0), ((HB.out.cell (World.block_lt_of_cell? w _ hw173_1)).trans hw173_1), ((HB.out.cell (World.block_lt_of_cell? w _ hw173_2)).trans hw173_2)⟩ (fun hHeld => ?_); refine with_tabW heliastref16_Alike.tab9 heliastref16_Alike.bits9 (fun HT_ HW_ => ?_)
                            generalize wr.drew = w13 at HO_3 HB HR171_0 HR172_0 hx171_0 hx172_0 hx173_0 hx173_1 hx173_2 hHeld ⊢
                            refine pure_ (i := 0) (N := some 26) (v := ?_) (a' := ?_) #[true, false, false, false, false, false, false, false, false, false, false, false, false, false, false] rfl rfl (any_of HT_.out (by kernel_rfl)) (fun _ _ _ h => h) (Or.inl ⟨by rfl, ?_⟩) ?_ ?_
                            rotate_left
                            · intro w'
                              go_simp
                              with_reducible rfl
                            rotate_left
                            · simp only [Act.put, List.setIfInBounds_toArray, List.set_cons_zero, List.set_cons_succ, i64_w, i32_w]
                              rfl
                            refine pure_ (i := 1) (N := some 27) (v := ?_) (a' := ?_) #[true, true, false, false, false, false, false, false, false, false, false, false, false, false, false] rfl rfl (any_of HT_.out (by kernel_rfl)) (fun _ _ _ h => h) (Or.inl ⟨by rfl, ?_⟩) ?_ ?_
                            rotate_left
                            · intro w'
                              go_simp
                              with_reducible rfl
                            rotate_left
                            · simp only [Act.put, List.setIfInBounds_toArray, List.set_cons_zero, List.set_cons_succ, i64_w, i32_w]
                              rfl
                            refine pure_ (i := 2) (N := some 28) (v := ?_) (a' := ?_) #[true, true, true, false, false, false, false, false, false, false, false, false, false, false, false] rfl rfl (any_of HT_.out (by kernel_rfl)) (fun _ _ _ h => h) (Or.inl ⟨by rfl, ?_⟩) ?_ ?_
                            rotate_left
                            · intro w'
                              go_simp
                              with_reducible rfl
                            rotate_left
                            · simp only [Act.put, List.setIfInBounds_toArray, List.set_cons_zero, List.set_cons_succ, i64_w, i32_w]
                              rfl
                            refine pure_ (i := 3) (N := some 29) (v := ?_) (a' := ?_) #[true, true, true, true, false, false, false, false, false, false, false, false, false, false, false] rfl rfl (any_of HT_.out (by kernel_rfl)) (fun _ _ _ h => h) (Or.inl ⟨by rfl, ?_⟩) ?_ ?_
                            rotate_left
                            · intro w'
                              go_simp
                              with_reducible rfl
                            rotate_left
                            · simp only [Act.put, List.setIfInBounds_toArray, List.set_cons_zero, List.set_cons_succ, i64_w, i32_w]
                              rfl
                            refine pure_ (i := 4) (N := some 30) (v := ?_) (a' := ?_) #[true, true, true, true, true, false, false, false, false, false, false, false, false, false, false] rfl rfl (any_of HT_.out (by kernel_rfl)) (fun _ _ _ h => h) (Or.inl ⟨by rfl, ?_⟩) ?_ ?_
                            rotate_left
                            · intro w'
                              go_simp
                              with_reducible rfl
                            rotate_left
                            · simp only [Act.put, List.setIfInBounds_toArray, List.set_cons_zero, List.set_cons_succ, i64_w, i32_w]
                              rfl
                            refine pure_ (i := 6) (N := some 32) (v := ?_) (a' := ?_) #[true, true, true, true, true, false, true, false, false, false, false, false, false, false, false] rfl rfl (any_of HT_.out (by kernel_rfl)) (fun _ _ _ h => h) (Or.inl ⟨by rfl, ?_⟩) ?_ ?_
                            rotate_left
                            · intro w'
                              go_simp
                              with_reducible rfl
                            rotate_left
                            · simp only [Act.put, List.setIfInBounds_toArray, List.set_cons_zero, List.set_cons_succ, i64_w, i32_w]
                              rfl
                            refine pure_ (i := 7) (N := some 33) (v := ?_) (a' := ?_) #[true, true, true, true, true, false, true, true, false, false, false, false, false, false, false] rfl rfl (any_of HT_.out (by kernel_rfl)) (fun _ _ _ h => h) (Or.inl ⟨by rfl, ?_⟩) ?_ ?_
                            rotate_left
                            · intro w'
                              go_simp
                              with_reducible rfl
                            rotate_left
                            · simp only [Act.put, List.setIfInBounds_toArray, List.set_cons_zero, List.set_cons_succ, i64_w, i32_w]
                              rfl
                            refine pure_ (i := 9) (N := some 35) (v := ?_) (a' := ?_) #[true, true, true, true, true, false, true, true, false, true, false, false, false, false, false] rfl rfl (any_of HT_.out (by kernel_rfl)) (fun _ _ _ h => h) (Or.inl ⟨by rfl, ?_⟩) ?_ ?_
                            rotate_left
                            · intro w'
                              go_simp
                              with_reducible rfl
                            rotate_left
                            · simp only [Act.put, List.setIfInBounds_toArray, List.set_cons_zero, List.set_cons_succ, i64_w, i32_w]
                              rfl
                            refine take_ (i := 5) (N := some 31) (v := ?_) (a' := ?_) #[true, true, true, true, true, true, true, true, false, true, false, false, false, false, false] rfl rfl (take_ofW HT_.out HW_.out (by kernel_rfl)) (fun _ _ _ h => h) (Or.inl ⟨by rfl, ?_⟩) hHeld ?_ ?_
                            rotate_left
                            · rintro w' ⟨s0, s1, s2, s3, s4⟩
                              go_simp
                              with_reducible rfl
                            rotate_left
                            · simp only [Act.put, List.setIfInBounds_toArray, List.set_cons_zero, List.set_cons_succ, i64_w, i32_w]
                              rfl
                            refine take_ (i := 8) (N := some 34) (v := ?_) (a' := ?_) #[true, true, true, true, true, true, true, true, true, true, false, false, false, false, false] rfl rfl (take_ofW HT_.out HW_.out (by kernel_rfl)) (fun _ _ _ h => h) (Or.inl ⟨by rfl, ?_⟩) hHeld ?_ ?_
                            rotate_left
                            · rintro w' ⟨s0, s1, s2, s3, s4⟩
                              go_simp
                              with_reducible rfl
                            rotate_left
                            · simp only [Act.put, List.setIfInBounds_toArray, List.set_cons_zero, List.set_cons_succ, i64_w, i32_w]
                              rfl
                            refine pure_ (i := 10) (N := some 36) (v := ?_) (a' := ?_) #[true, true, true, true, true, true, true, true, true, true, true, false, false, false, false] rfl rfl (any_of HT_.out (by kernel_rfl)) (fun _ _ _ h => h) (Or.inl ⟨by rfl, ?_⟩) ?_ ?_
                            rotate_left
                            · intro w'
                              go_simp
                              with_reducible rfl
                            rotate_left
                            · simp only [Act.put, List.setIfInBounds_toArray, List.set_cons_zero, List.set_cons_succ, i64_w, i32_w]
                              rfl
                            refine take_ (i := 11) (N := some 37) (v := ?_) (a' := ?_) #[true, true, true, true, true, true, true, true, true, true, true, true, false, false, false] rfl rfl (take_ofW HT_.out HW_.out (by kernel_rfl)) (fun _ _ _ h => h) (Or.inl ⟨by rfl, ?_⟩) hHeld ?_ ?_
                            rotate_left
                            · rintro w' ⟨s0, s1, s2, s3, s4⟩
                              go_simp
                              with_reducible rfl
                            rotate_left
                            · simp only [Act.put, List.setIfInBounds_toArray, List.set_cons_zero, List.set_cons_succ, i64_w, i32_w]
                              rfl
                            refine one_ (i := 12) (N := some 38) #[true, true, true, true, true, true, true, true, true, true, true, true, true, false, false] rfl rfl (one_of HT_.out (by kernel_rfl)) (by decide) (fun K hK => ?_)
                            refine goes_ Try.func113 (by kernel_rfl) rfl #[.slice A171_0 (rd_L4 l0 x6_3).length c171_0, .agg #[.string ((rd_T69 (rd_L4 l0 0) x4_1).f0), .string ((rd_T69 (rd_L4 l0 0) x4_1).f1), .int .i64 ((rd_T69 (rd_L4 l0 0) x4_1).f2)]] (by rfl) rfl rfl (by (try simp only [List.map_toArray, List.map_cons, List.map_nil]); first | done | rfl | (simp only [List.length_drop, List.length_take]; rfl)) ?_
                            with_reducible refine (heliastref16_has.calls k3 _ _ (rd_L4 l0 x6_3) ((rd_T69 (rd_L4 l0 0) x4_1).f0) ((rd_T69 (rd_L4 l0 0) x4_1).f1) ((rd_T69 (rd_L4 l0 0) x4_1).f2) t174 _ ?side1 ?side2 A12.out).mono ?_
                            (case side1 => repeat (first | exact (Kd.C_below HR171_0.out HB.out) | (with_reducible refine Kd.C_alloc ?_ _) | (with_reducible refine Kd.C_drewN ?_ _) | (with_reducible refine Kd.C_drew ?_)))
                            (case side2 => exact HC171_0.out)
                            rintro e w14 ⟨rfl, hb⟩
                            refine ⟨_, rfl, ?_⟩
                            have n0_ := Aside0.mk (Kd.R_below (by (with_reducible repeat (first | apply Kd.R_alloc | apply Kd.R_drewN | apply Kd.R_drew)); exact HO_3.out) hb)
                            have n1_ := Aside0.mk (below_step (by repeat (first | (with_reducible first | exact HB.out | apply below_alloc | apply pw_below_drewN | apply below_drew1) | exact HB.out)) hb)
                            clear HO_3
                            clear HB
                            have HO_3 := n0_
                            have HB := n1_
                            clear n0_ n1_
                            (try clear hb)
                            (try clear hb2)
                            (try clear hk)
                            (try clear hi)
                            refine hK.out _ _ ⟨((HB.out.cell (World.block_lt_of_cell? w _ hw171_0)).trans hw171_0), ((HB.out.cell (World.block_lt_of_cell? w _ hw172_0)).trans hw172_0), ((HB.out.cell (World.block_lt_of_cell? w _ hw173_0)).trans hw173_0), ((HB.out.cell (World.block_lt_of_cell? w _ hw173_1)).trans hw173_1), ((HB.out.cell (World.block_lt_of_cell? w _ hw173_2)).trans hw173_2)⟩ (fun hHeld => ?_)
                            clear hK K
                            refine norm_ (a' := ?_) ?_ ?_
                            rotate_left
                            · show Act.put _ (some 38) _ = _
                              simp only [Act.put, List.setIfInBounds_toArray, List.set_cons_zero, List.set_cons_succ, i64_w, i32_w]
                              rfl
                            refine pure_ (i := 13) (N := some 39) (v := ?_) (a' := ?_) #[true, true, true, true, true, true, true, true, true, true, true, true, true, true, false] rfl rfl (any_of HT_.out (by kernel_rfl)) (fun _ _ _ h => h) (Or.inl ⟨by rfl, ?_⟩) ?_ ?_
                            rotate_left
                            · intro w'
                              go_simp
                              with_reducible rfl
                            rotate_left
                            · simp only [Act.put, List.setIfInBounds_toArray, List.set_cons_zero, List.set_cons_succ, i64_w, i32_w]
                              rfl
                            refine pure_ (i := 14) (N := some 5) (v := ?_) (a' := ?_) #[true, true, true, true, true, true, true, true, true, true, true, true, true, true, true] rfl rfl (any_of HT_.out (by kernel_rfl)) (fun _ _ _ h => h) (Or.inl ⟨by rfl, ?_⟩) ?_ ?_
                            rotate_left
                            · intro w'
                              go_simp
                              with_reducible rfl
                            rotate_left
                            · simp only [Act.put, List.setIfInBounds_toArray, List.set_cons_zero, List.set_cons_succ, i64_w, i32_w]
                              rfl
                            refine done_ (done_of HT_.out (by kernel_rfl)) ?_
                            try go_wp2
                            go_roundg k3
                            case measure => have := HK1.out; have := HJ1.out; have := HK3.out; omega
                            case rel => exact ⟨(t174), (wrap64 (x6_3 + 1)), (by first | rfl | (simp; done) | (simp [*]; done)), (by first | rfl | (simp; done) | (simp [*]; done)), H', ⟨by have := HK1.out; have := HJ1.out; have := HK3.out; omega⟩, ⟨by (with_reducible repeat (first | apply Kd.R_alloc | apply Kd.R_drewN | apply Kd.R_drew)); exact HO_3.out⟩, ⟨by repeat (first | (with_reducible first | exact HB.out | apply below_alloc | apply pw_below_drewN | apply below_drew1) | exact HB.out)⟩⟩
                          · rw [if_neg c11] at H
                            exact absurd H (by simp)
                        · rw [if_neg c10] at H
                          exact absurd H (by simp)
                      · rw [if_neg c9] at H
                        exact absurd H (by simp)
                    · rw [if_neg c8] at H
                      exact absurd H (by simp)
                  · replace c7 := Bool.eq_false_iff.mpr c7
                    subst c7
                    have H1 : (heliastref16_Alike.l1 k3 l0 x3_1 x4_1 false (wrap64 (x6_3 + 1))) = some r := by rw [if_neg (show ¬ (false = true) by decide)] at H; exact H
                    clear H
                    have H := H1
                    clear H1
                    have H' := Aside0.mk H
                    clear H
                    try go_wp2
                    have n0_ := Aside0.mk (Kd.R_drew HO_3.out)
                    have n1_ := Aside0.mk (below_drew1 HB.out)
                    clear HO_3
                    clear HB
                    have HO_3 := n0_
                    have HB := n1_
                    clear n0_ n1_
                    refine start_ (n := 15) (S := fun w' => True) (ds := []) #[false, false, false, false, false, false, false, false, false, false, false, false, false, false, false] (by kernel_rfl) rfl rfl trivial (fun hHeld => ?_); refine with_tabW heliastref16_Alike.tab9 heliastref16_Alike.bits9 (fun HT_ HW_ => ?_)
                    generalize wr.drew = w15 at HO_3 HB hHeld ⊢
                    refine pure_ (i := 0) (N := some 26) (v := ?_) (a' := ?_) #[true, false, false, false, false, false, false, false, false, false, false, false, false, false, false] rfl rfl (any_of HT_.out (by kernel_rfl)) (fun _ _ _ h => h) (Or.inl ⟨by rfl, ?_⟩) ?_ ?_
                    rotate_left
                    · intro w'
                      go_simp
                      with_reducible rfl
                    rotate_left
                    · simp only [Act.put, List.setIfInBounds_toArray, List.set_cons_zero, List.set_cons_succ, i64_w, i32_w]
                      rfl
                    refine pure_ (i := 1) (N := some 27) (v := ?_) (a' := ?_) #[true, true, false, false, false, false, false, false, false, false, false, false, false, false, false] rfl rfl (any_of HT_.out (by kernel_rfl)) (fun _ _ _ h => h) (Or.inl ⟨by rfl, ?_⟩) ?_ ?_
                    rotate_left
                    · intro w'
                      go_simp
                      with_reducible rfl
                    rotate_left
                    · simp only [Act.put, List.setIfInBounds_toArray, List.set_cons_zero, List.set_cons_succ, i64_w, i32_w]
                      rfl
                    refine pure_ (i := 2) (N := some 28) (v := undef) (a' := ?_) #[true, true, true, false, false, false, false, false, false, false, false, false, false, false, false] rfl rfl (any_of HT_.out (by kernel_rfl)) (fun _ _ _ h => h) (Or.inr ⟨by rfl, rfl⟩) ?_ ?_
                    rotate_left
                    · simp only [Act.put, List.setIfInBounds_toArray, List.set_cons_zero, List.set_cons_succ, i64_w, i32_w]
                      rfl
                    refine pure_ (i := 3) (N := some 29) (v := undef) (a' := ?_) #[true, true, true, true, false, false, false, false, false, false, false, false, false, false, false] rfl rfl (any_of HT_.out (by kernel_rfl)) (fun _ _ _ h => h) (Or.inr ⟨by rfl, rfl⟩) ?_ ?_
                    rotate_left
                    · simp only [Act.put, List.setIfInBounds_toArray, List.set_cons_zero, List.set_cons_succ, i64_w, i32_w]
                      rfl
                    refine pure_ (i := 4) (N := some 30) (v := undef) (a' := ?_) #[true, true, true, true, true, false, false, false, false, false, false, false, false, false, false] rfl rfl (any_of HT_.out (by kernel_rfl)) (fun _ _ _ h => h) (Or.inr ⟨by rfl, rfl⟩) ?_ ?_
                    rotate_left
                    · simp only [Act.put, List.setIfInBounds_toArray, List.set_cons_zero, List.set_cons_succ, i64_w, i32_w]
                      rfl
                    refine pure_ (i := 5) (N := some 31) (v := undef) (a' := ?_) #[true, true, true, true, true, true, false, false, false, false, false, false, false, false, false] rfl rfl (any_of HT_.out (by kernel_rfl)) (fun _ _ _ h => h) (Or.inr ⟨by rfl, rfl⟩) ?_ ?_
                    rotate_left
                    · simp only [Act.put, List.setIfInBounds_toArray, List.set_cons_zero, List.set_cons_succ, i64_w, i32_w]
                      rfl
                    refine pure_ (i := 6) (N := some 32) (v := undef) (a' := ?_) #[true, true, true, true, true, true, true, false, false, false, false, false, false, false, false] rfl rfl (any_of HT_.out (by kernel_rfl)) (fun _ _ _ h => h) (Or.inr ⟨by rfl, rfl⟩) ?_ ?_
                    rotate_left
                    · simp only [Act.put, List.setIfInBounds_toArray, List.set_cons_zero, List.set_cons_succ, i64_w, i32_w]
                      rfl
                    refine pure_ (i := 7) (N := some 33) (v := undef) (a' := ?_) #[true, true, true, true, true, true, true, true, false, false, false, false, false, false, false] rfl rfl (any_of HT_.out (by kernel_rfl)) (fun _ _ _ h => h) (Or.inr ⟨by rfl, rfl⟩) ?_ ?_
                    rotate_left
                    · simp only [Act.put, List.setIfInBounds_toArray, List.set_cons_zero, List.set_cons_succ, i64_w, i32_w]
                      rfl
                    refine pure_ (i := 8) (N := some 34) (v := undef) (a' := ?_) #[true, true, true, true, true, true, true, true, true, false, false, false, false, false, false] rfl rfl (any_of HT_.out (by kernel_rfl)) (fun _ _ _ h => h) (Or.inr ⟨by rfl, rfl⟩) ?_ ?_
                    rotate_left
                    · simp only [Act.put, List.setIfInBounds_toArray, List.set_cons_zero, List.set_cons_succ, i64_w, i32_w]
                      rfl
                    refine pure_ (i := 9) (N := some 35) (v := undef) (a' := ?_) #[true, true, true, true, true, true, true, true, true, true, false, false, false, false, false] rfl rfl (any_of HT_.out (by kernel_rfl)) (fun _ _ _ h => h) (Or.inr ⟨by rfl, rfl⟩) ?_ ?_
                    rotate_left
                    · simp only [Act.put, List.setIfInBounds_toArray, List.set_cons_zero, List.set_cons_succ, i64_w, i32_w]
                      rfl
                    refine pure_ (i := 10) (N := some 36) (v := undef) (a' := ?_) #[true, true, true, true, true, true, true, true, true, true, true, false, false, false, false] rfl rfl (any_of HT_.out (by kernel_rfl)) (fun _ _ _ h => h) (Or.inr ⟨by rfl, rfl⟩) ?_ ?_
                    rotate_left
                    · simp only [Act.put, List.setIfInBounds_toArray, List.set_cons_zero, List.set_cons_succ, i64_w, i32_w]
                      rfl
                    refine pure_ (i := 11) (N := some 37) (v := undef) (a' := ?_) #[true, true, true, true, true, true, true, true, true, true, true, true, false, false, false] rfl rfl (any_of HT_.out (by kernel_rfl)) (fun _ _ _ h => h) (Or.inr ⟨by rfl, rfl⟩) ?_ ?_
                    rotate_left
                    · simp only [Act.put, List.setIfInBounds_toArray, List.set_cons_zero, List.set_cons_succ, i64_w, i32_w]
                      rfl
                    refine pure_ (i := 12) (N := some 38) (v := undef) (a' := ?_) #[true, true, true, true, true, true, true, true, true, true, true, true, true, false, false] rfl rfl (any_of HT_.out (by kernel_rfl)) (fun _ _ _ h => h) (Or.inr ⟨by rfl, rfl⟩) ?_ ?_
                    rotate_left
                    · simp only [Act.put, List.setIfInBounds_toArray, List.set_cons_zero, List.set_cons_succ, i64_w, i32_w]
                      rfl
                    refine pure_ (i := 13) (N := some 39) (v := ?_) (a' := ?_) #[true, true, true, true, true, true, true, true, true, true, true, true, true, true, false] rfl rfl (any_of HT_.out (by kernel_rfl)) (fun _ _ _ h => h) (Or.inl ⟨by rfl, ?_⟩) ?_ ?_
                    rotate_left
                    · intro w'
                      go_simp
                      with_reducible rfl
                    rotate_left
                    · simp only [Act.put, List.setIfInBounds_toArray, List.set_cons_zero, List.set_cons_succ, i64_w, i32_w]
                      rfl
                    refine pure_ (i := 14) (N := some 5) (v := ?_) (a' := ?_) #[true, true, true, true, true, true, true, true, true, true, true, true, true, true, true] rfl rfl (any_of HT_.out (by kernel_rfl)) (fun _ _ _ h => h) (Or.inl ⟨by rfl, ?_⟩) ?_ ?_
                    rotate_left
                    · intro w'
                      go_simp
                      with_reducible rfl
                    rotate_left
                    · simp only [Act.put, List.setIfInBounds_toArray, List.set_cons_zero, List.set_cons_succ, i64_w, i32_w]
                      rfl
                    refine done_ (done_of HT_.out (by kernel_rfl)) ?_
                    try go_wp2
                    go_roundg k3
                    case measure => have := HK1.out; have := HJ1.out; have := HK3.out; omega
                    case rel => exact ⟨(false), (wrap64 (x6_3 + 1)), (by first | rfl | (simp; done) | (simp [*]; done)), (by first | rfl | (simp; done) | (simp [*]; done)), H', ⟨by have := HK1.out; have := HJ1.out; have := HK3.out; omega⟩, ⟨by (with_reducible repeat (first | apply Kd.R_alloc | apply Kd.R_drewN | apply Kd.R_drew)); exact HO_3.out⟩, ⟨by repeat (first | (with_reducible first | exact HB.out | apply below_alloc | apply pw_below_drewN | apply below_drew1) | exact HB.out)⟩⟩
                · rw [if_neg c6] at H
                  have c6b0 : decide (x6_3 < (l0.length : Int)) = false := decide_eq_false c6
                  clear c6
                  by_cases c16 : x5_3 = true
                  · subst c16
                    have H1 : (if 0 < (l0.length : Int) then (if 0 ≤ x4_1 then (if x4_1 < ((rd_L4 l0 0).length : Int) then (if x3_1.length < 3518437208883 then (heliastref16_Alike.l0 k3 l0 (x3_1 ++ [(⟨(rd_T69 (rd_L4 l0 0) x4_1).f0, (rd_T69 (rd_L4 l0 0) x4_1).f1, (rd_T69 (rd_L4 l0 0) x4_1).f2⟩ : S69)]) (wrap64 (x4_1 + 1))) else (none)) else (none)) else (none)) else (none)) = some r := by rw [if_pos rfl] at H; exact H
                    clear H
                    have H := H1
                    clear H1
                    by_cases c17 : 0 < (l0.length : Int)
                    · rw [if_pos c17] at H
                      have c17b0 : decide (0 < (l0.length : Int)) = true := decide_eq_true c17
                      have c17b1 : decide (0 < l0.length) = true := decide_eq_true (by omega)
                      clear c17
                      by_cases c18 : 0 ≤ x4_1
                      · rw [if_pos c18] at H
                        have c18b0 : decide (0 ≤ x4_1) = true := decide_eq_true c18
                        clear c18
                        by_cases c19 : x4_1 < ((rd_L4 l0 0).length : Int)
                        · rw [if_pos c19] at H
                          have c19b0 : decide (x4_1 < ((rd_L4 l0 0).length : Int)) = true := decide_eq_true c19
                          clear c19
                          by_cases c20 : x3_1.length < 3518437208883
                          · rw [if_pos c20] at H
                            have LMc20 := Aside0.mk c20
                            clear c20
                            obtain ⟨y177, hy177⟩ : ∃ y_ : List (S69), y_ = (x3_1 ++ [(⟨(rd_T69 (rd_L4 l0 0) x4_1).f0, (rd_T69 (rd_L4 l0 0) x4_1).f1, (rd_T69 (rd_L4 l0 0) x4_1).f2⟩ : S69)]) := ⟨_, rfl⟩
                            replace H : (heliastref16_Alike.l0 k3 l0 y177 (wrap64 (x4_1 + 1))) = some r := by first | (rw [hy177]; with_reducible exact H) | (have H2_ := (Option.bind_some _ _).symm.trans H; rw [hy177]; with_reducible exact H2_) | (have H2_ := (Option.bind_some _ _).symm.trans H; with_reducible exact H2_) | with_reducible exact H | (rw [hy177]; exact H) | exact H
                            have Ny177 := Aside0.mk hy177
                            clear hy177
                            have H' := Aside0.mk H
                            clear H
                            have p175 : 0 ≤ (0 : Int) := (by omega)
                            have q175 : 0 < (l0.length : Int) := of_decide_eq_true (by first | (with_reducible assumption) | assumption)
                            obtain ⟨ad175, A175_0, c175_0, e175, hx175_0, hl175_0, hi175_0⟩ := at_L4 HR0.out 0 p175 q175
                            cases e175
                            have qi175 : (0 < l0.length) = True := eq_true (by omega)
                            (try rw [show ((0 : Int)).toNat = 0 from rfl] at hx175_0)
                            (try rw [Addr.add_zero'] at hx175_0)
                            replace hx175_0 := (HB.out.cell (World.block_lt_of_cell? w _ hx175_0)).trans hx175_0
                            have HR175_0 := Aside0.mk hi175_0
                            have HC175_0 := Aside0.mk hl175_0
                            clear hi175_0 hl175_0
                            replace p175 := eq_true p175
                            replace q175 := eq_true q175
                            have p176 : 0 ≤ (x4_1 : Int) := of_decide_eq_true (by first | (with_reducible assumption) | assumption)
                            have q176 : x4_1 < ((rd_L4 l0 0).length : Int) := of_decide_eq_true (by first | (with_reducible assumption) | assumption)
                            obtain ⟨ad176, e176, hx176_0, hx176_1, hx176_2⟩ := at_T69 HR175_0.out x4_1 p176 q176
                            cases e176
                            replace hx176_0 := (HB.out.cell (World.block_lt_of_cell? w _ hx176_0)).trans hx176_0
                            replace hx176_1 := (HB.out.cell (World.block_lt_of_cell? w _ hx176_1)).trans hx176_1
                            replace hx176_2 := (HB.out.cell (World.block_lt_of_cell? w _ hx176_2)).trans hx176_2
                            replace p176 := eq_true p176
                            replace q176 := eq_true q176
                            go_wp2_with (first | ((with_reducible refine gate_builtin (b := .append) (xs := #[.tmp 41, .tmp 48]) rfl ?_); (try (refine gate_guard (by rfl) ?_; dsimp only)); at_builtin; refine Kd.R_append k69 (w0 := w) w.heap.size rfl (.tmp 41) (.tmp 48) 63 69 (.agg #[(.string ⟨#[]⟩), (.string ⟨#[]⟩), (.int .i64 0)]) 40 rfl Try.underlying63 info69 rfl (by decide) (by omega) u3 x3_1 (⟨(rd_T69 (rd_L4 l0 0) x4_1).f0, (rd_T69 (rd_L4 l0 0) x4_1).f1, (rd_T69 (rd_L4 l0 0) x4_1).f2⟩ : S69) [.string ((rd_T69 (rd_L4 l0 0) x4_1).f0), .string ((rd_T69 (rd_L4 l0 0) x4_1).f1), .int .i64 ((rd_T69 (rd_L4 l0 0) x4_1).f2)] (fun _ => True) (fun _ => False) rfl rfl ?aP (fun _ hk => hk.elim) ?aF ?aO ?aB ?aS ?aL ?_; (case aP => exact k69_mkM _ _ _ (⟨(rd_T69 (rd_L4 l0 0) x4_1).f0, (rd_T69 (rd_L4 l0 0) x4_1).f1, (rd_T69 (rd_L4 l0 0) x4_1).f2⟩ : S69)); (case aB => exact (by repeat (first | (with_reducible first | exact HB.out | apply below_alloc | apply pw_below_drewN | apply below_drew1) | exact HB.out))); (case aF => exact (fun _ _ => trivial)); (case aO => exact (by (with_reducible repeat (first | apply Kd.R_alloc | apply Kd.R_drewN | apply Kd.R_drew)); exact HO_3.out)); (case aS => exact (below_size (by repeat (first | (with_reducible first | exact HB.out | apply below_alloc | apply pw_below_drewN | apply below_drew1) | exact HB.out)))); (case aL => have := LMc20.out; omega); intro v178 w21 ho hb hg hat; rw [← Ny177.out] at ho; have n0_ := Aside0.mk (hb); have n1_ := Aside0.mk (ho); clear HB; clear HO_3; have HB := n0_; have HO179 := n1_; clear n0_ n1_; clear ho hb hg hat))
                            go_roundg k3
                            case measure => have := HK1.out; have := HJ1.out; have := HK3.out; omega
                            case rel => exact ⟨(y177), (wrap64 (x4_1 + 1)), (by first | rfl | (simp; done) | (simp [*]; done)), H', ⟨by have := HK1.out; have := HJ1.out; have := HK3.out; omega⟩, ⟨by (with_reducible repeat (first | apply Kd.R_alloc | apply Kd.R_drewN | apply Kd.R_drew)); exact HO179.out⟩, ⟨by repeat (first | (with_reducible first | exact HB.out | apply below_alloc | apply pw_below_drewN | apply below_drew1) | exact HB.out)⟩⟩
                          · rw [if_neg c20] at H
                            exact absurd H (by simp)
                        · rw [if_neg c19] at H
                          exact absurd H (by simp)
                      · rw [if_neg c18] at H
                        exact absurd H (by simp)
                    · rw [if_neg c17] at H
                      exact absurd H (by simp)
                  · replace c16 := Bool.eq_false_iff.mpr c16
                    subst c16
                    have H1 : (heliastref16_Alike.l0 k3 l0 x3_1 (wrap64 (x4_1 + 1))) = some r := by rw [if_neg (show ¬ (false = true) by decide)] at H; exact H
                    clear H
                    have H := H1
                    clear H1
                    have H' := Aside0.mk H
                    clear H
                    go_wp2
                    go_roundg k3
                    case measure => have := HK1.out; have := HJ1.out; have := HK3.out; omega
                    case rel => exact ⟨(x3_1), (wrap64 (x4_1 + 1)), (by first | rfl | (simp; done) | (simp [*]; done)), H', ⟨by have := HK1.out; have := HJ1.out; have := HK3.out; omega⟩, ⟨by (with_reducible repeat (first | apply Kd.R_alloc | apply Kd.R_drewN | apply Kd.R_drew)); exact HO_3.out⟩, ⟨by repeat (first | (with_reducible first | exact HB.out | apply below_alloc | apply pw_below_drewN | apply below_drew1) | exact HB.out)⟩⟩
          · replace c5 := Bool.eq_false_iff.mpr c5
            subst c5
            have H1 : (some x3_1) = some r := by rw [if_neg (show ¬ (false = true) by decide)] at H; exact H
            clear H
            have H := H1
            clear H1
            obtain rfl := Option.some.inj H
            go_wp2
            go_ret
            exact ⟨_, by first | rfl | (simp [errW_none, errW_some] <;> rfl) | (simp [*, errW_none, errW_some] <;> rfl), by (with_reducible repeat (first | apply Kd.R_alloc | apply Kd.R_drewN | apply Kd.R_drew)); exact HO_3.out, by repeat (first | (with_reducible first | exact HB.out | apply below_alloc | apply pw_below_drewN | apply below_drew1) | exact HB.out)⟩
end Go.Proofs.Ytmmalieacakcbaa.S
end

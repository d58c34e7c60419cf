-- Written by heprint.py (this session's, over the kit's print.py): not trusted, Lean checks it.
import Derived.Test.YtmmalieacakcbaaHg0
import Derived.Test.YtmmalieacakcbaaHg1
import Derived.Test.YtmmalieacakcbaaHg4
namespace Go.Proofs.Ytmmalieacakcbaa.S
open Go.RowKit Go.Proofs.YtmmalieacakcbaaW.PrintWords Go.Proofs.YtmmalieacakcbaaW.PrintLast Go.Proofs.YtmmalieacakcbaaW.PrintMore
attribute [local go_sem] max2_int min2_int max_two min_two max_three min_three max_four min_four   -- for this text's walks alone
set_option linter.unusedVariables false
set_option linter.unusedSimpArgs false

attribute [local go_sem high] eqA69
/-! ### split_Apart: function 31 -/
-- GIVEN heliast/split.Apart making uses heliast/split.rising uses heliast/split.Alike
open Go.Proofs.He
def apartL (l : List (List S69)) : List Int := riseL ((l.flatten.filter fun x => decide ((l.flatten.count x : Int) < (l.length : Int))).map fun x => x.f2)
theorem apart_eq {zs : List {x : S69 // EOk x}} {l : List (List S69)} (h : zs.map (·.1) = l.flatten) {ys : List Int} (hy : ∀ z, z ∈ ys ↔ ∃ x ∈ zs, (@List.count _ instBEqOfDecidableEq x zs : Int) < (l.length : Int) ∧ x.1.f2 = z) : riseL ys = apartL l := by
  refine riseL_eq (fun z => ?_)
  rw [hy, List.mem_map]
  constructor
  · rintro ⟨x, h1, h2, h3⟩
    refine ⟨x.1, List.mem_filter.2 ⟨by rw [← h]; exact List.mem_map.2 ⟨x, h1, rfl⟩, ?_⟩, h3⟩
    rw [decide_eq_true_iff, ← count_sub h x.1 x.2]; exact h2
  · rintro ⟨x, h1, h2⟩
    obtain ⟨h3, h4⟩ := List.mem_filter.1 h1
    rw [← h] at h3
    obtain ⟨x', h5, rfl⟩ := List.mem_map.1 h3
    rw [decide_eq_true_iff, ← count_sub h x'.1 x'.2] at h4
    exact ⟨x', h5, h4, h2⟩
abbrev FewE (C : List ({x : S69 // EOk x} × Int)) (w : World) (b r base : Nat) (n : Int) (v : Value) (ys : List Int) (todo : List {x : S69 // EOk x}) : Prop := Few entK Try.underlying3 (fun x => x.1.f2) C w b r base n v ys todo
set_option maxHeartbeats 8000000 in
set_option maxRecDepth 100000 in
theorem split_Apart.walk (A0 : Option Addr) (c0 : Nat) (l : List (List S69)) (w : World) (hr0 : Kd.C (Kd.slice 69 k69) w A0 l.length l) (hwf : ∀ x ∈ l.flatten, EOk x) (hlim : l.flatten.length < 3518437208883) :
    Calls Try.prog 31 #[.slice A0 l.length c0] w fun e w' => ∃ v, e = .returned v ∧ (Kd.int .i64).R 3 w' w.heap.size (fun _ => True) v (apartL l) ∧ Below w.heap.size w w' := by
  have hu69 := Try.underlying69
  have hlen : l.length ≤ 9223372036854775807 := hr0.2.1
  have HCC := Aside0.mk (split_count_Entry.walk A0 c0 l w hr0 hwf (by omega))
  have HLIM := Aside0.mk hlim
  clear hr0 hwf hlim
  go_enter Try.func31, Try.ntmps31
  go_wp2_with fail
  refine HCC.out.mono ?_
  rintro e w1 ⟨b, zs, C, rfl, hb, hzs, hC, hb1⟩
  have HZ := Aside0.mk hzs
  have HB1 := Aside0.mk hb1
  have HC := Aside0.mk hC
  have hcl := hC.len
  have hzl := congrArg List.length hzs
  rw [List.length_map] at hzl
  have HCL := Aside0.mk (show C.length < 3518437208883 from by have := HLIM.out; omega)
  clear hzs hC hb1 hcl hzl HCC
  go_wp2_with (first | (at_range; refine wpList_mrange rfl _ 109 rfl entK (intV Try.underlying3) 3 Try.underlying109 b C rfl HC.out.own ?_; intro w2 hi0 hg0 hs0) | go_in)
  go_frame
  generalize hrI : w1.heap.size = rI at hi0 ⊢
  have HBR := Aside0.mk (show b < rI ∧ w.heap.size ≤ rI from ⟨by rw [← hrI]; exact HC.out.own.lt, by rw [← hrI]; exact HB1.out.size⟩)
  have HC2 := Aside0.mk (HC.out.grown hg0 (by simp))
  have H0 := Aside0.mk (show FewE C w2 b rI w.heap.size l.length (.slice none 0 0) [] (C.map (·.1)) from ⟨hi0, Kd.R_nil _ _ _ _ _, fun z => ⟨fun h => by simp at h, fun ⟨p, h1, h2, _⟩ => absurd (List.mem_map.2 ⟨p, h1, rfl⟩) h2⟩, by simp⟩)
  have HB := Aside0.mk (HB1.out.grown hg0 HB1.out.size (fun k e => by cases e))
  clear hrI hi0 hg0 hs0 HB1 hb
  go_loopw [3] (fun v wr => ∃ (ys : List Int) (todo : List {x : S69 // EOk x}), Aside0 (FewE C wr b rI w.heap.size l.length v ys todo) ∧ Aside0 (Below w.heap.size w wr)) (fun _ wr => wr.rangeLeft b rI)
  case atStart => exact ⟨[], _, H0, HB⟩
  case round =>
    clear H0 HB
    obtain ⟨ys, todo, HI, HB⟩ := hrel
    go_wp2_with (first | (at_next; refine wpList_mnext rfl _ rfl entK (intV Try.underlying3) b rI C rfl HI.out.it ?_ ?_) | go_in)
    · intro ht
      subst ht
      have HY := Aside0.mk (apart_eq HZ.out (HI.out.done HC.out))
      have hyl : ys.length < 3518437208883 := by have := HI.out.len; have := HCL.out; simp at *; omega
      obtain ⟨Ay, cy, hv3, hyc, hry⟩ := Kd.R_reads HI.out.row
      subst hv3
      have hb9 := below_alloc (Below.refl wr.heap.size wr) (Obj.cells #[.slice Ay ys.length cy] 65)
      have HRS := Aside0.mk (split_rising.walk (some ⟨wr.heap.size, 0, none⟩) 1 [ys] _ (C_lit_rows (t := 65) [(Ay, cy, ys)] (heap_alloc_new wr (Obj.cells #[.slice Ay ys.length cy] 65)) (fun q hq => by rw [List.mem_singleton.1 hq]; exact ⟨hyc, Kd.C_below hry hb9⟩) (by simp)) (by simp; omega))
      have HB9 := Aside0.mk (below_then HB.out HB.out.size hb9)
      clear hry hyc hb9 hyl
      go_wp2_with (go_at_call 75; refine HRS.out.mono ?_; rintro e w9 ⟨v9, rfl, hr9, hb9⟩)
      go_ret
      refine ⟨_, rfl, ?_, below_then HB9.out HB9.out.size hb9⟩
      rw [← HY.out]
      have := Kd.R_lower hr9 HB9.out.size
      simpa using this
    · intro x hxo y w4 hx hxM hi1 hlt1 hg1 hs1 hen
      have hen' : (Instr.entry (.pointer (some ⟨rI, 0, none⟩))).run Try.prog w4 = .ok (.tuple #[.agg #[.string x.f0, .string x.f1, .int .i64 x.f2], .int .i64 y]) w4 := hen
      clear hen
      have hrv : some rI ≠ u3.ownBlock := iter_ne_row HI.out.it HI.out.row
      have hbv : some b ≠ u3.ownBlock := own_ne_row HI.out.it.own HI.out.row
      have HBV := Aside0.mk hbv
      have HRV := Aside0.mk hrv
      have HR1 := Aside0.mk (Kd.R_grown1 HI.out.row rfl hg1 hrv)
      have HB4 := Aside0.mk (HB.out.grown hg1 HB.out.size (fun k e => by cases e; exact HBR.out.2))
      have HG1 := Aside0.mk hlt1
      have HI1 := Aside0.mk hi1
      have HX := Aside0.mk hx
      have HXM := Aside0.mk hxM
      have hl : (ys.length + 1) * 8 ≤ 140737488355328 := by have := HI.out.len; have := HCL.out; omega
      have HL := Aside0.mk hl
      have HGA := Aside0.mk (World.grownBy_alloc w4 (Obj.cells #[.string x.f0, .string x.f1, .int .i64 x.f2] 69) none)
      have HRA := Aside0.mk (Kd.R_alloc HR1.out (Obj.cells #[.string x.f0, .string x.f1, .int .i64 x.f2] 69))
      have HBA := Aside0.mk (below_alloc HB4.out (Obj.cells #[.string x.f0, .string x.f1, .int .i64 x.f2] 69))
      have HIA := Aside0.mk (HI1.out.grown HGA.out (by simp) (by simp))
      have HLA := Aside0.mk (HI1.out.left_grown HGA.out (by simp) (by simp))
      clear hg1 hlt1 hi1 hx hxM hl hs1 hrv hbv HR1 HB4
      by_cases hy : y < (l.length : Int)
      · go_wp2_with (first | (at_builtin; refine Kd.R_append (Kd.int .i64) (w0 := w) w.heap.size rfl _ _ 65 3 (.int .i64 0) 8 rfl Try.underlying65 info3 rfl (by decide) (by omega) u3 ys x.f2 [.int .i64 x.f2] (fun _ => True) (fun _ => False) rfl (by first | rfl | (go_simp; done) | (simp [World.alloc, Act.eval]; done)) rfl (fun _ hk => hk.elim) (fun _ _ => trivial) HRA.out HBA.out HBA.out.size HL.out ?_; intro v2 w5 hr2 hb2 hg2 hat2) | go_in)
        go_roundw
        case rel => exact ⟨_, _, ⟨HI.out.yes HX.out HXM.out hy (HIA.out.grown hg2 HBV.out HRV.out) hr2⟩, ⟨hb2⟩⟩
        case measure => rw [HIA.out.left_grown hg2 HBV.out HRV.out, HLA.out]; exact HG1.out
      · go_wp2
        go_roundw
        case rel => exact ⟨_, _, ⟨HI.out.no HX.out HXM.out hy HIA.out HRA.out⟩, HBA⟩
        case measure => rw [HLA.out]; exact HG1.out
def split_Apart.f (l : List (List S69)) : Option (List Int) := if l.flatten.length < 3518437208883 ∧ (∀ x ∈ l.flatten, EOk x) then some (apartL l) else none
theorem split_Apart.calls (A0 : Option Addr) (c0 : Nat) (l0 : List (List S69)) (r : List Int) (w : World) (hr0 : Kd.C (Kd.slice 69 k69) w A0 l0.length l0) (hc0 : l0.length ≤ c0) (h : split_Apart.f l0 = some r) :
    Calls Try.prog 31 #[.slice A0 l0.length c0] w fun e w' => ∃ v0_ : Value, e = .returned (v0_) ∧ (Kd.int .i64).R 3 w' w.heap.size (fun _ => True) v0_ r ∧ Below w.heap.size w w' := by
  unfold split_Apart.f at h
  split at h
  · rename_i hc
    obtain rfl := Option.some.inj h
    exact split_Apart.walk A0 c0 l0 w hr0 hc.2 hc.1
  · cases h

/-! ### heliastref13_Same: function 78 -/
def heliastref13_Same.l0 : Nat → List (S69) → List (S69) → Int → Option (Bool)
  | 0, _, _, _ => none
  | k + 1, x0, x1, x5 => if x5 < (x0.length : Int) then (if 0 ≤ x5 then (if x5 < (x1.length : Int) then (if (!((((rd_T69 x0 x5).f0).toList) == (((rd_T69 x1 x5).f0).toList)) || (!((((rd_T69 x0 x5).f1).toList) == (((rd_T69 x1 x5).f1).toList)) || (!(((rd_T69 x0 x5).f2) == ((rd_T69 x1 x5).f2))))) = true then (some false) else (heliastref13_Same.l0 k x0 x1 (wrap64 (x5 + 1)))) else (none)) else (none)) else (some true)
def heliastref13_Same.f (k : Nat) (l0 : List (S69)) (l1 : List (S69)) : Option (Bool) := if (l0.length : Int) = (l1.length : Int) then (heliastref13_Same.l0 k l0 l1 0) else (some false)
theorem heliastref13_Same.mono_l : ∀ k, (∀ y0 y1 y2, LeO (heliastref13_Same.l0 k y0 y1 y2) (heliastref13_Same.l0 (k + 1) y0 y1 y2))
  | 0 => fun _ _ _ r h => by simp [heliastref13_Same.l0] at h
  | k + 1 => by
    have ih0 := heliastref13_Same.mono_l k
    · intro y0 y1 y2
      unfold heliastref13_Same.l0
      repeat' first
      | (with_reducible exact ih0 _ _ _)
      | (with_reducible exact LeO.refl _)
      | (with_reducible exact LeO.none _)
      | (with_reducible refine LeO.ite ?_ ?_)
      | (with_reducible refine LeO.bind ?_ (fun _ => ?_))
      | exact ih0 _ _ _
      | exact LeO.none _
      | refine LeO.ite ?_ ?_
      | refine LeO.bind ?_ (fun _ => ?_)
theorem heliastref13_Same.mono : ∀ a0 a1 k, LeO (heliastref13_Same.f k a0 a1) (heliastref13_Same.f (k + 1) a0 a1) := by
  intro a0 a1 k
  have ih0 := heliastref13_Same.mono_l k
  unfold heliastref13_Same.f
  repeat' first
      | (with_reducible exact ih0 _ _ _)
      | (with_reducible exact LeO.refl _)
      | (with_reducible exact LeO.none _)
      | (with_reducible refine LeO.ite ?_ ?_)
      | (with_reducible refine LeO.bind ?_ (fun _ => ?_))
      | exact ih0 _ _ _
      | exact LeO.none _
      | refine LeO.ite ?_ ?_
      | refine LeO.bind ?_ (fun _ => ?_)
set_option maxHeartbeats 8000000 in
set_option maxRecDepth 100000 in
theorem heliastref13_Same.calls (k : Nat) (A0 : Option Addr) (c0 : Nat) (l0 : List (S69)) (A1 : Option Addr) (c1 : Nat) (l1 : List (S69)) (r : Bool) (w : World) (hr0 : Kd.C k69 w A0 l0.length l0) (hc0 : l0.length ≤ c0) (hr1 : Kd.C k69 w A1 l1.length l1) (hc1 : l1.length ≤ c1) (h : heliastref13_Same.f k l0 l1 = some r) :
    Calls Try.prog 78 #[.slice A0 l0.length c0, .slice A1 l1.length c1] w fun e w' => e = .returned (.bool r) ∧ Drawn0 w w' := by
  have hu69 := Try.underlying69
  have HR0 := Aside0.mk hr0
  have HC0 := Aside0.mk hc0
  clear hr0 hc0
  have HR1 := Aside0.mk hr1
  have HC1 := Aside0.mk hc1
  clear hr1 hc1
  have H : (if (l0.length : Int) = (l1.length : Int) then (heliastref13_Same.l0 k l0 l1 0) else (some false)) = some r := h
  clear h
  by_cases c3 : (l0.length : Int) = (l1.length : Int)
  · rw [if_pos c3] at H
    have c3b0 : ((l0.length : Int) == (l1.length : Int)) = true := beq_iff_eq.mpr c3
    have c3b1 : ((l0.length : Int) != (l1.length : Int)) = false := bne_eq_false_iff_eq.mpr c3
    have c3b2 : (l0.length == l1.length) = true := by first | simpa using c3 | (simp at c3 ⊢; omega)
    clear c3
    have H' := Aside0.mk H
    clear H
    go_enter Try.func78, Try.ntmps78
    go_wp2
    repeat (go_quiet (fail); try go_wp2)
    go_loopg [5] k (fun kq v5 w' => ∃ (x5_1 : Int), v5 = .int .i64 x5_1 ∧ Aside0 (heliastref13_Same.l0 kq l0 l1 x5_1 = some r) ∧ Aside0 (kq ≤ k) ∧ Drawn0 w w')
    case atStart => exact ⟨(0), (by first | rfl | (simp; done) | (simp [*]; done)), H', ⟨Nat.le_refl _⟩, by repeat (first | exact Drawn0.refl _ | apply Drawn0.step)⟩
    case round =>
      clear H'
      try clear c1
      try clear p2
      try clear c3
      try clear c3b0
      try clear c3b1
      try clear c3b2
      obtain ⟨x5_1, rfl, HA, HK1, ⟨m1, rfl⟩⟩ := hrel
      cases gk with
      | zero => exact absurd HA.out (by simp [heliastref13_Same.l0])
      | succ k1 =>
        have H := HA.out
        clear HA
        simp only [heliastref13_Same.l0] at H
        by_cases c4 : x5_1 < (l0.length : Int)
        · rw [if_pos c4] at H
          have c4b0 : decide (x5_1 < (l0.length : Int)) = true := decide_eq_true c4
          clear c4
          by_cases c5 : 0 ≤ x5_1
          · rw [if_pos c5] at H
            have c5b0 : decide (0 ≤ x5_1) = true := decide_eq_true c5
            clear c5
            by_cases c6 : x5_1 < (l1.length : Int)
            · rw [if_pos c6] at H
              have c6b0 : decide (x5_1 < (l1.length : Int)) = true := decide_eq_true c6
              clear c6
              by_cases c7 : (!((((rd_T69 l0 x5_1).f0).toList) == (((rd_T69 l1 x5_1).f0).toList)) || (!((((rd_T69 l0 x5_1).f1).toList) == (((rd_T69 l1 x5_1).f1).toList)) || (!(((rd_T69 l0 x5_1).f2) == ((rd_T69 l1 x5_1).f2))))) = true
              · rw [if_pos c7] at H
                have c7b0 : (!((((rd_T69 l0 x5_1).f0).toList) == (((rd_T69 l1 x5_1).f0).toList)) || (!((((rd_T69 l0 x5_1).f1).toList) == (((rd_T69 l1 x5_1).f1).toList)) || (!(((rd_T69 l0 x5_1).f2) == ((rd_T69 l1 x5_1).f2))))) = true := c7
                clear c7
                obtain rfl := Option.some.inj H
                have p152 : 0 ≤ (x5_1 : Int) := of_decide_eq_true (by first | (with_reducible assumption) | assumption)
                have q152 : x5_1 < (l0.length : Int) := of_decide_eq_true (by first | (with_reducible assumption) | assumption)
                obtain ⟨ad152, e152, hx152_0, hx152_1, hx152_2⟩ := at_T69 HR0.out x5_1 p152 q152
                cases e152
                replace p152 := eq_true p152
                replace q152 := eq_true q152
                have p153 : 0 ≤ (x5_1 : Int) := of_decide_eq_true (by first | (with_reducible assumption) | assumption)
                have q153 : x5_1 < (l1.length : Int) := of_decide_eq_true (by first | (with_reducible assumption) | assumption)
                obtain ⟨ad153, e153, hx153_0, hx153_1, hx153_2⟩ := at_T69 HR1.out x5_1 p153 q153
                cases e153
                replace p153 := eq_true p153
                replace q153 := eq_true q153
                go_wp2
                repeat (go_quiet (fail); try go_wp2)
                go_ret
                exact ⟨by first | rfl | (simp; done) | (simp [*]; done), by repeat (first | exact Drawn0.refl _ | apply Drawn0.step)⟩
              · rw [if_neg c7] at H
                have c7b0 : (!((((rd_T69 l0 x5_1).f0).toList) == (((rd_T69 l1 x5_1).f0).toList)) || (!((((rd_T69 l0 x5_1).f1).toList) == (((rd_T69 l1 x5_1).f1).toList)) || (!(((rd_T69 l0 x5_1).f2) == ((rd_T69 l1 x5_1).f2))))) = false := by simpa using c7
                clear c7
                have H' := Aside0.mk H
                clear H
                have p152 : 0 ≤ (x5_1 : Int) := of_decide_eq_true (by first | (with_reducible assumption) | assumption)
                have q152 : x5_1 < (l0.length : Int) := of_decide_eq_true (by first | (with_reducible assumption) | assumption)
                obtain ⟨ad152, e152, hx152_0, hx152_1, hx152_2⟩ := at_T69 HR0.out x5_1 p152 q152
                cases e152
                replace p152 := eq_true p152
                replace q152 := eq_true q152
                have p153 : 0 ≤ (x5_1 : Int) := of_decide_eq_true (by first | (with_reducible assumption) | assumption)
                have q153 : x5_1 < (l1.length : Int) := of_decide_eq_true (by first | (with_reducible assumption) | assumption)
                obtain ⟨ad153, e153, hx153_0, hx153_1, hx153_2⟩ := at_T69 HR1.out x5_1 p153 q153
                cases e153
                replace p153 := eq_true p153
                replace q153 := eq_true q153
                go_wp2
                repeat (go_quiet (fail); try go_wp2)
                go_roundg k1
                case measure => have := HK1.out; omega
                case rel => exact ⟨(wrap64 (x5_1 + 1)), (by first | rfl | (simp; done) | (simp [*]; done)), H', ⟨by have := HK1.out; omega⟩, by repeat (first | exact Drawn0.refl _ | apply Drawn0.step)⟩
            · rw [if_neg c6] at H
              exact absurd H (by simp)
          · rw [if_neg c5] at H
            exact absurd H (by simp)
        · rw [if_neg c4] at H
          have c4b0 : decide (x5_1 < (l0.length : Int)) = false := decide_eq_false c4
          clear c4
          obtain rfl := Option.some.inj H
          go_wp2
          repeat (go_quiet (fail); try go_wp2)
          go_ret
          exact ⟨by first | rfl | (simp; done) | (simp [*]; done), by repeat (first | exact Drawn0.refl _ | apply Drawn0.step)⟩
  · rw [if_neg c3] at H
    have c3b0 : ((l0.length : Int) == (l1.length : Int)) = false := beq_eq_false_iff_ne.mpr c3
    have c3b1 : ((l0.length : Int) != (l1.length : Int)) = true := bne_iff_ne.mpr c3
    have c3b2 : (l0.length == l1.length) = false := by first | simpa using c3 | (simp at c3 ⊢; omega)
    obtain rfl := Option.some.inj H
    go_enter Try.func78, Try.ntmps78
    go_wp2
    repeat (go_quiet (fail); try go_wp2)
    go_ret
    exact ⟨by first | rfl | (simp; done) | (simp [*]; done), by repeat (first | exact Drawn0.refl _ | apply Drawn0.step)⟩

/-! ### heliastref12_Same: function 40 -/
def heliastref12_Same.l0 : Nat → List Int → List Int → Int → Option (Bool)
  | 0, _, _, _ => none
  | k + 1, x0, x1, x5 => if x5 < (x0.length : Int) then (if 0 ≤ x5 then (if x5 < (x1.length : Int) then (if (rd x0 x5) = (rd x1 x5) then (heliastref12_Same.l0 k x0 x1 (wrap64 (x5 + 1))) else (some false)) else (none)) else (none)) else (some true)
def heliastref12_Same.f (k : Nat) (l0 : List Int) (l1 : List Int) : Option (Bool) := if (l0.length : Int) = (l1.length : Int) then (heliastref12_Same.l0 k l0 l1 0) else (some false)
theorem heliastref12_Same.mono_l : ∀ k, (∀ y0 y1 y2, LeO (heliastref12_Same.l0 k y0 y1 y2) (heliastref12_Same.l0 (k + 1) y0 y1 y2))
  | 0 => fun _ _ _ r h => by simp [heliastref12_Same.l0] at h
  | k + 1 => by
    have ih0 := heliastref12_Same.mono_l k
    · intro y0 y1 y2
      unfold heliastref12_Same.l0
      repeat' first
      | (with_reducible exact ih0 _ _ _)
      | (with_reducible exact LeO.refl _)
      | (with_reducible exact LeO.none _)
      | (with_reducible refine LeO.ite ?_ ?_)
      | (with_reducible refine LeO.bind ?_ (fun _ => ?_))
      | exact ih0 _ _ _
      | exact LeO.none _
      | refine LeO.ite ?_ ?_
      | refine LeO.bind ?_ (fun _ => ?_)
theorem heliastref12_Same.mono : ∀ a0 a1 k, LeO (heliastref12_Same.f k a0 a1) (heliastref12_Same.f (k + 1) a0 a1) := by
  intro a0 a1 k
  have ih0 := heliastref12_Same.mono_l k
  unfold heliastref12_Same.f
  repeat' first
      | (with_reducible exact ih0 _ _ _)
      | (with_reducible exact LeO.refl _)
      | (with_reducible exact LeO.none _)
      | (with_reducible refine LeO.ite ?_ ?_)
      | (with_reducible refine LeO.bind ?_ (fun _ => ?_))
      | exact ih0 _ _ _
      | exact LeO.none _
      | refine LeO.ite ?_ ?_
      | refine LeO.bind ?_ (fun _ => ?_)
set_option maxHeartbeats 8000000 in
set_option maxRecDepth 100000 in
theorem heliastref12_Same.calls (k : Nat) (A0 : Option Addr) (c0 : Nat) (l0 : List Int) (A1 : Option Addr) (c1 : Nat) (l1 : List Int) (r : Bool) (w : World) (hr0 : Kd.C (Kd.int .i64) w A0 l0.length l0) (hc0 : l0.length ≤ c0) (hr1 : Kd.C (Kd.int .i64) w A1 l1.length l1) (hc1 : l1.length ≤ c1) (h : heliastref12_Same.f k l0 l1 = some r) :
    Calls Try.prog 40 #[.slice A0 l0.length c0, .slice A1 l1.length c1] w fun e w' => e = .returned (.bool r) ∧ Drawn0 w w' := by
  have HR0 := Aside0.mk hr0
  have HC0 := Aside0.mk hc0
  clear hr0 hc0
  have HR1 := Aside0.mk hr1
  have HC1 := Aside0.mk hc1
  clear hr1 hc1
  have H : (if (l0.length : Int) = (l1.length : Int) then (heliastref12_Same.l0 k l0 l1 0) else (some false)) = some r := h
  clear h
  by_cases c3 : (l0.length : Int) = (l1.length : Int)
  · rw [if_pos c3] at H
    have c3b0 : ((l0.length : Int) == (l1.length : Int)) = true := beq_iff_eq.mpr c3
    have c3b1 : ((l0.length : Int) != (l1.length : Int)) = false := bne_eq_false_iff_eq.mpr c3
    have c3b2 : (l0.length == l1.length) = true := by first | simpa using c3 | (simp at c3 ⊢; omega)
    clear c3
    have H' := Aside0.mk H
    clear H
    go_enter Try.func40, Try.ntmps40
    go_wp2
    repeat (go_quiet (fail); try go_wp2)
    go_loopg [5] k (fun kq v5 w' => ∃ (x5_1 : Int), v5 = .int .i64 x5_1 ∧ Aside0 (heliastref12_Same.l0 kq l0 l1 x5_1 = some r) ∧ Aside0 (kq ≤ k) ∧ Drawn0 w w')
    case atStart => exact ⟨(0), (by first | rfl | (simp; done) | (simp [*]; done)), H', ⟨Nat.le_refl _⟩, by repeat (first | exact Drawn0.refl _ | apply Drawn0.step)⟩
    case round =>
      clear H'
      try clear c1
      try clear p2
      try clear c3
      try clear c3b0
      try clear c3b1
      try clear c3b2
      obtain ⟨x5_1, rfl, HA, HK1, ⟨m1, rfl⟩⟩ := hrel
      cases gk with
      | zero => exact absurd HA.out (by simp [heliastref12_Same.l0])
      | succ k1 =>
        have H := HA.out
        clear HA
        simp only [heliastref12_Same.l0] at H
        by_cases c4 : x5_1 < (l0.length : Int)
        · rw [if_pos c4] at H
          have c4b0 : decide (x5_1 < (l0.length : Int)) = true := decide_eq_true c4
          clear c4
          by_cases c5 : 0 ≤ x5_1
          · rw [if_pos c5] at H
            have c5b0 : decide (0 ≤ x5_1) = true := decide_eq_true c5
            clear c5
            by_cases c6 : x5_1 < (l1.length : Int)
            · rw [if_pos c6] at H
              have c6b0 : decide (x5_1 < (l1.length : Int)) = true := decide_eq_true c6
              clear c6
              by_cases c7 : (rd l0 x5_1) = (rd l1 x5_1)
              · rw [if_pos c7] at H
                have c7b0 : ((rd l0 x5_1) == (rd l1 x5_1)) = true := beq_iff_eq.mpr c7
                have c7b1 : ((rd l0 x5_1) != (rd l1 x5_1)) = false := bne_eq_false_iff_eq.mpr c7
                clear c7
                have H' := Aside0.mk H
                clear H
                have p154 : 0 ≤ (x5_1 : Int) := of_decide_eq_true (by first | (with_reducible assumption) | assumption)
                have q154 : x5_1 < (l0.length : Int) := of_decide_eq_true (by first | (with_reducible assumption) | assumption)
                obtain ⟨ad154, e154, hx154_0⟩ := Kd.at_int HR0.out x5_1 p154 q154
                cases e154
                replace p154 := eq_true p154
                replace q154 := eq_true q154
                have p155 : 0 ≤ (x5_1 : Int) := of_decide_eq_true (by first | (with_reducible assumption) | assumption)
                have q155 : x5_1 < (l1.length : Int) := of_decide_eq_true (by first | (with_reducible assumption) | assumption)
                obtain ⟨ad155, e155, hx155_0⟩ := Kd.at_int HR1.out x5_1 p155 q155
                cases e155
                replace p155 := eq_true p155
                replace q155 := eq_true q155
                go_wp2
                repeat (go_quiet (fail); try go_wp2)
                go_roundg k1
                case measure => have := HK1.out; omega
                case rel => exact ⟨(wrap64 (x5_1 + 1)), (by first | rfl | (simp; done) | (simp [*]; done)), H', ⟨by have := HK1.out; omega⟩, by repeat (first | exact Drawn0.refl _ | apply Drawn0.step)⟩
              · rw [if_neg c7] at H
                have c7b0 : ((rd l0 x5_1) == (rd l1 x5_1)) = false := beq_eq_false_iff_ne.mpr c7
                have c7b1 : ((rd l0 x5_1) != (rd l1 x5_1)) = true := bne_iff_ne.mpr c7
                obtain rfl := Option.some.inj H
                have p154 : 0 ≤ (x5_1 : Int) := of_decide_eq_true (by first | (with_reducible assumption) | assumption)
                have q154 : x5_1 < (l0.length : Int) := of_decide_eq_true (by first | (with_reducible assumption) | assumption)
                obtain ⟨ad154, e154, hx154_0⟩ := Kd.at_int HR0.out x5_1 p154 q154
                cases e154
                replace p154 := eq_true p154
                replace q154 := eq_true q154
                have p155 : 0 ≤ (x5_1 : Int) := of_decide_eq_true (by first | (with_reducible assumption) | assumption)
                have q155 : x5_1 < (l1.length : Int) := of_decide_eq_true (by first | (with_reducible assumption) | assumption)
                obtain ⟨ad155, e155, hx155_0⟩ := Kd.at_int HR1.out x5_1 p155 q155
                cases e155
                replace p155 := eq_true p155
                replace q155 := eq_true q155
                go_wp2
                repeat (go_quiet (fail); try go_wp2)
                go_ret
                exact ⟨by first | rfl | (simp; done) | (simp [*]; done), by repeat (first | exact Drawn0.refl _ | apply Drawn0.step)⟩
            · rw [if_neg c6] at H
              exact absurd H (by simp)
          · rw [if_neg c5] at H
            exact absurd H (by simp)
        · rw [if_neg c4] at H
          have c4b0 : decide (x5_1 < (l0.length : Int)) = false := decide_eq_false c4
          clear c4
          obtain rfl := Option.some.inj H
          go_wp2
          repeat (go_quiet (fail); try go_wp2)
          go_ret
          exact ⟨by first | rfl | (simp; done) | (simp [*]; done), by repeat (first | exact Drawn0.refl _ | apply Drawn0.step)⟩
  · rw [if_neg c3] at H
    have c3b0 : ((l0.length : Int) == (l1.length : Int)) = false := beq_eq_false_iff_ne.mpr c3
    have c3b1 : ((l0.length : Int) != (l1.length : Int)) = true := bne_iff_ne.mpr c3
    have c3b2 : (l0.length == l1.length) = false := by first | simpa using c3 | (simp at c3 ⊢; omega)
    obtain rfl := Option.some.inj H
    go_enter Try.func40, Try.ntmps40
    go_wp2
    repeat (go_quiet (fail); try go_wp2)
    go_ret
    exact ⟨by first | rfl | (simp; done) | (simp [*]; done), by repeat (first | exact Drawn0.refl _ | apply Drawn0.step)⟩

/-! ### heliastlaw16_known: function 35 -/
-- GIVEN heliast/heliastlaw16.known making uses heliast/split.Alike uses heliast/split.Apart uses heliast/heliastref13.Same uses heliast/heliastref12.Same
open Go.Proofs.He
def kn16a : List S69 := [⟨⟨#[109, 46, 114, 111, 111, 109, 46, 99, 114, 101, 97, 116, 101]⟩, ⟨#[]⟩, 0⟩, ⟨⟨#[109, 46, 114, 111, 111, 109, 46, 109, 101, 109, 98, 101, 114]⟩, ⟨#[]⟩, 1⟩]
def kn16b : List S69 := [⟨⟨#[109, 46, 114, 111, 111, 109, 46, 99, 114, 101, 97, 116, 101]⟩, ⟨#[]⟩, 0⟩, ⟨⟨#[109, 46, 114, 111, 111, 109, 46, 109, 101, 109, 98, 101, 114]⟩, ⟨#[]⟩, 2⟩]
def kn16o : List S69 := [⟨⟨#[109, 46, 114, 111, 111, 109, 46, 99, 114, 101, 97, 116, 101]⟩, ⟨#[]⟩, 0⟩]
theorem kn16_alike : split_Alike.f [kn16a, kn16b] = some kn16o := by decide +kernel
theorem kn16_apart : split_Apart.f [kn16a, kn16b] = some [1, 2] := by
  have h1 : [kn16a, kn16b].flatten.length < 3518437208883 ∧ (∀ x ∈ [kn16a, kn16b].flatten, EOk x) := by decide +kernel
  have h2 : (([kn16a, kn16b].flatten.filter fun x => decide (([kn16a, kn16b].flatten.count x : Int) < ([kn16a, kn16b].length : Int))).map fun x => x.f2) = [1, 2] := by decide +kernel
  unfold split_Apart.f apartL
  rw [if_pos h1, h2]
  exact congrArg some (rises_eq (riseL_spec _).1 (by decide) (riseL_spec _).2)
theorem kn16_none : split_Alike.f [] = some [] := by decide +kernel
theorem kn16_same : heliastref13_Same.f 5 kn16o kn16o = some true := by decide +kernel
theorem kn16_same12 : heliastref12_Same.f 5 [1, 2] [1, 2] = some true := by decide +kernel
def kn16W (w : World) : World := ((w.alloc (Obj.cells #[.string ⟨#[109, 46, 114, 111, 111, 109, 46, 99, 114, 101, 97, 116, 101]⟩, .string ⟨#[]⟩, .int .i64 0, .string ⟨#[109, 46, 114, 111, 111, 109, 46, 109, 101, 109, 98, 101, 114]⟩, .string ⟨#[]⟩, .int .i64 1] 69)).alloc
  (Obj.cells #[.string ⟨#[109, 46, 114, 111, 111, 109, 46, 99, 114, 101, 97, 116, 101]⟩, .string ⟨#[]⟩, .int .i64 0, .string ⟨#[109, 46, 114, 111, 111, 109, 46, 109, 101, 109, 98, 101, 114]⟩, .string ⟨#[]⟩, .int .i64 2] 69)).alloc (Obj.cells #[.slice (some ⟨w.heap.size, 0, none⟩) 2 2, .slice (some ⟨w.heap.size + 1, 0, none⟩) 2 2] 63)
theorem cellsC {W : World} {g : Nat} {l : List S69} {cs : Array Value} {t : TypeId} (hg : W.heap[g]? = some (.cells cs t (0, 0))) (hm : l.length ≤ 9223372036854775807) (hc : ∀ (j : Nat) (u : Value), (l.flatMap encE)[j]? = some u → cs[j]? = some u) : Kd.C k69 W (some ⟨g, 0, none⟩) l.length l :=
  Flat.C_mk flatE hm (fun j u hj => by rw [add_plain, blk_cell hg]; exact hc j u hj)
theorem kn16_facts (w : World) : Kd.C (Kd.slice 69 k69) (kn16W w) (some ⟨w.heap.size + 1 + 1, 0, none⟩) 2 [kn16a, kn16b] ∧ Kd.C k69 (kn16W w) (some ⟨w.heap.size, 0, none⟩) 1 kn16o ∧ Below w.heap.size w (kn16W w) := by
  have h0 : (kn16W w).heap[w.heap.size]? = some (Obj.cells #[.string ⟨#[109, 46, 114, 111, 111, 109, 46, 99, 114, 101, 97, 116, 101]⟩, .string ⟨#[]⟩, .int .i64 0, .string ⟨#[109, 46, 114, 111, 111, 109, 46, 109, 101, 109, 98, 101, 114]⟩, .string ⟨#[]⟩, .int .i64 1] 69) := by
    exact (heap_alloc_old _ _ (by simp; omega)).trans ((heap_alloc_old _ _ (by simp)).trans (heap_alloc_new w _))
  have h1 : (kn16W w).heap[w.heap.size + 1]? = some (Obj.cells #[.string ⟨#[109, 46, 114, 111, 111, 109, 46, 99, 114, 101, 97, 116, 101]⟩, .string ⟨#[]⟩, .int .i64 0, .string ⟨#[109, 46, 114, 111, 111, 109, 46, 109, 101, 109, 98, 101, 114]⟩, .string ⟨#[]⟩, .int .i64 2] 69) := by
    exact (heap_alloc_old _ _ (by simp)).trans (by have := heap_alloc_new (w.alloc (Obj.cells #[.string ⟨#[109, 46, 114, 111, 111, 109, 46, 99, 114, 101, 97, 116, 101]⟩, .string ⟨#[]⟩, .int .i64 0, .string ⟨#[109, 46, 114, 111, 111, 109, 46, 109, 101, 109, 98, 101, 114]⟩, .string ⟨#[]⟩, .int .i64 1] 69)) (Obj.cells #[.string ⟨#[109, 46, 114, 111, 111, 109, 46, 99, 114, 101, 97, 116, 101]⟩, .string ⟨#[]⟩, .int .i64 0, .string ⟨#[109, 46, 114, 111, 111, 109, 46, 109, 101, 109, 98, 101, 114]⟩, .string ⟨#[]⟩, .int .i64 2] 69); rwa [World.size_alloc] at this)
  have h2 : (kn16W w).heap[w.heap.size + 1 + 1]? = some (Obj.cells #[.slice (some ⟨w.heap.size, 0, none⟩) 2 2, .slice (some ⟨w.heap.size + 1, 0, none⟩) 2 2] 63) := by
    have : (kn16W w).heap[(kn16W w).heap.size - 1]? = some (Obj.cells #[.slice (some ⟨w.heap.size, 0, none⟩) 2 2, .slice (some ⟨w.heap.size + 1, 0, none⟩) 2 2] 63) := by unfold kn16W; rw [World.size_alloc, Nat.add_sub_cancel]; exact heap_alloc_new _ _
    have e : (kn16W w).heap.size - 1 = w.heap.size + 1 + 1 := by unfold kn16W; simp
    rwa [e] at this
  refine ⟨?_, ?_, ?_⟩
  · refine C_lit_rows (t := 63) [(some ⟨w.heap.size, 0, none⟩, 2, kn16a), (some ⟨w.heap.size + 1, 0, none⟩, 2, kn16b)] h2 (fun q hq => ?_) (by simp)
    rcases List.mem_cons.1 hq with rfl | hq
    · exact ⟨Nat.le_refl _, cellsC h0 (show kn16a.length ≤ _ by decide) (fun j u hj => by simpa [kn16a, encE] using hj)⟩
    · rw [List.mem_singleton.1 hq]; exact ⟨Nat.le_refl _, cellsC h1 (show kn16b.length ≤ _ by decide) (fun j u hj => by simpa [kn16b, encE] using hj)⟩
  · refine cellsC (l := kn16o) h0 (by decide) (fun j u hj => ?_)
    match j, hj with
    | 0, hj => exact hj
    | 1, hj => exact hj
    | 2, hj => exact hj
    | j + 3, hj => simp [kn16o, encE] at hj
  · unfold kn16W; exact (((Below.refl _ _).alloc (Nat.le_refl _) _).alloc (by simp) _).alloc (by simp; omega) _
set_option maxHeartbeats 8000000 in
set_option maxRecDepth 100000 in
theorem law16_known.walk (w : World) : Calls Try.prog 35 #[] w fun e w' => e = .returned (.bool true) ∧ Below w.heap.size w w' := by
  obtain ⟨hl, ha, hb⟩ := kn16_facts w
  have HB := Aside0.mk hb
  have HAL : Aside0 (∀ W, Below (kn16W w).heap.size (kn16W w) W → Calls Try.prog 30 #[.slice (some ⟨w.heap.size + 1 + 1, 0, none⟩) 2 2] W fun e w' => ∃ v, e = .returned v ∧ Kd.R k69 69 w' W.heap.size (fun _ => True) v kn16o ∧ Below W.heap.size W w') := ⟨fun W hW => split_Alike.calls _ 2 [kn16a, kn16b] kn16o W (Kd.C_below hl hW) (by decide) kn16_alike⟩
  have HNL : Aside0 (∀ W : World, Calls Try.prog 30 #[.slice none 0 0] W fun e w' => ∃ v, e = .returned v ∧ Kd.R k69 69 w' W.heap.size (fun _ => True) v [] ∧ Below W.heap.size W w') := ⟨fun W => split_Alike.calls none 0 [] [] W ⟨rfl, by simp, fun h => by simp at h⟩ (by decide) kn16_none⟩
  have HSA : Aside0 (∀ W, Below (kn16W w).heap.size (kn16W w) W → ∀ A c, Kd.C k69 W A 1 kn16o → 1 ≤ c → Calls Try.prog 78 #[.slice A 1 c, .slice (some ⟨w.heap.size, 0, none⟩) 1 2] W fun e w' => e = .returned (.bool true) ∧ Drawn0 W w') := ⟨fun W hW A c hA hc => heliastref13_Same.calls 5 A c kn16o _ 2 kn16o true W hA hc (Kd.C_below ha hW) (by decide) kn16_same⟩
  have HAP : Aside0 (∀ W, Below (kn16W w).heap.size (kn16W w) W → Calls Try.prog 31 #[.slice (some ⟨w.heap.size + 1 + 1, 0, none⟩) 2 2] W fun e w' => ∃ v, e = .returned v ∧ (Kd.int .i64).R 3 w' W.heap.size (fun _ => True) v [1, 2] ∧ Below W.heap.size W w') := ⟨fun W hW => split_Apart.calls _ 2 [kn16a, kn16b] [1, 2] W (Kd.C_below hl hW) (by decide) kn16_apart⟩
  have HS12 : Aside0 (∀ (W : World) A c g, Kd.C (Kd.int .i64) W A 2 [1, 2] → 2 ≤ c → W.heap[g]? = some (Obj.cells #[.int .i64 1, .int .i64 2] 3 (0, 0)) → Calls Try.prog 40 #[.slice A 2 c, .slice (some ⟨g, 0, none⟩) 2 2] W fun e w' => e = .returned (.bool true) ∧ Drawn0 W w') := ⟨fun W A c g hA hc hg => heliastref12_Same.calls 5 A c [1, 2] _ 2 [1, 2] true _ hA hc (Flat.C_mk (flatScalar _ _) (by decide) (fun j u hj => by
    rw [add_plain, blk_cell hg]
    simpa using hj)) (by decide) kn16_same12⟩
  clear hl ha hb
  go_enter Try.func35, Try.ntmps35
  go_wp2
  change Code.wp _ _ _ _ (kn16W w)
  go_region_with (first
    | (go_at_call 30; (with_reducible refine (HNL.out _).mono ?_); rintro e w5 ⟨v5, rfl, hr5, hb5⟩; have HB5 := Aside0.mk (below_then HB4.out HB4.out.size hb5); obtain ⟨A5, c5, rfl, _, _⟩ := Kd.R_reads hr5; clear hr5 hb5)
    | (go_at_call 30; (with_reducible refine (HAL.out _ (below_drew1 (Below.refl _ _))).mono ?_); rintro e w1 ⟨v1, rfl, hr1, hb1⟩; have HB1 := Aside0.mk (below_then (below_drew1 (Below.refl (kn16W w).heap.size (kn16W w))) (Nat.le_refl _) hb1); obtain ⟨A1, c1, rfl, hc1, hC1⟩ := Kd.R_reads hr1; have HC1 := Aside0.mk hC1; have HCC1 := Aside0.mk hc1; clear hr1 hb1 hC1 hc1)
    | (go_at_call 78; refine (HSA.out _ HB1.out A1 c1 HC1.out HCC1.out).mono ?_; rintro e w2 ⟨rfl, hd2⟩; have HB2 := Aside0.mk (below_then HB1.out HB1.out.size hd2.below); clear hd2)
    | (go_at_call 31; (with_reducible refine (HAP.out _ HB2.out).mono ?_); rintro e w3 ⟨v3, rfl, hr3, hb3⟩; have HB3 := Aside0.mk (below_then HB2.out HB2.out.size hb3); obtain ⟨A3, c3, rfl, hc3, hC3⟩ := Kd.R_reads hr3; have HC3 := Aside0.mk hC3; have HCC3 := Aside0.mk hc3; clear hr3 hb3 hC3 hc3)
    | (go_at_call 31; (with_reducible refine (HAP.out _ (below_alloc HB2.out _)).mono ?_); rintro e w3 ⟨v3, rfl, hr3, hb3⟩; have HB3 := Aside0.mk (below_then (below_alloc HB2.out _) (below_alloc HB2.out _).size hb3); have HG3 := Aside0.mk ((hb3.block w2.heap.size (by simp)).trans (heap_alloc_new w2 (Obj.cells #[.int .i64 1, .int .i64 2] 3))); obtain ⟨A3, c3, rfl, hc3, hC3⟩ := Kd.R_reads hr3; have HC3 := Aside0.mk hC3; have HCC3 := Aside0.mk hc3; clear hr3 hb3 hC3 hc3)
    | (go_at_call 40; refine (HS12.out _ A3 c3 w2.heap.size HC3.out HCC3.out HG3.out).mono ?_; rintro e w4 ⟨rfl, hd4⟩; have HB4 := Aside0.mk (below_then HB3.out HB3.out.size hd4.below); clear hd4)
    | (go_at_call 40; refine (HS12.out _ A3 c3 w3.heap.size (Kd.C_below HC3.out (below_alloc (Below.refl _ _) _)) HCC3.out (heap_alloc_new w3 (Obj.cells #[.int .i64 1, .int .i64 2] 3))).mono ?_; rintro e w4 ⟨rfl, hd4⟩; have HB4 := Aside0.mk (below_then (below_alloc HB3.out (Obj.cells #[.int .i64 1, .int .i64 2] 3)) (below_alloc HB3.out (Obj.cells #[.int .i64 1, .int .i64 2] 3)).size hd4.below); clear hd4))
  all_goals
    go_wp2
    go_ret
    exact ⟨rfl, below_then HB.out HB.out.size HB5.out⟩
def heliastlaw16_known.f : Option Bool := some true
theorem heliastlaw16_known.calls (r : Bool) (w : World) (h : heliastlaw16_known.f = some r) :
    Calls Try.prog 35 #[] w fun e w' => e = .returned (.bool r) ∧ Below w.heap.size w w' := by
  obtain rfl := Option.some.inj h
  exact law16_known.walk w

/-! ### heliastlaw12_Graph: function 37 -/
mutual
def heliastlaw12_Graph.l0 : Nat → List Int → List (List Int) → Int → Option ((List (List Int)))
  | 0, _, _, _ => none
  | k + 1, x0, x3, x4 => if x4 < (x0.length : Int) then (heliastlaw12_Graph.j1 k x0 x3 x4 (decide (x4 < 24))) else (heliastlaw12_Graph.j1 k x0 x3 x4 false)
def heliastlaw12_Graph.j1 : Nat → List Int → List (List Int) → Int → Bool → Option ((List (List Int)))
  | 0, _, _, _, _ => none
  | k + 1, x0, x3, x4, x14 => if x14 = true then (heliastlaw12_Graph.l1 k x0 x3 x4 ([] : List Int) 0) else (some x3)
def heliastlaw12_Graph.l1 : Nat → List Int → List (List Int) → Int → List Int → Int → Option ((List (List Int)))
  | 0, _, _, _, _, _ => none
  | k + 1, x0, x3, x4, x5, x6 => if x6 < x4 then (if 0 ≤ x4 then (if x4 < (x0.length : Int) then (if (x0.length : Int) = 0 then (none) else (if 0 ≤ (Int.tmod (wrap64 (x4 + x6)) (x0.length : Int)) then (if (Int.tmod (wrap64 (x4 + x6)) (x0.length : Int)) < (x0.length : Int) then (if (Int.tmod (wrap64 ((wrap64 ((wrap64 (rd x0 x4)) + (wrap64 (x6 * 7)))) + (wrap64 (rd x0 (Int.tmod (wrap64 (x4 + x6)) (x0.length : Int)))))) 5) = 0 then (if x5.length < 17592186044416 then (heliastlaw12_Graph.l1 k x0 x3 x4 (x5 ++ [x6]) (wrap64 (x6 + 1))) else (none)) else (if x6 = (wrap64 (x4 - 1)) then (if (Int.tmod (rd x0 x4) 3) = 0 then (if x5.length < 17592186044416 then (heliastlaw12_Graph.l1 k x0 x3 x4 (x5 ++ [x6]) (wrap64 (x6 + 1))) else (none)) else (heliastlaw12_Graph.l1 k x0 x3 x4 x5 (wrap64 (x6 + 1)))) else (heliastlaw12_Graph.l1 k x0 x3 x4 x5 (wrap64 (x6 + 1))))) else (none)) else (none))) else (none)) else (none)) else (if x3.length < 5864062014805 then (heliastlaw12_Graph.l0 k x0 (x3 ++ [x5]) (wrap64 (x4 + 1))) else (none))
end
def heliastlaw12_Graph.f (k : Nat) (l0 : List Int) : Option ((List (List Int))) := heliastlaw12_Graph.l0 k l0 ([] : List (List Int)) 0
theorem heliastlaw12_Graph.mono_l : ∀ k, (∀ y0 y1 y2, LeO (heliastlaw12_Graph.l0 k y0 y1 y2) (heliastlaw12_Graph.l0 (k + 1) y0 y1 y2)) ∧ (∀ y0 y1 y2 y3, LeO (heliastlaw12_Graph.j1 k y0 y1 y2 y3) (heliastlaw12_Graph.j1 (k + 1) y0 y1 y2 y3)) ∧ (∀ y0 y1 y2 y3 y4, LeO (heliastlaw12_Graph.l1 k y0 y1 y2 y3 y4) (heliastlaw12_Graph.l1 (k + 1) y0 y1 y2 y3 y4))
  | 0 => ⟨fun _ _ _ r h => by simp [heliastlaw12_Graph.l0] at h, fun _ _ _ _ r h => by simp [heliastlaw12_Graph.j1] at h, fun _ _ _ _ _ r h => by simp [heliastlaw12_Graph.l1] at h⟩
  | k + 1 => by
    obtain ⟨ih0, ih1, ih2⟩ := heliastlaw12_Graph.mono_l k
    refine ⟨?_, ?_, ?_⟩
    · intro y0 y1 y2
      unfold heliastlaw12_Graph.l0
      repeat' first
      | (with_reducible exact ih0 _ _ _)
      | (with_reducible exact ih1 _ _ _ _)
      | (with_reducible exact ih2 _ _ _ _ _)
      | (with_reducible exact LeO.refl _)
      | (with_reducible exact LeO.none _)
      | (with_reducible refine LeO.ite ?_ ?_)
      | (with_reducible refine LeO.bind ?_ (fun _ => ?_))
      | exact ih0 _ _ _
      | exact ih1 _ _ _ _
      | exact ih2 _ _ _ _ _
      | exact LeO.none _
      | refine LeO.ite ?_ ?_
      | refine LeO.bind ?_ (fun _ => ?_)
    · intro y0 y1 y2 y3
      unfold heliastlaw12_Graph.j1
      repeat' first
      | (with_reducible exact ih0 _ _ _)
      | (with_reducible exact ih1 _ _ _ _)
      | (with_reducible exact ih2 _ _ _ _ _)
      | (with_reducible exact LeO.refl _)
      | (with_reducible exact LeO.none _)
      | (with_reducible refine LeO.ite ?_ ?_)
      | (with_reducible refine LeO.bind ?_ (fun _ => ?_))
      | exact ih0 _ _ _
      | exact ih1 _ _ _ _
      | exact ih2 _ _ _ _ _
      | exact LeO.none _
      | refine LeO.ite ?_ ?_
      | refine LeO.bind ?_ (fun _ => ?_)
    · intro y0 y1 y2 y3 y4
      unfold heliastlaw12_Graph.l1
      repeat' first
      | (with_reducible exact ih0 _ _ _)
      | (with_reducible exact ih1 _ _ _ _)
      | (with_reducible exact ih2 _ _ _ _ _)
      | (with_reducible exact LeO.refl _)
      | (with_reducible exact LeO.none _)
      | (with_reducible refine LeO.ite ?_ ?_)
      | (with_reducible refine LeO.bind ?_ (fun _ => ?_))
      | exact ih0 _ _ _
      | exact ih1 _ _ _ _
      | exact ih2 _ _ _ _ _
      | exact LeO.none _
      | refine LeO.ite ?_ ?_
      | refine LeO.bind ?_ (fun _ => ?_)
theorem heliastlaw12_Graph.mono : ∀ a0 k, LeO (heliastlaw12_Graph.f k a0) (heliastlaw12_Graph.f (k + 1) a0) := by
  intro a0 k
  obtain ⟨ih0, ih1, ih2⟩ := heliastlaw12_Graph.mono_l k
  unfold heliastlaw12_Graph.f
  repeat' first
      | (with_reducible exact ih0 _ _ _)
      | (with_reducible exact ih1 _ _ _ _)
      | (with_reducible exact ih2 _ _ _ _ _)
      | (with_reducible exact LeO.refl _)
      | (with_reducible exact LeO.none _)
      | (with_reducible refine LeO.ite ?_ ?_)
      | (with_reducible refine LeO.bind ?_ (fun _ => ?_))
      | exact ih0 _ _ _
      | exact ih1 _ _ _ _
      | exact ih2 _ _ _ _ _
      | exact LeO.none _
      | refine LeO.ite ?_ ?_
      | refine LeO.bind ?_ (fun _ => ?_)
set_option maxHeartbeats 8000000 in
set_option maxRecDepth 100000 in
theorem heliastlaw12_Graph.calls (k : Nat) (A0 : Option Addr) (c0 : Nat) (l0 : List Int) (r : List (List Int)) (w : World) (hr0 : Kd.C (Kd.int .u8) w A0 l0.length l0) (hc0 : l0.length ≤ c0) (h : heliastlaw12_Graph.f k l0 = some r) :
    Calls Try.prog 37 #[.slice A0 l0.length c0] w fun e w' => ∃ v0_ : Value, e = .returned (v0_) ∧ Kd.S (Kd.slice 3 (Kd.int .i64)) 65 w' w.heap.size (fun _ => True) v0_ r ∧ Below w.heap.size w w' := by
  have HR0 := Aside0.mk hr0
  have HC0 := Aside0.mk hc0
  clear hr0 hc0
  have HB := Aside0.mk (Below.refl w.heap.size w)
  have H : (heliastlaw12_Graph.l0 k l0 ([] : List (List Int)) 0) = some r := h
  clear h
  have H' := Aside0.mk H
  clear H
  go_enter Try.func37, Try.ntmps37
  go_wp2
  repeat (go_quiet (fail); try go_wp2)
  go_loopg [3, 4] k (fun kq v3 v4 w' => ∃ (x3_1 : List (List Int)) (x4_1 : Int), v4 = .int .i64 x4_1 ∧ Aside0 (heliastlaw12_Graph.l0 kq l0 x3_1 x4_1 = some r) ∧ Aside0 (kq ≤ k) ∧ Aside0 (Kd.S (Kd.slice 3 (Kd.int .i64)) 65 w' w.heap.size (fun _ => True) v3 x3_1) ∧ Aside0 (Below w.heap.size w w'))
  case atStart => exact ⟨(([] : List (List Int))), (0), (by first | rfl | (simp; done) | (simp [*]; done)), H', ⟨Nat.le_refl _⟩, ⟨by first | exact Kd.S_nil _ _ _ _ _ | exact Kd.N_nil _ _ _ _ _ | exact Kd.V_nil _ _ _ _ _ | exact Kd.Q_nil _ _ _ _ _ | exact Kd.R_nil _ _ _ _ _⟩, ⟨by repeat (first | (with_reducible first | exact HB.out | apply below_alloc | apply pw_below_drewN | apply below_drew1) | exact HB.out)⟩⟩
  case round =>
    clear H'
    obtain ⟨x3_1, x4_1, rfl, HA, HK1, HO_3, HB⟩ := hrel
    cases gk with
    | zero => exact absurd HA.out (by simp [heliastlaw12_Graph.l0])
    | succ k1 =>
      have H := HA.out
      clear HA
      simp only [heliastlaw12_Graph.l0] at H
      have HC2 := Aside0.mk H
      clear H
      go_upto_region 3 with (fail)
      repeat (go_quiet (fail); go_upto_region 3 with (fail))
      go_cut [14] (fun v14 wc => ∃ (kq : Nat) (x14_1 : Bool), v14 = .bool x14_1 ∧ Aside0 (heliastlaw12_Graph.j1 kq l0 x3_1 x4_1 x14_1 = some r) ∧ Aside0 (kq ≤ k1) ∧ Aside0 (Kd.S (Kd.slice 3 (Kd.int .i64)) 65 wc w.heap.size (fun _ => True) u3 x3_1) ∧ Aside0 (Below w.heap.size w wc))
      case first =>
        have H := HC2.out
        clear HC2
        by_cases c3 : x4_1 < (l0.length : Int)
        · rw [if_pos c3] at H
          have c3b0 : decide (x4_1 < (l0.length : Int)) = true := decide_eq_true c3
          clear c3
          (first | rw [c3b0] | (simp only [i64_w, i32_w]; rw [c3b0]) | skip)
          have H' := Aside0.mk H
          clear H
          go_wp2
          repeat (go_quiet (fail); try go_wp2)
          go_meet
          case rel => exact ⟨_, (decide (x4_1 < 24)), (by first | rfl | (simp; done) | (simp [*]; done)), H', ⟨by have := HK1.out; first | omega | exact Nat.le_refl _⟩, ⟨by (with_reducible repeat (first | apply Kd.S_alloc | apply Kd.S_drewN | apply Kd.S_drew)); exact HO_3.out⟩, ⟨by repeat (first | (with_reducible first | exact HB.out | apply below_alloc | apply pw_below_drewN | apply below_drew1) | exact HB.out)⟩⟩
        · rw [if_neg c3] at H
          have c3b0 : decide (x4_1 < (l0.length : Int)) = false := decide_eq_false c3
          clear c3
          (first | rw [c3b0] | (simp only [i64_w, i32_w]; rw [c3b0]) | skip)
          have H' := Aside0.mk H
          clear H
          go_wp2
          repeat (go_quiet (fail); try go_wp2)
          go_meet
          case rel => exact ⟨_, (false), (by first | rfl | (simp; done) | (simp [*]; done)), H', ⟨by have := HK1.out; first | omega | exact Nat.le_refl _⟩, ⟨by (with_reducible repeat (first | apply Kd.S_alloc | apply Kd.S_drewN | apply Kd.S_drew)); exact HO_3.out⟩, ⟨by repeat (first | (with_reducible first | exact HB.out | apply below_alloc | apply pw_below_drewN | apply below_drew1) | exact HB.out)⟩⟩
      case rest =>
        clear HC2
        try clear p2
        try clear c3
        try clear c3b0
        obtain ⟨kq, x14_1, rfl, HA, HJ1, HO_3, HB⟩ := hcut
        cases kq with
        | zero => exact absurd HA.out (by simp [heliastlaw12_Graph.j1])
        | succ kj1 =>
          have H := HA.out
          clear HA
          simp only [heliastlaw12_Graph.j1] at H
          by_cases c4 : x14_1 = true
          · subst c4
            have H1 : (heliastlaw12_Graph.l1 kj1 l0 x3_1 x4_1 ([] : List Int) 0) = some r := by rw [if_pos rfl] at H; exact H
            clear H
            have H := H1
            clear H1
            have H' := Aside0.mk H
            clear H
            go_wp2
            repeat (go_quiet (fail); try go_wp2)
            go_loopg [5, 6] kj1 (fun kq v5 v6 w' => ∃ (x5_3 : List Int) (x6_3 : Int), v6 = .int .i64 x6_3 ∧ Aside0 (heliastlaw12_Graph.l1 kq l0 x3_1 x4_1 x5_3 x6_3 = some r) ∧ Aside0 (kq ≤ kj1) ∧ Aside0 (Kd.S (Kd.slice 3 (Kd.int .i64)) 65 w' w.heap.size (fun k_ => some k_ ≠ (v5 : Value).ownBlock) u3 x3_1) ∧ Aside0 (Kd.R (Kd.int .i64) 3 w' w.heap.size (fun _ => True) v5 x5_3) ∧ Aside0 (Below w.heap.size w w'))
            case atStart => exact ⟨(([] : List Int)), (0), (by first | rfl | (simp; done) | (simp [*]; done)), H', ⟨Nat.le_refl _⟩, ⟨by (with_reducible repeat (first | apply Kd.S_alloc | apply Kd.S_drewN | apply Kd.S_drew)); exact Kd.S_mono HO_3.out (fun _ hk => (by simp [Value.ownBlock]))⟩, ⟨by first | exact Kd.R_nil _ _ _ _ _ | exact Kd.N_nil _ _ _ _ _ | exact Kd.V_nil _ _ _ _ _ | exact Kd.Q_nil _ _ _ _ _ | exact Kd.S_nil _ _ _ _ _⟩, ⟨by repeat (first | (with_reducible first | exact HB.out | apply below_alloc | apply pw_below_drewN | apply below_drew1) | exact HB.out)⟩⟩
            case round =>
              clear H'
              try clear p2
              try clear c3
              try clear c3b0
              try clear c4
              try clear p2
              obtain ⟨x5_3, x6_3, rfl, HA, HK3, HO_3, HO_5, HB⟩ := hrel
              cases gk with
              | zero => exact absurd HA.out (by simp [heliastlaw12_Graph.l1])
              | succ k3 =>
                have H := HA.out
                clear HA
                simp only [heliastlaw12_Graph.l1] at H
                by_cases c5 : x6_3 < x4_1
                · rw [if_pos c5] at H
                  have c5b0 : decide (x6_3 < x4_1) = true := decide_eq_true c5
                  clear c5
                  by_cases c6 : 0 ≤ x4_1
                  · rw [if_pos c6] at H
                    have c6b0 : decide (0 ≤ x4_1) = true := decide_eq_true c6
                    clear c6
                    by_cases c7 : x4_1 < (l0.length : Int)
                    · rw [if_pos c7] at H
                      have c7b0 : decide (x4_1 < (l0.length : Int)) = true := decide_eq_true c7
                      clear c7
                      by_cases c8 : (l0.length : Int) = 0
                      · rw [if_pos c8] at H
                        exact absurd H (by simp)
                      · rw [if_neg c8] at H
                        have c8b0 : ((l0.length : Int) == 0) = false := beq_eq_false_iff_ne.mpr c8
                        have c8b1 : ((l0.length : Int) != 0) = true := bne_iff_ne.mpr c8
                        have c8b2 : ¬ (l0 = []) := fun h_ => c8 (by rw [h_]; rfl)
                        obtain ⟨ji9, hji9⟩ : ∃ j_ : Int, (Int.tmod (wrap64 (x4_1 + x6_3)) (l0.length : Int)) = j_ := ⟨_, rfl⟩
                        replace H : (if 0 ≤ (ji9) then (if (ji9) < (l0.length : Int) then (if (Int.tmod (wrap64 ((wrap64 ((wrap64 (rd l0 x4_1)) + (wrap64 (x6_3 * 7)))) + (wrap64 (rd l0 (ji9))))) 5) = 0 then (if x5_3.length < 17592186044416 then (heliastlaw12_Graph.l1 k3 l0 x3_1 x4_1 (x5_3 ++ [x6_3]) (wrap64 (x6_3 + 1))) else (none)) else (if x6_3 = (wrap64 (x4_1 - 1)) then (if (Int.tmod (rd l0 x4_1) 3) = 0 then (if x5_3.length < 17592186044416 then (heliastlaw12_Graph.l1 k3 l0 x3_1 x4_1 (x5_3 ++ [x6_3]) (wrap64 (x6_3 + 1))) else (none)) else (heliastlaw12_Graph.l1 k3 l0 x3_1 x4_1 x5_3 (wrap64 (x6_3 + 1)))) else (heliastlaw12_Graph.l1 k3 l0 x3_1 x4_1 x5_3 (wrap64 (x6_3 + 1))))) else (none)) else (none)) = some r := by first | (rw [hji9] at H; exact H) | (simp only [hji9] at H ⊢; exact H)
                        by_cases c10 : 0 ≤ (ji9)
                        · rw [if_pos c10] at H
                          have c10b0 : decide (0 ≤ (ji9)) = true := decide_eq_true c10
                          clear c10
                          by_cases c11 : (ji9) < (l0.length : Int)
                          · rw [if_pos c11] at H
                            have c11b0 : decide ((ji9) < (l0.length : Int)) = true := decide_eq_true c11
                            clear c11
                            by_cases c12 : (Int.tmod (wrap64 ((wrap64 ((wrap64 (rd l0 x4_1)) + (wrap64 (x6_3 * 7)))) + (wrap64 (rd l0 (ji9))))) 5) = 0
                            · rw [if_pos c12] at H
                              have c12b0 : ((Int.tmod (wrap64 ((wrap64 ((wrap64 (rd l0 x4_1)) + (wrap64 (x6_3 * 7)))) + (wrap64 (rd l0 (ji9))))) 5) == 0) = true := beq_iff_eq.mpr c12
                              have c12b1 : ((Int.tmod (wrap64 ((wrap64 ((wrap64 (rd l0 x4_1)) + (wrap64 (x6_3 * 7)))) + (wrap64 (rd l0 (ji9))))) 5) != 0) = false := bne_eq_false_iff_eq.mpr c12
                              clear c12
                              by_cases c13 : x5_3.length < 17592186044416
                              · rw [if_pos c13] at H
                                have LMc13 := Aside0.mk c13
                                clear c13
                                obtain ⟨y158, hy158⟩ : ∃ y_ : List Int, y_ = (x5_3 ++ [x6_3]) := ⟨_, rfl⟩
                                replace H : (heliastlaw12_Graph.l1 k3 l0 x3_1 x4_1 y158 (wrap64 (x6_3 + 1))) = some r := by first | (rw [hy158]; with_reducible exact H) | (have H2_ := (Option.bind_some _ _).symm.trans H; rw [hy158]; with_reducible exact H2_) | (have H2_ := (Option.bind_some _ _).symm.trans H; with_reducible exact H2_) | with_reducible exact H | (rw [hy158]; exact H) | exact H
                                have Ny158 := Aside0.mk hy158
                                clear hy158
                                have H' := Aside0.mk H
                                clear H
                                have p156 : 0 ≤ (x4_1 : Int) := of_decide_eq_true (by first | (with_reducible assumption) | assumption)
                                have q156 : x4_1 < (l0.length : Int) := of_decide_eq_true (by first | (with_reducible assumption) | assumption)
                                obtain ⟨ad156, e156, hx156_0⟩ := Kd.at_int HR0.out x4_1 p156 q156
                                cases e156
                                replace hx156_0 := (HB.out.cell (World.block_lt_of_cell? w _ hx156_0)).trans hx156_0
                                replace p156 := eq_true p156
                                replace q156 := eq_true q156
                                have p157 : 0 ≤ ((ji9) : Int) := of_decide_eq_true (by first | (with_reducible assumption) | assumption)
                                have q157 : (ji9) < (l0.length : Int) := of_decide_eq_true (by first | (with_reducible assumption) | assumption)
                                obtain ⟨ad157, e157, hx157_0⟩ := Kd.at_int HR0.out (ji9) p157 q157
                                obtain rfl : ad156 = ad157 := (by injection e157)
                                replace hx157_0 := (HB.out.cell (World.block_lt_of_cell? w _ hx157_0)).trans hx157_0
                                replace p157 := eq_true p157
                                replace q157 := eq_true q157
                                go_wp2_with (first | ((with_reducible refine gate_builtin (b := .append) (xs := #[.tmp 57, .tmp 59]) rfl ?_); at_builtin; refine Kd.R_append (Kd.int .i64) (w0 := w) w.heap.size rfl (.tmp 57) (.tmp 59) 65 3 (.int .i64 0) 8 rfl Try.underlying65 info3 rfl (by decide) (by omega) u5 x5_3 x6_3 [.int .i64 x6_3] (fun _ => True) (fun _ => False) rfl rfl ?aP (fun _ hk => hk.elim) ?aF ?aO ?aB ?aS ?aL ?_; (case aP => exact rfl); (case aB => exact (by repeat (first | (with_reducible first | exact HB.out | apply below_alloc | apply pw_below_drewN | apply below_drew1) | exact HB.out))); (case aF => exact (fun _ _ => trivial)); (case aO => exact (by (with_reducible repeat (first | apply Kd.R_alloc | apply Kd.R_drewN | apply Kd.R_drew)); exact HO_5.out)); (case aS => exact (below_size (by repeat (first | (with_reducible first | exact HB.out | apply below_alloc | apply pw_below_drewN | apply below_drew1) | exact HB.out)))); (case aL => have := LMc13.out; omega); intro v159 w14 ho hb hg hat; rw [← Ny158.out] at ho; have n0_ := Aside0.mk (Kd.S_after (ok := (fun _ => True)) (by (with_reducible repeat (first | apply Kd.S_alloc | apply Kd.S_drewN | apply Kd.S_drew)); exact Kd.S_mono HO_3.out (fun _ hk => ⟨trivial, hk⟩)) hg hat); have n1_ := Aside0.mk (hb); have n2_ := Aside0.mk (ho); clear HO_3; clear HB; clear HO_5; have HO_3 := n0_; have HB := n1_; have HO160 := n2_; clear n0_ n1_ n2_; clear ho hb hg hat))
                                repeat (go_quiet (first | ((with_reducible refine gate_builtin (b := .append) (xs := #[.tmp 57, .tmp 59]) rfl ?_); at_builtin; refine Kd.R_append (Kd.int .i64) (w0 := w) w.heap.size rfl (.tmp 57) (.tmp 59) 65 3 (.int .i64 0) 8 rfl Try.underlying65 info3 rfl (by decide) (by omega) u5 x5_3 x6_3 [.int .i64 x6_3] (fun _ => True) (fun _ => False) rfl rfl ?aP (fun _ hk => hk.elim) ?aF ?aO ?aB ?aS ?aL ?_; (case aP => exact rfl); (case aB => exact (by repeat (first | (with_reducible first | exact HB.out | apply below_alloc | apply pw_below_drewN | apply below_drew1) | exact HB.out))); (case aF => exact (fun _ _ => trivial)); (case aO => exact (by (with_reducible repeat (first | apply Kd.R_alloc | apply Kd.R_drewN | apply Kd.R_drew)); exact HO_5.out)); (case aS => exact (below_size (by repeat (first | (with_reducible first | exact HB.out | apply below_alloc | apply pw_below_drewN | apply below_drew1) | exact HB.out)))); (case aL => have := LMc13.out; omega); intro v159 w14 ho hb hg hat; rw [← Ny158.out] at ho; have n0_ := Aside0.mk (Kd.S_after (ok := (fun _ => True)) (by (with_reducible repeat (first | apply Kd.S_alloc | apply Kd.S_drewN | apply Kd.S_drew)); exact Kd.S_mono HO_3.out (fun _ hk => ⟨trivial, hk⟩)) hg hat); have n1_ := Aside0.mk (hb); have n2_ := Aside0.mk (ho); clear HO_3; clear HB; clear HO_5; have HO_3 := n0_; have HB := n1_; have HO160 := n2_; clear n0_ n1_ n2_; clear ho hb hg hat)); try go_wp2_with (first | ((with_reducible refine gate_builtin (b := .append) (xs := #[.tmp 57, .tmp 59]) rfl ?_); at_builtin; refine Kd.R_append (Kd.int .i64) (w0 := w) w.heap.size rfl (.tmp 57) (.tmp 59) 65 3 (.int .i64 0) 8 rfl Try.underlying65 info3 rfl (by decide) (by omega) u5 x5_3 x6_3 [.int .i64 x6_3] (fun _ => True) (fun _ => False) rfl rfl ?aP (fun _ hk => hk.elim) ?aF ?aO ?aB ?aS ?aL ?_; (case aP => exact rfl); (case aB => exact (by repeat (first | (with_reducible first | exact HB.out | apply below_alloc | apply pw_below_drewN | apply below_drew1) | exact HB.out))); (case aF => exact (fun _ _ => trivial)); (case aO => exact (by (with_reducible repeat (first | apply Kd.R_alloc | apply Kd.R_drewN | apply Kd.R_drew)); exact HO_5.out)); (case aS => exact (below_size (by repeat (first | (with_reducible first | exact HB.out | apply below_alloc | apply pw_below_drewN | apply below_drew1) | exact HB.out)))); (case aL => have := LMc13.out; omega); intro v159 w14 ho hb hg hat; rw [← Ny158.out] at ho; have n0_ := Aside0.mk (Kd.S_after (ok := (fun _ => True)) (by (with_reducible repeat (first | apply Kd.S_alloc | apply Kd.S_drewN | apply Kd.S_drew)); exact Kd.S_mono HO_3.out (fun _ hk => ⟨trivial, hk⟩)) hg hat); have n1_ := Aside0.mk (hb); have n2_ := Aside0.mk (ho); clear HO_3; clear HB; clear HO_5; have HO_3 := n0_; have HB := n1_; have HO160 := n2_; clear n0_ n1_ n2_; clear ho hb hg hat)))
                                go_roundg k3
                                case measure => have := HK1.out; have := HJ1.out; have := HK3.out; omega
                                case rel => exact ⟨(y158), (wrap64 (x6_3 + 1)), (by first | rfl | (simp; done) | (simp [*]; done)), H', ⟨by have := HK1.out; have := HJ1.out; have := HK3.out; omega⟩, ⟨by (with_reducible repeat (first | apply Kd.S_alloc | apply Kd.S_drewN | apply Kd.S_drew)); exact Kd.S_mono HO_3.out (fun _ hk => hk.2)⟩, ⟨by (with_reducible repeat (first | apply Kd.R_alloc | apply Kd.R_drewN | apply Kd.R_drew)); exact HO160.out⟩, ⟨by repeat (first | (with_reducible first | exact HB.out | apply below_alloc | apply pw_below_drewN | apply below_drew1) | exact HB.out)⟩⟩
                              · rw [if_neg c13] at H
                                exact absurd H (by simp)
                            · rw [if_neg c12] at H
                              have c12b0 : ((Int.tmod (wrap64 ((wrap64 ((wrap64 (rd l0 x4_1)) + (wrap64 (x6_3 * 7)))) + (wrap64 (rd l0 (ji9))))) 5) == 0) = false := beq_eq_false_iff_ne.mpr c12
                              have c12b1 : ((Int.tmod (wrap64 ((wrap64 ((wrap64 (rd l0 x4_1)) + (wrap64 (x6_3 * 7)))) + (wrap64 (rd l0 (ji9))))) 5) != 0) = true := bne_iff_ne.mpr c12
                              by_cases c15 : x6_3 = (wrap64 (x4_1 - 1))
                              · rw [if_pos c15] at H
                                have c15b0 : (x6_3 == (wrap64 (x4_1 - 1))) = true := beq_iff_eq.mpr c15
                                have c15b1 : (x6_3 != (wrap64 (x4_1 - 1))) = false := bne_eq_false_iff_eq.mpr c15
                                clear c15
                                by_cases c16 : (Int.tmod (rd l0 x4_1) 3) = 0
                                · rw [if_pos c16] at H
                                  have c16b0 : ((Int.tmod (rd l0 x4_1) 3) == 0) = true := beq_iff_eq.mpr c16
                                  have c16b1 : ((Int.tmod (rd l0 x4_1) 3) != 0) = false := bne_eq_false_iff_eq.mpr c16
                                  clear c16
                                  by_cases c17 : x5_3.length < 17592186044416
                                  · rw [if_pos c17] at H
                                    have LMc17 := Aside0.mk c17
                                    clear c17
                                    obtain ⟨y162, hy162⟩ : ∃ y_ : List Int, y_ = (x5_3 ++ [x6_3]) := ⟨_, rfl⟩
                                    replace H : (heliastlaw12_Graph.l1 k3 l0 x3_1 x4_1 y162 (wrap64 (x6_3 + 1))) = some r := by first | (rw [hy162]; with_reducible exact H) | (have H2_ := (Option.bind_some _ _).symm.trans H; rw [hy162]; with_reducible exact H2_) | (have H2_ := (Option.bind_some _ _).symm.trans H; with_reducible exact H2_) | with_reducible exact H | (rw [hy162]; exact H) | exact H
                                    have Ny162 := Aside0.mk hy162
                                    clear hy162
                                    have H' := Aside0.mk H
                                    clear H
                                    have p156 : 0 ≤ (x4_1 : Int) := of_decide_eq_true (by first | (with_reducible assumption) | assumption)
                                    have q156 : x4_1 < (l0.length : Int) := of_decide_eq_true (by first | (with_reducible assumption) | assumption)
                                    obtain ⟨ad156, e156, hx156_0⟩ := Kd.at_int HR0.out x4_1 p156 q156
                                    cases e156
                                    replace hx156_0 := (HB.out.cell (World.block_lt_of_cell? w _ hx156_0)).trans hx156_0
                                    replace p156 := eq_true p156
                                    replace q156 := eq_true q156
                                    have p157 : 0 ≤ ((ji9) : Int) := of_decide_eq_true (by first | (with_reducible assumption) | assumption)
                                    have q157 : (ji9) < (l0.length : Int) := of_decide_eq_true (by first | (with_reducible assumption) | assumption)
                                    obtain ⟨ad157, e157, hx157_0⟩ := Kd.at_int HR0.out (ji9) p157 q157
                                    obtain rfl : ad156 = ad157 := (by injection e157)
                                    replace hx157_0 := (HB.out.cell (World.block_lt_of_cell? w _ hx157_0)).trans hx157_0
                                    replace p157 := eq_true p157
                                    replace q157 := eq_true q157
                                    have p161 : 0 ≤ (x4_1 : Int) := of_decide_eq_true (by first | (with_reducible assumption) | assumption)
                                    have q161 : x4_1 < (l0.length : Int) := of_decide_eq_true (by first | (with_reducible assumption) | assumption)
                                    obtain ⟨ad161, e161, hx161_0⟩ := Kd.at_int HR0.out x4_1 p161 q161
                                    obtain rfl : ad156 = ad161 := (by injection e161)
                                    replace hx161_0 := (HB.out.cell (World.block_lt_of_cell? w _ hx161_0)).trans hx161_0
                                    replace p161 := eq_true p161
                                    replace q161 := eq_true q161
                                    go_wp2_with (first | ((with_reducible refine gate_builtin (b := .append) (xs := #[.tmp 57, .tmp 59]) rfl ?_); at_builtin; refine Kd.R_append (Kd.int .i64) (w0 := w) w.heap.size rfl (.tmp 57) (.tmp 59) 65 3 (.int .i64 0) 8 rfl Try.underlying65 info3 rfl (by decide) (by omega) u5 x5_3 x6_3 [.int .i64 x6_3] (fun _ => True) (fun _ => False) rfl rfl ?aP (fun _ hk => hk.elim) ?aF ?aO ?aB ?aS ?aL ?_; (case aP => exact rfl); (case aB => exact (by repeat (first | (with_reducible first | exact HB.out | apply below_alloc | apply pw_below_drewN | apply below_drew1) | exact HB.out))); (case aF => exact (fun _ _ => trivial)); (case aO => exact (by (with_reducible repeat (first | apply Kd.R_alloc | apply Kd.R_drewN | apply Kd.R_drew)); exact HO_5.out)); (case aS => exact (below_size (by repeat (first | (with_reducible first | exact HB.out | apply below_alloc | apply pw_below_drewN | apply below_drew1) | exact HB.out)))); (case aL => have := LMc17.out; omega); intro v163 w18 ho hb hg hat; rw [← Ny162.out] at ho; have n0_ := Aside0.mk (Kd.S_after (ok := (fun _ => True)) (by (with_reducible repeat (first | apply Kd.S_alloc | apply Kd.S_drewN | apply Kd.S_drew)); exact Kd.S_mono HO_3.out (fun _ hk => ⟨trivial, hk⟩)) hg hat); have n1_ := Aside0.mk (hb); have n2_ := Aside0.mk (ho); clear HO_3; clear HB; clear HO_5; have HO_3 := n0_; have HB := n1_; have HO164 := n2_; clear n0_ n1_ n2_; clear ho hb hg hat))
                                    repeat (go_quiet (first | ((with_reducible refine gate_builtin (b := .append) (xs := #[.tmp 57, .tmp 59]) rfl ?_); at_builtin; refine Kd.R_append (Kd.int .i64) (w0 := w) w.heap.size rfl (.tmp 57) (.tmp 59) 65 3 (.int .i64 0) 8 rfl Try.underlying65 info3 rfl (by decide) (by omega) u5 x5_3 x6_3 [.int .i64 x6_3] (fun _ => True) (fun _ => False) rfl rfl ?aP (fun _ hk => hk.elim) ?aF ?aO ?aB ?aS ?aL ?_; (case aP => exact rfl); (case aB => exact (by repeat (first | (with_reducible first | exact HB.out | apply below_alloc | apply pw_below_drewN | apply below_drew1) | exact HB.out))); (case aF => exact (fun _ _ => trivial)); (case aO => exact (by (with_reducible repeat (first | apply Kd.R_alloc | apply Kd.R_drewN | apply Kd.R_drew)); exact HO_5.out)); (case aS => exact (below_size (by repeat (first | (with_reducible first | exact HB.out | apply below_alloc | apply pw_below_drewN | apply below_drew1) | exact HB.out)))); (case aL => have := LMc17.out; omega); intro v163 w18 ho hb hg hat; rw [← Ny162.out] at ho; have n0_ := Aside0.mk (Kd.S_after (ok := (fun _ => True)) (by (with_reducible repeat (first | apply Kd.S_alloc | apply Kd.S_drewN | apply Kd.S_drew)); exact Kd.S_mono HO_3.out (fun _ hk => ⟨trivial, hk⟩)) hg hat); have n1_ := Aside0.mk (hb); have n2_ := Aside0.mk (ho); clear HO_3; clear HB; clear HO_5; have HO_3 := n0_; have HB := n1_; have HO164 := n2_; clear n0_ n1_ n2_; clear ho hb hg hat)); try go_wp2_with (first | ((with_reducible refine gate_builtin (b := .append) (xs := #[.tmp 57, .tmp 59]) rfl ?_); at_builtin; refine Kd.R_append (Kd.int .i64) (w0 := w) w.heap.size rfl (.tmp 57) (.tmp 59) 65 3 (.int .i64 0) 8 rfl Try.underlying65 info3 rfl (by decide) (by omega) u5 x5_3 x6_3 [.int .i64 x6_3] (fun _ => True) (fun _ => False) rfl rfl ?aP (fun _ hk => hk.elim) ?aF ?aO ?aB ?aS ?aL ?_; (case aP => exact rfl); (case aB => exact (by repeat (first | (with_reducible first | exact HB.out | apply below_alloc | apply pw_below_drewN | apply below_drew1) | exact HB.out))); (case aF => exact (fun _ _ => trivial)); (case aO => exact (by (with_reducible repeat (first | apply Kd.R_alloc | apply Kd.R_drewN | apply Kd.R_drew)); exact HO_5.out)); (case aS => exact (below_size (by repeat (first | (with_reducible first | exact HB.out | apply below_alloc | apply pw_below_drewN | apply below_drew1) | exact HB.out)))); (case aL => have := LMc17.out; omega); intro v163 w18 ho hb hg hat; rw [← Ny162.out] at ho; have n0_ := Aside0.mk (Kd.S_after (ok := (fun _ => True)) (by (with_reducible repeat (first | apply Kd.S_alloc | apply Kd.S_drewN | apply Kd.S_drew)); exact Kd.S_mono HO_3.out (fun _ hk => ⟨trivial, hk⟩)) hg hat); have n1_ := Aside0.mk (hb); have n2_ := Aside0.mk (ho); clear HO_3; clear HB; clear HO_5; have HO_3 := n0_; have HB := n1_; have HO164 := n2_; clear n0_ n1_ n2_; clear ho hb hg hat)))
                                    go_roundg k3
                                    case measure => have := HK1.out; have := HJ1.out; have := HK3.out; omega
                                    case rel => exact ⟨(y162), (wrap64 (x6_3 + 1)), (by first | rfl | (simp; done) | (simp [*]; done)), H', ⟨by have := HK1.out; have := HJ1.out; have := HK3.out; omega⟩, ⟨by (with_reducible repeat (first | apply Kd.S_alloc | apply Kd.S_drewN | apply Kd.S_drew)); exact Kd.S_mono HO_3.out (fun _ hk => hk.2)⟩, ⟨by (with_reducible repeat (first | apply Kd.R_alloc | apply Kd.R_drewN | apply Kd.R_drew)); exact HO164.out⟩, ⟨by repeat (first | (with_reducible first | exact HB.out | apply below_alloc | apply pw_below_drewN | apply below_drew1) | exact HB.out)⟩⟩
                                  · rw [if_neg c17] at H
                                    exact absurd H (by simp)
                                · rw [if_neg c16] at H
                                  have c16b0 : ((Int.tmod (rd l0 x4_1) 3) == 0) = false := beq_eq_false_iff_ne.mpr c16
                                  have c16b1 : ((Int.tmod (rd l0 x4_1) 3) != 0) = true := bne_iff_ne.mpr c16
                                  have H' := Aside0.mk H
                                  clear H
                                  have p156 : 0 ≤ (x4_1 : Int) := of_decide_eq_true (by first | (with_reducible assumption) | assumption)
                                  have q156 : x4_1 < (l0.length : Int) := of_decide_eq_true (by first | (with_reducible assumption) | assumption)
                                  obtain ⟨ad156, e156, hx156_0⟩ := Kd.at_int HR0.out x4_1 p156 q156
                                  cases e156
                                  replace hx156_0 := (HB.out.cell (World.block_lt_of_cell? w _ hx156_0)).trans hx156_0
                                  replace p156 := eq_true p156
                                  replace q156 := eq_true q156
                                  have p157 : 0 ≤ ((ji9) : Int) := of_decide_eq_true (by first | (with_reducible assumption) | assumption)
                                  have q157 : (ji9) < (l0.length : Int) := of_decide_eq_true (by first | (with_reducible assumption) | assumption)
                                  obtain ⟨ad157, e157, hx157_0⟩ := Kd.at_int HR0.out (ji9) p157 q157
                                  obtain rfl : ad156 = ad157 := (by injection e157)
                                  replace hx157_0 := (HB.out.cell (World.block_lt_of_cell? w _ hx157_0)).trans hx157_0
                                  replace p157 := eq_true p157
                                  replace q157 := eq_true q157
                                  have p161 : 0 ≤ (x4_1 : Int) := of_decide_eq_true (by first | (with_reducible assumption) | assumption)
                                  have q161 : x4_1 < (l0.length : Int) := of_decide_eq_true (by first | (with_reducible assumption) | assumption)
                                  obtain ⟨ad161, e161, hx161_0⟩ := Kd.at_int HR0.out x4_1 p161 q161
                                  obtain rfl : ad156 = ad161 := (by injection e161)
                                  replace hx161_0 := (HB.out.cell (World.block_lt_of_cell? w _ hx161_0)).trans hx161_0
                                  replace p161 := eq_true p161
                                  replace q161 := eq_true q161
                                  go_wp2
                                  repeat (go_quiet (fail); try go_wp2)
                                  go_roundg k3
                                  case measure => have := HK1.out; have := HJ1.out; have := HK3.out; omega
                                  case rel => exact ⟨(x5_3), (wrap64 (x6_3 + 1)), (by first | rfl | (simp; done) | (simp [*]; done)), H', ⟨by have := HK1.out; have := HJ1.out; have := HK3.out; omega⟩, ⟨by (with_reducible repeat (first | apply Kd.S_alloc | apply Kd.S_drewN | apply Kd.S_drew)); exact HO_3.out⟩, ⟨by (with_reducible repeat (first | apply Kd.R_alloc | apply Kd.R_drewN | apply Kd.R_drew)); exact HO_5.out⟩, ⟨by repeat (first | (with_reducible first | exact HB.out | apply below_alloc | apply pw_below_drewN | apply below_drew1) | exact HB.out)⟩⟩
                              · rw [if_neg c15] at H
                                have c15b0 : (x6_3 == (wrap64 (x4_1 - 1))) = false := beq_eq_false_iff_ne.mpr c15
                                have c15b1 : (x6_3 != (wrap64 (x4_1 - 1))) = true := bne_iff_ne.mpr c15
                                have H' := Aside0.mk H
                                clear H
                                have p156 : 0 ≤ (x4_1 : Int) := of_decide_eq_true (by first | (with_reducible assumption) | assumption)
                                have q156 : x4_1 < (l0.length : Int) := of_decide_eq_true (by first | (with_reducible assumption) | assumption)
                                obtain ⟨ad156, e156, hx156_0⟩ := Kd.at_int HR0.out x4_1 p156 q156
                                cases e156
                                replace hx156_0 := (HB.out.cell (World.block_lt_of_cell? w _ hx156_0)).trans hx156_0
                                replace p156 := eq_true p156
                                replace q156 := eq_true q156
                                have p157 : 0 ≤ ((ji9) : Int) := of_decide_eq_true (by first | (with_reducible assumption) | assumption)
                                have q157 : (ji9) < (l0.length : Int) := of_decide_eq_true (by first | (with_reducible assumption) | assumption)
                                obtain ⟨ad157, e157, hx157_0⟩ := Kd.at_int HR0.out (ji9) p157 q157
                                obtain rfl : ad156 = ad157 := (by injection e157)
                                replace hx157_0 := (HB.out.cell (World.block_lt_of_cell? w _ hx157_0)).trans hx157_0
                                replace p157 := eq_true p157
                                replace q157 := eq_true q157
                                go_wp2
                                repeat (go_quiet (fail); try go_wp2)
                                go_roundg k3
                                case measure => have := HK1.out; have := HJ1.out; have := HK3.out; omega
                                case rel => exact ⟨(x5_3), (wrap64 (x6_3 + 1)), (by first | rfl | (simp; done) | (simp [*]; done)), H', ⟨by have := HK1.out; have := HJ1.out; have := HK3.out; omega⟩, ⟨by (with_reducible repeat (first | apply Kd.S_alloc | apply Kd.S_drewN | apply Kd.S_drew)); exact HO_3.out⟩, ⟨by (with_reducible repeat (first | apply Kd.R_alloc | apply Kd.R_drewN | apply Kd.R_drew)); exact HO_5.out⟩, ⟨by repeat (first | (with_reducible first | exact HB.out | apply below_alloc | apply pw_below_drewN | apply below_drew1) | exact HB.out)⟩⟩
                          · rw [if_neg c11] at H
                            exact absurd H (by simp)
                        · rw [if_neg c10] at H
                          exact absurd H (by simp)
                    · rw [if_neg c7] at H
                      exact absurd H (by simp)
                  · rw [if_neg c6] at H
                    exact absurd H (by simp)
                · rw [if_neg c5] at H
                  have c5b0 : decide (x6_3 < x4_1) = false := decide_eq_false c5
                  clear c5
                  by_cases c19 : x3_1.length < 5864062014805
                  · rw [if_pos c19] at H
                    have LMc19 := Aside0.mk c19
                    clear c19
                    obtain ⟨y165, hy165⟩ : ∃ y_ : List (List Int), y_ = (x3_1 ++ [x5_3]) := ⟨_, rfl⟩
                    replace H : (heliastlaw12_Graph.l0 k3 l0 y165 (wrap64 (x4_1 + 1))) = some r := by first | (rw [hy165]; with_reducible exact H) | (have H2_ := (Option.bind_some _ _).symm.trans H; rw [hy165]; with_reducible exact H2_) | (have H2_ := (Option.bind_some _ _).symm.trans H; with_reducible exact H2_) | with_reducible exact H | (rw [hy165]; exact H) | exact H
                    have Ny165 := Aside0.mk hy165
                    clear hy165
                    have H' := Aside0.mk H
                    clear H
                    obtain ⟨Ao21, co21, eo21⟩ := Kd.R_slice HO_5.out
                    subst eo21
                    go_wp2_with (first | ((with_reducible refine gate_builtin (b := .append) (xs := #[.tmp 61, .tmp 63]) rfl ?_); at_builtin; refine Kd.S_append (Kd.slice 3 (Kd.int .i64)) (w0 := w) w.heap.size rfl (.tmp 61) (.tmp 63) 74 65 (.slice none 0 0) 24 rfl Try.underlying74 info65 rfl (by decide) (by omega) u3 x3_1 x5_3 [.slice Ao21 x5_3.length co21] (fun _ => True) (fun k_ => some k_ = (.slice Ao21 x5_3.length co21 : Value).ownBlock) rfl rfl ?aP (fun k_ hk_ => ((Kd.R_mono (ok' := fun k_ => ((fun _ => True)) k_ ∧ some k_ ≠ (u3 : Value).ownBlock) (Kd.R_apart' (HO_5.out) (Kd.S_typed HO_3.out) (by decide)) (fun k_ hk => ⟨trivial, hk.2⟩))).1 k_ hk_.symm) ?aF ?aO ?aB ?aS ?aL ?_; (case aP => exact Kd.M_row (Kd.R_mono (Kd.R_tight rfl (Kd.R_mono (ok' := fun k_ => ((fun _ => True)) k_ ∧ some k_ ≠ (u3 : Value).ownBlock) (Kd.R_apart' (HO_5.out) (Kd.S_typed HO_3.out) (by decide)) (fun k_ hk => ⟨trivial, hk.2⟩))) (fun _ h_ => h_))); (case aB => exact (by repeat (first | (with_reducible first | exact HB.out | apply below_alloc | apply pw_below_drewN | apply below_drew1) | exact HB.out))); (case aF => exact (fun _ _ => trivial)); (case aO => exact (by (with_reducible repeat (first | apply Kd.S_alloc | apply Kd.S_drewN | apply Kd.S_drew)); exact Kd.S_mono HO_3.out (fun k_ hk => ⟨trivial, fun e_ => hk e_⟩))); (case aS => exact (below_size (by repeat (first | (with_reducible first | exact HB.out | apply below_alloc | apply pw_below_drewN | apply below_drew1) | exact HB.out)))); (case aL => have := LMc19.out; omega); intro v166 w20 ho hb hg hat; rw [← Ny165.out] at ho; have n0_ := Aside0.mk (hb); have n1_ := Aside0.mk (ho); clear HB; clear HO_3; clear HO_5; have HB := n0_; have HO167 := n1_; clear n0_ n1_; clear ho hb hg hat))
                    repeat (go_quiet (first | ((with_reducible refine gate_builtin (b := .append) (xs := #[.tmp 61, .tmp 63]) rfl ?_); at_builtin; refine Kd.S_append (Kd.slice 3 (Kd.int .i64)) (w0 := w) w.heap.size rfl (.tmp 61) (.tmp 63) 74 65 (.slice none 0 0) 24 rfl Try.underlying74 info65 rfl (by decide) (by omega) u3 x3_1 x5_3 [.slice Ao21 x5_3.length co21] (fun _ => True) (fun k_ => some k_ = (.slice Ao21 x5_3.length co21 : Value).ownBlock) rfl rfl ?aP (fun k_ hk_ => ((Kd.R_mono (ok' := fun k_ => ((fun _ => True)) k_ ∧ some k_ ≠ (u3 : Value).ownBlock) (Kd.R_apart' (HO_5.out) (Kd.S_typed HO_3.out) (by decide)) (fun k_ hk => ⟨trivial, hk.2⟩))).1 k_ hk_.symm) ?aF ?aO ?aB ?aS ?aL ?_; (case aP => exact Kd.M_row (Kd.R_mono (Kd.R_tight rfl (Kd.R_mono (ok' := fun k_ => ((fun _ => True)) k_ ∧ some k_ ≠ (u3 : Value).ownBlock) (Kd.R_apart' (HO_5.out) (Kd.S_typed HO_3.out) (by decide)) (fun k_ hk => ⟨trivial, hk.2⟩))) (fun _ h_ => h_))); (case aB => exact (by repeat (first | (with_reducible first | exact HB.out | apply below_alloc | apply pw_below_drewN | apply below_drew1) | exact HB.out))); (case aF => exact (fun _ _ => trivial)); (case aO => exact (by (with_reducible repeat (first | apply Kd.S_alloc | apply Kd.S_drewN | apply Kd.S_drew)); exact Kd.S_mono HO_3.out (fun k_ hk => ⟨trivial, fun e_ => hk e_⟩))); (case aS => exact (below_size (by repeat (first | (with_reducible first | exact HB.out | apply below_alloc | apply pw_below_drewN | apply below_drew1) | exact HB.out)))); (case aL => have := LMc19.out; omega); intro v166 w20 ho hb hg hat; rw [← Ny165.out] at ho; have n0_ := Aside0.mk (hb); have n1_ := Aside0.mk (ho); clear HB; clear HO_3; clear HO_5; have HB := n0_; have HO167 := n1_; clear n0_ n1_; clear ho hb hg hat)); try go_wp2_with (first | ((with_reducible refine gate_builtin (b := .append) (xs := #[.tmp 61, .tmp 63]) rfl ?_); at_builtin; refine Kd.S_append (Kd.slice 3 (Kd.int .i64)) (w0 := w) w.heap.size rfl (.tmp 61) (.tmp 63) 74 65 (.slice none 0 0) 24 rfl Try.underlying74 info65 rfl (by decide) (by omega) u3 x3_1 x5_3 [.slice Ao21 x5_3.length co21] (fun _ => True) (fun k_ => some k_ = (.slice Ao21 x5_3.length co21 : Value).ownBlock) rfl rfl ?aP (fun k_ hk_ => ((Kd.R_mono (ok' := fun k_ => ((fun _ => True)) k_ ∧ some k_ ≠ (u3 : Value).ownBlock) (Kd.R_apart' (HO_5.out) (Kd.S_typed HO_3.out) (by decide)) (fun k_ hk => ⟨trivial, hk.2⟩))).1 k_ hk_.symm) ?aF ?aO ?aB ?aS ?aL ?_; (case aP => exact Kd.M_row (Kd.R_mono (Kd.R_tight rfl (Kd.R_mono (ok' := fun k_ => ((fun _ => True)) k_ ∧ some k_ ≠ (u3 : Value).ownBlock) (Kd.R_apart' (HO_5.out) (Kd.S_typed HO_3.out) (by decide)) (fun k_ hk => ⟨trivial, hk.2⟩))) (fun _ h_ => h_))); (case aB => exact (by repeat (first | (with_reducible first | exact HB.out | apply below_alloc | apply pw_below_drewN | apply below_drew1) | exact HB.out))); (case aF => exact (fun _ _ => trivial)); (case aO => exact (by (with_reducible repeat (first | apply Kd.S_alloc | apply Kd.S_drewN | apply Kd.S_drew)); exact Kd.S_mono HO_3.out (fun k_ hk => ⟨trivial, fun e_ => hk e_⟩))); (case aS => exact (below_size (by repeat (first | (with_reducible first | exact HB.out | apply below_alloc | apply pw_below_drewN | apply below_drew1) | exact HB.out)))); (case aL => have := LMc19.out; omega); intro v166 w20 ho hb hg hat; rw [← Ny165.out] at ho; have n0_ := Aside0.mk (hb); have n1_ := Aside0.mk (ho); clear HB; clear HO_3; clear HO_5; have HB := n0_; have HO167 := n1_; clear n0_ n1_; clear ho hb hg hat)))
                    go_roundg k3
                    case measure => have := HK1.out; have := HJ1.out; have := HK3.out; omega
                    case rel => exact ⟨(y165), (wrap64 (x4_1 + 1)), (by first | rfl | (simp; done) | (simp [*]; done)), H', ⟨by have := HK1.out; have := HJ1.out; have := HK3.out; omega⟩, ⟨by (with_reducible repeat (first | apply Kd.S_alloc | apply Kd.S_drewN | apply Kd.S_drew)); exact HO167.out⟩, ⟨by repeat (first | (with_reducible first | exact HB.out | apply below_alloc | apply pw_below_drewN | apply below_drew1) | exact HB.out)⟩⟩
                  · rw [if_neg c19] at H
                    exact absurd H (by simp)
          · replace c4 := Bool.eq_false_iff.mpr c4
            subst c4
            have H1 : (some x3_1) = some r := by rw [if_neg (show ¬ (false = true) by decide)] at H; exact H
            clear H
            have H := H1
            clear H1
            obtain rfl := Option.some.inj H
            go_wp2
            repeat (go_quiet (fail); try go_wp2)
            go_ret
            exact ⟨_, by first | rfl | (simp [errW_none, errW_some] <;> rfl) | (simp [*, errW_none, errW_some] <;> rfl), by (with_reducible repeat (first | apply Kd.S_alloc | apply Kd.S_drewN | apply Kd.S_drew)); exact HO_3.out, by repeat (first | (with_reducible first | exact HB.out | apply below_alloc | apply pw_below_drewN | apply below_drew1) | exact HB.out)⟩

end Go.Proofs.Ytmmalieacakcbaa.S

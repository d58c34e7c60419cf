-- Written by heprint.py (this session's, over the kit's print.py): not trusted, Lean checks it.
import Derived.Test.YtmmalieacakcbaaHh0
import Derived.Test.YtmmalieacakcbaaHh1
import Derived.Test.YtmmalieacakcbaaHh2
namespace Go.Proofs.Ytmmalieacakcbaa.S
open Go.RowKit Go.Proofs.YtmmalieacakcbaaW.PrintWords Go.Proofs.YtmmalieacakcbaaW.PrintLast Go.Proofs.YtmmalieacakcbaaW.PrintMore
attribute [local go_sem] max2_int min2_int max_two min_two max_three min_three max_four min_four   -- for this text's walks alone
set_option linter.unusedVariables false
set_option linter.unusedSimpArgs false

attribute [local go_sem high] eqA69
/-! ### split_Apart: function 31 -/
-- GIVEN heliast/split.Apart making uses heliast/split.rising uses heliast/split.Alike
open Go.Proofs.He
def apartL (l : List (List S69)) : List Int := riseL ((l.flatten.filter fun x => decide ((l.flatten.count x : Int) < (l.length : Int))).map fun x => x.f2)
theorem apart_eq {zs : List {x : S69 // EOk x}} {l : List (List S69)} (h : zs.map (·.1) = l.flatten) {ys : List Int} (hy : ∀ z, z ∈ ys ↔ ∃ x ∈ zs, (@List.count _ instBEqOfDecidableEq x zs : Int) < (l.length : Int) ∧ x.1.f2 = z) : riseL ys = apartL l := by
  refine riseL_eq (fun z => ?_)
  rw [hy, List.mem_map]
  constructor
  · rintro ⟨x, h1, h2, h3⟩
    refine ⟨x.1, List.mem_filter.2 ⟨by rw [← h]; exact List.mem_map.2 ⟨x, h1, rfl⟩, ?_⟩, h3⟩
    rw [decide_eq_true_iff, ← count_sub h x.1 x.2]; exact h2
  · rintro ⟨x, h1, h2⟩
    obtain ⟨h3, h4⟩ := List.mem_filter.1 h1
    rw [← h] at h3
    obtain ⟨x', h5, rfl⟩ := List.mem_map.1 h3
    rw [decide_eq_true_iff, ← count_sub h x'.1 x'.2] at h4
    exact ⟨x', h5, h4, h2⟩
abbrev FewE (C : List ({x : S69 // EOk x} × Int)) (w : World) (b r base : Nat) (n : Int) (v : Value) (ys : List Int) (todo : List {x : S69 // EOk x}) : Prop := Few entK Try.underlying3 (fun x => x.1.f2) C w b r base n v ys todo
set_option maxHeartbeats 8000000 in
set_option maxRecDepth 100000 in
theorem split_Apart.walk (A0 : Option Addr) (c0 : Nat) (l : List (List S69)) (w : World) (hr0 : Kd.C (Kd.slice 69 k69) w A0 l.length l) (hwf : ∀ x ∈ l.flatten, EOk x) (hlim : l.flatten.length < 3518437208883) :
    Calls Try.prog 31 #[.slice A0 l.length c0] w fun e w' => ∃ v, e = .returned v ∧ (Kd.int .i64).R 3 w' w.heap.size (fun _ => True) v (apartL l) ∧ Below w.heap.size w w' := by
  have hu69 := Try.underlying69
  have hlen : l.length ≤ 9223372036854775807 := hr0.2.1
  have HCC := Aside0.mk (split_count_Entry.walk A0 c0 l w hr0 hwf (by omega))
  have HLIM := Aside0.mk hlim
  clear hr0 hwf hlim
  go_enter Try.func31, Try.ntmps31
  go_wp2_with fail
  refine HCC.out.mono ?_
  rintro e w1 ⟨b, zs, C, rfl, hb, hzs, hC, hb1⟩
  have HZ := Aside0.mk hzs
  have HB1 := Aside0.mk hb1
  have HC := Aside0.mk hC
  have hcl := hC.len
  have hzl := congrArg List.length hzs
  rw [List.length_map] at hzl
  have HCL := Aside0.mk (show C.length < 3518437208883 from by have := HLIM.out; omega)
  clear hzs hC hb1 hcl hzl HCC
  go_wp2_with (first | (at_range; refine wpList_mrange rfl _ 109 rfl entK (intV Try.underlying3) 3 Try.underlying109 b C rfl HC.out.own ?_; intro w2 hi0 hg0 hs0) | go_in)
  go_frame
  generalize hrI : w1.heap.size = rI at hi0 ⊢
  have HBR := Aside0.mk (show b < rI ∧ w.heap.size ≤ rI from ⟨by rw [← hrI]; exact HC.out.own.lt, by rw [← hrI]; exact HB1.out.size⟩)
  have HC2 := Aside0.mk (HC.out.grown hg0 (by simp))
  have H0 := Aside0.mk (show FewE C w2 b rI w.heap.size l.length (.slice none 0 0) [] (C.map (·.1)) from ⟨hi0, Kd.R_nil _ _ _ _ _, fun z => ⟨fun h => by simp at h, fun ⟨p, h1, h2, _⟩ => absurd (List.mem_map.2 ⟨p, h1, rfl⟩) h2⟩, by simp⟩)
  have HB := Aside0.mk (HB1.out.grown hg0 HB1.out.size (fun k e => by cases e))
  clear hrI hi0 hg0 hs0 HB1 hb
  go_loopw [3] (fun v wr => ∃ (ys : List Int) (todo : List {x : S69 // EOk x}), Aside0 (FewE C wr b rI w.heap.size l.length v ys todo) ∧ Aside0 (Below w.heap.size w wr)) (fun _ wr => wr.rangeLeft b rI)
  case atStart => exact ⟨[], _, H0, HB⟩
  case round =>
    clear H0 HB
    obtain ⟨ys, todo, HI, HB⟩ := hrel
    go_wp2_with (first | (at_next; refine wpList_mnext rfl _ rfl entK (intV Try.underlying3) b rI C rfl HI.out.it ?_ ?_) | go_in)
    · intro ht
      subst ht
      have HY := Aside0.mk (apart_eq HZ.out (HI.out.done HC.out))
      have hyl : ys.length < 3518437208883 := by have := HI.out.len; have := HCL.out; simp at *; omega
      obtain ⟨Ay, cy, hv3, hyc, hry⟩ := Kd.R_reads HI.out.row
      subst hv3
      have hb9 := below_alloc (Below.refl wr.heap.size wr) (Obj.cells #[.slice Ay ys.length cy] 65)
      have HRS := Aside0.mk (split_rising.walk (some ⟨wr.heap.size, 0, none⟩) 1 [ys] _ (C_lit_rows (t := 65) [(Ay, cy, ys)] (heap_alloc_new wr (Obj.cells #[.slice Ay ys.length cy] 65)) (fun q hq => by rw [List.mem_singleton.1 hq]; exact ⟨hyc, Kd.C_below hry hb9⟩) (by simp)) (by simp; omega))
      have HB9 := Aside0.mk (below_then HB.out HB.out.size hb9)
      clear hry hyc hb9 hyl
      go_wp2_with (go_at_call 75; refine HRS.out.mono ?_; rintro e w9 ⟨v9, rfl, hr9, hb9⟩)
      go_ret
      refine ⟨_, rfl, ?_, below_then HB9.out HB9.out.size hb9⟩
      rw [← HY.out]
      have := Kd.R_lower hr9 HB9.out.size
      simpa using this
    · intro x hxo y w4 hx hxM hi1 hlt1 hg1 hs1 hen
      have hen' : (Instr.entry (.pointer (some ⟨rI, 0, none⟩))).run Try.prog w4 = .ok (.tuple #[.agg #[.string x.f0, .string x.f1, .int .i64 x.f2], .int .i64 y]) w4 := hen
      clear hen
      have hrv : some rI ≠ u3.ownBlock := iter_ne_row HI.out.it HI.out.row
      have hbv : some b ≠ u3.ownBlock := own_ne_row HI.out.it.own HI.out.row
      have HBV := Aside0.mk hbv
      have HRV := Aside0.mk hrv
      have HR1 := Aside0.mk (Kd.R_grown1 HI.out.row rfl hg1 hrv)
      have HB4 := Aside0.mk (HB.out.grown hg1 HB.out.size (fun k e => by cases e; exact HBR.out.2))
      have HG1 := Aside0.mk hlt1
      have HI1 := Aside0.mk hi1
      have HX := Aside0.mk hx
      have HXM := Aside0.mk hxM
      have hl : (ys.length + 1) * 8 ≤ 140737488355328 := by have := HI.out.len; have := HCL.out; omega
      have HL := Aside0.mk hl
      have HGA := Aside0.mk (World.grownBy_alloc w4 (Obj.cells #[.string x.f0, .string x.f1, .int .i64 x.f2] 69) none)
      have HRA := Aside0.mk (Kd.R_alloc HR1.out (Obj.cells #[.string x.f0, .string x.f1, .int .i64 x.f2] 69))
      have HBA := Aside0.mk (below_alloc HB4.out (Obj.cells #[.string x.f0, .string x.f1, .int .i64 x.f2] 69))
      have HIA := Aside0.mk (HI1.out.grown HGA.out (by simp) (by simp))
      have HLA := Aside0.mk (HI1.out.left_grown HGA.out (by simp) (by simp))
      clear hg1 hlt1 hi1 hx hxM hl hs1 hrv hbv HR1 HB4
      by_cases hy : y < (l.length : Int)
      · go_wp2_with (first | (at_builtin; refine Kd.R_append (Kd.int .i64) (w0 := w) w.heap.size rfl _ _ 65 3 (.int .i64 0) 8 rfl Try.underlying65 info3 rfl (by decide) (by omega) u3 ys x.f2 [.int .i64 x.f2] (fun _ => True) (fun _ => False) rfl (by first | rfl | (go_simp; done) | (simp [World.alloc, Act.eval]; done)) rfl (fun _ hk => hk.elim) (fun _ _ => trivial) HRA.out HBA.out HBA.out.size HL.out ?_; intro v2 w5 hr2 hb2 hg2 hat2) | go_in)
        go_roundw
        case rel => exact ⟨_, _, ⟨HI.out.yes HX.out HXM.out hy (HIA.out.grown hg2 HBV.out HRV.out) hr2⟩, ⟨hb2⟩⟩
        case measure => rw [HIA.out.left_grown hg2 HBV.out HRV.out, HLA.out]; exact HG1.out
      · go_wp2
        go_roundw
        case rel => exact ⟨_, _, ⟨HI.out.no HX.out HXM.out hy HIA.out HRA.out⟩, HBA⟩
        case measure => rw [HLA.out]; exact HG1.out
def split_Apart.f (l : List (List S69)) : Option (List Int) := if l.flatten.length < 3518437208883 ∧ (∀ x ∈ l.flatten, EOk x) then some (apartL l) else none
theorem split_Apart.calls (A0 : Option Addr) (c0 : Nat) (l0 : List (List S69)) (r : List Int) (w : World) (hr0 : Kd.C (Kd.slice 69 k69) w A0 l0.length l0) (hc0 : l0.length ≤ c0) (h : split_Apart.f l0 = some r) :
    Calls Try.prog 31 #[.slice A0 l0.length c0] w fun e w' => ∃ v0_ : Value, e = .returned (v0_) ∧ (Kd.int .i64).R 3 w' w.heap.size (fun _ => True) v0_ r ∧ Below w.heap.size w w' := by
  unfold split_Apart.f at h
  split at h
  · rename_i hc
    obtain rfl := Option.some.inj h
    exact split_Apart.walk A0 c0 l0 w hr0 hc.2 hc.1
  · cases h

/-! ### heliastref13_Same: function 78 -/
def heliastref13_Same.l0 : Nat → List (S69) → List (S69) → Int → Option (Bool)
  | 0, _, _, _ => none
  | k + 1, x0, x1, x5 => if x5 < (x0.length : Int) then (if 0 ≤ x5 then (if x5 < (x1.length : Int) then (if (!((((rd_T69 x0 x5).f0).toList) == (((rd_T69 x1 x5).f0).toList)) || (!((((rd_T69 x0 x5).f1).toList) == (((rd_T69 x1 x5).f1).toList)) || (!(((rd_T69 x0 x5).f2) == ((rd_T69 x1 x5).f2))))) = true then (some false) else (heliastref13_Same.l0 k x0 x1 (wrap64 (x5 + 1)))) else (none)) else (none)) else (some true)
def heliastref13_Same.f (k : Nat) (l0 : List (S69)) (l1 : List (S69)) : Option (Bool) := if (l0.length : Int) = (l1.length : Int) then (heliastref13_Same.l0 k l0 l1 0) else (some false)
theorem heliastref13_Same.mono_l : ∀ k, (∀ y0 y1 y2, LeO (heliastref13_Same.l0 k y0 y1 y2) (heliastref13_Same.l0 (k + 1) y0 y1 y2))
  | 0 => fun _ _ _ r h => by simp [heliastref13_Same.l0] at h
  | k + 1 => by
    have ih0 := heliastref13_Same.mono_l k
    · intro y0 y1 y2
      unfold heliastref13_Same.l0
      repeat' first
      | (with_reducible exact ih0 _ _ _)
      | (with_reducible exact LeO.refl _)
      | (with_reducible exact LeO.none _)
      | (with_reducible refine LeO.ite ?_ ?_)
      | (with_reducible refine LeO.bind ?_ (fun _ => ?_))
      | exact ih0 _ _ _
      | exact LeO.none _
      | refine LeO.ite ?_ ?_
      | refine LeO.bind ?_ (fun _ => ?_)
theorem heliastref13_Same.mono : ∀ a0 a1 k, LeO (heliastref13_Same.f k a0 a1) (heliastref13_Same.f (k + 1) a0 a1) := by
  intro a0 a1 k
  have ih0 := heliastref13_Same.mono_l k
  unfold heliastref13_Same.f
  repeat' first
      | (with_reducible exact ih0 _ _ _)
      | (with_reducible exact LeO.refl _)
      | (with_reducible exact LeO.none _)
      | (with_reducible refine LeO.ite ?_ ?_)
      | (with_reducible refine LeO.bind ?_ (fun _ => ?_))
      | exact ih0 _ _ _
      | exact LeO.none _
      | refine LeO.ite ?_ ?_
      | refine LeO.bind ?_ (fun _ => ?_)
set_option maxHeartbeats 8000000 in
set_option maxRecDepth 100000 in
theorem heliastref13_Same.calls (k : Nat) (A0 : Option Addr) (c0 : Nat) (l0 : List (S69)) (A1 : Option Addr) (c1 : Nat) (l1 : List (S69)) (r : Bool) (w : World) (hr0 : Kd.C k69 w A0 l0.length l0) (hc0 : l0.length ≤ c0) (hr1 : Kd.C k69 w A1 l1.length l1) (hc1 : l1.length ≤ c1) (h : heliastref13_Same.f k l0 l1 = some r) :
    Calls Try.prog 78 #[.slice A0 l0.length c0, .slice A1 l1.length c1] w fun e w' => e = .returned (.bool r) ∧ Drawn0 w w' := by
  have hu69 := Try.underlying69
  have HR0 := Aside0.mk hr0
  have HC0 := Aside0.mk hc0
  clear hr0 hc0
  have HR1 := Aside0.mk hr1
  have HC1 := Aside0.mk hc1
  clear hr1 hc1
  have H : (if (l0.length : Int) = (l1.length : Int) then (heliastref13_Same.l0 k l0 l1 0) else (some false)) = some r := h
  clear h
  by_cases c3 : (l0.length : Int) = (l1.length : Int)
  · rw [if_pos c3] at H
    have c3b0 : ((l0.length : Int) == (l1.length : Int)) = true := beq_iff_eq.mpr c3
    have c3b1 : ((l0.length : Int) != (l1.length : Int)) = false := bne_eq_false_iff_eq.mpr c3
    have c3b2 : (l0.length == l1.length) = true := by first | simpa using c3 | (simp at c3 ⊢; omega)
    clear c3
    have H' := Aside0.mk H
    clear H
    go_enter Try.func78, Try.ntmps78
    go_wp2
    repeat (go_quiet (fail); try go_wp2)
    go_loopg [5] k (fun kq v5 w' => ∃ (x5_1 : Int), v5 = .int .i64 x5_1 ∧ Aside0 (heliastref13_Same.l0 kq l0 l1 x5_1 = some r) ∧ Aside0 (kq ≤ k) ∧ Drawn0 w w')
    case atStart => exact ⟨(0), (by first | rfl | (simp; done) | (simp [*]; done)), H', ⟨Nat.le_refl _⟩, by repeat (first | exact Drawn0.refl _ | apply Drawn0.step)⟩
    case round =>
      clear H'
      try clear c1
      try clear p2
      try clear c3
      try clear c3b0
      try clear c3b1
      try clear c3b2
      obtain ⟨x5_1, rfl, HA, HK1, ⟨m1, rfl⟩⟩ := hrel
      cases gk with
      | zero => exact absurd HA.out (by simp [heliastref13_Same.l0])
      | succ k1 =>
        have H := HA.out
        clear HA
        simp only [heliastref13_Same.l0] at H
        by_cases c4 : x5_1 < (l0.length : Int)
        · rw [if_pos c4] at H
          have c4b0 : decide (x5_1 < (l0.length : Int)) = true := decide_eq_true c4
          clear c4
          by_cases c5 : 0 ≤ x5_1
          · rw [if_pos c5] at H
            have c5b0 : decide (0 ≤ x5_1) = true := decide_eq_true c5
            clear c5
            by_cases c6 : x5_1 < (l1.length : Int)
            · rw [if_pos c6] at H
              have c6b0 : decide (x5_1 < (l1.length : Int)) = true := decide_eq_true c6
              clear c6
              by_cases c7 : (!((((rd_T69 l0 x5_1).f0).toList) == (((rd_T69 l1 x5_1).f0).toList)) || (!((((rd_T69 l0 x5_1).f1).toList) == (((rd_T69 l1 x5_1).f1).toList)) || (!(((rd_T69 l0 x5_1).f2) == ((rd_T69 l1 x5_1).f2))))) = true
              · rw [if_pos c7] at H
                have c7b0 : (!((((rd_T69 l0 x5_1).f0).toList) == (((rd_T69 l1 x5_1).f0).toList)) || (!((((rd_T69 l0 x5_1).f1).toList) == (((rd_T69 l1 x5_1).f1).toList)) || (!(((rd_T69 l0 x5_1).f2) == ((rd_T69 l1 x5_1).f2))))) = true := c7
                clear c7
                obtain rfl := Option.some.inj H
                have p101 : 0 ≤ (x5_1 : Int) := of_decide_eq_true (by first | (with_reducible assumption) | assumption)
                have q101 : x5_1 < (l0.length : Int) := of_decide_eq_true (by first | (with_reducible assumption) | assumption)
                obtain ⟨ad101, e101, hx101_0, hx101_1, hx101_2⟩ := at_T69 HR0.out x5_1 p101 q101
                cases e101
                replace p101 := eq_true p101
                replace q101 := eq_true q101
                have p102 : 0 ≤ (x5_1 : Int) := of_decide_eq_true (by first | (with_reducible assumption) | assumption)
                have q102 : x5_1 < (l1.length : Int) := of_decide_eq_true (by first | (with_reducible assumption) | assumption)
                obtain ⟨ad102, e102, hx102_0, hx102_1, hx102_2⟩ := at_T69 HR1.out x5_1 p102 q102
                cases e102
                replace p102 := eq_true p102
                replace q102 := eq_true q102
                go_wp2
                repeat (go_quiet (fail); try go_wp2)
                go_ret
                exact ⟨by first | rfl | (simp; done) | (simp [*]; done), by repeat (first | exact Drawn0.refl _ | apply Drawn0.step)⟩
              · rw [if_neg c7] at H
                have c7b0 : (!((((rd_T69 l0 x5_1).f0).toList) == (((rd_T69 l1 x5_1).f0).toList)) || (!((((rd_T69 l0 x5_1).f1).toList) == (((rd_T69 l1 x5_1).f1).toList)) || (!(((rd_T69 l0 x5_1).f2) == ((rd_T69 l1 x5_1).f2))))) = false := by simpa using c7
                clear c7
                have H' := Aside0.mk H
                clear H
                have p101 : 0 ≤ (x5_1 : Int) := of_decide_eq_true (by first | (with_reducible assumption) | assumption)
                have q101 : x5_1 < (l0.length : Int) := of_decide_eq_true (by first | (with_reducible assumption) | assumption)
                obtain ⟨ad101, e101, hx101_0, hx101_1, hx101_2⟩ := at_T69 HR0.out x5_1 p101 q101
                cases e101
                replace p101 := eq_true p101
                replace q101 := eq_true q101
                have p102 : 0 ≤ (x5_1 : Int) := of_decide_eq_true (by first | (with_reducible assumption) | assumption)
                have q102 : x5_1 < (l1.length : Int) := of_decide_eq_true (by first | (with_reducible assumption) | assumption)
                obtain ⟨ad102, e102, hx102_0, hx102_1, hx102_2⟩ := at_T69 HR1.out x5_1 p102 q102
                cases e102
                replace p102 := eq_true p102
                replace q102 := eq_true q102
                go_wp2
                repeat (go_quiet (fail); try go_wp2)
                go_roundg k1
                case measure => have := HK1.out; omega
                case rel => exact ⟨(wrap64 (x5_1 + 1)), (by first | rfl | (simp; done) | (simp [*]; done)), H', ⟨by have := HK1.out; omega⟩, by repeat (first | exact Drawn0.refl _ | apply Drawn0.step)⟩
            · rw [if_neg c6] at H
              exact absurd H (by simp)
          · rw [if_neg c5] at H
            exact absurd H (by simp)
        · rw [if_neg c4] at H
          have c4b0 : decide (x5_1 < (l0.length : Int)) = false := decide_eq_false c4
          clear c4
          obtain rfl := Option.some.inj H
          go_wp2
          repeat (go_quiet (fail); try go_wp2)
          go_ret
          exact ⟨by first | rfl | (simp; done) | (simp [*]; done), by repeat (first | exact Drawn0.refl _ | apply Drawn0.step)⟩
  · rw [if_neg c3] at H
    have c3b0 : ((l0.length : Int) == (l1.length : Int)) = false := beq_eq_false_iff_ne.mpr c3
    have c3b1 : ((l0.length : Int) != (l1.length : Int)) = true := bne_iff_ne.mpr c3
    have c3b2 : (l0.length == l1.length) = false := by first | simpa using c3 | (simp at c3 ⊢; omega)
    obtain rfl := Option.some.inj H
    go_enter Try.func78, Try.ntmps78
    go_wp2
    repeat (go_quiet (fail); try go_wp2)
    go_ret
    exact ⟨by first | rfl | (simp; done) | (simp [*]; done), by repeat (first | exact Drawn0.refl _ | apply Drawn0.step)⟩

/-! ### heliastref12_Same: function 40 -/
def heliastref12_Same.l0 : Nat → List Int → List Int → Int → Option (Bool)
  | 0, _, _, _ => none
  | k + 1, x0, x1, x5 => if x5 < (x0.length : Int) then (if 0 ≤ x5 then (if x5 < (x1.length : Int) then (if (rd x0 x5) = (rd x1 x5) then (heliastref12_Same.l0 k x0 x1 (wrap64 (x5 + 1))) else (some false)) else (none)) else (none)) else (some true)
def heliastref12_Same.f (k : Nat) (l0 : List Int) (l1 : List Int) : Option (Bool) := if (l0.length : Int) = (l1.length : Int) then (heliastref12_Same.l0 k l0 l1 0) else (some false)
theorem heliastref12_Same.mono_l : ∀ k, (∀ y0 y1 y2, LeO (heliastref12_Same.l0 k y0 y1 y2) (heliastref12_Same.l0 (k + 1) y0 y1 y2))
  | 0 => fun _ _ _ r h => by simp [heliastref12_Same.l0] at h
  | k + 1 => by
    have ih0 := heliastref12_Same.mono_l k
    · intro y0 y1 y2
      unfold heliastref12_Same.l0
      repeat' first
      | (with_reducible exact ih0 _ _ _)
      | (with_reducible exact LeO.refl _)
      | (with_reducible exact LeO.none _)
      | (with_reducible refine LeO.ite ?_ ?_)
      | (with_reducible refine LeO.bind ?_ (fun _ => ?_))
      | exact ih0 _ _ _
      | exact LeO.none _
      | refine LeO.ite ?_ ?_
      | refine LeO.bind ?_ (fun _ => ?_)
theorem heliastref12_Same.mono : ∀ a0 a1 k, LeO (heliastref12_Same.f k a0 a1) (heliastref12_Same.f (k + 1) a0 a1) := by
  intro a0 a1 k
  have ih0 := heliastref12_Same.mono_l k
  unfold heliastref12_Same.f
  repeat' first
      | (with_reducible exact ih0 _ _ _)
      | (with_reducible exact LeO.refl _)
      | (with_reducible exact LeO.none _)
      | (with_reducible refine LeO.ite ?_ ?_)
      | (with_reducible refine LeO.bind ?_ (fun _ => ?_))
      | exact ih0 _ _ _
      | exact LeO.none _
      | refine LeO.ite ?_ ?_
      | refine LeO.bind ?_ (fun _ => ?_)
set_option maxHeartbeats 8000000 in
set_option maxRecDepth 100000 in
theorem heliastref12_Same.calls (k : Nat) (A0 : Option Addr) (c0 : Nat) (l0 : List Int) (A1 : Option Addr) (c1 : Nat) (l1 : List Int) (r : Bool) (w : World) (hr0 : Kd.C (Kd.int .i64) w A0 l0.length l0) (hc0 : l0.length ≤ c0) (hr1 : Kd.C (Kd.int .i64) w A1 l1.length l1) (hc1 : l1.length ≤ c1) (h : heliastref12_Same.f k l0 l1 = some r) :
    Calls Try.prog 40 #[.slice A0 l0.length c0, .slice A1 l1.length c1] w fun e w' => e = .returned (.bool r) ∧ Drawn0 w w' := by
  have HR0 := Aside0.mk hr0
  have HC0 := Aside0.mk hc0
  clear hr0 hc0
  have HR1 := Aside0.mk hr1
  have HC1 := Aside0.mk hc1
  clear hr1 hc1
  have H : (if (l0.length : Int) = (l1.length : Int) then (heliastref12_Same.l0 k l0 l1 0) else (some false)) = some r := h
  clear h
  by_cases c3 : (l0.length : Int) = (l1.length : Int)
  · rw [if_pos c3] at H
    have c3b0 : ((l0.length : Int) == (l1.length : Int)) = true := beq_iff_eq.mpr c3
    have c3b1 : ((l0.length : Int) != (l1.length : Int)) = false := bne_eq_false_iff_eq.mpr c3
    have c3b2 : (l0.length == l1.length) = true := by first | simpa using c3 | (simp at c3 ⊢; omega)
    clear c3
    have H' := Aside0.mk H
    clear H
    go_enter Try.func40, Try.ntmps40
    go_wp2
    repeat (go_quiet (fail); try go_wp2)
    go_loopg [5] k (fun kq v5 w' => ∃ (x5_1 : Int), v5 = .int .i64 x5_1 ∧ Aside0 (heliastref12_Same.l0 kq l0 l1 x5_1 = some r) ∧ Aside0 (kq ≤ k) ∧ Drawn0 w w')
    case atStart => exact ⟨(0), (by first | rfl | (simp; done) | (simp [*]; done)), H', ⟨Nat.le_refl _⟩, by repeat (first | exact Drawn0.refl _ | apply Drawn0.step)⟩
    case round =>
      clear H'
      try clear c1
      try clear p2
      try clear c3
      try clear c3b0
      try clear c3b1
      try clear c3b2
      obtain ⟨x5_1, rfl, HA, HK1, ⟨m1, rfl⟩⟩ := hrel
      cases gk with
      | zero => exact absurd HA.out (by simp [heliastref12_Same.l0])
      | succ k1 =>
        have H := HA.out
        clear HA
        simp only [heliastref12_Same.l0] at H
        by_cases c4 : x5_1 < (l0.length : Int)
        · rw [if_pos c4] at H
          have c4b0 : decide (x5_1 < (l0.length : Int)) = true := decide_eq_true c4
          clear c4
          by_cases c5 : 0 ≤ x5_1
          · rw [if_pos c5] at H
            have c5b0 : decide (0 ≤ x5_1) = true := decide_eq_true c5
            clear c5
            by_cases c6 : x5_1 < (l1.length : Int)
            · rw [if_pos c6] at H
              have c6b0 : decide (x5_1 < (l1.length : Int)) = true := decide_eq_true c6
              clear c6
              by_cases c7 : (rd l0 x5_1) = (rd l1 x5_1)
              · rw [if_pos c7] at H
                have c7b0 : ((rd l0 x5_1) == (rd l1 x5_1)) = true := beq_iff_eq.mpr c7
                have c7b1 : ((rd l0 x5_1) != (rd l1 x5_1)) = false := bne_eq_false_iff_eq.mpr c7
                clear c7
                have H' := Aside0.mk H
                clear H
                have p103 : 0 ≤ (x5_1 : Int) := of_decide_eq_true (by first | (with_reducible assumption) | assumption)
                have q103 : x5_1 < (l0.length : Int) := of_decide_eq_true (by first | (with_reducible assumption) | assumption)
                obtain ⟨ad103, e103, hx103_0⟩ := Kd.at_int HR0.out x5_1 p103 q103
                cases e103
                replace p103 := eq_true p103
                replace q103 := eq_true q103
                have p104 : 0 ≤ (x5_1 : Int) := of_decide_eq_true (by first | (with_reducible assumption) | assumption)
                have q104 : x5_1 < (l1.length : Int) := of_decide_eq_true (by first | (with_reducible assumption) | assumption)
                obtain ⟨ad104, e104, hx104_0⟩ := Kd.at_int HR1.out x5_1 p104 q104
                cases e104
                replace p104 := eq_true p104
                replace q104 := eq_true q104
                go_wp2
                repeat (go_quiet (fail); try go_wp2)
                go_roundg k1
                case measure => have := HK1.out; omega
                case rel => exact ⟨(wrap64 (x5_1 + 1)), (by first | rfl | (simp; done) | (simp [*]; done)), H', ⟨by have := HK1.out; omega⟩, by repeat (first | exact Drawn0.refl _ | apply Drawn0.step)⟩
              · rw [if_neg c7] at H
                have c7b0 : ((rd l0 x5_1) == (rd l1 x5_1)) = false := beq_eq_false_iff_ne.mpr c7
                have c7b1 : ((rd l0 x5_1) != (rd l1 x5_1)) = true := bne_iff_ne.mpr c7
                obtain rfl := Option.some.inj H
                have p103 : 0 ≤ (x5_1 : Int) := of_decide_eq_true (by first | (with_reducible assumption) | assumption)
                have q103 : x5_1 < (l0.length : Int) := of_decide_eq_true (by first | (with_reducible assumption) | assumption)
                obtain ⟨ad103, e103, hx103_0⟩ := Kd.at_int HR0.out x5_1 p103 q103
                cases e103
                replace p103 := eq_true p103
                replace q103 := eq_true q103
                have p104 : 0 ≤ (x5_1 : Int) := of_decide_eq_true (by first | (with_reducible assumption) | assumption)
                have q104 : x5_1 < (l1.length : Int) := of_decide_eq_true (by first | (with_reducible assumption) | assumption)
                obtain ⟨ad104, e104, hx104_0⟩ := Kd.at_int HR1.out x5_1 p104 q104
                cases e104
                replace p104 := eq_true p104
                replace q104 := eq_true q104
                go_wp2
                repeat (go_quiet (fail); try go_wp2)
                go_ret
                exact ⟨by first | rfl | (simp; done) | (simp [*]; done), by repeat (first | exact Drawn0.refl _ | apply Drawn0.step)⟩
            · rw [if_neg c6] at H
              exact absurd H (by simp)
          · rw [if_neg c5] at H
            exact absurd H (by simp)
        · rw [if_neg c4] at H
          have c4b0 : decide (x5_1 < (l0.length : Int)) = false := decide_eq_false c4
          clear c4
          obtain rfl := Option.some.inj H
          go_wp2
          repeat (go_quiet (fail); try go_wp2)
          go_ret
          exact ⟨by first | rfl | (simp; done) | (simp [*]; done), by repeat (first | exact Drawn0.refl _ | apply Drawn0.step)⟩
  · rw [if_neg c3] at H
    have c3b0 : ((l0.length : Int) == (l1.length : Int)) = false := beq_eq_false_iff_ne.mpr c3
    have c3b1 : ((l0.length : Int) != (l1.length : Int)) = true := bne_iff_ne.mpr c3
    have c3b2 : (l0.length == l1.length) = false := by first | simpa using c3 | (simp at c3 ⊢; omega)
    obtain rfl := Option.some.inj H
    go_enter Try.func40, Try.ntmps40
    go_wp2
    repeat (go_quiet (fail); try go_wp2)
    go_ret
    exact ⟨by first | rfl | (simp; done) | (simp [*]; done), by repeat (first | exact Drawn0.refl _ | apply Drawn0.step)⟩

/-! ### heliastlaw16_known: function 35 -/
-- GIVEN heliast/heliastlaw16.known making uses heliast/split.Alike uses heliast/split.Apart uses heliast/heliastref13.Same uses heliast/heliastref12.Same
open Go.Proofs.He
def kn16a : List S69 := [⟨⟨#[109, 46, 114, 111, 111, 109, 46, 99, 114, 101, 97, 116, 101]⟩, ⟨#[]⟩, 0⟩, ⟨⟨#[109, 46, 114, 111, 111, 109, 46, 109, 101, 109, 98, 101, 114]⟩, ⟨#[]⟩, 1⟩]
def kn16b : List S69 := [⟨⟨#[109, 46, 114, 111, 111, 109, 46, 99, 114, 101, 97, 116, 101]⟩, ⟨#[]⟩, 0⟩, ⟨⟨#[109, 46, 114, 111, 111, 109, 46, 109, 101, 109, 98, 101, 114]⟩, ⟨#[]⟩, 2⟩]
def kn16o : List S69 := [⟨⟨#[109, 46, 114, 111, 111, 109, 46, 99, 114, 101, 97, 116, 101]⟩, ⟨#[]⟩, 0⟩]
theorem kn16_alike : split_Alike.f [kn16a, kn16b] = some kn16o := by decide +kernel
theorem kn16_apart : split_Apart.f [kn16a, kn16b] = some [1, 2] := by
  have h1 : [kn16a, kn16b].flatten.length < 3518437208883 ∧ (∀ x ∈ [kn16a, kn16b].flatten, EOk x) := by decide +kernel
  have h2 : (([kn16a, kn16b].flatten.filter fun x => decide (([kn16a, kn16b].flatten.count x : Int) < ([kn16a, kn16b].length : Int))).map fun x => x.f2) = [1, 2] := by decide +kernel
  unfold split_Apart.f apartL
  rw [if_pos h1, h2]
  exact congrArg some (rises_eq (riseL_spec _).1 (by decide) (riseL_spec _).2)
theorem kn16_none : split_Alike.f [] = some [] := by decide +kernel
theorem kn16_same : heliastref13_Same.f 5 kn16o kn16o = some true := by decide +kernel
theorem kn16_same12 : heliastref12_Same.f 5 [1, 2] [1, 2] = some true := by decide +kernel
def kn16W (w : World) : World := ((w.alloc (Obj.cells #[.string ⟨#[109, 46, 114, 111, 111, 109, 46, 99, 114, 101, 97, 116, 101]⟩, .string ⟨#[]⟩, .int .i64 0, .string ⟨#[109, 46, 114, 111, 111, 109, 46, 109, 101, 109, 98, 101, 114]⟩, .string ⟨#[]⟩, .int .i64 1] 69)).alloc
  (Obj.cells #[.string ⟨#[109, 46, 114, 111, 111, 109, 46, 99, 114, 101, 97, 116, 101]⟩, .string ⟨#[]⟩, .int .i64 0, .string ⟨#[109, 46, 114, 111, 111, 109, 46, 109, 101, 109, 98, 101, 114]⟩, .string ⟨#[]⟩, .int .i64 2] 69)).alloc (Obj.cells #[.slice (some ⟨w.heap.size, 0, none⟩) 2 2, .slice (some ⟨w.heap.size + 1, 0, none⟩) 2 2] 63)
theorem cellsC {W : World} {g : Nat} {l : List S69} {cs : Array Value} {t : TypeId} (hg : W.heap[g]? = some (.cells cs t (0, 0))) (hm : l.length ≤ 9223372036854775807) (hc : ∀ (j : Nat) (u : Value), (l.flatMap encE)[j]? = some u → cs[j]? = some u) : Kd.C k69 W (some ⟨g, 0, none⟩) l.length l :=
  Flat.C_mk flatE hm (fun j u hj => by rw [add_plain, blk_cell hg]; exact hc j u hj)
theorem kn16_facts (w : World) : Kd.C (Kd.slice 69 k69) (kn16W w) (some ⟨w.heap.size + 1 + 1, 0, none⟩) 2 [kn16a, kn16b] ∧ Kd.C k69 (kn16W w) (some ⟨w.heap.size, 0, none⟩) 1 kn16o ∧ Below w.heap.size w (kn16W w) := by
  have h0 : (kn16W w).heap[w.heap.size]? = some (Obj.cells #[.string ⟨#[109, 46, 114, 111, 111, 109, 46, 99, 114, 101, 97, 116, 101]⟩, .string ⟨#[]⟩, .int .i64 0, .string ⟨#[109, 46, 114, 111, 111, 109, 46, 109, 101, 109, 98, 101, 114]⟩, .string ⟨#[]⟩, .int .i64 1] 69) := by
    exact (heap_alloc_old _ _ (by simp; omega)).trans ((heap_alloc_old _ _ (by simp)).trans (heap_alloc_new w _))
  have h1 : (kn16W w).heap[w.heap.size + 1]? = some (Obj.cells #[.string ⟨#[109, 46, 114, 111, 111, 109, 46, 99, 114, 101, 97, 116, 101]⟩, .string ⟨#[]⟩, .int .i64 0, .string ⟨#[109, 46, 114, 111, 111, 109, 46, 109, 101, 109, 98, 101, 114]⟩, .string ⟨#[]⟩, .int .i64 2] 69) := by
    exact (heap_alloc_old _ _ (by simp)).trans (by have := heap_alloc_new (w.alloc (Obj.cells #[.string ⟨#[109, 46, 114, 111, 111, 109, 46, 99, 114, 101, 97, 116, 101]⟩, .string ⟨#[]⟩, .int .i64 0, .string ⟨#[109, 46, 114, 111, 111, 109, 46, 109, 101, 109, 98, 101, 114]⟩, .string ⟨#[]⟩, .int .i64 1] 69)) (Obj.cells #[.string ⟨#[109, 46, 114, 111, 111, 109, 46, 99, 114, 101, 97, 116, 101]⟩, .string ⟨#[]⟩, .int .i64 0, .string ⟨#[109, 46, 114, 111, 111, 109, 46, 109, 101, 109, 98, 101, 114]⟩, .string ⟨#[]⟩, .int .i64 2] 69); rwa [World.size_alloc] at this)
  have h2 : (kn16W w).heap[w.heap.size + 1 + 1]? = some (Obj.cells #[.slice (some ⟨w.heap.size, 0, none⟩) 2 2, .slice (some ⟨w.heap.size + 1, 0, none⟩) 2 2] 63) := by
    have : (kn16W w).heap[(kn16W w).heap.size - 1]? = some (Obj.cells #[.slice (some ⟨w.heap.size, 0, none⟩) 2 2, .slice (some ⟨w.heap.size + 1, 0, none⟩) 2 2] 63) := by unfold kn16W; rw [World.size_alloc, Nat.add_sub_cancel]; exact heap_alloc_new _ _
    have e : (kn16W w).heap.size - 1 = w.heap.size + 1 + 1 := by unfold kn16W; simp
    rwa [e] at this
  refine ⟨?_, ?_, ?_⟩
  · refine C_lit_rows (t := 63) [(some ⟨w.heap.size, 0, none⟩, 2, kn16a), (some ⟨w.heap.size + 1, 0, none⟩, 2, kn16b)] h2 (fun q hq => ?_) (by simp)
    rcases List.mem_cons.1 hq with rfl | hq
    · exact ⟨Nat.le_refl _, cellsC h0 (show kn16a.length ≤ _ by decide) (fun j u hj => by simpa [kn16a, encE] using hj)⟩
    · rw [List.mem_singleton.1 hq]; exact ⟨Nat.le_refl _, cellsC h1 (show kn16b.length ≤ _ by decide) (fun j u hj => by simpa [kn16b, encE] using hj)⟩
  · refine cellsC (l := kn16o) h0 (by decide) (fun j u hj => ?_)
    match j, hj with
    | 0, hj => exact hj
    | 1, hj => exact hj
    | 2, hj => exact hj
    | j + 3, hj => simp [kn16o, encE] at hj
  · unfold kn16W; exact (((Below.refl _ _).alloc (Nat.le_refl _) _).alloc (by simp) _).alloc (by simp; omega) _
set_option maxHeartbeats 8000000 in
set_option maxRecDepth 100000 in
theorem law16_known.walk (w : World) : Calls Try.prog 35 #[] w fun e w' => e = .returned (.bool true) ∧ Below w.heap.size w w' := by
  obtain ⟨hl, ha, hb⟩ := kn16_facts w
  have HB := Aside0.mk hb
  have HAL : Aside0 (∀ W, Below (kn16W w).heap.size (kn16W w) W → Calls Try.prog 30 #[.slice (some ⟨w.heap.size + 1 + 1, 0, none⟩) 2 2] W fun e w' => ∃ v, e = .returned v ∧ Kd.R k69 69 w' W.heap.size (fun _ => True) v kn16o ∧ Below W.heap.size W w') := ⟨fun W hW => split_Alike.calls _ 2 [kn16a, kn16b] kn16o W (Kd.C_below hl hW) (by decide) kn16_alike⟩
  have HNL : Aside0 (∀ W : World, Calls Try.prog 30 #[.slice none 0 0] W fun e w' => ∃ v, e = .returned v ∧ Kd.R k69 69 w' W.heap.size (fun _ => True) v [] ∧ Below W.heap.size W w') := ⟨fun W => split_Alike.calls none 0 [] [] W ⟨rfl, by simp, fun h => by simp at h⟩ (by decide) kn16_none⟩
  have HSA : Aside0 (∀ W, Below (kn16W w).heap.size (kn16W w) W → ∀ A c, Kd.C k69 W A 1 kn16o → 1 ≤ c → Calls Try.prog 78 #[.slice A 1 c, .slice (some ⟨w.heap.size, 0, none⟩) 1 2] W fun e w' => e = .returned (.bool true) ∧ Drawn0 W w') := ⟨fun W hW A c hA hc => heliastref13_Same.calls 5 A c kn16o _ 2 kn16o true W hA hc (Kd.C_below ha hW) (by decide) kn16_same⟩
  have HAP : Aside0 (∀ W, Below (kn16W w).heap.size (kn16W w) W → Calls Try.prog 31 #[.slice (some ⟨w.heap.size + 1 + 1, 0, none⟩) 2 2] W fun e w' => ∃ v, e = .returned v ∧ (Kd.int .i64).R 3 w' W.heap.size (fun _ => True) v [1, 2] ∧ Below W.heap.size W w') := ⟨fun W hW => split_Apart.calls _ 2 [kn16a, kn16b] [1, 2] W (Kd.C_below hl hW) (by decide) kn16_apart⟩
  have HS12 : Aside0 (∀ (W : World) A c g, Kd.C (Kd.int .i64) W A 2 [1, 2] → 2 ≤ c → W.heap[g]? = some (Obj.cells #[.int .i64 1, .int .i64 2] 3 (0, 0)) → Calls Try.prog 40 #[.slice A 2 c, .slice (some ⟨g, 0, none⟩) 2 2] W fun e w' => e = .returned (.bool true) ∧ Drawn0 W w') := ⟨fun W A c g hA hc hg => heliastref12_Same.calls 5 A c [1, 2] _ 2 [1, 2] true _ hA hc (Flat.C_mk (flatScalar _ _) (by decide) (fun j u hj => by
    rw [add_plain, blk_cell hg]
    simpa using hj)) (by decide) kn16_same12⟩
  clear hl ha hb
  go_enter Try.func35, Try.ntmps35
  go_wp2
  change Code.wp _ _ _ _ (kn16W w)
  go_region_with (first
    | (go_at_call 30; (with_reducible refine (HNL.out _).mono ?_); rintro e w5 ⟨v5, rfl, hr5, hb5⟩; have HB5 := Aside0.mk (below_then HB4.out HB4.out.size hb5); obtain ⟨A5, c5, rfl, _, _⟩ := Kd.R_reads hr5; clear hr5 hb5)
    | (go_at_call 30; (with_reducible refine (HAL.out _ (below_drew1 (Below.refl _ _))).mono ?_); rintro e w1 ⟨v1, rfl, hr1, hb1⟩; have HB1 := Aside0.mk (below_then (below_drew1 (Below.refl (kn16W w).heap.size (kn16W w))) (Nat.le_refl _) hb1); obtain ⟨A1, c1, rfl, hc1, hC1⟩ := Kd.R_reads hr1; have HC1 := Aside0.mk hC1; have HCC1 := Aside0.mk hc1; clear hr1 hb1 hC1 hc1)
    | (go_at_call 78; refine (HSA.out _ HB1.out A1 c1 HC1.out HCC1.out).mono ?_; rintro e w2 ⟨rfl, hd2⟩; have HB2 := Aside0.mk (below_then HB1.out HB1.out.size hd2.below); clear hd2)
    | (go_at_call 31; (with_reducible refine (HAP.out _ HB2.out).mono ?_); rintro e w3 ⟨v3, rfl, hr3, hb3⟩; have HB3 := Aside0.mk (below_then HB2.out HB2.out.size hb3); obtain ⟨A3, c3, rfl, hc3, hC3⟩ := Kd.R_reads hr3; have HC3 := Aside0.mk hC3; have HCC3 := Aside0.mk hc3; clear hr3 hb3 hC3 hc3)
    | (go_at_call 31; (with_reducible refine (HAP.out _ (below_alloc HB2.out _)).mono ?_); rintro e w3 ⟨v3, rfl, hr3, hb3⟩; have HB3 := Aside0.mk (below_then (below_alloc HB2.out _) (below_alloc HB2.out _).size hb3); have HG3 := Aside0.mk ((hb3.block w2.heap.size (by simp)).trans (heap_alloc_new w2 (Obj.cells #[.int .i64 1, .int .i64 2] 3))); obtain ⟨A3, c3, rfl, hc3, hC3⟩ := Kd.R_reads hr3; have HC3 := Aside0.mk hC3; have HCC3 := Aside0.mk hc3; clear hr3 hb3 hC3 hc3)
    | (go_at_call 40; refine (HS12.out _ A3 c3 w2.heap.size HC3.out HCC3.out HG3.out).mono ?_; rintro e w4 ⟨rfl, hd4⟩; have HB4 := Aside0.mk (below_then HB3.out HB3.out.size hd4.below); clear hd4)
    | (go_at_call 40; refine (HS12.out _ A3 c3 w3.heap.size (Kd.C_below HC3.out (below_alloc (Below.refl _ _) _)) HCC3.out (heap_alloc_new w3 (Obj.cells #[.int .i64 1, .int .i64 2] 3))).mono ?_; rintro e w4 ⟨rfl, hd4⟩; have HB4 := Aside0.mk (below_then (below_alloc HB3.out (Obj.cells #[.int .i64 1, .int .i64 2] 3)) (below_alloc HB3.out (Obj.cells #[.int .i64 1, .int .i64 2] 3)).size hd4.below); clear hd4))
  all_goals
    go_wp2
    go_ret
    exact ⟨rfl, below_then HB.out HB.out.size HB5.out⟩
def heliastlaw16_known.f : Option Bool := some true
theorem heliastlaw16_known.calls (r : Bool) (w : World) (h : heliastlaw16_known.f = some r) :
    Calls Try.prog 35 #[] w fun e w' => e = .returned (.bool r) ∧ Below w.heap.size w w' := by
  obtain rfl := Option.some.inj h
  exact law16_known.walk w

/-! ### state_Places: function 34 -/
-- GIVEN heliast/state.Places making uses slices.Sort[[]int,int] uses slices.Compact[[]int,int]
open Go.Proofs.He
def placesL (l : List S69) : List Int := Lib.compact ((l.map fun x => x.f2).mergeSort fun x y => decide (x ≤ y))
set_option maxHeartbeats 4000000 in
set_option maxRecDepth 100000 in
theorem state_Places.walk (A0 : Option Addr) (c0 : Nat) (l0 : List S69) (w : World) (hr0 : Kd.C k69 w A0 l0.length l0) (hlim : l0.length < 17592186044416) :
    Calls Try.prog 34 #[.slice A0 l0.length c0] w fun e w' => ∃ v, e = .returned v ∧ (Kd.int .i64).R 3 w' w.heap.size (fun _ => True) v (placesL l0) ∧ Below w.heap.size w w' := by
  have hu69 := Try.underlying69
  have HR0 := Aside0.mk hr0
  clear hr0
  go_enter Try.func34, Try.ntmps34
  go_wp2
  go_loopg [3, 5, 8] l0.length (fun gg v3 _ v8 wr => ∃ k : Nat, k ≤ l0.length ∧ l0.length - k ≤ gg ∧ v8 = .int .i64 k ∧ Aside0 ((Kd.int .i64).R 3 wr w.heap.size (fun _ => True) v3 ((l0.take k).map fun x => x.f2)) ∧ Aside0 (Below w.heap.size w wr))
  case atStart => exact ⟨0, Nat.zero_le _, by omega, rfl, ⟨Kd.R_nil _ _ _ _ _⟩, ⟨Below.refl _ _⟩⟩
  case round =>
    obtain ⟨k, hk, hg, rfl, HR, HB⟩ := hrel
    by_cases hlt : k < l0.length
    · obtain ⟨ad, e, hx0, hx1, hx2⟩ := at_T69 HR0.out k (by omega) (by omega)
      cases e
      replace hx0 := (HB.out.cell (World.block_lt_of_cell? w _ hx0)).trans hx0
      replace hx1 := (HB.out.cell (World.block_lt_of_cell? w _ hx1)).trans hx1
      replace hx2 := (HB.out.cell (World.block_lt_of_cell? w _ hx2)).trans hx2
      rw [Int.toNat_natCast] at hx0 hx1 hx2
      have hltz : (k : Int) < (l0.length : Int) := by omega
      have hrd : (l0.take k).map (fun x => x.f2) ++ [(rd_T69 l0 k).f2] = (l0.take (k + 1)).map fun x => x.f2 := by
        rw [List.take_succ_eq_append_getElem hlt, List.map_append]; simp [rd_T69, hlt]
      have HRD := Aside0.mk hrd
      have hll : (((l0.take k).map fun x => x.f2).length + 1) * 8 ≤ 140737488355328 := by rw [List.length_map, List.length_take]; omega
      have HLL := Aside0.mk hll
      clear hrd hll
      go_wp2_with (first | (at_builtin; refine Kd.R_append (Kd.int .i64) (w0 := w) w.heap.size rfl _ _ 65 3 (.int .i64 0) 8 rfl Try.underlying65 info3 rfl (by decide) (by omega) u3 ((l0.take k).map fun x => x.f2) (rd_T69 l0 k).f2 [.int .i64 (rd_T69 l0 k).f2] (fun _ => True) (fun _ => False) rfl (by first | rfl | (go_simp; done) | (simp [World.alloc, Act.eval]; done)) rfl (fun _ hk => hk.elim) (fun _ _ => trivial) (Kd.R_alloc HR.out _) (below_alloc HB.out _) (below_alloc HB.out _).size HLL.out ?_; intro v2 w2 hr2 hb2 hg2 hat2) | go_in)
      go_roundg (l0.length - (k + 1))
      case measure => omega
      case rel => exact ⟨k + 1, by omega, by omega, by go_num, ⟨by rw [← HRD.out]; exact hr2⟩, ⟨hb2⟩⟩
    · have hltz : ¬ (k : Int) < (l0.length : Int) := by omega
      have : k = l0.length := by omega
      subst this
      have hrr := HR.out
      rw [List.take_length] at hrr
      have HS := Aside0.mk (sort_int.walk hrr (by rw [List.length_map]; omega))
      clear hrr
      go_wp2_with (go_at_call 76; refine HS.out.mono ?_; rintro e w1 ⟨rfl, hr1, hg1⟩)
      have HB1 := Aside0.mk (HB.out.grown hg1 HB.out.size (fun k e => own_base (Kd.R_own HR.out).choose_spec k e))
      have HR1 := Aside0.mk hr1
      have HC := Aside0.mk (slices_Compact_int.walk hr1)
      clear hg1 hr1
      go_wp2_with fail
      refine HC.out.mono ?_
      rintro e w2 ⟨v2, rfl, hr2, hg2⟩
      go_wp2
      go_ret
      exact ⟨_, rfl, hr2, HB1.out.grown hg2 HB1.out.size (fun k e => own_base (Kd.R_own HR1.out).choose_spec k e)⟩
def state_Places.f (l0 : List S69) : Option (List Int) := if l0.length < 17592186044416 then some (placesL l0) else none
theorem state_Places.calls (A0 : Option Addr) (c0 : Nat) (l0 : List S69) (r : List Int) (w : World) (hr0 : Kd.C k69 w A0 l0.length l0) (hc0 : l0.length ≤ c0) (h : state_Places.f l0 = some r) :
    Calls Try.prog 34 #[.slice A0 l0.length c0] w fun e w' => ∃ v0_ : Value, e = .returned (v0_) ∧ (Kd.int .i64).R 3 w' w.heap.size (fun _ => True) v0_ r ∧ Below w.heap.size w w' := by
  unfold state_Places.f at h
  split at h
  · obtain rfl := Option.some.inj h
    exact state_Places.walk A0 c0 l0 w hr0 ‹_›
  · cases h


end Go.Proofs.Ytmmalieacakcbaa.S

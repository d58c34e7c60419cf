-- Written by heprint.py (this session's, over the kit's print.py): not trusted, Lean checks it.
import Derived.Test.YtbldllghkfgkeaaPc0
namespace Go.Proofs.Ytbldllghkfgkeaa.S
open Go.RowKit Go.Proofs.YtbldllghkfgkeaaW.PrintWords Go.Proofs.YtbldllghkfgkeaaW.PrintLast Go.Proofs.YtbldllghkfgkeaaW.PrintMore
attribute [local go_sem] max2_int min2_int max_two min_two max_three min_three max_four min_four   -- for this text's walks alone
set_option linter.unusedVariables false
set_option linter.unusedSimpArgs false

/-! ### heliastref13_Places: function 84 -/
mutual
def heliastref13_Places.l0 : Nat → List (S74) → List Int → Int → Option (List Int)
  | 0, _, _, _ => none
  | k + 1, x0, x3, x4 => if x4 < (x0.length : Int) then (heliastref13_Places.l1 k x0 x3 x4 ([] : List Int) false 0) else (some x3)
def heliastref13_Places.l1 : Nat → List (S74) → List Int → Int → List Int → Bool → Int → Option (List Int)
  | 0, _, _, _, _, _, _ => none
  | k + 1, x0, x3, x4, x5, x6, x7 => if x7 < (x3.length : Int) then (if x6 = true then (heliastref13_Places.j2 k x0 x3 x4 x5 x6 x7 false) else (if 0 ≤ x7 then (if 0 ≤ x4 then (if x4 < (x0.length : Int) then (heliastref13_Places.j2 k x0 x3 x4 x5 x6 x7 (decide ((rd x3 x7) ≥ ((rd_T74 x0 x4).f2)))) else (none)) else (none)) else (none))) else (if x6 = true then (heliastref13_Places.l0 k x0 x5 (wrap64 (x4 + 1))) else (if 0 ≤ x4 then (if x4 < (x0.length : Int) then (if x5.length < 17592186044416 then (heliastref13_Places.l0 k x0 (x5 ++ [(rd_T74 x0 x4).f2]) (wrap64 (x4 + 1))) else (none)) else (none)) else (none)))
def heliastref13_Places.j2 : Nat → List (S74) → List Int → Int → List Int → Bool → Int → Bool → Option (List Int)
  | 0, _, _, _, _, _, _, _ => none
  | k + 1, x0, x3, x4, x5, x6, x7, x33 => if x33 = true then (if 0 ≤ x4 then (if x4 < (x0.length : Int) then (if x5.length < 17592186044416 then ((some (x5 ++ [(rd_T74 x0 x4).f2] : List Int)).bind fun y174 => (if 0 ≤ x7 then (if x7 < (x3.length : Int) then (if (rd x3 x7) = ((rd_T74 x0 x4).f2) then (heliastref13_Places.l1 k x0 x3 x4 y174 true (wrap64 (x7 + 1))) else (if y174.length < 17592186044416 then (heliastref13_Places.l1 k x0 x3 x4 (y174 ++ [rd x3 x7]) true (wrap64 (x7 + 1))) else (none))) else (none)) else (none))) else (none)) else (none)) else (none)) else (if 0 ≤ x7 then (if x7 < (x3.length : Int) then (if 0 ≤ x4 then (if x4 < (x0.length : Int) then (if (rd x3 x7) = ((rd_T74 x0 x4).f2) then (heliastref13_Places.l1 k x0 x3 x4 x5 x6 (wrap64 (x7 + 1))) else (if x5.length < 17592186044416 then (heliastref13_Places.l1 k x0 x3 x4 (x5 ++ [rd x3 x7]) x6 (wrap64 (x7 + 1))) else (none))) else (none)) else (none)) else (none)) else (none))
end
def heliastref13_Places.f (k : Nat) (l0 : List (S74)) : Option (List Int) := heliastref13_Places.l0 k l0 ([] : List Int) 0
theorem heliastref13_Places.mono_l : ∀ k, (∀ y0 y1 y2, LeO (heliastref13_Places.l0 k y0 y1 y2) (heliastref13_Places.l0 (k + 1) y0 y1 y2)) ∧ (∀ y0 y1 y2 y3 y4 y5, LeO (heliastref13_Places.l1 k y0 y1 y2 y3 y4 y5) (heliastref13_Places.l1 (k + 1) y0 y1 y2 y3 y4 y5)) ∧ (∀ y0 y1 y2 y3 y4 y5 y6, LeO (heliastref13_Places.j2 k y0 y1 y2 y3 y4 y5 y6) (heliastref13_Places.j2 (k + 1) y0 y1 y2 y3 y4 y5 y6))
  | 0 => ⟨fun _ _ _ r h => by simp [heliastref13_Places.l0] at h, fun _ _ _ _ _ _ r h => by simp [heliastref13_Places.l1] at h, fun _ _ _ _ _ _ _ r h => by simp [heliastref13_Places.j2] at h⟩
  | k + 1 => by
    obtain ⟨ih0, ih1, ih2⟩ := heliastref13_Places.mono_l k
    refine ⟨?_, ?_, ?_⟩
    · intro y0 y1 y2
      unfold heliastref13_Places.l0
      repeat' first
      | (with_reducible exact ih0 _ _ _)
      | (with_reducible exact ih1 _ _ _ _ _ _)
      | (with_reducible exact ih2 _ _ _ _ _ _ _)
      | (with_reducible exact LeO.refl _)
      | (with_reducible exact LeO.none _)
      | (with_reducible refine LeO.ite ?_ ?_)
      | (with_reducible refine LeO.bind ?_ (fun _ => ?_))
      | exact ih0 _ _ _
      | exact ih1 _ _ _ _ _ _
      | exact ih2 _ _ _ _ _ _ _
      | exact LeO.none _
      | refine LeO.ite ?_ ?_
      | refine LeO.bind ?_ (fun _ => ?_)
    · intro y0 y1 y2 y3 y4 y5
      unfold heliastref13_Places.l1
      repeat' first
      | (with_reducible exact ih0 _ _ _)
      | (with_reducible exact ih1 _ _ _ _ _ _)
      | (with_reducible exact ih2 _ _ _ _ _ _ _)
      | (with_reducible exact LeO.refl _)
      | (with_reducible exact LeO.none _)
      | (with_reducible refine LeO.ite ?_ ?_)
      | (with_reducible refine LeO.bind ?_ (fun _ => ?_))
      | exact ih0 _ _ _
      | exact ih1 _ _ _ _ _ _
      | exact ih2 _ _ _ _ _ _ _
      | exact LeO.none _
      | refine LeO.ite ?_ ?_
      | refine LeO.bind ?_ (fun _ => ?_)
    · intro y0 y1 y2 y3 y4 y5 y6
      unfold heliastref13_Places.j2
      repeat' first
      | (with_reducible exact ih0 _ _ _)
      | (with_reducible exact ih1 _ _ _ _ _ _)
      | (with_reducible exact ih2 _ _ _ _ _ _ _)
      | (with_reducible exact LeO.refl _)
      | (with_reducible exact LeO.none _)
      | (with_reducible refine LeO.ite ?_ ?_)
      | (with_reducible refine LeO.bind ?_ (fun _ => ?_))
      | exact ih0 _ _ _
      | exact ih1 _ _ _ _ _ _
      | exact ih2 _ _ _ _ _ _ _
      | exact LeO.none _
      | refine LeO.ite ?_ ?_
      | refine LeO.bind ?_ (fun _ => ?_)
theorem heliastref13_Places.mono : ∀ a0 k, LeO (heliastref13_Places.f k a0) (heliastref13_Places.f (k + 1) a0) := by
  intro a0 k
  obtain ⟨ih0, ih1, ih2⟩ := heliastref13_Places.mono_l k
  unfold heliastref13_Places.f
  repeat' first
      | (with_reducible exact ih0 _ _ _)
      | (with_reducible exact ih1 _ _ _ _ _ _)
      | (with_reducible exact ih2 _ _ _ _ _ _ _)
      | (with_reducible exact LeO.refl _)
      | (with_reducible exact LeO.none _)
      | (with_reducible refine LeO.ite ?_ ?_)
      | (with_reducible refine LeO.bind ?_ (fun _ => ?_))
      | exact ih0 _ _ _
      | exact ih1 _ _ _ _ _ _
      | exact ih2 _ _ _ _ _ _ _
      | exact LeO.none _
      | refine LeO.ite ?_ ?_
      | refine LeO.bind ?_ (fun _ => ?_)
set_option maxHeartbeats 8000000 in
set_option maxRecDepth 100000 in
theorem heliastref13_Places.calls (k : Nat) (A0 : Option Addr) (c0 : Nat) (l0 : List (S74)) (r : List Int) (w : World) (hr0 : Kd.C k74 w A0 l0.length l0) (hc0 : l0.length ≤ c0) (h : heliastref13_Places.f k l0 = some r) :
    Calls Try.prog 84 #[.slice A0 l0.length c0] w fun e w' => ∃ v0_ : Value, e = .returned (v0_) ∧ Kd.R (Kd.int .i64) 3 w' w.heap.size (fun _ => True) v0_ r ∧ Below w.heap.size w w' := by
  have HR0 := Aside0.mk hr0
  have HC0 := Aside0.mk hc0
  clear hr0 hc0
  have HB := Aside0.mk (Below.refl w.heap.size w)
  have H : (heliastref13_Places.l0 k l0 ([] : List Int) 0) = some r := h
  clear h
  have H' := Aside0.mk H
  clear H
  go_enter Try.func84, Try.ntmps84
  go_wp2
  repeat (go_quiet (fail); try go_wp2)
  go_loopg [3, 4] k (fun kq v3 v4 w' => ∃ (x3_1 : List Int) (x4_1 : Int), v4 = .int .i64 x4_1 ∧ Aside0 (heliastref13_Places.l0 kq l0 x3_1 x4_1 = some r) ∧ Aside0 (kq ≤ k) ∧ Aside0 (Kd.R (Kd.int .i64) 3 w' w.heap.size (fun _ => True) v3 x3_1) ∧ Aside0 (Below w.heap.size w w'))
  case atStart => exact ⟨(([] : List Int)), (0), (by first | rfl | (simp; done) | (simp [*]; done)), H', ⟨Nat.le_refl _⟩, ⟨by first | exact Kd.R_nil _ _ _ _ _ | exact Kd.N_nil _ _ _ _ _ | exact Kd.V_nil _ _ _ _ _ | exact Kd.Q_nil _ _ _ _ _ | exact Kd.S_nil _ _ _ _ _⟩, ⟨by repeat (first | (with_reducible first | exact HB.out | apply below_alloc | apply pw_below_drewN | apply below_drew1) | exact HB.out)⟩⟩
  case round =>
    clear H'
    obtain ⟨x3_1, x4_1, rfl, HA, HK1, HO_3, HB⟩ := hrel
    cases gk with
    | zero => exact absurd HA.out (by simp [heliastref13_Places.l0])
    | succ k1 =>
      have H := HA.out
      clear HA
      simp only [heliastref13_Places.l0] at H
      by_cases c2 : x4_1 < (l0.length : Int)
      · rw [if_pos c2] at H
        have c2b0 : decide (x4_1 < (l0.length : Int)) = true := decide_eq_true c2
        clear c2
        have H' := Aside0.mk H
        clear H
        go_wp2
        repeat (go_quiet (fail); try go_wp2)
        go_loopg [5, 6, 7] k1 (fun kq v5 v6 v7 w' => ∃ (x5_2 : List Int) (x6_2 : Bool) (x7_2 : Int), v6 = .bool x6_2 ∧ v7 = .int .i64 x7_2 ∧ Aside0 (heliastref13_Places.l1 kq l0 x3_1 x4_1 x5_2 x6_2 x7_2 = some r) ∧ Aside0 (kq ≤ k1) ∧ Aside0 (Kd.R (Kd.int .i64) 3 w' w.heap.size (fun k_ => some k_ ≠ (v5 : Value).ownBlock) u3 x3_1) ∧ Aside0 (Kd.R (Kd.int .i64) 3 w' w.heap.size (fun k_ => some k_ ≠ (u3 : Value).ownBlock) v5 x5_2) ∧ Aside0 (Below w.heap.size w w'))
        case atStart => exact ⟨(([] : List Int)), (false), (0), (by first | rfl | (simp; done) | (simp [*]; done)), (by first | rfl | (simp; done) | (simp [*]; done)), H', ⟨Nat.le_refl _⟩, ⟨by (with_reducible repeat (first | apply Kd.R_alloc | apply Kd.R_drewN | apply Kd.R_drew)); exact Kd.R_mono HO_3.out (fun _ hk => (by simp [Value.ownBlock]))⟩, ⟨by first | exact Kd.R_nil _ _ _ _ _ | exact Kd.N_nil _ _ _ _ _ | exact Kd.V_nil _ _ _ _ _ | exact Kd.Q_nil _ _ _ _ _ | exact Kd.S_nil _ _ _ _ _⟩, ⟨by repeat (first | (with_reducible first | exact HB.out | apply below_alloc | apply pw_below_drewN | apply below_drew1) | exact HB.out)⟩⟩
        case round =>
          clear H'
          try clear c2
          try clear c2b0
          try clear p2
          obtain ⟨x5_2, x6_2, x7_2, rfl, rfl, HA, HK2, HO_3, HO_5, HB⟩ := hrel
          cases gk with
          | zero => exact absurd HA.out (by simp [heliastref13_Places.l1])
          | succ k2 =>
            have H := HA.out
            clear HA
            simp only [heliastref13_Places.l1] at H
            by_cases c3 : x7_2 < (x3_1.length : Int)
            · rw [if_pos c3] at H
              have c3b0 : decide (x7_2 < (x3_1.length : Int)) = true := decide_eq_true c3
              clear c3
              have HC4 := Aside0.mk H
              clear H
              obtain ⟨Ao5, co5, eo5⟩ := Kd.R_slice HO_3.out
              subst eo5
              go_upto_region 10 with (fail)
              repeat (go_quiet (fail); go_upto_region 10 with (fail))
              go_cut [33] (fun v33 wc => ∃ (kq : Nat) (x33_3 : Bool), v33 = .bool x33_3 ∧ Aside0 (heliastref13_Places.j2 kq l0 x3_1 x4_1 x5_2 x6_2 x7_2 x33_3 = some r) ∧ Aside0 (kq ≤ k2) ∧ Aside0 (Kd.R (Kd.int .i64) 3 wc w.heap.size (fun k_ => some k_ ≠ (u5 : Value).ownBlock) (.slice Ao5 x3_1.length co5) x3_1) ∧ Aside0 (Kd.R (Kd.int .i64) 3 wc w.heap.size (fun k_ => some k_ ≠ ((.slice Ao5 x3_1.length co5) : Value).ownBlock) u5 x5_2) ∧ Aside0 (Below w.heap.size w wc))
              case first =>
                have H := HC4.out
                clear HC4
                by_cases c6 : x6_2 = true
                · subst c6
                  have H1 : (heliastref13_Places.j2 k2 l0 x3_1 x4_1 x5_2 true x7_2 false) = some r := by rw [if_pos rfl] at H; exact H
                  clear H
                  have H := H1
                  clear H1
                  have H' := Aside0.mk H
                  clear H
                  go_wp2
                  repeat (go_quiet (fail); try go_wp2)
                  go_meet
                  case rel => exact ⟨_, (false), (by first | rfl | (simp; done) | (simp [*]; done)), H', ⟨by have := HK1.out; have := HK2.out; first | omega | exact Nat.le_refl _⟩, ⟨by (with_reducible repeat (first | apply Kd.R_alloc | apply Kd.R_drewN | apply Kd.R_drew)); exact HO_3.out⟩, ⟨by (with_reducible repeat (first | apply Kd.R_alloc | apply Kd.R_drewN | apply Kd.R_drew)); exact HO_5.out⟩, ⟨by repeat (first | (with_reducible first | exact HB.out | apply below_alloc | apply pw_below_drewN | apply below_drew1) | exact HB.out)⟩⟩
                · replace c6 := Bool.eq_false_iff.mpr c6
                  subst c6
                  have H1 : (if 0 ≤ x7_2 then (if 0 ≤ x4_1 then (if x4_1 < (l0.length : Int) then (heliastref13_Places.j2 k2 l0 x3_1 x4_1 x5_2 false x7_2 (decide ((rd x3_1 x7_2) ≥ ((rd_T74 l0 x4_1).f2)))) else (none)) else (none)) else (none)) = some r := by rw [if_neg (show ¬ (false = true) by decide)] at H; exact H
                  clear H
                  have H := H1
                  clear H1
                  by_cases c7 : 0 ≤ x7_2
                  · rw [if_pos c7] at H
                    have c7b0 : decide (0 ≤ x7_2) = true := decide_eq_true c7
                    clear c7
                    (first | rw [c7b0] | (simp only [i64_w, i32_w]; rw [c7b0]) | skip)
                    by_cases c8 : 0 ≤ x4_1
                    · rw [if_pos c8] at H
                      have c8b0 : decide (0 ≤ x4_1) = true := decide_eq_true c8
                      clear c8
                      by_cases c9 : x4_1 < (l0.length : Int)
                      · rw [if_pos c9] at H
                        have c9b0 : decide (x4_1 < (l0.length : Int)) = true := decide_eq_true c9
                        clear c9
                        have H' := Aside0.mk H
                        clear H
                        have p171 : 0 ≤ (x7_2 : Int) := of_decide_eq_true (by first | (with_reducible assumption) | assumption)
                        have q171 : x7_2 < (x3_1.length : Int) := of_decide_eq_true (by first | (with_reducible assumption) | assumption)
                        obtain ⟨ad171, e171, hx171_0⟩ := Kd.at_int (Kd.R_reads' HO_3.out).2.2 x7_2 p171 q171
                        cases e171
                        replace p171 := eq_true p171
                        replace q171 := eq_true q171
                        have p172 : 0 ≤ (x4_1 : Int) := of_decide_eq_true (by first | (with_reducible assumption) | assumption)
                        have q172 : x4_1 < (l0.length : Int) := of_decide_eq_true (by first | (with_reducible assumption) | assumption)
                        obtain ⟨ad172, e172, hx172_0, hx172_1, hx172_2⟩ := at_T74 HR0.out x4_1 p172 q172
                        cases e172
                        replace hx172_0 := (HB.out.cell (World.block_lt_of_cell? w _ hx172_0)).trans hx172_0
                        replace hx172_1 := (HB.out.cell (World.block_lt_of_cell? w _ hx172_1)).trans hx172_1
                        replace hx172_2 := (HB.out.cell (World.block_lt_of_cell? w _ hx172_2)).trans hx172_2
                        replace p172 := eq_true p172
                        replace q172 := eq_true q172
                        go_wp2
                        repeat (go_quiet (fail); try go_wp2)
                        go_meet
                        case rel => exact ⟨_, (decide ((rd x3_1 x7_2) ≥ ((rd_T74 l0 x4_1).f2))), (by first | rfl | (simp; done) | (simp [*]; done)), H', ⟨by have := HK1.out; have := HK2.out; first | omega | exact Nat.le_refl _⟩, ⟨by (with_reducible repeat (first | apply Kd.R_alloc | apply Kd.R_drewN | apply Kd.R_drew)); exact HO_3.out⟩, ⟨by (with_reducible repeat (first | apply Kd.R_alloc | apply Kd.R_drewN | apply Kd.R_drew)); exact HO_5.out⟩, ⟨by repeat (first | (with_reducible first | exact HB.out | apply below_alloc | apply pw_below_drewN | apply below_drew1) | exact HB.out)⟩⟩
                      · rw [if_neg c9] at H
                        exact absurd H (by simp)
                    · rw [if_neg c8] at H
                      exact absurd H (by simp)
                  · rw [if_neg c7] at H
                    exact absurd H (by simp)
              case rest =>
                clear HC4
                try clear p1
                try clear q1
                try clear hx1
                try clear c2
                try clear c2b0
                try clear p2
                try clear c3
                try clear c3b0
                try clear c6
                try clear c7
                try clear c7b0
                try clear c8
                try clear c8b0
                try clear c9
                try clear c9b0
                try clear hx171_0
                try clear hx172_0
                try clear hx172_1
                try clear hx172_2
                try clear p171
                try clear p172
                try clear p2
                try clear q171
                try clear q172
                obtain ⟨kq, x33_3, rfl, HA, HJ3, HO_3, HO_5, HB⟩ := hcut
                cases kq with
                | zero => exact absurd HA.out (by simp [heliastref13_Places.j2])
                | succ kj3 =>
                  have H := HA.out
                  clear HA
                  simp only [heliastref13_Places.j2] at H
                  by_cases c10 : x33_3 = true
                  · subst c10
                    have H1 : (if 0 ≤ x4_1 then (if x4_1 < (l0.length : Int) then (if x5_2.length < 17592186044416 then ((some (x5_2 ++ [(rd_T74 l0 x4_1).f2] : List Int)).bind fun y174 => (if 0 ≤ x7_2 then (if x7_2 < (x3_1.length : Int) then (if (rd x3_1 x7_2) = ((rd_T74 l0 x4_1).f2) then (heliastref13_Places.l1 kj3 l0 x3_1 x4_1 y174 true (wrap64 (x7_2 + 1))) else (if y174.length < 17592186044416 then (heliastref13_Places.l1 kj3 l0 x3_1 x4_1 (y174 ++ [rd x3_1 x7_2]) true (wrap64 (x7_2 + 1))) else (none))) else (none)) else (none))) else (none)) else (none)) else (none)) = some r := by rw [if_pos rfl] at H; exact H
                    clear H
                    have H := H1
                    clear H1
                    by_cases c11 : 0 ≤ x4_1
                    · rw [if_pos c11] at H
                      have c11b0 : decide (0 ≤ x4_1) = true := decide_eq_true c11
                      clear c11
                      by_cases c12 : x4_1 < (l0.length : Int)
                      · rw [if_pos c12] at H
                        have c12b0 : decide (x4_1 < (l0.length : Int)) = true := decide_eq_true c12
                        clear c12
                        by_cases c13 : x5_2.length < 17592186044416
                        · rw [if_pos c13] at H
                          have LMc13 := Aside0.mk c13
                          clear c13
                          obtain ⟨y174, hy174⟩ : ∃ y_ : List Int, y_ = (x5_2 ++ [(rd_T74 l0 x4_1).f2]) := ⟨_, rfl⟩
                          replace H : (if 0 ≤ x7_2 then (if x7_2 < (x3_1.length : Int) then (if (rd x3_1 x7_2) = ((rd_T74 l0 x4_1).f2) then (heliastref13_Places.l1 kj3 l0 x3_1 x4_1 y174 true (wrap64 (x7_2 + 1))) else (if y174.length < 17592186044416 then (heliastref13_Places.l1 kj3 l0 x3_1 x4_1 (y174 ++ [rd x3_1 x7_2]) true (wrap64 (x7_2 + 1))) else (none))) else (none)) else (none)) = some r := by first | (rw [hy174]; with_reducible exact H) | (have H2_ := (Option.bind_some _ _).symm.trans H; rw [hy174]; with_reducible exact H2_) | (have H2_ := (Option.bind_some _ _).symm.trans H; with_reducible exact H2_) | with_reducible exact H | (rw [hy174]; exact H) | exact H
                          have Ny174 := Aside0.mk hy174
                          clear hy174
                          by_cases c14 : 0 ≤ x7_2
                          · rw [if_pos c14] at H
                            have c14b0 : decide (0 ≤ x7_2) = true := decide_eq_true c14
                            clear c14
                            by_cases c15 : x7_2 < (x3_1.length : Int)
                            · rw [if_pos c15] at H
                              have c15b0 : decide (x7_2 < (x3_1.length : Int)) = true := decide_eq_true c15
                              clear c15
                              by_cases c16 : (rd x3_1 x7_2) = ((rd_T74 l0 x4_1).f2)
                              · rw [if_pos c16] at H
                                have c16b0 : ((rd x3_1 x7_2) == ((rd_T74 l0 x4_1).f2)) = true := beq_iff_eq.mpr c16
                                have c16b1 : ((rd x3_1 x7_2) != ((rd_T74 l0 x4_1).f2)) = false := bne_eq_false_iff_eq.mpr c16
                                clear c16
                                have H' := Aside0.mk H
                                clear H
                                have p173 : 0 ≤ (x4_1 : Int) := of_decide_eq_true (by first | (with_reducible assumption) | assumption)
                                have q173 : x4_1 < (l0.length : Int) := of_decide_eq_true (by first | (with_reducible assumption) | assumption)
                                obtain ⟨ad173, e173, hx173_0, hx173_1, hx173_2⟩ := at_T74 HR0.out x4_1 p173 q173
                                cases e173
                                replace hx173_0 := (HB.out.cell (World.block_lt_of_cell? w _ hx173_0)).trans hx173_0
                                replace hx173_1 := (HB.out.cell (World.block_lt_of_cell? w _ hx173_1)).trans hx173_1
                                replace hx173_2 := (HB.out.cell (World.block_lt_of_cell? w _ hx173_2)).trans hx173_2
                                replace p173 := eq_true p173
                                replace q173 := eq_true q173
                                go_wp2_with (first | ((with_reducible refine gate_builtin (b := .append) (xs := #[.tmp 34, .tmp 40]) rfl ?_); at_builtin; refine Kd.R_append (Kd.int .i64) (w0 := w) w.heap.size rfl (.tmp 34) (.tmp 40) 51 3 (.int .i64 0) 8 rfl Try.underlying51 info3 rfl (by decide) (by omega) u5 x5_2 ((rd_T74 l0 x4_1).f2) [.int .i64 ((rd_T74 l0 x4_1).f2)] (fun k_ => some k_ ≠ (.slice Ao5 x3_1.length co5 : Value).ownBlock) (fun _ => False) rfl rfl ?aP (fun _ hk => hk.elim) ?aF ?aO ?aB ?aS ?aL ?_; (case aP => exact rfl); (case aB => exact (by repeat (first | (with_reducible first | exact HB.out | apply below_alloc | apply pw_below_drewN | apply below_drew1) | exact HB.out))); (case aF => exact (fun k_ hk => Kd.fresh' (Kd.R_lt (by (with_reducible repeat (first | apply Kd.R_alloc | apply Kd.R_drewN | apply Kd.R_drew)); exact HO_3.out)) k_ hk)); (case aO => exact (by (with_reducible repeat (first | apply Kd.R_alloc | apply Kd.R_drewN | apply Kd.R_drew)); exact HO_5.out)); (case aS => exact (below_size (by repeat (first | (with_reducible first | exact HB.out | apply below_alloc | apply pw_below_drewN | apply below_drew1) | exact HB.out)))); (case aL => have := LMc13.out; omega); intro v175 w17 ho hb hg hat; rw [← Ny174.out] at ho; have n0_ := Aside0.mk (Kd.R_after (ok := (fun _ => True)) (by (with_reducible repeat (first | apply Kd.R_alloc | apply Kd.R_drewN | apply Kd.R_drew)); exact Kd.R_mono HO_3.out (fun _ hk => ⟨trivial, hk⟩)) hg hat); have n1_ := Aside0.mk (hb); have n2_ := Aside0.mk (ho); clear HO_3; clear HB; clear HO_5; have HO_3 := n0_; have HB := n1_; have HO176 := n2_; clear n0_ n1_ n2_; clear ho hb hg hat; have p177 : 0 ≤ (x7_2 : Int) := of_decide_eq_true (by first | (with_reducible assumption) | assumption); have q177 : x7_2 < (x3_1.length : Int) := of_decide_eq_true (by first | (with_reducible assumption) | assumption); obtain ⟨ad177, e177, hx177_0⟩ := Kd.at_int (Kd.R_reads' HO_3.out).2.2 x7_2 p177 q177; cases e177; replace p177 := eq_true p177; replace q177 := eq_true q177; have p178 : 0 ≤ (x4_1 : Int) := of_decide_eq_true (by first | (with_reducible assumption) | assumption); have q178 : x4_1 < (l0.length : Int) := of_decide_eq_true (by first | (with_reducible assumption) | assumption); obtain ⟨ad178, e178, hx178_0, hx178_1, hx178_2⟩ := at_T74 HR0.out x4_1 p178 q178; obtain rfl : ad173 = ad178 := (by injection e178); replace hx178_0 := (HB.out.cell (World.block_lt_of_cell? w _ hx178_0)).trans hx178_0; replace hx178_1 := (HB.out.cell (World.block_lt_of_cell? w _ hx178_1)).trans hx178_1; replace hx178_2 := (HB.out.cell (World.block_lt_of_cell? w _ hx178_2)).trans hx178_2; replace p178 := eq_true p178; replace q178 := eq_true q178))
                                repeat (go_quiet (first | ((with_reducible refine gate_builtin (b := .append) (xs := #[.tmp 34, .tmp 40]) rfl ?_); at_builtin; refine Kd.R_append (Kd.int .i64) (w0 := w) w.heap.size rfl (.tmp 34) (.tmp 40) 51 3 (.int .i64 0) 8 rfl Try.underlying51 info3 rfl (by decide) (by omega) u5 x5_2 ((rd_T74 l0 x4_1).f2) [.int .i64 ((rd_T74 l0 x4_1).f2)] (fun k_ => some k_ ≠ (.slice Ao5 x3_1.length co5 : Value).ownBlock) (fun _ => False) rfl rfl ?aP (fun _ hk => hk.elim) ?aF ?aO ?aB ?aS ?aL ?_; (case aP => exact rfl); (case aB => exact (by repeat (first | (with_reducible first | exact HB.out | apply below_alloc | apply pw_below_drewN | apply below_drew1) | exact HB.out))); (case aF => exact (fun k_ hk => Kd.fresh' (Kd.R_lt (by (with_reducible repeat (first | apply Kd.R_alloc | apply Kd.R_drewN | apply Kd.R_drew)); exact HO_3.out)) k_ hk)); (case aO => exact (by (with_reducible repeat (first | apply Kd.R_alloc | apply Kd.R_drewN | apply Kd.R_drew)); exact HO_5.out)); (case aS => exact (below_size (by repeat (first | (with_reducible first | exact HB.out | apply below_alloc | apply pw_below_drewN | apply below_drew1) | exact HB.out)))); (case aL => have := LMc13.out; omega); intro v175 w17 ho hb hg hat; rw [← Ny174.out] at ho; have n0_ := Aside0.mk (Kd.R_after (ok := (fun _ => True)) (by (with_reducible repeat (first | apply Kd.R_alloc | apply Kd.R_drewN | apply Kd.R_drew)); exact Kd.R_mono HO_3.out (fun _ hk => ⟨trivial, hk⟩)) hg hat); have n1_ := Aside0.mk (hb); have n2_ := Aside0.mk (ho); clear HO_3; clear HB; clear HO_5; have HO_3 := n0_; have HB := n1_; have HO176 := n2_; clear n0_ n1_ n2_; clear ho hb hg hat; have p177 : 0 ≤ (x7_2 : Int) := of_decide_eq_true (by first | (with_reducible assumption) | assumption); have q177 : x7_2 < (x3_1.length : Int) := of_decide_eq_true (by first | (with_reducible assumption) | assumption); obtain ⟨ad177, e177, hx177_0⟩ := Kd.at_int (Kd.R_reads' HO_3.out).2.2 x7_2 p177 q177; cases e177; replace p177 := eq_true p177; replace q177 := eq_true q177; have p178 : 0 ≤ (x4_1 : Int) := of_decide_eq_true (by first | (with_reducible assumption) | assumption); have q178 : x4_1 < (l0.length : Int) := of_decide_eq_true (by first | (with_reducible assumption) | assumption); obtain ⟨ad178, e178, hx178_0, hx178_1, hx178_2⟩ := at_T74 HR0.out x4_1 p178 q178; obtain rfl : ad173 = ad178 := (by injection e178); replace hx178_0 := (HB.out.cell (World.block_lt_of_cell? w _ hx178_0)).trans hx178_0; replace hx178_1 := (HB.out.cell (World.block_lt_of_cell? w _ hx178_1)).trans hx178_1; replace hx178_2 := (HB.out.cell (World.block_lt_of_cell? w _ hx178_2)).trans hx178_2; replace p178 := eq_true p178; replace q178 := eq_true q178)); try go_wp2_with (first | ((with_reducible refine gate_builtin (b := .append) (xs := #[.tmp 34, .tmp 40]) rfl ?_); at_builtin; refine Kd.R_append (Kd.int .i64) (w0 := w) w.heap.size rfl (.tmp 34) (.tmp 40) 51 3 (.int .i64 0) 8 rfl Try.underlying51 info3 rfl (by decide) (by omega) u5 x5_2 ((rd_T74 l0 x4_1).f2) [.int .i64 ((rd_T74 l0 x4_1).f2)] (fun k_ => some k_ ≠ (.slice Ao5 x3_1.length co5 : Value).ownBlock) (fun _ => False) rfl rfl ?aP (fun _ hk => hk.elim) ?aF ?aO ?aB ?aS ?aL ?_; (case aP => exact rfl); (case aB => exact (by repeat (first | (with_reducible first | exact HB.out | apply below_alloc | apply pw_below_drewN | apply below_drew1) | exact HB.out))); (case aF => exact (fun k_ hk => Kd.fresh' (Kd.R_lt (by (with_reducible repeat (first | apply Kd.R_alloc | apply Kd.R_drewN | apply Kd.R_drew)); exact HO_3.out)) k_ hk)); (case aO => exact (by (with_reducible repeat (first | apply Kd.R_alloc | apply Kd.R_drewN | apply Kd.R_drew)); exact HO_5.out)); (case aS => exact (below_size (by repeat (first | (with_reducible first | exact HB.out | apply below_alloc | apply pw_below_drewN | apply below_drew1) | exact HB.out)))); (case aL => have := LMc13.out; omega); intro v175 w17 ho hb hg hat; rw [← Ny174.out] at ho; have n0_ := Aside0.mk (Kd.R_after (ok := (fun _ => True)) (by (with_reducible repeat (first | apply Kd.R_alloc | apply Kd.R_drewN | apply Kd.R_drew)); exact Kd.R_mono HO_3.out (fun _ hk => ⟨trivial, hk⟩)) hg hat); have n1_ := Aside0.mk (hb); have n2_ := Aside0.mk (ho); clear HO_3; clear HB; clear HO_5; have HO_3 := n0_; have HB := n1_; have HO176 := n2_; clear n0_ n1_ n2_; clear ho hb hg hat; have p177 : 0 ≤ (x7_2 : Int) := of_decide_eq_true (by first | (with_reducible assumption) | assumption); have q177 : x7_2 < (x3_1.length : Int) := of_decide_eq_true (by first | (with_reducible assumption) | assumption); obtain ⟨ad177, e177, hx177_0⟩ := Kd.at_int (Kd.R_reads' HO_3.out).2.2 x7_2 p177 q177; cases e177; replace p177 := eq_true p177; replace q177 := eq_true q177; have p178 : 0 ≤ (x4_1 : Int) := of_decide_eq_true (by first | (with_reducible assumption) | assumption); have q178 : x4_1 < (l0.length : Int) := of_decide_eq_true (by first | (with_reducible assumption) | assumption); obtain ⟨ad178, e178, hx178_0, hx178_1, hx178_2⟩ := at_T74 HR0.out x4_1 p178 q178; obtain rfl : ad173 = ad178 := (by injection e178); replace hx178_0 := (HB.out.cell (World.block_lt_of_cell? w _ hx178_0)).trans hx178_0; replace hx178_1 := (HB.out.cell (World.block_lt_of_cell? w _ hx178_1)).trans hx178_1; replace hx178_2 := (HB.out.cell (World.block_lt_of_cell? w _ hx178_2)).trans hx178_2; replace p178 := eq_true p178; replace q178 := eq_true q178)))
                                go_roundg kj3
                                case measure => have := HK1.out; have := HK2.out; have := HJ3.out; omega
                                case rel => exact ⟨(y174), (true), (wrap64 (x7_2 + 1)), (by first | rfl | (simp; done) | (simp [*]; done)), (by first | rfl | (simp; done) | (simp [*]; done)), H', ⟨by have := HK1.out; have := HK2.out; have := HJ3.out; omega⟩, ⟨by (with_reducible repeat (first | apply Kd.R_alloc | apply Kd.R_drewN | apply Kd.R_drew)); exact Kd.R_mono HO_3.out (fun _ hk => hk.2)⟩, ⟨by (with_reducible repeat (first | apply Kd.R_alloc | apply Kd.R_drewN | apply Kd.R_drew)); exact HO176.out⟩, ⟨by repeat (first | (with_reducible first | exact HB.out | apply below_alloc | apply pw_below_drewN | apply below_drew1) | exact HB.out)⟩⟩
                              · rw [if_neg c16] at H
                                have c16b0 : ((rd x3_1 x7_2) == ((rd_T74 l0 x4_1).f2)) = false := beq_eq_false_iff_ne.mpr c16
                                have c16b1 : ((rd x3_1 x7_2) != ((rd_T74 l0 x4_1).f2)) = true := bne_iff_ne.mpr c16
                                by_cases c18 : y174.length < 17592186044416
                                · rw [if_pos c18] at H
                                  have LMc18 := Aside0.mk c18
                                  clear c18
                                  obtain ⟨y180, hy180⟩ : ∃ y_ : List Int, y_ = (y174 ++ [rd x3_1 x7_2]) := ⟨_, rfl⟩
                                  replace H : (heliastref13_Places.l1 kj3 l0 x3_1 x4_1 y180 true (wrap64 (x7_2 + 1))) = some r := by first | (rw [hy180]; with_reducible exact H) | (have H2_ := (Option.bind_some _ _).symm.trans H; rw [hy180]; with_reducible exact H2_) | (have H2_ := (Option.bind_some _ _).symm.trans H; with_reducible exact H2_) | with_reducible exact H | (rw [hy180]; exact H) | exact H
                                  have Ny180 := Aside0.mk hy180
                                  clear hy180
                                  have H' := Aside0.mk H
                                  clear H
                                  have p173 : 0 ≤ (x4_1 : Int) := of_decide_eq_true (by first | (with_reducible assumption) | assumption)
                                  have q173 : x4_1 < (l0.length : Int) := of_decide_eq_true (by first | (with_reducible assumption) | assumption)
                                  obtain ⟨ad173, e173, hx173_0, hx173_1, hx173_2⟩ := at_T74 HR0.out x4_1 p173 q173
                                  cases e173
                                  replace hx173_0 := (HB.out.cell (World.block_lt_of_cell? w _ hx173_0)).trans hx173_0
                                  replace hx173_1 := (HB.out.cell (World.block_lt_of_cell? w _ hx173_1)).trans hx173_1
                                  replace hx173_2 := (HB.out.cell (World.block_lt_of_cell? w _ hx173_2)).trans hx173_2
                                  replace p173 := eq_true p173
                                  replace q173 := eq_true q173
                                  go_wp2_with (first | ((with_reducible refine gate_builtin (b := .append) (xs := #[.tmp 34, .tmp 40]) rfl ?_); at_builtin; refine Kd.R_append (Kd.int .i64) (w0 := w) w.heap.size rfl (.tmp 34) (.tmp 40) 51 3 (.int .i64 0) 8 rfl Try.underlying51 info3 rfl (by decide) (by omega) u5 x5_2 ((rd_T74 l0 x4_1).f2) [.int .i64 ((rd_T74 l0 x4_1).f2)] (fun k_ => some k_ ≠ (.slice Ao5 x3_1.length co5 : Value).ownBlock) (fun _ => False) rfl rfl ?aP (fun _ hk => hk.elim) ?aF ?aO ?aB ?aS ?aL ?_; (case aP => exact rfl); (case aB => exact (by repeat (first | (with_reducible first | exact HB.out | apply below_alloc | apply pw_below_drewN | apply below_drew1) | exact HB.out))); (case aF => exact (fun k_ hk => Kd.fresh' (Kd.R_lt (by (with_reducible repeat (first | apply Kd.R_alloc | apply Kd.R_drewN | apply Kd.R_drew)); exact HO_3.out)) k_ hk)); (case aO => exact (by (with_reducible repeat (first | apply Kd.R_alloc | apply Kd.R_drewN | apply Kd.R_drew)); exact HO_5.out)); (case aS => exact (below_size (by repeat (first | (with_reducible first | exact HB.out | apply below_alloc | apply pw_below_drewN | apply below_drew1) | exact HB.out)))); (case aL => have := LMc13.out; omega); intro v175 w19 ho hb hg hat; rw [← Ny174.out] at ho; have n0_ := Aside0.mk (Kd.R_after (ok := (fun _ => True)) (by (with_reducible repeat (first | apply Kd.R_alloc | apply Kd.R_drewN | apply Kd.R_drew)); exact Kd.R_mono HO_3.out (fun _ hk => ⟨trivial, hk⟩)) hg hat); have n1_ := Aside0.mk (hb); have n2_ := Aside0.mk (ho); clear HO_3; clear HB; clear HO_5; have HO_3 := n0_; have HB := n1_; have HO176 := n2_; clear n0_ n1_ n2_; clear ho hb hg hat; have p177 : 0 ≤ (x7_2 : Int) := of_decide_eq_true (by first | (with_reducible assumption) | assumption); have q177 : x7_2 < (x3_1.length : Int) := of_decide_eq_true (by first | (with_reducible assumption) | assumption); obtain ⟨ad177, e177, hx177_0⟩ := Kd.at_int (Kd.R_reads' HO_3.out).2.2 x7_2 p177 q177; cases e177; replace p177 := eq_true p177; replace q177 := eq_true q177; have p178 : 0 ≤ (x4_1 : Int) := of_decide_eq_true (by first | (with_reducible assumption) | assumption); have q178 : x4_1 < (l0.length : Int) := of_decide_eq_true (by first | (with_reducible assumption) | assumption); obtain ⟨ad178, e178, hx178_0, hx178_1, hx178_2⟩ := at_T74 HR0.out x4_1 p178 q178; obtain rfl : ad173 = ad178 := (by injection e178); replace hx178_0 := (HB.out.cell (World.block_lt_of_cell? w _ hx178_0)).trans hx178_0; replace hx178_1 := (HB.out.cell (World.block_lt_of_cell? w _ hx178_1)).trans hx178_1; replace hx178_2 := (HB.out.cell (World.block_lt_of_cell? w _ hx178_2)).trans hx178_2; replace p178 := eq_true p178; replace q178 := eq_true q178; have p179 : 0 ≤ (x7_2 : Int) := of_decide_eq_true (by first | (with_reducible assumption) | assumption); have q179 : x7_2 < (x3_1.length : Int) := of_decide_eq_true (by first | (with_reducible assumption) | assumption); obtain ⟨ad179, e179, hx179_0⟩ := Kd.at_int (Kd.R_reads' HO_3.out).2.2 x7_2 p179 q179; obtain rfl : ad177 = ad179 := (by injection e179); replace p179 := eq_true p179; replace q179 := eq_true q179) | ((with_reducible refine gate_builtin (b := .append) (xs := #[.tmp 52, .tmp 57]) rfl ?_); at_builtin; refine Kd.R_append (Kd.int .i64) (w0 := w) w.heap.size rfl (.tmp 52) (.tmp 57) 51 3 (.int .i64 0) 8 rfl Try.underlying51 info3 rfl (by decide) (by omega) v175 y174 (rd x3_1 x7_2) [.int .i64 (rd x3_1 x7_2)] (fun k_ => some k_ ≠ (.slice (some ad177) x3_1.length co5 : Value).ownBlock) (fun _ => False) rfl rfl ?aP (fun _ hk => hk.elim) ?aF ?aO ?aB ?aS ?aL ?_; (case aP => exact rfl); (case aB => exact (by repeat (first | (with_reducible first | exact HB.out | apply below_alloc | apply pw_below_drewN | apply below_drew1) | exact HB.out))); (case aF => exact (fun k_ hk => Kd.fresh' (Kd.R_lt (by (with_reducible repeat (first | apply Kd.R_alloc | apply Kd.R_drewN | apply Kd.R_drew)); exact HO_3.out)) k_ hk)); (case aO => exact (by (with_reducible repeat (first | apply Kd.R_alloc | apply Kd.R_drewN | apply Kd.R_drew)); exact HO176.out)); (case aS => exact (below_size (by repeat (first | (with_reducible first | exact HB.out | apply below_alloc | apply pw_below_drewN | apply below_drew1) | exact HB.out)))); (case aL => have := LMc18.out; omega); intro v181 w20 ho hb hg hat; rw [← Ny180.out] at ho; have n0_ := Aside0.mk (Kd.R_after (ok := (fun _ => True)) (by (with_reducible repeat (first | apply Kd.R_alloc | apply Kd.R_drewN | apply Kd.R_drew)); exact HO_3.out) hg hat); have n1_ := Aside0.mk (hb); have n2_ := Aside0.mk (ho); clear HO_3; clear HB; clear HO176; have HO_3 := n0_; have HB := n1_; have HO182 := n2_; clear n0_ n1_ n2_; clear ho hb hg hat))
                                  repeat (go_quiet (first | ((with_reducible refine gate_builtin (b := .append) (xs := #[.tmp 34, .tmp 40]) rfl ?_); at_builtin; refine Kd.R_append (Kd.int .i64) (w0 := w) w.heap.size rfl (.tmp 34) (.tmp 40) 51 3 (.int .i64 0) 8 rfl Try.underlying51 info3 rfl (by decide) (by omega) u5 x5_2 ((rd_T74 l0 x4_1).f2) [.int .i64 ((rd_T74 l0 x4_1).f2)] (fun k_ => some k_ ≠ (.slice Ao5 x3_1.length co5 : Value).ownBlock) (fun _ => False) rfl rfl ?aP (fun _ hk => hk.elim) ?aF ?aO ?aB ?aS ?aL ?_; (case aP => exact rfl); (case aB => exact (by repeat (first | (with_reducible first | exact HB.out | apply below_alloc | apply pw_below_drewN | apply below_drew1) | exact HB.out))); (case aF => exact (fun k_ hk => Kd.fresh' (Kd.R_lt (by (with_reducible repeat (first | apply Kd.R_alloc | apply Kd.R_drewN | apply Kd.R_drew)); exact HO_3.out)) k_ hk)); (case aO => exact (by (with_reducible repeat (first | apply Kd.R_alloc | apply Kd.R_drewN | apply Kd.R_drew)); exact HO_5.out)); (case aS => exact (below_size (by repeat (first | (with_reducible first | exact HB.out | apply below_alloc | apply pw_below_drewN | apply below_drew1) | exact HB.out)))); (case aL => have := LMc13.out; omega); intro v175 w19 ho hb hg hat; rw [← Ny174.out] at ho; have n0_ := Aside0.mk (Kd.R_after (ok := (fun _ => True)) (by (with_reducible repeat (first | apply Kd.R_alloc | apply Kd.R_drewN | apply Kd.R_drew)); exact Kd.R_mono HO_3.out (fun _ hk => ⟨trivial, hk⟩)) hg hat); have n1_ := Aside0.mk (hb); have n2_ := Aside0.mk (ho); clear HO_3; clear HB; clear HO_5; have HO_3 := n0_; have HB := n1_; have HO176 := n2_; clear n0_ n1_ n2_; clear ho hb hg hat; have p177 : 0 ≤ (x7_2 : Int) := of_decide_eq_true (by first | (with_reducible assumption) | assumption); have q177 : x7_2 < (x3_1.length : Int) := of_decide_eq_true (by first | (with_reducible assumption) | assumption); obtain ⟨ad177, e177, hx177_0⟩ := Kd.at_int (Kd.R_reads' HO_3.out).2.2 x7_2 p177 q177; cases e177; replace p177 := eq_true p177; replace q177 := eq_true q177; have p178 : 0 ≤ (x4_1 : Int) := of_decide_eq_true (by first | (with_reducible assumption) | assumption); have q178 : x4_1 < (l0.length : Int) := of_decide_eq_true (by first | (with_reducible assumption) | assumption); obtain ⟨ad178, e178, hx178_0, hx178_1, hx178_2⟩ := at_T74 HR0.out x4_1 p178 q178; obtain rfl : ad173 = ad178 := (by injection e178); replace hx178_0 := (HB.out.cell (World.block_lt_of_cell? w _ hx178_0)).trans hx178_0; replace hx178_1 := (HB.out.cell (World.block_lt_of_cell? w _ hx178_1)).trans hx178_1; replace hx178_2 := (HB.out.cell (World.block_lt_of_cell? w _ hx178_2)).trans hx178_2; replace p178 := eq_true p178; replace q178 := eq_true q178; have p179 : 0 ≤ (x7_2 : Int) := of_decide_eq_true (by first | (with_reducible assumption) | assumption); have q179 : x7_2 < (x3_1.length : Int) := of_decide_eq_true (by first | (with_reducible assumption) | assumption); obtain ⟨ad179, e179, hx179_0⟩ := Kd.at_int (Kd.R_reads' HO_3.out).2.2 x7_2 p179 q179; obtain rfl : ad177 = ad179 := (by injection e179); replace p179 := eq_true p179; replace q179 := eq_true q179) | ((with_reducible refine gate_builtin (b := .append) (xs := #[.tmp 52, .tmp 57]) rfl ?_); at_builtin; refine Kd.R_append (Kd.int .i64) (w0 := w) w.heap.size rfl (.tmp 52) (.tmp 57) 51 3 (.int .i64 0) 8 rfl Try.underlying51 info3 rfl (by decide) (by omega) v175 y174 (rd x3_1 x7_2) [.int .i64 (rd x3_1 x7_2)] (fun k_ => some k_ ≠ (.slice (some ad177) x3_1.length co5 : Value).ownBlock) (fun _ => False) rfl rfl ?aP (fun _ hk => hk.elim) ?aF ?aO ?aB ?aS ?aL ?_; (case aP => exact rfl); (case aB => exact (by repeat (first | (with_reducible first | exact HB.out | apply below_alloc | apply pw_below_drewN | apply below_drew1) | exact HB.out))); (case aF => exact (fun k_ hk => Kd.fresh' (Kd.R_lt (by (with_reducible repeat (first | apply Kd.R_alloc | apply Kd.R_drewN | apply Kd.R_drew)); exact HO_3.out)) k_ hk)); (case aO => exact (by (with_reducible repeat (first | apply Kd.R_alloc | apply Kd.R_drewN | apply Kd.R_drew)); exact HO176.out)); (case aS => exact (below_size (by repeat (first | (with_reducible first | exact HB.out | apply below_alloc | apply pw_below_drewN | apply below_drew1) | exact HB.out)))); (case aL => have := LMc18.out; omega); intro v181 w20 ho hb hg hat; rw [← Ny180.out] at ho; have n0_ := Aside0.mk (Kd.R_after (ok := (fun _ => True)) (by (with_reducible repeat (first | apply Kd.R_alloc | apply Kd.R_drewN | apply Kd.R_drew)); exact HO_3.out) hg hat); have n1_ := Aside0.mk (hb); have n2_ := Aside0.mk (ho); clear HO_3; clear HB; clear HO176; have HO_3 := n0_; have HB := n1_; have HO182 := n2_; clear n0_ n1_ n2_; clear ho hb hg hat)); try go_wp2_with (first | ((with_reducible refine gate_builtin (b := .append) (xs := #[.tmp 34, .tmp 40]) rfl ?_); at_builtin; refine Kd.R_append (Kd.int .i64) (w0 := w) w.heap.size rfl (.tmp 34) (.tmp 40) 51 3 (.int .i64 0) 8 rfl Try.underlying51 info3 rfl (by decide) (by omega) u5 x5_2 ((rd_T74 l0 x4_1).f2) [.int .i64 ((rd_T74 l0 x4_1).f2)] (fun k_ => some k_ ≠ (.slice Ao5 x3_1.length co5 : Value).ownBlock) (fun _ => False) rfl rfl ?aP (fun _ hk => hk.elim) ?aF ?aO ?aB ?aS ?aL ?_; (case aP => exact rfl); (case aB => exact (by repeat (first | (with_reducible first | exact HB.out | apply below_alloc | apply pw_below_drewN | apply below_drew1) | exact HB.out))); (case aF => exact (fun k_ hk => Kd.fresh' (Kd.R_lt (by (with_reducible repeat (first | apply Kd.R_alloc | apply Kd.R_drewN | apply Kd.R_drew)); exact HO_3.out)) k_ hk)); (case aO => exact (by (with_reducible repeat (first | apply Kd.R_alloc | apply Kd.R_drewN | apply Kd.R_drew)); exact HO_5.out)); (case aS => exact (below_size (by repeat (first | (with_reducible first | exact HB.out | apply below_alloc | apply pw_below_drewN | apply below_drew1) | exact HB.out)))); (case aL => have := LMc13.out; omega); intro v175 w19 ho hb hg hat; rw [← Ny174.out] at ho; have n0_ := Aside0.mk (Kd.R_after (ok := (fun _ => True)) (by (with_reducible repeat (first | apply Kd.R_alloc | apply Kd.R_drewN | apply Kd.R_drew)); exact Kd.R_mono HO_3.out (fun _ hk => ⟨trivial, hk⟩)) hg hat); have n1_ := Aside0.mk (hb); have n2_ := Aside0.mk (ho); clear HO_3; clear HB; clear HO_5; have HO_3 := n0_; have HB := n1_; have HO176 := n2_; clear n0_ n1_ n2_; clear ho hb hg hat; have p177 : 0 ≤ (x7_2 : Int) := of_decide_eq_true (by first | (with_reducible assumption) | assumption); have q177 : x7_2 < (x3_1.length : Int) := of_decide_eq_true (by first | (with_reducible assumption) | assumption); obtain ⟨ad177, e177, hx177_0⟩ := Kd.at_int (Kd.R_reads' HO_3.out).2.2 x7_2 p177 q177; cases e177; replace p177 := eq_true p177; replace q177 := eq_true q177; have p178 : 0 ≤ (x4_1 : Int) := of_decide_eq_true (by first | (with_reducible assumption) | assumption); have q178 : x4_1 < (l0.length : Int) := of_decide_eq_true (by first | (with_reducible assumption) | assumption); obtain ⟨ad178, e178, hx178_0, hx178_1, hx178_2⟩ := at_T74 HR0.out x4_1 p178 q178; obtain rfl : ad173 = ad178 := (by injection e178); replace hx178_0 := (HB.out.cell (World.block_lt_of_cell? w _ hx178_0)).trans hx178_0; replace hx178_1 := (HB.out.cell (World.block_lt_of_cell? w _ hx178_1)).trans hx178_1; replace hx178_2 := (HB.out.cell (World.block_lt_of_cell? w _ hx178_2)).trans hx178_2; replace p178 := eq_true p178; replace q178 := eq_true q178; have p179 : 0 ≤ (x7_2 : Int) := of_decide_eq_true (by first | (with_reducible assumption) | assumption); have q179 : x7_2 < (x3_1.length : Int) := of_decide_eq_true (by first | (with_reducible assumption) | assumption); obtain ⟨ad179, e179, hx179_0⟩ := Kd.at_int (Kd.R_reads' HO_3.out).2.2 x7_2 p179 q179; obtain rfl : ad177 = ad179 := (by injection e179); replace p179 := eq_true p179; replace q179 := eq_true q179) | ((with_reducible refine gate_builtin (b := .append) (xs := #[.tmp 52, .tmp 57]) rfl ?_); at_builtin; refine Kd.R_append (Kd.int .i64) (w0 := w) w.heap.size rfl (.tmp 52) (.tmp 57) 51 3 (.int .i64 0) 8 rfl Try.underlying51 info3 rfl (by decide) (by omega) v175 y174 (rd x3_1 x7_2) [.int .i64 (rd x3_1 x7_2)] (fun k_ => some k_ ≠ (.slice (some ad177) x3_1.length co5 : Value).ownBlock) (fun _ => False) rfl rfl ?aP (fun _ hk => hk.elim) ?aF ?aO ?aB ?aS ?aL ?_; (case aP => exact rfl); (case aB => exact (by repeat (first | (with_reducible first | exact HB.out | apply below_alloc | apply pw_below_drewN | apply below_drew1) | exact HB.out))); (case aF => exact (fun k_ hk => Kd.fresh' (Kd.R_lt (by (with_reducible repeat (first | apply Kd.R_alloc | apply Kd.R_drewN | apply Kd.R_drew)); exact HO_3.out)) k_ hk)); (case aO => exact (by (with_reducible repeat (first | apply Kd.R_alloc | apply Kd.R_drewN | apply Kd.R_drew)); exact HO176.out)); (case aS => exact (below_size (by repeat (first | (with_reducible first | exact HB.out | apply below_alloc | apply pw_below_drewN | apply below_drew1) | exact HB.out)))); (case aL => have := LMc18.out; omega); intro v181 w20 ho hb hg hat; rw [← Ny180.out] at ho; have n0_ := Aside0.mk (Kd.R_after (ok := (fun _ => True)) (by (with_reducible repeat (first | apply Kd.R_alloc | apply Kd.R_drewN | apply Kd.R_drew)); exact HO_3.out) hg hat); have n1_ := Aside0.mk (hb); have n2_ := Aside0.mk (ho); clear HO_3; clear HB; clear HO176; have HO_3 := n0_; have HB := n1_; have HO182 := n2_; clear n0_ n1_ n2_; clear ho hb hg hat)))
                                  go_roundg kj3
                                  case measure => have := HK1.out; have := HK2.out; have := HJ3.out; omega
                                  case rel => exact ⟨(y180), (true), (wrap64 (x7_2 + 1)), (by first | rfl | (simp; done) | (simp [*]; done)), (by first | rfl | (simp; done) | (simp [*]; done)), H', ⟨by have := HK1.out; have := HK2.out; have := HJ3.out; omega⟩, ⟨by (with_reducible repeat (first | apply Kd.R_alloc | apply Kd.R_drewN | apply Kd.R_drew)); exact Kd.R_mono HO_3.out (fun _ hk => hk.2)⟩, ⟨by (with_reducible repeat (first | apply Kd.R_alloc | apply Kd.R_drewN | apply Kd.R_drew)); exact HO182.out⟩, ⟨by repeat (first | (with_reducible first | exact HB.out | apply below_alloc | apply pw_below_drewN | apply below_drew1) | exact HB.out)⟩⟩
                                · rw [if_neg c18] at H
                                  exact absurd H (by simp)
                            · rw [if_neg c15] at H
                              exact absurd H (by simp)
                          · rw [if_neg c14] at H
                            exact absurd H (by simp)
                        · rw [if_neg c13] at H
                          exact absurd H (by simp)
                      · rw [if_neg c12] at H
                        exact absurd H (by simp)
                    · rw [if_neg c11] at H
                      exact absurd H (by simp)
                  · replace c10 := Bool.eq_false_iff.mpr c10
                    subst c10
                    have H1 : (if 0 ≤ x7_2 then (if x7_2 < (x3_1.length : Int) then (if 0 ≤ x4_1 then (if x4_1 < (l0.length : Int) then (if (rd x3_1 x7_2) = ((rd_T74 l0 x4_1).f2) then (heliastref13_Places.l1 kj3 l0 x3_1 x4_1 x5_2 x6_2 (wrap64 (x7_2 + 1))) else (if x5_2.length < 17592186044416 then (heliastref13_Places.l1 kj3 l0 x3_1 x4_1 (x5_2 ++ [rd x3_1 x7_2]) x6_2 (wrap64 (x7_2 + 1))) else (none))) else (none)) else (none)) else (none)) else (none)) = some r := by rw [if_neg (show ¬ (false = true) by decide)] at H; exact H
                    clear H
                    have H := H1
                    clear H1
                    by_cases c21 : 0 ≤ x7_2
                    · rw [if_pos c21] at H
                      have c21b0 : decide (0 ≤ x7_2) = true := decide_eq_true c21
                      clear c21
                      by_cases c22 : x7_2 < (x3_1.length : Int)
                      · rw [if_pos c22] at H
                        have c22b0 : decide (x7_2 < (x3_1.length : Int)) = true := decide_eq_true c22
                        clear c22
                        by_cases c23 : 0 ≤ x4_1
                        · rw [if_pos c23] at H
                          have c23b0 : decide (0 ≤ x4_1) = true := decide_eq_true c23
                          clear c23
                          by_cases c24 : x4_1 < (l0.length : Int)
                          · rw [if_pos c24] at H
                            have c24b0 : decide (x4_1 < (l0.length : Int)) = true := decide_eq_true c24
                            clear c24
                            by_cases c25 : (rd x3_1 x7_2) = ((rd_T74 l0 x4_1).f2)
                            · rw [if_pos c25] at H
                              have c25b0 : ((rd x3_1 x7_2) == ((rd_T74 l0 x4_1).f2)) = true := beq_iff_eq.mpr c25
                              have c25b1 : ((rd x3_1 x7_2) != ((rd_T74 l0 x4_1).f2)) = false := bne_eq_false_iff_eq.mpr c25
                              clear c25
                              have H' := Aside0.mk H
                              clear H
                              have p183 : 0 ≤ (x7_2 : Int) := of_decide_eq_true (by first | (with_reducible assumption) | assumption)
                              have q183 : x7_2 < (x3_1.length : Int) := of_decide_eq_true (by first | (with_reducible assumption) | assumption)
                              obtain ⟨ad183, e183, hx183_0⟩ := Kd.at_int (Kd.R_reads' HO_3.out).2.2 x7_2 p183 q183
                              cases e183
                              replace p183 := eq_true p183
                              replace q183 := eq_true q183
                              have p184 : 0 ≤ (x4_1 : Int) := of_decide_eq_true (by first | (with_reducible assumption) | assumption)
                              have q184 : x4_1 < (l0.length : Int) := of_decide_eq_true (by first | (with_reducible assumption) | assumption)
                              obtain ⟨ad184, e184, hx184_0, hx184_1, hx184_2⟩ := at_T74 HR0.out x4_1 p184 q184
                              cases e184
                              replace hx184_0 := (HB.out.cell (World.block_lt_of_cell? w _ hx184_0)).trans hx184_0
                              replace hx184_1 := (HB.out.cell (World.block_lt_of_cell? w _ hx184_1)).trans hx184_1
                              replace hx184_2 := (HB.out.cell (World.block_lt_of_cell? w _ hx184_2)).trans hx184_2
                              replace p184 := eq_true p184
                              replace q184 := eq_true q184
                              go_wp2
                              repeat (go_quiet (fail); try go_wp2)
                              go_roundg kj3
                              case measure => have := HK1.out; have := HK2.out; have := HJ3.out; omega
                              case rel => exact ⟨(x5_2), (x6_2), (wrap64 (x7_2 + 1)), (by first | rfl | (simp; done) | (simp [*]; done)), (by first | rfl | (simp; done) | (simp [*]; done)), H', ⟨by have := HK1.out; have := HK2.out; have := HJ3.out; omega⟩, ⟨by (with_reducible repeat (first | apply Kd.R_alloc | apply Kd.R_drewN | apply Kd.R_drew)); exact HO_3.out⟩, ⟨by (with_reducible repeat (first | apply Kd.R_alloc | apply Kd.R_drewN | apply Kd.R_drew)); exact HO_5.out⟩, ⟨by repeat (first | (with_reducible first | exact HB.out | apply below_alloc | apply pw_below_drewN | apply below_drew1) | exact HB.out)⟩⟩
                            · rw [if_neg c25] at H
                              have c25b0 : ((rd x3_1 x7_2) == ((rd_T74 l0 x4_1).f2)) = false := beq_eq_false_iff_ne.mpr c25
                              have c25b1 : ((rd x3_1 x7_2) != ((rd_T74 l0 x4_1).f2)) = true := bne_iff_ne.mpr c25
                              by_cases c26 : x5_2.length < 17592186044416
                              · rw [if_pos c26] at H
                                have LMc26 := Aside0.mk c26
                                clear c26
                                obtain ⟨y186, hy186⟩ : ∃ y_ : List Int, y_ = (x5_2 ++ [rd x3_1 x7_2]) := ⟨_, rfl⟩
                                replace H : (heliastref13_Places.l1 kj3 l0 x3_1 x4_1 y186 x6_2 (wrap64 (x7_2 + 1))) = some r := by first | (rw [hy186]; with_reducible exact H) | (have H2_ := (Option.bind_some _ _).symm.trans H; rw [hy186]; with_reducible exact H2_) | (have H2_ := (Option.bind_some _ _).symm.trans H; with_reducible exact H2_) | with_reducible exact H | (rw [hy186]; exact H) | exact H
                                have Ny186 := Aside0.mk hy186
                                clear hy186
                                have H' := Aside0.mk H
                                clear H
                                have p183 : 0 ≤ (x7_2 : Int) := of_decide_eq_true (by first | (with_reducible assumption) | assumption)
                                have q183 : x7_2 < (x3_1.length : Int) := of_decide_eq_true (by first | (with_reducible assumption) | assumption)
                                obtain ⟨ad183, e183, hx183_0⟩ := Kd.at_int (Kd.R_reads' HO_3.out).2.2 x7_2 p183 q183
                                cases e183
                                replace p183 := eq_true p183
                                replace q183 := eq_true q183
                                have p184 : 0 ≤ (x4_1 : Int) := of_decide_eq_true (by first | (with_reducible assumption) | assumption)
                                have q184 : x4_1 < (l0.length : Int) := of_decide_eq_true (by first | (with_reducible assumption) | assumption)
                                obtain ⟨ad184, e184, hx184_0, hx184_1, hx184_2⟩ := at_T74 HR0.out x4_1 p184 q184
                                cases e184
                                replace hx184_0 := (HB.out.cell (World.block_lt_of_cell? w _ hx184_0)).trans hx184_0
                                replace hx184_1 := (HB.out.cell (World.block_lt_of_cell? w _ hx184_1)).trans hx184_1
                                replace hx184_2 := (HB.out.cell (World.block_lt_of_cell? w _ hx184_2)).trans hx184_2
                                replace p184 := eq_true p184
                                replace q184 := eq_true q184
                                have p185 : 0 ≤ (x7_2 : Int) := of_decide_eq_true (by first | (with_reducible assumption) | assumption)
                                have q185 : x7_2 < (x3_1.length : Int) := of_decide_eq_true (by first | (with_reducible assumption) | assumption)
                                obtain ⟨ad185, e185, hx185_0⟩ := Kd.at_int (Kd.R_reads' HO_3.out).2.2 x7_2 p185 q185
                                obtain rfl : ad183 = ad185 := (by injection e185)
                                replace p185 := eq_true p185
                                replace q185 := eq_true q185
                                go_wp2_with (first | ((with_reducible refine gate_builtin (b := .append) (xs := #[.tmp 52, .tmp 57]) rfl ?_); at_builtin; refine Kd.R_append (Kd.int .i64) (w0 := w) w.heap.size rfl (.tmp 52) (.tmp 57) 51 3 (.int .i64 0) 8 rfl Try.underlying51 info3 rfl (by decide) (by omega) u5 x5_2 (rd x3_1 x7_2) [.int .i64 (rd x3_1 x7_2)] (fun k_ => some k_ ≠ (.slice (some ad183) x3_1.length co5 : Value).ownBlock) (fun _ => False) rfl rfl ?aP (fun _ hk => hk.elim) ?aF ?aO ?aB ?aS ?aL ?_; (case aP => exact rfl); (case aB => exact (by repeat (first | (with_reducible first | exact HB.out | apply below_alloc | apply pw_below_drewN | apply below_drew1) | exact HB.out))); (case aF => exact (fun k_ hk => Kd.fresh' (Kd.R_lt (by (with_reducible repeat (first | apply Kd.R_alloc | apply Kd.R_drewN | apply Kd.R_drew)); exact HO_3.out)) k_ hk)); (case aO => exact (by (with_reducible repeat (first | apply Kd.R_alloc | apply Kd.R_drewN | apply Kd.R_drew)); exact HO_5.out)); (case aS => exact (below_size (by repeat (first | (with_reducible first | exact HB.out | apply below_alloc | apply pw_below_drewN | apply below_drew1) | exact HB.out)))); (case aL => have := LMc26.out; omega); intro v187 w27 ho hb hg hat; rw [← Ny186.out] at ho; have n0_ := Aside0.mk (Kd.R_after (ok := (fun _ => True)) (by (with_reducible repeat (first | apply Kd.R_alloc | apply Kd.R_drewN | apply Kd.R_drew)); exact Kd.R_mono HO_3.out (fun _ hk => ⟨trivial, hk⟩)) hg hat); have n1_ := Aside0.mk (hb); have n2_ := Aside0.mk (ho); clear HO_3; clear HB; clear HO_5; have HO_3 := n0_; have HB := n1_; have HO188 := n2_; clear n0_ n1_ n2_; clear ho hb hg hat))
                                repeat (go_quiet (first | ((with_reducible refine gate_builtin (b := .append) (xs := #[.tmp 52, .tmp 57]) rfl ?_); at_builtin; refine Kd.R_append (Kd.int .i64) (w0 := w) w.heap.size rfl (.tmp 52) (.tmp 57) 51 3 (.int .i64 0) 8 rfl Try.underlying51 info3 rfl (by decide) (by omega) u5 x5_2 (rd x3_1 x7_2) [.int .i64 (rd x3_1 x7_2)] (fun k_ => some k_ ≠ (.slice (some ad183) x3_1.length co5 : Value).ownBlock) (fun _ => False) rfl rfl ?aP (fun _ hk => hk.elim) ?aF ?aO ?aB ?aS ?aL ?_; (case aP => exact rfl); (case aB => exact (by repeat (first | (with_reducible first | exact HB.out | apply below_alloc | apply pw_below_drewN | apply below_drew1) | exact HB.out))); (case aF => exact (fun k_ hk => Kd.fresh' (Kd.R_lt (by (with_reducible repeat (first | apply Kd.R_alloc | apply Kd.R_drewN | apply Kd.R_drew)); exact HO_3.out)) k_ hk)); (case aO => exact (by (with_reducible repeat (first | apply Kd.R_alloc | apply Kd.R_drewN | apply Kd.R_drew)); exact HO_5.out)); (case aS => exact (below_size (by repeat (first | (with_reducible first | exact HB.out | apply below_alloc | apply pw_below_drewN | apply below_drew1) | exact HB.out)))); (case aL => have := LMc26.out; omega); intro v187 w27 ho hb hg hat; rw [← Ny186.out] at ho; have n0_ := Aside0.mk (Kd.R_after (ok := (fun _ => True)) (by (with_reducible repeat (first | apply Kd.R_alloc | apply Kd.R_drewN | apply Kd.R_drew)); exact Kd.R_mono HO_3.out (fun _ hk => ⟨trivial, hk⟩)) hg hat); have n1_ := Aside0.mk (hb); have n2_ := Aside0.mk (ho); clear HO_3; clear HB; clear HO_5; have HO_3 := n0_; have HB := n1_; have HO188 := n2_; clear n0_ n1_ n2_; clear ho hb hg hat)); try go_wp2_with (first | ((with_reducible refine gate_builtin (b := .append) (xs := #[.tmp 52, .tmp 57]) rfl ?_); at_builtin; refine Kd.R_append (Kd.int .i64) (w0 := w) w.heap.size rfl (.tmp 52) (.tmp 57) 51 3 (.int .i64 0) 8 rfl Try.underlying51 info3 rfl (by decide) (by omega) u5 x5_2 (rd x3_1 x7_2) [.int .i64 (rd x3_1 x7_2)] (fun k_ => some k_ ≠ (.slice (some ad183) x3_1.length co5 : Value).ownBlock) (fun _ => False) rfl rfl ?aP (fun _ hk => hk.elim) ?aF ?aO ?aB ?aS ?aL ?_; (case aP => exact rfl); (case aB => exact (by repeat (first | (with_reducible first | exact HB.out | apply below_alloc | apply pw_below_drewN | apply below_drew1) | exact HB.out))); (case aF => exact (fun k_ hk => Kd.fresh' (Kd.R_lt (by (with_reducible repeat (first | apply Kd.R_alloc | apply Kd.R_drewN | apply Kd.R_drew)); exact HO_3.out)) k_ hk)); (case aO => exact (by (with_reducible repeat (first | apply Kd.R_alloc | apply Kd.R_drewN | apply Kd.R_drew)); exact HO_5.out)); (case aS => exact (below_size (by repeat (first | (with_reducible first | exact HB.out | apply below_alloc | apply pw_below_drewN | apply below_drew1) | exact HB.out)))); (case aL => have := LMc26.out; omega); intro v187 w27 ho hb hg hat; rw [← Ny186.out] at ho; have n0_ := Aside0.mk (Kd.R_after (ok := (fun _ => True)) (by (with_reducible repeat (first | apply Kd.R_alloc | apply Kd.R_drewN | apply Kd.R_drew)); exact Kd.R_mono HO_3.out (fun _ hk => ⟨trivial, hk⟩)) hg hat); have n1_ := Aside0.mk (hb); have n2_ := Aside0.mk (ho); clear HO_3; clear HB; clear HO_5; have HO_3 := n0_; have HB := n1_; have HO188 := n2_; clear n0_ n1_ n2_; clear ho hb hg hat)))
                                go_roundg kj3
                                case measure => have := HK1.out; have := HK2.out; have := HJ3.out; omega
                                case rel => exact ⟨(y186), (x6_2), (wrap64 (x7_2 + 1)), (by first | rfl | (simp; done) | (simp [*]; done)), (by first | rfl | (simp; done) | (simp [*]; done)), H', ⟨by have := HK1.out; have := HK2.out; have := HJ3.out; omega⟩, ⟨by (with_reducible repeat (first | apply Kd.R_alloc | apply Kd.R_drewN | apply Kd.R_drew)); exact Kd.R_mono HO_3.out (fun _ hk => hk.2)⟩, ⟨by (with_reducible repeat (first | apply Kd.R_alloc | apply Kd.R_drewN | apply Kd.R_drew)); exact HO188.out⟩, ⟨by repeat (first | (with_reducible first | exact HB.out | apply below_alloc | apply pw_below_drewN | apply below_drew1) | exact HB.out)⟩⟩
                              · rw [if_neg c26] at H
                                exact absurd H (by simp)
                          · rw [if_neg c24] at H
                            exact absurd H (by simp)
                        · rw [if_neg c23] at H
                          exact absurd H (by simp)
                      · rw [if_neg c22] at H
                        exact absurd H (by simp)
                    · rw [if_neg c21] at H
                      exact absurd H (by simp)
            · rw [if_neg c3] at H
              have c3b0 : decide (x7_2 < (x3_1.length : Int)) = false := decide_eq_false c3
              clear c3
              by_cases c28 : x6_2 = true
              · subst c28
                have H1 : (heliastref13_Places.l0 k2 l0 x5_2 (wrap64 (x4_1 + 1))) = some r := by rw [if_pos rfl] at H; exact H
                clear H
                have H := H1
                clear H1
                have H' := Aside0.mk H
                clear H
                obtain ⟨Ao29, co29, eo29⟩ := Kd.R_slice HO_3.out
                subst eo29
                go_wp2
                repeat (go_quiet (fail); try go_wp2)
                go_roundg k2
                case measure => have := HK1.out; have := HK2.out; omega
                case rel => exact ⟨(x5_2), (wrap64 (x4_1 + 1)), (by first | rfl | (simp; done) | (simp [*]; done)), H', ⟨by have := HK1.out; have := HK2.out; omega⟩, ⟨by (with_reducible repeat (first | apply Kd.R_alloc | apply Kd.R_drewN | apply Kd.R_drew)); exact Kd.R_mono HO_5.out (fun _ hk => trivial)⟩, ⟨by repeat (first | (with_reducible first | exact HB.out | apply below_alloc | apply pw_below_drewN | apply below_drew1) | exact HB.out)⟩⟩
              · replace c28 := Bool.eq_false_iff.mpr c28
                subst c28
                have H1 : (if 0 ≤ x4_1 then (if x4_1 < (l0.length : Int) then (if x5_2.length < 17592186044416 then (heliastref13_Places.l0 k2 l0 (x5_2 ++ [(rd_T74 l0 x4_1).f2]) (wrap64 (x4_1 + 1))) else (none)) else (none)) else (none)) = some r := by rw [if_neg (show ¬ (false = true) by decide)] at H; exact H
                clear H
                have H := H1
                clear H1
                by_cases c30 : 0 ≤ x4_1
                · rw [if_pos c30] at H
                  have c30b0 : decide (0 ≤ x4_1) = true := decide_eq_true c30
                  clear c30
                  by_cases c31 : x4_1 < (l0.length : Int)
                  · rw [if_pos c31] at H
                    have c31b0 : decide (x4_1 < (l0.length : Int)) = true := decide_eq_true c31
                    clear c31
                    by_cases c32 : x5_2.length < 17592186044416
                    · rw [if_pos c32] at H
                      have LMc32 := Aside0.mk c32
                      clear c32
                      obtain ⟨y168, hy168⟩ : ∃ y_ : List Int, y_ = (x5_2 ++ [(rd_T74 l0 x4_1).f2]) := ⟨_, rfl⟩
                      replace H : (heliastref13_Places.l0 k2 l0 y168 (wrap64 (x4_1 + 1))) = some r := by first | (rw [hy168]; with_reducible exact H) | (have H2_ := (Option.bind_some _ _).symm.trans H; rw [hy168]; with_reducible exact H2_) | (have H2_ := (Option.bind_some _ _).symm.trans H; with_reducible exact H2_) | with_reducible exact H | (rw [hy168]; exact H) | exact H
                      have Ny168 := Aside0.mk hy168
                      clear hy168
                      have H' := Aside0.mk H
                      clear H
                      obtain ⟨Ao33, co33, eo33⟩ := Kd.R_slice HO_3.out
                      subst eo33
                      have p167 : 0 ≤ (x4_1 : Int) := of_decide_eq_true (by first | (with_reducible assumption) | assumption)
                      have q167 : x4_1 < (l0.length : Int) := of_decide_eq_true (by first | (with_reducible assumption) | assumption)
                      obtain ⟨ad167, e167, hx167_0, hx167_1, hx167_2⟩ := at_T74 HR0.out x4_1 p167 q167
                      cases e167
                      replace hx167_0 := (HB.out.cell (World.block_lt_of_cell? w _ hx167_0)).trans hx167_0
                      replace hx167_1 := (HB.out.cell (World.block_lt_of_cell? w _ hx167_1)).trans hx167_1
                      replace hx167_2 := (HB.out.cell (World.block_lt_of_cell? w _ hx167_2)).trans hx167_2
                      replace p167 := eq_true p167
                      replace q167 := eq_true q167
                      go_wp2_with (first | ((with_reducible refine gate_builtin (b := .append) (xs := #[.tmp 61, .tmp 67]) rfl ?_); at_builtin; refine Kd.R_append (Kd.int .i64) (w0 := w) w.heap.size rfl (.tmp 61) (.tmp 67) 51 3 (.int .i64 0) 8 rfl Try.underlying51 info3 rfl (by decide) (by omega) u5 x5_2 ((rd_T74 l0 x4_1).f2) [.int .i64 ((rd_T74 l0 x4_1).f2)] (fun k_ => some k_ ≠ (.slice Ao33 x3_1.length co33 : Value).ownBlock) (fun _ => False) rfl rfl ?aP (fun _ hk => hk.elim) ?aF ?aO ?aB ?aS ?aL ?_; (case aP => exact rfl); (case aB => exact (by repeat (first | (with_reducible first | exact HB.out | apply below_alloc | apply pw_below_drewN | apply below_drew1) | exact HB.out))); (case aF => exact (fun k_ hk => Kd.fresh' (Kd.R_lt (by (with_reducible repeat (first | apply Kd.R_alloc | apply Kd.R_drewN | apply Kd.R_drew)); exact HO_3.out)) k_ hk)); (case aO => exact (by (with_reducible repeat (first | apply Kd.R_alloc | apply Kd.R_drewN | apply Kd.R_drew)); exact HO_5.out)); (case aS => exact (below_size (by repeat (first | (with_reducible first | exact HB.out | apply below_alloc | apply pw_below_drewN | apply below_drew1) | exact HB.out)))); (case aL => have := LMc32.out; omega); intro v169 w34 ho hb hg hat; rw [← Ny168.out] at ho; have n0_ := Aside0.mk (Kd.R_after (ok := (fun _ => True)) (by (with_reducible repeat (first | apply Kd.R_alloc | apply Kd.R_drewN | apply Kd.R_drew)); exact Kd.R_mono HO_3.out (fun _ hk => ⟨trivial, hk⟩)) hg hat); have n1_ := Aside0.mk (hb); have n2_ := Aside0.mk (ho); clear HO_3; clear HB; clear HO_5; have HO_3 := n0_; have HB := n1_; have HO170 := n2_; clear n0_ n1_ n2_; clear ho hb hg hat))
                      repeat (go_quiet (first | ((with_reducible refine gate_builtin (b := .append) (xs := #[.tmp 61, .tmp 67]) rfl ?_); at_builtin; refine Kd.R_append (Kd.int .i64) (w0 := w) w.heap.size rfl (.tmp 61) (.tmp 67) 51 3 (.int .i64 0) 8 rfl Try.underlying51 info3 rfl (by decide) (by omega) u5 x5_2 ((rd_T74 l0 x4_1).f2) [.int .i64 ((rd_T74 l0 x4_1).f2)] (fun k_ => some k_ ≠ (.slice Ao33 x3_1.length co33 : Value).ownBlock) (fun _ => False) rfl rfl ?aP (fun _ hk => hk.elim) ?aF ?aO ?aB ?aS ?aL ?_; (case aP => exact rfl); (case aB => exact (by repeat (first | (with_reducible first | exact HB.out | apply below_alloc | apply pw_below_drewN | apply below_drew1) | exact HB.out))); (case aF => exact (fun k_ hk => Kd.fresh' (Kd.R_lt (by (with_reducible repeat (first | apply Kd.R_alloc | apply Kd.R_drewN | apply Kd.R_drew)); exact HO_3.out)) k_ hk)); (case aO => exact (by (with_reducible repeat (first | apply Kd.R_alloc | apply Kd.R_drewN | apply Kd.R_drew)); exact HO_5.out)); (case aS => exact (below_size (by repeat (first | (with_reducible first | exact HB.out | apply below_alloc | apply pw_below_drewN | apply below_drew1) | exact HB.out)))); (case aL => have := LMc32.out; omega); intro v169 w34 ho hb hg hat; rw [← Ny168.out] at ho; have n0_ := Aside0.mk (Kd.R_after (ok := (fun _ => True)) (by (with_reducible repeat (first | apply Kd.R_alloc | apply Kd.R_drewN | apply Kd.R_drew)); exact Kd.R_mono HO_3.out (fun _ hk => ⟨trivial, hk⟩)) hg hat); have n1_ := Aside0.mk (hb); have n2_ := Aside0.mk (ho); clear HO_3; clear HB; clear HO_5; have HO_3 := n0_; have HB := n1_; have HO170 := n2_; clear n0_ n1_ n2_; clear ho hb hg hat)); try go_wp2_with (first | ((with_reducible refine gate_builtin (b := .append) (xs := #[.tmp 61, .tmp 67]) rfl ?_); at_builtin; refine Kd.R_append (Kd.int .i64) (w0 := w) w.heap.size rfl (.tmp 61) (.tmp 67) 51 3 (.int .i64 0) 8 rfl Try.underlying51 info3 rfl (by decide) (by omega) u5 x5_2 ((rd_T74 l0 x4_1).f2) [.int .i64 ((rd_T74 l0 x4_1).f2)] (fun k_ => some k_ ≠ (.slice Ao33 x3_1.length co33 : Value).ownBlock) (fun _ => False) rfl rfl ?aP (fun _ hk => hk.elim) ?aF ?aO ?aB ?aS ?aL ?_; (case aP => exact rfl); (case aB => exact (by repeat (first | (with_reducible first | exact HB.out | apply below_alloc | apply pw_below_drewN | apply below_drew1) | exact HB.out))); (case aF => exact (fun k_ hk => Kd.fresh' (Kd.R_lt (by (with_reducible repeat (first | apply Kd.R_alloc | apply Kd.R_drewN | apply Kd.R_drew)); exact HO_3.out)) k_ hk)); (case aO => exact (by (with_reducible repeat (first | apply Kd.R_alloc | apply Kd.R_drewN | apply Kd.R_drew)); exact HO_5.out)); (case aS => exact (below_size (by repeat (first | (with_reducible first | exact HB.out | apply below_alloc | apply pw_below_drewN | apply below_drew1) | exact HB.out)))); (case aL => have := LMc32.out; omega); intro v169 w34 ho hb hg hat; rw [← Ny168.out] at ho; have n0_ := Aside0.mk (Kd.R_after (ok := (fun _ => True)) (by (with_reducible repeat (first | apply Kd.R_alloc | apply Kd.R_drewN | apply Kd.R_drew)); exact Kd.R_mono HO_3.out (fun _ hk => ⟨trivial, hk⟩)) hg hat); have n1_ := Aside0.mk (hb); have n2_ := Aside0.mk (ho); clear HO_3; clear HB; clear HO_5; have HO_3 := n0_; have HB := n1_; have HO170 := n2_; clear n0_ n1_ n2_; clear ho hb hg hat)))
                      go_roundg k2
                      case measure => have := HK1.out; have := HK2.out; omega
                      case rel => exact ⟨(y168), (wrap64 (x4_1 + 1)), (by first | rfl | (simp; done) | (simp [*]; done)), H', ⟨by have := HK1.out; have := HK2.out; omega⟩, ⟨by (with_reducible repeat (first | apply Kd.R_alloc | apply Kd.R_drewN | apply Kd.R_drew)); exact Kd.R_mono HO170.out (fun _ hk => trivial)⟩, ⟨by repeat (first | (with_reducible first | exact HB.out | apply below_alloc | apply pw_below_drewN | apply below_drew1) | exact HB.out)⟩⟩
                    · rw [if_neg c32] at H
                      exact absurd H (by simp)
                  · rw [if_neg c31] at H
                    exact absurd H (by simp)
                · rw [if_neg c30] at H
                  exact absurd H (by simp)
      · rw [if_neg c2] at H
        have c2b0 : decide (x4_1 < (l0.length : Int)) = false := decide_eq_false c2
        clear c2
        obtain rfl := Option.some.inj H
        go_wp2
        repeat (go_quiet (fail); try go_wp2)
        go_ret
        exact ⟨_, by first | rfl | (simp [errW_none, errW_some] <;> rfl) | (simp [*, errW_none, errW_some] <;> rfl), by (with_reducible repeat (first | apply Kd.R_alloc | apply Kd.R_drewN | apply Kd.R_drew)); exact HO_3.out, by repeat (first | (with_reducible first | exact HB.out | apply below_alloc | apply pw_below_drewN | apply below_drew1) | exact HB.out)⟩

end Go.Proofs.Ytbldllghkfgkeaa.S

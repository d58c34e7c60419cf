-- Written by heprint.py (this session's, over the kit's print.py): not trusted, Lean checks it.
import Derived.Test.YtmmalieacakcbaaHf0
import Derived.Test.YtmmalieacakcbaaHf4
namespace Go.Proofs.Ytmmalieacakcbaa.S
open Go.RowKit Go.Proofs.YtmmalieacakcbaaW.PrintWords Go.Proofs.YtmmalieacakcbaaW.PrintLast Go.Proofs.YtmmalieacakcbaaW.PrintMore
attribute [local go_sem] max2_int min2_int max_two min_two max_three min_three max_four min_four   -- for this text's walks alone
set_option linter.unusedVariables false
set_option linter.unusedSimpArgs false

/-! ### heliastlaw12_Graph: function 37 -/
mutual
def heliastlaw12_Graph.l0 : Nat → List Int → List (List Int) → Int → Option ((List (List Int)))
  | 0, _, _, _ => none
  | k + 1, x0, x3, x4 => if x4 < (x0.length : Int) then (heliastlaw12_Graph.j1 k x0 x3 x4 (decide (x4 < 24))) else (heliastlaw12_Graph.j1 k x0 x3 x4 false)
def heliastlaw12_Graph.j1 : Nat → List Int → List (List Int) → Int → Bool → Option ((List (List Int)))
  | 0, _, _, _, _ => none
  | k + 1, x0, x3, x4, x14 => if x14 = true then (heliastlaw12_Graph.l1 k x0 x3 x4 ([] : List Int) 0) else (some x3)
def heliastlaw12_Graph.l1 : Nat → List Int → List (List Int) → Int → List Int → Int → Option ((List (List Int)))
  | 0, _, _, _, _, _ => none
  | k + 1, x0, x3, x4, x5, x6 => if x6 < x4 then (if 0 ≤ x4 then (if x4 < (x0.length : Int) then (if (x0.length : Int) = 0 then (none) else (if 0 ≤ (Int.tmod (wrap64 (x4 + x6)) (x0.length : Int)) then (if (Int.tmod (wrap64 (x4 + x6)) (x0.length : Int)) < (x0.length : Int) then (if (Int.tmod (wrap64 ((wrap64 ((wrap64 (rd x0 x4)) + (wrap64 (x6 * 7)))) + (wrap64 (rd x0 (Int.tmod (wrap64 (x4 + x6)) (x0.length : Int)))))) 5) = 0 then (if x5.length < 17592186044416 then (heliastlaw12_Graph.l1 k x0 x3 x4 (x5 ++ [x6]) (wrap64 (x6 + 1))) else (none)) else (if x6 = (wrap64 (x4 - 1)) then (if (Int.tmod (rd x0 x4) 3) = 0 then (if x5.length < 17592186044416 then (heliastlaw12_Graph.l1 k x0 x3 x4 (x5 ++ [x6]) (wrap64 (x6 + 1))) else (none)) else (heliastlaw12_Graph.l1 k x0 x3 x4 x5 (wrap64 (x6 + 1)))) else (heliastlaw12_Graph.l1 k x0 x3 x4 x5 (wrap64 (x6 + 1))))) else (none)) else (none))) else (none)) else (none)) else (if x3.length < 5864062014805 then (heliastlaw12_Graph.l0 k x0 (x3 ++ [x5]) (wrap64 (x4 + 1))) else (none))
end
def heliastlaw12_Graph.f (k : Nat) (l0 : List Int) : Option ((List (List Int))) := heliastlaw12_Graph.l0 k l0 ([] : List (List Int)) 0
theorem heliastlaw12_Graph.mono_l : ∀ k, (∀ y0 y1 y2, LeO (heliastlaw12_Graph.l0 k y0 y1 y2) (heliastlaw12_Graph.l0 (k + 1) y0 y1 y2)) ∧ (∀ y0 y1 y2 y3, LeO (heliastlaw12_Graph.j1 k y0 y1 y2 y3) (heliastlaw12_Graph.j1 (k + 1) y0 y1 y2 y3)) ∧ (∀ y0 y1 y2 y3 y4, LeO (heliastlaw12_Graph.l1 k y0 y1 y2 y3 y4) (heliastlaw12_Graph.l1 (k + 1) y0 y1 y2 y3 y4))
  | 0 => ⟨fun _ _ _ r h => by simp [heliastlaw12_Graph.l0] at h, fun _ _ _ _ r h => by simp [heliastlaw12_Graph.j1] at h, fun _ _ _ _ _ r h => by simp [heliastlaw12_Graph.l1] at h⟩
  | k + 1 => by
    obtain ⟨ih0, ih1, ih2⟩ := heliastlaw12_Graph.mono_l k
    refine ⟨?_, ?_, ?_⟩
    · intro y0 y1 y2
      unfold heliastlaw12_Graph.l0
      repeat' first
      | (with_reducible exact ih0 _ _ _)
      | (with_reducible exact ih1 _ _ _ _)
      | (with_reducible exact ih2 _ _ _ _ _)
      | (with_reducible exact LeO.refl _)
      | (with_reducible exact LeO.none _)
      | (with_reducible refine LeO.ite ?_ ?_)
      | (with_reducible refine LeO.bind ?_ (fun _ => ?_))
      | exact ih0 _ _ _
      | exact ih1 _ _ _ _
      | exact ih2 _ _ _ _ _
      | exact LeO.none _
      | refine LeO.ite ?_ ?_
      | refine LeO.bind ?_ (fun _ => ?_)
    · intro y0 y1 y2 y3
      unfold heliastlaw12_Graph.j1
      repeat' first
      | (with_reducible exact ih0 _ _ _)
      | (with_reducible exact ih1 _ _ _ _)
      | (with_reducible exact ih2 _ _ _ _ _)
      | (with_reducible exact LeO.refl _)
      | (with_reducible exact LeO.none _)
      | (with_reducible refine LeO.ite ?_ ?_)
      | (with_reducible refine LeO.bind ?_ (fun _ => ?_))
      | exact ih0 _ _ _
      | exact ih1 _ _ _ _
      | exact ih2 _ _ _ _ _
      | exact LeO.none _
      | refine LeO.ite ?_ ?_
      | refine LeO.bind ?_ (fun _ => ?_)
    · intro y0 y1 y2 y3 y4
      unfold heliastlaw12_Graph.l1
      repeat' first
      | (with_reducible exact ih0 _ _ _)
      | (with_reducible exact ih1 _ _ _ _)
      | (with_reducible exact ih2 _ _ _ _ _)
      | (with_reducible exact LeO.refl _)
      | (with_reducible exact LeO.none _)
      | (with_reducible refine LeO.ite ?_ ?_)
      | (with_reducible refine LeO.bind ?_ (fun _ => ?_))
      | exact ih0 _ _ _
      | exact ih1 _ _ _ _
      | exact ih2 _ _ _ _ _
      | exact LeO.none _
      | refine LeO.ite ?_ ?_
      | refine LeO.bind ?_ (fun _ => ?_)
theorem heliastlaw12_Graph.mono : ∀ a0 k, LeO (heliastlaw12_Graph.f k a0) (heliastlaw12_Graph.f (k + 1) a0) := by
  intro a0 k
  obtain ⟨ih0, ih1, ih2⟩ := heliastlaw12_Graph.mono_l k
  unfold heliastlaw12_Graph.f
  repeat' first
      | (with_reducible exact ih0 _ _ _)
      | (with_reducible exact ih1 _ _ _ _)
      | (with_reducible exact ih2 _ _ _ _ _)
      | (with_reducible exact LeO.refl _)
      | (with_reducible exact LeO.none _)
      | (with_reducible refine LeO.ite ?_ ?_)
      | (with_reducible refine LeO.bind ?_ (fun _ => ?_))
      | exact ih0 _ _ _
      | exact ih1 _ _ _ _
      | exact ih2 _ _ _ _ _
      | exact LeO.none _
      | refine LeO.ite ?_ ?_
      | refine LeO.bind ?_ (fun _ => ?_)
set_option maxHeartbeats 8000000 in
set_option maxRecDepth 100000 in
theorem heliastlaw12_Graph.calls (k : Nat) (A0 : Option Addr) (c0 : Nat) (l0 : List Int) (r : List (List Int)) (w : World) (hr0 : Kd.C (Kd.int .u8) w A0 l0.length l0) (hc0 : l0.length ≤ c0) (h : heliastlaw12_Graph.f k l0 = some r) :
    Calls Try.prog 37 #[.slice A0 l0.length c0] w fun e w' => ∃ v0_ : Value, e = .returned (v0_) ∧ Kd.S (Kd.slice 3 (Kd.int .i64)) 65 w' w.heap.size (fun _ => True) v0_ r ∧ Below w.heap.size w w' := by
  have HR0 := Aside0.mk hr0
  have HC0 := Aside0.mk hc0
  clear hr0 hc0
  have HB := Aside0.mk (Below.refl w.heap.size w)
  have H : (heliastlaw12_Graph.l0 k l0 ([] : List (List Int)) 0) = some r := h
  clear h
  have H' := Aside0.mk H
  clear H
  go_enter Try.func37, Try.ntmps37
  go_wp2
  repeat (go_quiet (fail); try go_wp2)
  go_loopg [3, 4] k (fun kq v3 v4 w' => ∃ (x3_1 : List (List Int)) (x4_1 : Int), v4 = .int .i64 x4_1 ∧ Aside0 (heliastlaw12_Graph.l0 kq l0 x3_1 x4_1 = some r) ∧ Aside0 (kq ≤ k) ∧ Aside0 (Kd.S (Kd.slice 3 (Kd.int .i64)) 65 w' w.heap.size (fun _ => True) v3 x3_1) ∧ Aside0 (Below w.heap.size w w'))
  case atStart => exact ⟨(([] : List (List Int))), (0), (by first | rfl | (simp; done) | (simp [*]; done)), H', ⟨Nat.le_refl _⟩, ⟨by first | exact Kd.S_nil _ _ _ _ _ | exact Kd.N_nil _ _ _ _ _ | exact Kd.V_nil _ _ _ _ _ | exact Kd.Q_nil _ _ _ _ _ | exact Kd.R_nil _ _ _ _ _⟩, ⟨by repeat (first | (with_reducible first | exact HB.out | apply below_alloc | apply pw_below_drewN | apply below_drew1) | exact HB.out)⟩⟩
  case round =>
    clear H'
    obtain ⟨x3_1, x4_1, rfl, HA, HK1, HO_3, HB⟩ := hrel
    cases gk with
    | zero => exact absurd HA.out (by simp [heliastlaw12_Graph.l0])
    | succ k1 =>
      have H := HA.out
      clear HA
      simp only [heliastlaw12_Graph.l0] at H
      have HC2 := Aside0.mk H
      clear H
      go_upto_region 3 with (fail)
      repeat (go_quiet (fail); go_upto_region 3 with (fail))
      go_cut [14] (fun v14 wc => ∃ (kq : Nat) (x14_1 : Bool), v14 = .bool x14_1 ∧ Aside0 (heliastlaw12_Graph.j1 kq l0 x3_1 x4_1 x14_1 = some r) ∧ Aside0 (kq ≤ k1) ∧ Aside0 (Kd.S (Kd.slice 3 (Kd.int .i64)) 65 wc w.heap.size (fun _ => True) u3 x3_1) ∧ Aside0 (Below w.heap.size w wc))
      case first =>
        have H := HC2.out
        clear HC2
        by_cases c3 : x4_1 < (l0.length : Int)
        · rw [if_pos c3] at H
          have c3b0 : decide (x4_1 < (l0.length : Int)) = true := decide_eq_true c3
          clear c3
          (first | rw [c3b0] | (simp only [i64_w, i32_w]; rw [c3b0]) | skip)
          have H' := Aside0.mk H
          clear H
          go_wp2
          repeat (go_quiet (fail); try go_wp2)
          go_meet
          case rel => exact ⟨_, (decide (x4_1 < 24)), (by first | rfl | (simp; done) | (simp [*]; done)), H', ⟨by have := HK1.out; first | omega | exact Nat.le_refl _⟩, ⟨by (with_reducible repeat (first | apply Kd.S_alloc | apply Kd.S_drewN | apply Kd.S_drew)); exact HO_3.out⟩, ⟨by repeat (first | (with_reducible first | exact HB.out | apply below_alloc | apply pw_below_drewN | apply below_drew1) | exact HB.out)⟩⟩
        · rw [if_neg c3] at H
          have c3b0 : decide (x4_1 < (l0.length : Int)) = false := decide_eq_false c3
          clear c3
          (first | rw [c3b0] | (simp only [i64_w, i32_w]; rw [c3b0]) | skip)
          have H' := Aside0.mk H
          clear H
          go_wp2
          repeat (go_quiet (fail); try go_wp2)
          go_meet
          case rel => exact ⟨_, (false), (by first | rfl | (simp; done) | (simp [*]; done)), H', ⟨by have := HK1.out; first | omega | exact Nat.le_refl _⟩, ⟨by (with_reducible repeat (first | apply Kd.S_alloc | apply Kd.S_drewN | apply Kd.S_drew)); exact HO_3.out⟩, ⟨by repeat (first | (with_reducible first | exact HB.out | apply below_alloc | apply pw_below_drewN | apply below_drew1) | exact HB.out)⟩⟩
      case rest =>
        clear HC2
        try clear p2
        try clear c3
        try clear c3b0
        obtain ⟨kq, x14_1, rfl, HA, HJ1, HO_3, HB⟩ := hcut
        cases kq with
        | zero => exact absurd HA.out (by simp [heliastlaw12_Graph.j1])
        | succ kj1 =>
          have H := HA.out
          clear HA
          simp only [heliastlaw12_Graph.j1] at H
          by_cases c4 : x14_1 = true
          · subst c4
            have H1 : (heliastlaw12_Graph.l1 kj1 l0 x3_1 x4_1 ([] : List Int) 0) = some r := by rw [if_pos rfl] at H; exact H
            clear H
            have H := H1
            clear H1
            have H' := Aside0.mk H
            clear H
            go_wp2
            repeat (go_quiet (fail); try go_wp2)
            go_loopg [5, 6] kj1 (fun kq v5 v6 w' => ∃ (x5_3 : List Int) (x6_3 : Int), v6 = .int .i64 x6_3 ∧ Aside0 (heliastlaw12_Graph.l1 kq l0 x3_1 x4_1 x5_3 x6_3 = some r) ∧ Aside0 (kq ≤ kj1) ∧ Aside0 (Kd.S (Kd.slice 3 (Kd.int .i64)) 65 w' w.heap.size (fun k_ => some k_ ≠ (v5 : Value).ownBlock) u3 x3_1) ∧ Aside0 (Kd.R (Kd.int .i64) 3 w' w.heap.size (fun _ => True) v5 x5_3) ∧ Aside0 (Below w.heap.size w w'))
            case atStart => exact ⟨(([] : List Int)), (0), (by first | rfl | (simp; done) | (simp [*]; done)), H', ⟨Nat.le_refl _⟩, ⟨by (with_reducible repeat (first | apply Kd.S_alloc | apply Kd.S_drewN | apply Kd.S_drew)); exact Kd.S_mono HO_3.out (fun _ hk => (by simp [Value.ownBlock]))⟩, ⟨by first | exact Kd.R_nil _ _ _ _ _ | exact Kd.N_nil _ _ _ _ _ | exact Kd.V_nil _ _ _ _ _ | exact Kd.Q_nil _ _ _ _ _ | exact Kd.S_nil _ _ _ _ _⟩, ⟨by repeat (first | (with_reducible first | exact HB.out | apply below_alloc | apply pw_below_drewN | apply below_drew1) | exact HB.out)⟩⟩
            case round =>
              clear H'
              try clear p2
              try clear c3
              try clear c3b0
              try clear c4
              try clear p2
              obtain ⟨x5_3, x6_3, rfl, HA, HK3, HO_3, HO_5, HB⟩ := hrel
              cases gk with
              | zero => exact absurd HA.out (by simp [heliastlaw12_Graph.l1])
              | succ k3 =>
                have H := HA.out
                clear HA
                simp only [heliastlaw12_Graph.l1] at H
                by_cases c5 : x6_3 < x4_1
                · rw [if_pos c5] at H
                  have c5b0 : decide (x6_3 < x4_1) = true := decide_eq_true c5
                  clear c5
                  by_cases c6 : 0 ≤ x4_1
                  · rw [if_pos c6] at H
                    have c6b0 : decide (0 ≤ x4_1) = true := decide_eq_true c6
                    clear c6
                    by_cases c7 : x4_1 < (l0.length : Int)
                    · rw [if_pos c7] at H
                      have c7b0 : decide (x4_1 < (l0.length : Int)) = true := decide_eq_true c7
                      clear c7
                      by_cases c8 : (l0.length : Int) = 0
                      · rw [if_pos c8] at H
                        exact absurd H (by simp)
                      · rw [if_neg c8] at H
                        have c8b0 : ((l0.length : Int) == 0) = false := beq_eq_false_iff_ne.mpr c8
                        have c8b1 : ((l0.length : Int) != 0) = true := bne_iff_ne.mpr c8
                        have c8b2 : ¬ (l0 = []) := fun h_ => c8 (by rw [h_]; rfl)
                        obtain ⟨ji9, hji9⟩ : ∃ j_ : Int, (Int.tmod (wrap64 (x4_1 + x6_3)) (l0.length : Int)) = j_ := ⟨_, rfl⟩
                        replace H : (if 0 ≤ (ji9) then (if (ji9) < (l0.length : Int) then (if (Int.tmod (wrap64 ((wrap64 ((wrap64 (rd l0 x4_1)) + (wrap64 (x6_3 * 7)))) + (wrap64 (rd l0 (ji9))))) 5) = 0 then (if x5_3.length < 17592186044416 then (heliastlaw12_Graph.l1 k3 l0 x3_1 x4_1 (x5_3 ++ [x6_3]) (wrap64 (x6_3 + 1))) else (none)) else (if x6_3 = (wrap64 (x4_1 - 1)) then (if (Int.tmod (rd l0 x4_1) 3) = 0 then (if x5_3.length < 17592186044416 then (heliastlaw12_Graph.l1 k3 l0 x3_1 x4_1 (x5_3 ++ [x6_3]) (wrap64 (x6_3 + 1))) else (none)) else (heliastlaw12_Graph.l1 k3 l0 x3_1 x4_1 x5_3 (wrap64 (x6_3 + 1)))) else (heliastlaw12_Graph.l1 k3 l0 x3_1 x4_1 x5_3 (wrap64 (x6_3 + 1))))) else (none)) else (none)) = some r := by first | (rw [hji9] at H; exact H) | (simp only [hji9] at H ⊢; exact H)
                        by_cases c10 : 0 ≤ (ji9)
                        · rw [if_pos c10] at H
                          have c10b0 : decide (0 ≤ (ji9)) = true := decide_eq_true c10
                          clear c10
                          by_cases c11 : (ji9) < (l0.length : Int)
                          · rw [if_pos c11] at H
                            have c11b0 : decide ((ji9) < (l0.length : Int)) = true := decide_eq_true c11
                            clear c11
                            by_cases c12 : (Int.tmod (wrap64 ((wrap64 ((wrap64 (rd l0 x4_1)) + (wrap64 (x6_3 * 7)))) + (wrap64 (rd l0 (ji9))))) 5) = 0
                            · rw [if_pos c12] at H
                              have c12b0 : ((Int.tmod (wrap64 ((wrap64 ((wrap64 (rd l0 x4_1)) + (wrap64 (x6_3 * 7)))) + (wrap64 (rd l0 (ji9))))) 5) == 0) = true := beq_iff_eq.mpr c12
                              have c12b1 : ((Int.tmod (wrap64 ((wrap64 ((wrap64 (rd l0 x4_1)) + (wrap64 (x6_3 * 7)))) + (wrap64 (rd l0 (ji9))))) 5) != 0) = false := bne_eq_false_iff_eq.mpr c12
                              clear c12
                              by_cases c13 : x5_3.length < 17592186044416
                              · rw [if_pos c13] at H
                                have LMc13 := Aside0.mk c13
                                clear c13
                                obtain ⟨y159, hy159⟩ : ∃ y_ : List Int, y_ = (x5_3 ++ [x6_3]) := ⟨_, rfl⟩
                                replace H : (heliastlaw12_Graph.l1 k3 l0 x3_1 x4_1 y159 (wrap64 (x6_3 + 1))) = some r := by first | (rw [hy159]; with_reducible exact H) | (have H2_ := (Option.bind_some _ _).symm.trans H; rw [hy159]; with_reducible exact H2_) | (have H2_ := (Option.bind_some _ _).symm.trans H; with_reducible exact H2_) | with_reducible exact H | (rw [hy159]; exact H) | exact H
                                have Ny159 := Aside0.mk hy159
                                clear hy159
                                have H' := Aside0.mk H
                                clear H
                                have p157 : 0 ≤ (x4_1 : Int) := of_decide_eq_true (by first | (with_reducible assumption) | assumption)
                                have q157 : x4_1 < (l0.length : Int) := of_decide_eq_true (by first | (with_reducible assumption) | assumption)
                                obtain ⟨ad157, e157, hx157_0⟩ := Kd.at_int HR0.out x4_1 p157 q157
                                cases e157
                                replace hx157_0 := (HB.out.cell (World.block_lt_of_cell? w _ hx157_0)).trans hx157_0
                                replace p157 := eq_true p157
                                replace q157 := eq_true q157
                                have p158 : 0 ≤ ((ji9) : Int) := of_decide_eq_true (by first | (with_reducible assumption) | assumption)
                                have q158 : (ji9) < (l0.length : Int) := of_decide_eq_true (by first | (with_reducible assumption) | assumption)
                                obtain ⟨ad158, e158, hx158_0⟩ := Kd.at_int HR0.out (ji9) p158 q158
                                obtain rfl : ad157 = ad158 := (by injection e158)
                                replace hx158_0 := (HB.out.cell (World.block_lt_of_cell? w _ hx158_0)).trans hx158_0
                                replace p158 := eq_true p158
                                replace q158 := eq_true q158
                                go_wp2_with (first | ((with_reducible refine gate_builtin (b := .append) (xs := #[.tmp 57, .tmp 59]) rfl ?_); at_builtin; refine Kd.R_append (Kd.int .i64) (w0 := w) w.heap.size rfl (.tmp 57) (.tmp 59) 65 3 (.int .i64 0) 8 rfl Try.underlying65 info3 rfl (by decide) (by omega) u5 x5_3 x6_3 [.int .i64 x6_3] (fun _ => True) (fun _ => False) rfl rfl ?aP (fun _ hk => hk.elim) ?aF ?aO ?aB ?aS ?aL ?_; (case aP => exact rfl); (case aB => exact (by repeat (first | (with_reducible first | exact HB.out | apply below_alloc | apply pw_below_drewN | apply below_drew1) | exact HB.out))); (case aF => exact (fun _ _ => trivial)); (case aO => exact (by (with_reducible repeat (first | apply Kd.R_alloc | apply Kd.R_drewN | apply Kd.R_drew)); exact HO_5.out)); (case aS => exact (below_size (by repeat (first | (with_reducible first | exact HB.out | apply below_alloc | apply pw_below_drewN | apply below_drew1) | exact HB.out)))); (case aL => have := LMc13.out; omega); intro v160 w14 ho hb hg hat; rw [← Ny159.out] at ho; have n0_ := Aside0.mk (Kd.S_after (ok := (fun _ => True)) (by (with_reducible repeat (first | apply Kd.S_alloc | apply Kd.S_drewN | apply Kd.S_drew)); exact Kd.S_mono HO_3.out (fun _ hk => ⟨trivial, hk⟩)) hg hat); have n1_ := Aside0.mk (hb); have n2_ := Aside0.mk (ho); clear HO_3; clear HB; clear HO_5; have HO_3 := n0_; have HB := n1_; have HO161 := n2_; clear n0_ n1_ n2_; clear ho hb hg hat))
                                repeat (go_quiet (first | ((with_reducible refine gate_builtin (b := .append) (xs := #[.tmp 57, .tmp 59]) rfl ?_); at_builtin; refine Kd.R_append (Kd.int .i64) (w0 := w) w.heap.size rfl (.tmp 57) (.tmp 59) 65 3 (.int .i64 0) 8 rfl Try.underlying65 info3 rfl (by decide) (by omega) u5 x5_3 x6_3 [.int .i64 x6_3] (fun _ => True) (fun _ => False) rfl rfl ?aP (fun _ hk => hk.elim) ?aF ?aO ?aB ?aS ?aL ?_; (case aP => exact rfl); (case aB => exact (by repeat (first | (with_reducible first | exact HB.out | apply below_alloc | apply pw_below_drewN | apply below_drew1) | exact HB.out))); (case aF => exact (fun _ _ => trivial)); (case aO => exact (by (with_reducible repeat (first | apply Kd.R_alloc | apply Kd.R_drewN | apply Kd.R_drew)); exact HO_5.out)); (case aS => exact (below_size (by repeat (first | (with_reducible first | exact HB.out | apply below_alloc | apply pw_below_drewN | apply below_drew1) | exact HB.out)))); (case aL => have := LMc13.out; omega); intro v160 w14 ho hb hg hat; rw [← Ny159.out] at ho; have n0_ := Aside0.mk (Kd.S_after (ok := (fun _ => True)) (by (with_reducible repeat (first | apply Kd.S_alloc | apply Kd.S_drewN | apply Kd.S_drew)); exact Kd.S_mono HO_3.out (fun _ hk => ⟨trivial, hk⟩)) hg hat); have n1_ := Aside0.mk (hb); have n2_ := Aside0.mk (ho); clear HO_3; clear HB; clear HO_5; have HO_3 := n0_; have HB := n1_; have HO161 := n2_; clear n0_ n1_ n2_; clear ho hb hg hat)); try go_wp2_with (first | ((with_reducible refine gate_builtin (b := .append) (xs := #[.tmp 57, .tmp 59]) rfl ?_); at_builtin; refine Kd.R_append (Kd.int .i64) (w0 := w) w.heap.size rfl (.tmp 57) (.tmp 59) 65 3 (.int .i64 0) 8 rfl Try.underlying65 info3 rfl (by decide) (by omega) u5 x5_3 x6_3 [.int .i64 x6_3] (fun _ => True) (fun _ => False) rfl rfl ?aP (fun _ hk => hk.elim) ?aF ?aO ?aB ?aS ?aL ?_; (case aP => exact rfl); (case aB => exact (by repeat (first | (with_reducible first | exact HB.out | apply below_alloc | apply pw_below_drewN | apply below_drew1) | exact HB.out))); (case aF => exact (fun _ _ => trivial)); (case aO => exact (by (with_reducible repeat (first | apply Kd.R_alloc | apply Kd.R_drewN | apply Kd.R_drew)); exact HO_5.out)); (case aS => exact (below_size (by repeat (first | (with_reducible first | exact HB.out | apply below_alloc | apply pw_below_drewN | apply below_drew1) | exact HB.out)))); (case aL => have := LMc13.out; omega); intro v160 w14 ho hb hg hat; rw [← Ny159.out] at ho; have n0_ := Aside0.mk (Kd.S_after (ok := (fun _ => True)) (by (with_reducible repeat (first | apply Kd.S_alloc | apply Kd.S_drewN | apply Kd.S_drew)); exact Kd.S_mono HO_3.out (fun _ hk => ⟨trivial, hk⟩)) hg hat); have n1_ := Aside0.mk (hb); have n2_ := Aside0.mk (ho); clear HO_3; clear HB; clear HO_5; have HO_3 := n0_; have HB := n1_; have HO161 := n2_; clear n0_ n1_ n2_; clear ho hb hg hat)))
                                go_roundg k3
                                case measure => have := HK1.out; have := HJ1.out; have := HK3.out; omega
                                case rel => exact ⟨(y159), (wrap64 (x6_3 + 1)), (by first | rfl | (simp; done) | (simp [*]; done)), H', ⟨by have := HK1.out; have := HJ1.out; have := HK3.out; omega⟩, ⟨by (with_reducible repeat (first | apply Kd.S_alloc | apply Kd.S_drewN | apply Kd.S_drew)); exact Kd.S_mono HO_3.out (fun _ hk => hk.2)⟩, ⟨by (with_reducible repeat (first | apply Kd.R_alloc | apply Kd.R_drewN | apply Kd.R_drew)); exact HO161.out⟩, ⟨by repeat (first | (with_reducible first | exact HB.out | apply below_alloc | apply pw_below_drewN | apply below_drew1) | exact HB.out)⟩⟩
                              · rw [if_neg c13] at H
                                exact absurd H (by simp)
                            · rw [if_neg c12] at H
                              have c12b0 : ((Int.tmod (wrap64 ((wrap64 ((wrap64 (rd l0 x4_1)) + (wrap64 (x6_3 * 7)))) + (wrap64 (rd l0 (ji9))))) 5) == 0) = false := beq_eq_false_iff_ne.mpr c12
                              have c12b1 : ((Int.tmod (wrap64 ((wrap64 ((wrap64 (rd l0 x4_1)) + (wrap64 (x6_3 * 7)))) + (wrap64 (rd l0 (ji9))))) 5) != 0) = true := bne_iff_ne.mpr c12
                              by_cases c15 : x6_3 = (wrap64 (x4_1 - 1))
                              · rw [if_pos c15] at H
                                have c15b0 : (x6_3 == (wrap64 (x4_1 - 1))) = true := beq_iff_eq.mpr c15
                                have c15b1 : (x6_3 != (wrap64 (x4_1 - 1))) = false := bne_eq_false_iff_eq.mpr c15
                                clear c15
                                by_cases c16 : (Int.tmod (rd l0 x4_1) 3) = 0
                                · rw [if_pos c16] at H
                                  have c16b0 : ((Int.tmod (rd l0 x4_1) 3) == 0) = true := beq_iff_eq.mpr c16
                                  have c16b1 : ((Int.tmod (rd l0 x4_1) 3) != 0) = false := bne_eq_false_iff_eq.mpr c16
                                  clear c16
                                  by_cases c17 : x5_3.length < 17592186044416
                                  · rw [if_pos c17] at H
                                    have LMc17 := Aside0.mk c17
                                    clear c17
                                    obtain ⟨y163, hy163⟩ : ∃ y_ : List Int, y_ = (x5_3 ++ [x6_3]) := ⟨_, rfl⟩
                                    replace H : (heliastlaw12_Graph.l1 k3 l0 x3_1 x4_1 y163 (wrap64 (x6_3 + 1))) = some r := by first | (rw [hy163]; with_reducible exact H) | (have H2_ := (Option.bind_some _ _).symm.trans H; rw [hy163]; with_reducible exact H2_) | (have H2_ := (Option.bind_some _ _).symm.trans H; with_reducible exact H2_) | with_reducible exact H | (rw [hy163]; exact H) | exact H
                                    have Ny163 := Aside0.mk hy163
                                    clear hy163
                                    have H' := Aside0.mk H
                                    clear H
                                    have p157 : 0 ≤ (x4_1 : Int) := of_decide_eq_true (by first | (with_reducible assumption) | assumption)
                                    have q157 : x4_1 < (l0.length : Int) := of_decide_eq_true (by first | (with_reducible assumption) | assumption)
                                    obtain ⟨ad157, e157, hx157_0⟩ := Kd.at_int HR0.out x4_1 p157 q157
                                    cases e157
                                    replace hx157_0 := (HB.out.cell (World.block_lt_of_cell? w _ hx157_0)).trans hx157_0
                                    replace p157 := eq_true p157
                                    replace q157 := eq_true q157
                                    have p158 : 0 ≤ ((ji9) : Int) := of_decide_eq_true (by first | (with_reducible assumption) | assumption)
                                    have q158 : (ji9) < (l0.length : Int) := of_decide_eq_true (by first | (with_reducible assumption) | assumption)
                                    obtain ⟨ad158, e158, hx158_0⟩ := Kd.at_int HR0.out (ji9) p158 q158
                                    obtain rfl : ad157 = ad158 := (by injection e158)
                                    replace hx158_0 := (HB.out.cell (World.block_lt_of_cell? w _ hx158_0)).trans hx158_0
                                    replace p158 := eq_true p158
                                    replace q158 := eq_true q158
                                    have p162 : 0 ≤ (x4_1 : Int) := of_decide_eq_true (by first | (with_reducible assumption) | assumption)
                                    have q162 : x4_1 < (l0.length : Int) := of_decide_eq_true (by first | (with_reducible assumption) | assumption)
                                    obtain ⟨ad162, e162, hx162_0⟩ := Kd.at_int HR0.out x4_1 p162 q162
                                    obtain rfl : ad157 = ad162 := (by injection e162)
                                    replace hx162_0 := (HB.out.cell (World.block_lt_of_cell? w _ hx162_0)).trans hx162_0
                                    replace p162 := eq_true p162
                                    replace q162 := eq_true q162
                                    go_wp2_with (first | ((with_reducible refine gate_builtin (b := .append) (xs := #[.tmp 57, .tmp 59]) rfl ?_); at_builtin; refine Kd.R_append (Kd.int .i64) (w0 := w) w.heap.size rfl (.tmp 57) (.tmp 59) 65 3 (.int .i64 0) 8 rfl Try.underlying65 info3 rfl (by decide) (by omega) u5 x5_3 x6_3 [.int .i64 x6_3] (fun _ => True) (fun _ => False) rfl rfl ?aP (fun _ hk => hk.elim) ?aF ?aO ?aB ?aS ?aL ?_; (case aP => exact rfl); (case aB => exact (by repeat (first | (with_reducible first | exact HB.out | apply below_alloc | apply pw_below_drewN | apply below_drew1) | exact HB.out))); (case aF => exact (fun _ _ => trivial)); (case aO => exact (by (with_reducible repeat (first | apply Kd.R_alloc | apply Kd.R_drewN | apply Kd.R_drew)); exact HO_5.out)); (case aS => exact (below_size (by repeat (first | (with_reducible first | exact HB.out | apply below_alloc | apply pw_below_drewN | apply below_drew1) | exact HB.out)))); (case aL => have := LMc17.out; omega); intro v164 w18 ho hb hg hat; rw [← Ny163.out] at ho; have n0_ := Aside0.mk (Kd.S_after (ok := (fun _ => True)) (by (with_reducible repeat (first | apply Kd.S_alloc | apply Kd.S_drewN | apply Kd.S_drew)); exact Kd.S_mono HO_3.out (fun _ hk => ⟨trivial, hk⟩)) hg hat); have n1_ := Aside0.mk (hb); have n2_ := Aside0.mk (ho); clear HO_3; clear HB; clear HO_5; have HO_3 := n0_; have HB := n1_; have HO165 := n2_; clear n0_ n1_ n2_; clear ho hb hg hat))
                                    repeat (go_quiet (first | ((with_reducible refine gate_builtin (b := .append) (xs := #[.tmp 57, .tmp 59]) rfl ?_); at_builtin; refine Kd.R_append (Kd.int .i64) (w0 := w) w.heap.size rfl (.tmp 57) (.tmp 59) 65 3 (.int .i64 0) 8 rfl Try.underlying65 info3 rfl (by decide) (by omega) u5 x5_3 x6_3 [.int .i64 x6_3] (fun _ => True) (fun _ => False) rfl rfl ?aP (fun _ hk => hk.elim) ?aF ?aO ?aB ?aS ?aL ?_; (case aP => exact rfl); (case aB => exact (by repeat (first | (with_reducible first | exact HB.out | apply below_alloc | apply pw_below_drewN | apply below_drew1) | exact HB.out))); (case aF => exact (fun _ _ => trivial)); (case aO => exact (by (with_reducible repeat (first | apply Kd.R_alloc | apply Kd.R_drewN | apply Kd.R_drew)); exact HO_5.out)); (case aS => exact (below_size (by repeat (first | (with_reducible first | exact HB.out | apply below_alloc | apply pw_below_drewN | apply below_drew1) | exact HB.out)))); (case aL => have := LMc17.out; omega); intro v164 w18 ho hb hg hat; rw [← Ny163.out] at ho; have n0_ := Aside0.mk (Kd.S_after (ok := (fun _ => True)) (by (with_reducible repeat (first | apply Kd.S_alloc | apply Kd.S_drewN | apply Kd.S_drew)); exact Kd.S_mono HO_3.out (fun _ hk => ⟨trivial, hk⟩)) hg hat); have n1_ := Aside0.mk (hb); have n2_ := Aside0.mk (ho); clear HO_3; clear HB; clear HO_5; have HO_3 := n0_; have HB := n1_; have HO165 := n2_; clear n0_ n1_ n2_; clear ho hb hg hat)); try go_wp2_with (first | ((with_reducible refine gate_builtin (b := .append) (xs := #[.tmp 57, .tmp 59]) rfl ?_); at_builtin; refine Kd.R_append (Kd.int .i64) (w0 := w) w.heap.size rfl (.tmp 57) (.tmp 59) 65 3 (.int .i64 0) 8 rfl Try.underlying65 info3 rfl (by decide) (by omega) u5 x5_3 x6_3 [.int .i64 x6_3] (fun _ => True) (fun _ => False) rfl rfl ?aP (fun _ hk => hk.elim) ?aF ?aO ?aB ?aS ?aL ?_; (case aP => exact rfl); (case aB => exact (by repeat (first | (with_reducible first | exact HB.out | apply below_alloc | apply pw_below_drewN | apply below_drew1) | exact HB.out))); (case aF => exact (fun _ _ => trivial)); (case aO => exact (by (with_reducible repeat (first | apply Kd.R_alloc | apply Kd.R_drewN | apply Kd.R_drew)); exact HO_5.out)); (case aS => exact (below_size (by repeat (first | (with_reducible first | exact HB.out | apply below_alloc | apply pw_below_drewN | apply below_drew1) | exact HB.out)))); (case aL => have := LMc17.out; omega); intro v164 w18 ho hb hg hat; rw [← Ny163.out] at ho; have n0_ := Aside0.mk (Kd.S_after (ok := (fun _ => True)) (by (with_reducible repeat (first | apply Kd.S_alloc | apply Kd.S_drewN | apply Kd.S_drew)); exact Kd.S_mono HO_3.out (fun _ hk => ⟨trivial, hk⟩)) hg hat); have n1_ := Aside0.mk (hb); have n2_ := Aside0.mk (ho); clear HO_3; clear HB; clear HO_5; have HO_3 := n0_; have HB := n1_; have HO165 := n2_; clear n0_ n1_ n2_; clear ho hb hg hat)))
                                    go_roundg k3
                                    case measure => have := HK1.out; have := HJ1.out; have := HK3.out; omega
                                    case rel => exact ⟨(y163), (wrap64 (x6_3 + 1)), (by first | rfl | (simp; done) | (simp [*]; done)), H', ⟨by have := HK1.out; have := HJ1.out; have := HK3.out; omega⟩, ⟨by (with_reducible repeat (first | apply Kd.S_alloc | apply Kd.S_drewN | apply Kd.S_drew)); exact Kd.S_mono HO_3.out (fun _ hk => hk.2)⟩, ⟨by (with_reducible repeat (first | apply Kd.R_alloc | apply Kd.R_drewN | apply Kd.R_drew)); exact HO165.out⟩, ⟨by repeat (first | (with_reducible first | exact HB.out | apply below_alloc | apply pw_below_drewN | apply below_drew1) | exact HB.out)⟩⟩
                                  · rw [if_neg c17] at H
                                    exact absurd H (by simp)
                                · rw [if_neg c16] at H
                                  have c16b0 : ((Int.tmod (rd l0 x4_1) 3) == 0) = false := beq_eq_false_iff_ne.mpr c16
                                  have c16b1 : ((Int.tmod (rd l0 x4_1) 3) != 0) = true := bne_iff_ne.mpr c16
                                  have H' := Aside0.mk H
                                  clear H
                                  have p157 : 0 ≤ (x4_1 : Int) := of_decide_eq_true (by first | (with_reducible assumption) | assumption)
                                  have q157 : x4_1 < (l0.length : Int) := of_decide_eq_true (by first | (with_reducible assumption) | assumption)
                                  obtain ⟨ad157, e157, hx157_0⟩ := Kd.at_int HR0.out x4_1 p157 q157
                                  cases e157
                                  replace hx157_0 := (HB.out.cell (World.block_lt_of_cell? w _ hx157_0)).trans hx157_0
                                  replace p157 := eq_true p157
                                  replace q157 := eq_true q157
                                  have p158 : 0 ≤ ((ji9) : Int) := of_decide_eq_true (by first | (with_reducible assumption) | assumption)
                                  have q158 : (ji9) < (l0.length : Int) := of_decide_eq_true (by first | (with_reducible assumption) | assumption)
                                  obtain ⟨ad158, e158, hx158_0⟩ := Kd.at_int HR0.out (ji9) p158 q158
                                  obtain rfl : ad157 = ad158 := (by injection e158)
                                  replace hx158_0 := (HB.out.cell (World.block_lt_of_cell? w _ hx158_0)).trans hx158_0
                                  replace p158 := eq_true p158
                                  replace q158 := eq_true q158
                                  have p162 : 0 ≤ (x4_1 : Int) := of_decide_eq_true (by first | (with_reducible assumption) | assumption)
                                  have q162 : x4_1 < (l0.length : Int) := of_decide_eq_true (by first | (with_reducible assumption) | assumption)
                                  obtain ⟨ad162, e162, hx162_0⟩ := Kd.at_int HR0.out x4_1 p162 q162
                                  obtain rfl : ad157 = ad162 := (by injection e162)
                                  replace hx162_0 := (HB.out.cell (World.block_lt_of_cell? w _ hx162_0)).trans hx162_0
                                  replace p162 := eq_true p162
                                  replace q162 := eq_true q162
                                  go_wp2
                                  repeat (go_quiet (fail); try go_wp2)
                                  go_roundg k3
                                  case measure => have := HK1.out; have := HJ1.out; have := HK3.out; omega
                                  case rel => exact ⟨(x5_3), (wrap64 (x6_3 + 1)), (by first | rfl | (simp; done) | (simp [*]; done)), H', ⟨by have := HK1.out; have := HJ1.out; have := HK3.out; omega⟩, ⟨by (with_reducible repeat (first | apply Kd.S_alloc | apply Kd.S_drewN | apply Kd.S_drew)); exact HO_3.out⟩, ⟨by (with_reducible repeat (first | apply Kd.R_alloc | apply Kd.R_drewN | apply Kd.R_drew)); exact HO_5.out⟩, ⟨by repeat (first | (with_reducible first | exact HB.out | apply below_alloc | apply pw_below_drewN | apply below_drew1) | exact HB.out)⟩⟩
                              · rw [if_neg c15] at H
                                have c15b0 : (x6_3 == (wrap64 (x4_1 - 1))) = false := beq_eq_false_iff_ne.mpr c15
                                have c15b1 : (x6_3 != (wrap64 (x4_1 - 1))) = true := bne_iff_ne.mpr c15
                                have H' := Aside0.mk H
                                clear H
                                have p157 : 0 ≤ (x4_1 : Int) := of_decide_eq_true (by first | (with_reducible assumption) | assumption)
                                have q157 : x4_1 < (l0.length : Int) := of_decide_eq_true (by first | (with_reducible assumption) | assumption)
                                obtain ⟨ad157, e157, hx157_0⟩ := Kd.at_int HR0.out x4_1 p157 q157
                                cases e157
                                replace hx157_0 := (HB.out.cell (World.block_lt_of_cell? w _ hx157_0)).trans hx157_0
                                replace p157 := eq_true p157
                                replace q157 := eq_true q157
                                have p158 : 0 ≤ ((ji9) : Int) := of_decide_eq_true (by first | (with_reducible assumption) | assumption)
                                have q158 : (ji9) < (l0.length : Int) := of_decide_eq_true (by first | (with_reducible assumption) | assumption)
                                obtain ⟨ad158, e158, hx158_0⟩ := Kd.at_int HR0.out (ji9) p158 q158
                                obtain rfl : ad157 = ad158 := (by injection e158)
                                replace hx158_0 := (HB.out.cell (World.block_lt_of_cell? w _ hx158_0)).trans hx158_0
                                replace p158 := eq_true p158
                                replace q158 := eq_true q158
                                go_wp2
                                repeat (go_quiet (fail); try go_wp2)
                                go_roundg k3
                                case measure => have := HK1.out; have := HJ1.out; have := HK3.out; omega
                                case rel => exact ⟨(x5_3), (wrap64 (x6_3 + 1)), (by first | rfl | (simp; done) | (simp [*]; done)), H', ⟨by have := HK1.out; have := HJ1.out; have := HK3.out; omega⟩, ⟨by (with_reducible repeat (first | apply Kd.S_alloc | apply Kd.S_drewN | apply Kd.S_drew)); exact HO_3.out⟩, ⟨by (with_reducible repeat (first | apply Kd.R_alloc | apply Kd.R_drewN | apply Kd.R_drew)); exact HO_5.out⟩, ⟨by repeat (first | (with_reducible first | exact HB.out | apply below_alloc | apply pw_below_drewN | apply below_drew1) | exact HB.out)⟩⟩
                          · rw [if_neg c11] at H
                            exact absurd H (by simp)
                        · rw [if_neg c10] at H
                          exact absurd H (by simp)
                    · rw [if_neg c7] at H
                      exact absurd H (by simp)
                  · rw [if_neg c6] at H
                    exact absurd H (by simp)
                · rw [if_neg c5] at H
                  have c5b0 : decide (x6_3 < x4_1) = false := decide_eq_false c5
                  clear c5
                  by_cases c19 : x3_1.length < 5864062014805
                  · rw [if_pos c19] at H
                    have LMc19 := Aside0.mk c19
                    clear c19
                    obtain ⟨y166, hy166⟩ : ∃ y_ : List (List Int), y_ = (x3_1 ++ [x5_3]) := ⟨_, rfl⟩
                    replace H : (heliastlaw12_Graph.l0 k3 l0 y166 (wrap64 (x4_1 + 1))) = some r := by first | (rw [hy166]; with_reducible exact H) | (have H2_ := (Option.bind_some _ _).symm.trans H; rw [hy166]; with_reducible exact H2_) | (have H2_ := (Option.bind_some _ _).symm.trans H; with_reducible exact H2_) | with_reducible exact H | (rw [hy166]; exact H) | exact H
                    have Ny166 := Aside0.mk hy166
                    clear hy166
                    have H' := Aside0.mk H
                    clear H
                    obtain ⟨Ao21, co21, eo21⟩ := Kd.R_slice HO_5.out
                    subst eo21
                    go_wp2_with (first | ((with_reducible refine gate_builtin (b := .append) (xs := #[.tmp 61, .tmp 63]) rfl ?_); at_builtin; refine Kd.S_append (Kd.slice 3 (Kd.int .i64)) (w0 := w) w.heap.size rfl (.tmp 61) (.tmp 63) 74 65 (.slice none 0 0) 24 rfl Try.underlying74 info65 rfl (by decide) (by omega) u3 x3_1 x5_3 [.slice Ao21 x5_3.length co21] (fun _ => True) (fun k_ => some k_ = (.slice Ao21 x5_3.length co21 : Value).ownBlock) rfl rfl ?aP (fun k_ hk_ => ((Kd.R_mono (ok' := fun k_ => ((fun _ => True)) k_ ∧ some k_ ≠ (u3 : Value).ownBlock) (Kd.R_apart' (HO_5.out) (Kd.S_typed HO_3.out) (by decide)) (fun k_ hk => ⟨trivial, hk.2⟩))).1 k_ hk_.symm) ?aF ?aO ?aB ?aS ?aL ?_; (case aP => exact Kd.M_row (Kd.R_mono (Kd.R_tight rfl (Kd.R_mono (ok' := fun k_ => ((fun _ => True)) k_ ∧ some k_ ≠ (u3 : Value).ownBlock) (Kd.R_apart' (HO_5.out) (Kd.S_typed HO_3.out) (by decide)) (fun k_ hk => ⟨trivial, hk.2⟩))) (fun _ h_ => h_))); (case aB => exact (by repeat (first | (with_reducible first | exact HB.out | apply below_alloc | apply pw_below_drewN | apply below_drew1) | exact HB.out))); (case aF => exact (fun _ _ => trivial)); (case aO => exact (by (with_reducible repeat (first | apply Kd.S_alloc | apply Kd.S_drewN | apply Kd.S_drew)); exact Kd.S_mono HO_3.out (fun k_ hk => ⟨trivial, fun e_ => hk e_⟩))); (case aS => exact (below_size (by repeat (first | (with_reducible first | exact HB.out | apply below_alloc | apply pw_below_drewN | apply below_drew1) | exact HB.out)))); (case aL => have := LMc19.out; omega); intro v167 w20 ho hb hg hat; rw [← Ny166.out] at ho; have n0_ := Aside0.mk (hb); have n1_ := Aside0.mk (ho); clear HB; clear HO_3; clear HO_5; have HB := n0_; have HO168 := n1_; clear n0_ n1_; clear ho hb hg hat))
                    repeat (go_quiet (first | ((with_reducible refine gate_builtin (b := .append) (xs := #[.tmp 61, .tmp 63]) rfl ?_); at_builtin; refine Kd.S_append (Kd.slice 3 (Kd.int .i64)) (w0 := w) w.heap.size rfl (.tmp 61) (.tmp 63) 74 65 (.slice none 0 0) 24 rfl Try.underlying74 info65 rfl (by decide) (by omega) u3 x3_1 x5_3 [.slice Ao21 x5_3.length co21] (fun _ => True) (fun k_ => some k_ = (.slice Ao21 x5_3.length co21 : Value).ownBlock) rfl rfl ?aP (fun k_ hk_ => ((Kd.R_mono (ok' := fun k_ => ((fun _ => True)) k_ ∧ some k_ ≠ (u3 : Value).ownBlock) (Kd.R_apart' (HO_5.out) (Kd.S_typed HO_3.out) (by decide)) (fun k_ hk => ⟨trivial, hk.2⟩))).1 k_ hk_.symm) ?aF ?aO ?aB ?aS ?aL ?_; (case aP => exact Kd.M_row (Kd.R_mono (Kd.R_tight rfl (Kd.R_mono (ok' := fun k_ => ((fun _ => True)) k_ ∧ some k_ ≠ (u3 : Value).ownBlock) (Kd.R_apart' (HO_5.out) (Kd.S_typed HO_3.out) (by decide)) (fun k_ hk => ⟨trivial, hk.2⟩))) (fun _ h_ => h_))); (case aB => exact (by repeat (first | (with_reducible first | exact HB.out | apply below_alloc | apply pw_below_drewN | apply below_drew1) | exact HB.out))); (case aF => exact (fun _ _ => trivial)); (case aO => exact (by (with_reducible repeat (first | apply Kd.S_alloc | apply Kd.S_drewN | apply Kd.S_drew)); exact Kd.S_mono HO_3.out (fun k_ hk => ⟨trivial, fun e_ => hk e_⟩))); (case aS => exact (below_size (by repeat (first | (with_reducible first | exact HB.out | apply below_alloc | apply pw_below_drewN | apply below_drew1) | exact HB.out)))); (case aL => have := LMc19.out; omega); intro v167 w20 ho hb hg hat; rw [← Ny166.out] at ho; have n0_ := Aside0.mk (hb); have n1_ := Aside0.mk (ho); clear HB; clear HO_3; clear HO_5; have HB := n0_; have HO168 := n1_; clear n0_ n1_; clear ho hb hg hat)); try go_wp2_with (first | ((with_reducible refine gate_builtin (b := .append) (xs := #[.tmp 61, .tmp 63]) rfl ?_); at_builtin; refine Kd.S_append (Kd.slice 3 (Kd.int .i64)) (w0 := w) w.heap.size rfl (.tmp 61) (.tmp 63) 74 65 (.slice none 0 0) 24 rfl Try.underlying74 info65 rfl (by decide) (by omega) u3 x3_1 x5_3 [.slice Ao21 x5_3.length co21] (fun _ => True) (fun k_ => some k_ = (.slice Ao21 x5_3.length co21 : Value).ownBlock) rfl rfl ?aP (fun k_ hk_ => ((Kd.R_mono (ok' := fun k_ => ((fun _ => True)) k_ ∧ some k_ ≠ (u3 : Value).ownBlock) (Kd.R_apart' (HO_5.out) (Kd.S_typed HO_3.out) (by decide)) (fun k_ hk => ⟨trivial, hk.2⟩))).1 k_ hk_.symm) ?aF ?aO ?aB ?aS ?aL ?_; (case aP => exact Kd.M_row (Kd.R_mono (Kd.R_tight rfl (Kd.R_mono (ok' := fun k_ => ((fun _ => True)) k_ ∧ some k_ ≠ (u3 : Value).ownBlock) (Kd.R_apart' (HO_5.out) (Kd.S_typed HO_3.out) (by decide)) (fun k_ hk => ⟨trivial, hk.2⟩))) (fun _ h_ => h_))); (case aB => exact (by repeat (first | (with_reducible first | exact HB.out | apply below_alloc | apply pw_below_drewN | apply below_drew1) | exact HB.out))); (case aF => exact (fun _ _ => trivial)); (case aO => exact (by (with_reducible repeat (first | apply Kd.S_alloc | apply Kd.S_drewN | apply Kd.S_drew)); exact Kd.S_mono HO_3.out (fun k_ hk => ⟨trivial, fun e_ => hk e_⟩))); (case aS => exact (below_size (by repeat (first | (with_reducible first | exact HB.out | apply below_alloc | apply pw_below_drewN | apply below_drew1) | exact HB.out)))); (case aL => have := LMc19.out; omega); intro v167 w20 ho hb hg hat; rw [← Ny166.out] at ho; have n0_ := Aside0.mk (hb); have n1_ := Aside0.mk (ho); clear HB; clear HO_3; clear HO_5; have HB := n0_; have HO168 := n1_; clear n0_ n1_; clear ho hb hg hat)))
                    go_roundg k3
                    case measure => have := HK1.out; have := HJ1.out; have := HK3.out; omega
                    case rel => exact ⟨(y166), (wrap64 (x4_1 + 1)), (by first | rfl | (simp; done) | (simp [*]; done)), H', ⟨by have := HK1.out; have := HJ1.out; have := HK3.out; omega⟩, ⟨by (with_reducible repeat (first | apply Kd.S_alloc | apply Kd.S_drewN | apply Kd.S_drew)); exact HO168.out⟩, ⟨by repeat (first | (with_reducible first | exact HB.out | apply below_alloc | apply pw_below_drewN | apply below_drew1) | exact HB.out)⟩⟩
                  · rw [if_neg c19] at H
                    exact absurd H (by simp)
          · replace c4 := Bool.eq_false_iff.mpr c4
            subst c4
            have H1 : (some x3_1) = some r := by rw [if_neg (show ¬ (false = true) by decide)] at H; exact H
            clear H
            have H := H1
            clear H1
            obtain rfl := Option.some.inj H
            go_wp2
            repeat (go_quiet (fail); try go_wp2)
            go_ret
            exact ⟨_, by first | rfl | (simp [errW_none, errW_some] <;> rfl) | (simp [*, errW_none, errW_some] <;> rfl), by (with_reducible repeat (first | apply Kd.S_alloc | apply Kd.S_drewN | apply Kd.S_drew)); exact HO_3.out, by repeat (first | (with_reducible first | exact HB.out | apply below_alloc | apply pw_below_drewN | apply below_drew1) | exact HB.out)⟩

/-! ### graph_Reach: function 39 -/
-- GIVEN heliast/graph.Reach making uses slices.Sort[[]int,int]
open Go.Proofs.He
noncomputable def setK : KK Try.prog 3 Int := intK Try.underlying3
abbrev OwnSet (w : World) (b : Nat) (M : List (Int × Unit)) : Prop := Own setK unitV w b M
theorem zero103 (w : World) : (zeroValue 103).run Try.prog w = .ok (.agg #[]) w := by kernel_rfl
set_option maxHeartbeats 1000000 in
theorem set_has.walk (b : Nat) (M : List (Int × Unit)) (x : Int) (w : World) (h : OwnSet w b M) (hx : (Lit.int .i64 x).wf = true) :
    Calls Try.prog 91 #[.map (some b), .int .i64 x] w fun e w' => e = .returned (.bool (decide (x ∈ M.map (·.1)))) ∧ w' = w.alloc (.cells #[] 103) := by
  go_enter Try.func91, Try.ntmps91
  go_wp2_with (first | (at_lookup; refine wpList_mhas rfl _ _ 121 rfl setK 103 Try.underlying121 (zero103 _) b M rfl h x rfl hx ?_) | go_in)
  go_ret
  exact ⟨rfl, rfl⟩
set_option maxHeartbeats 1000000 in
theorem set_put.walk (b : Nat) (M : List (Int × Unit)) (x : Int) (w : World) (h : OwnSet w b M) (hx : (Lit.int .i64 x).wf = true) (hn : M.length < maxLen) :
    Calls Try.prog 89 #[.map (some b), .int .i64 x] w fun e w' => e = .returned (.tuple #[]) ∧ OwnSet w' b (putM M x ()) ∧ w.grownBy w' (some b) := by
  go_enter Try.func89, Try.ntmps89
  go_wp2_with (first | (at_mapUpdate; refine wpList_mput rfl _ _ _ 121 rfl setK unitV 103 Try.underlying121 b M rfl h hn x () rfl rfl hx trivial ?_; intro w1 hown1 hgrow1) | go_in)
  go_end0
  exact ⟨rfl, hown1, hgrow1⟩
theorem length_putM {M : List (Int × Unit)} {x : Int} : (putM M x ()).length ≤ M.length + 1 := by
  unfold putM delM; rw [List.length_cons]; have := List.length_filter_le (fun p : Int × Unit => decide (p.1 ≠ x)) M; omega
theorem mem_take_succ (l : List Int) (j : Nat) (hj : j < l.length) (x : Int) : x ∈ l.take (j + 1) ↔ x ∈ l.take j ∨ x = rd l j := by
  have e : rd l j = l[j] := by simp [rd, hj]
  rw [List.take_succ_eq_append_getElem hj, List.mem_append, List.mem_singleton, e]
structure OfInv (g : List (List Int)) (l : List Int) (w : World) (b j : Nat) (M : List (Int × Unit)) : Prop where
  own : OwnSet w b M
  len : M.length ≤ j
  mem : ∀ x, x ∈ M.map (·.1) ↔ x ∈ l.take j ∧ 0 ≤ x ∧ x < g.length
theorem OfInv.skip {g : List (List Int)} {l : List Int} {w : World} {b j : Nat} {M : List (Int × Unit)} (h : OfInv g l w b j M) (hj : j < l.length) (hx : ¬ (0 ≤ rd l j ∧ rd l j < g.length)) : OfInv g l w b (j + 1) M :=
  ⟨h.own, by have := h.len; omega, fun x => by
    rw [h.mem, mem_take_succ l j hj]
    constructor
    · rintro ⟨h1, h2⟩; exact ⟨.inl h1, h2⟩
    · rintro ⟨h1 | h1, h2⟩
      · exact ⟨h1, h2⟩
      · subst h1; exact absurd h2 hx⟩
theorem OfInv.put {g : List (List Int)} {l : List Int} {w w' : World} {b j : Nat} {M : List (Int × Unit)} (h : OfInv g l w b j M) (hj : j < l.length) {x : Int} (hx : x = rd l j) (h0 : 0 ≤ x) (h1 : x < g.length) (ho : OwnSet w' b (putM M x ())) : OfInv g l w' b (j + 1) (putM M x ()) := by
  subst hx; exact
  ⟨ho, by have := h.len; have := length_putM (M := M) (x := rd l j); omega, fun x => by
    rw [keys_putM, h.mem, mem_take_succ l j hj]
    constructor
    · rintro (rfl | ⟨h1, h2⟩)
      · exact ⟨.inr rfl, h0, h1⟩
      · exact ⟨.inl h1, h2⟩
    · rintro ⟨h1 | h1, h2⟩
      · exact .inr ⟨h1, h2⟩
      · exact .inl h1⟩
set_option maxHeartbeats 4000000 in
set_option maxRecDepth 100000 in
theorem graph_of.walk (A0 : Option Addr) (c0 : Nat) (g : List (List Int)) (A1 : Option Addr) (c1 : Nat) (l : List Int) (w : World) (hg : g.length ≤ 9223372036854775807) (hr1 : Kd.C (Kd.int .i64) w A1 l.length l) :
    Calls Try.prog 88 #[.slice A0 g.length c0, .slice A1 l.length c1] w fun e w' => ∃ b M, e = .returned (.map (some b)) ∧ w.heap.size ≤ b ∧ OwnSet w' b M ∧ (∀ x, x ∈ M.map (·.1) ↔ x ∈ l ∧ 0 ≤ x ∧ x < g.length) ∧ Below w.heap.size w w' := by
  have hmm := @run_makeMap Try.prog
  have hlen : l.length ≤ 9223372036854775807 := hr1.2.1
  have HR1 := Aside0.mk hr1
  clear hr1
  have HO := Aside0.mk (show OfInv g l (w.alloc (.map #[] 0)) w.heap.size 0 [] from ⟨Own.made _ _ _, Nat.le_refl _, by simp⟩)
  have HB := Aside0.mk ((Below.refl w.heap.size w).alloc (Nat.le_refl _) (Obj.map #[] 0))
  go_enter Try.func88, Try.ntmps88
  go_wp2
  clear hmm
  go_loopw [11] (fun v wr => ∃ (j : Nat) (M : List (Int × Unit)), v = .int .i64 j ∧ j ≤ l.length ∧ Aside0 (OfInv g l wr w.heap.size j M) ∧ Aside0 (Below w.heap.size w wr)) (fun v _ => l.length - (intOf v).toNat)
  case atStart => exact ⟨0, [], rfl, Nat.zero_le _, HO, HB⟩
  case round =>
    clear HO HB
    obtain ⟨j, M, rfl, hj, HI, HB⟩ := hrel
    by_cases hlt : j < l.length
    · obtain ⟨ad, e, hx⟩ := Kd.at_int (Kd.C_below HR1.out HB.out) (j : Int) (by omega) (by omega)
      cases e
      obtain ⟨x, hxd⟩ : ∃ x, x = rd l j := ⟨_, rfl⟩
      rw [← hxd, Int.toNat_natCast] at hx
      have HX := Aside0.mk hxd
      clear hxd
      have hm : M.length < maxLen := by have := HI.out.len; unfold maxLen; omega
      by_cases h0 : 0 ≤ x
      · by_cases h1 : x < g.length
        · have hwf : (Lit.int .i64 x).wf = true := WalkArith.wf_i64 (by omega)
          have HP := Aside0.mk (fun W (hW : OwnSet W w.heap.size M) => set_put.walk w.heap.size M x W hW hwf hm)
          clear hwf hm
          go_wp2_with (first | (go_at_call 89; refine (HP.out _ HI.out.own).mono ?_; rintro e w1 ⟨rfl, ho1, hg1⟩) | go_in)
          have HB1 := Aside0.mk (HB.out.grown hg1 HB.out.size (fun k e => by cases e; exact Nat.le_refl _))
          go_roundw
          case rel => exact ⟨j + 1, _, by go_num, by omega, ⟨HI.out.put hlt HX.out h0 h1 ho1⟩, HB1⟩
          case measure => simp [intOf]; omega
        · go_wp2
          go_roundw
          case rel => exact ⟨j + 1, M, by go_num, by omega, ⟨HI.out.skip hlt (by rw [← HX.out]; omega)⟩, HB⟩
          case measure => simp [intOf]; omega
      · go_wp2
        go_roundw
        case rel => exact ⟨j + 1, M, by go_num, by omega, ⟨HI.out.skip hlt (by rw [← HX.out]; omega)⟩, HB⟩
        case measure => simp [intOf]; omega
    · have hjl : j = l.length := by omega
      go_wp2
      go_ret
      exact ⟨_, M, rfl, Nat.le_refl _, HI.out.own, fun x => by rw [HI.out.mem, hjl, List.take_length], HB.out⟩
structure RiseInv (M : List (Int × Unit)) (w : World) (b r base : Nat) (v : Value) (xs todo : List Int) : Prop where
  it : Iter setK unitV w b r M todo
  row : (Kd.int .i64).R 3 w base (fun _ => True) v xs
  nodup : xs.Nodup
  mem : ∀ x, x ∈ xs ↔ x ∈ M.map (·.1) ∧ x ∉ todo
  len : xs.length + todo.length = M.length
theorem RiseInv.step {M : List (Int × Unit)} {w w2 : World} {b r base : Nat} {v v2 : Value} {xs todo : List Int} (h : RiseInv M w b r base v xs todo) {x : Int} (hx : x ∈ todo)
    (hi : Iter setK unitV w2 b r M (strikeL todo x)) (hr : (Kd.int .i64).R 3 w2 base (fun _ => True) v2 (xs ++ [x])) : RiseInv M w2 b r base v2 (xs ++ [x]) (strikeL todo x) where
  it := hi
  row := hr
  nodup := List.nodup_append.2 ⟨h.nodup, by simp, fun a ha b hb e => by rw [List.mem_singleton.1 hb] at e; subst e; exact ((h.mem a).1 ha).2 hx⟩
  mem z := by
    rw [List.mem_append, List.mem_singleton, h.mem, mem_strikeL]
    by_cases e : z = x
    · subst e; simp [h.it.sub z hx]
    · simp [e]
  len := by have := h.len; have := length_strike1 h.it.nodup hx; rw [List.length_append]; simp; omega
set_option maxHeartbeats 4000000 in
set_option maxRecDepth 100000 in
theorem set_rising.walk (b : Nat) (M : List (Int × Unit)) (w : World) (h : OwnSet w b M) (hlim : M.length < 17592186044416) :
    Calls Try.prog 82 #[.map (some b)] w fun e w' => ∃ v ys, e = .returned v ∧ (Kd.int .i64).R 3 w' w.heap.size (fun _ => True) v ys ∧ ys.Pairwise (· < ·) ∧ (∀ x, x ∈ ys ↔ x ∈ M.map (·.1)) ∧ Below w.heap.size w w' := by
  have HO := Aside0.mk h
  clear h
  go_enter Try.func82, Try.ntmps82
  go_wp2_with (first | (at_range; refine wpList_mrange rfl _ 121 rfl setK unitV 103 Try.underlying121 b M rfl HO.out ?_; intro w0 hi0 hg0 hs0) | go_in)
  go_frame
  have hb0 : b < w.heap.size := HO.out.lt
  have H0 := Aside0.mk (show RiseInv M w0 b w.heap.size w.heap.size (.slice none 0 0) [] (M.map (·.1)) from ⟨hi0, Kd.R_nil _ _ _ _ _, by simp, by simp, by simp⟩)
  have HB := Aside0.mk ((Below.refl w.heap.size w).grown hg0 (Nat.le_refl _) (fun k e => by cases e))
  clear hi0 hg0 hs0
  go_loopw [3] (fun v wr => ∃ (xs todo : List Int), Aside0 (RiseInv M wr b w.heap.size w.heap.size v xs todo) ∧ Aside0 (Below w.heap.size w wr)) (fun _ wr => wr.rangeLeft b w.heap.size)
  case atStart => exact ⟨[], _, H0, HB⟩
  case round =>
    clear H0 HB
    obtain ⟨xs, todo, HI, HB⟩ := hrel
    go_wp2_with (first | (at_next; refine wpList_mnext rfl _ rfl setK unitV b w.heap.size M rfl HI.out.it ?_ ?_) | go_in)
    · intro ht
      subst ht
      have HS := Aside0.mk (sort_int.walk HI.out.row (by have := HI.out.len; omega))
      go_wp2_with (first | (go_at_call 76; refine HS.out.mono ?_; rintro e w1 ⟨rfl, hr1, hg1⟩) | go_in)
      go_ret
      refine ⟨_, _, rfl, hr1, sort_rises HI.out.nodup, fun x => ?_, HB.out.grown hg1 HB.out.size (fun k e => ?_)⟩
      · rw [(List.mergeSort_perm _ _).mem_iff, HI.out.mem]; simp
      · exact own_base (Kd.R_own HI.out.row).choose_spec k e
    · intro x y w1 hx hxM hi1 hlt1 hg1 hs1 hen
      have hen' : (Instr.entry (.pointer (some ⟨w.heap.size, 0, none⟩))).run Try.prog w1 = .ok (.tuple #[.int .i64 x, .agg #[]]) w1 := hen
      clear hen
      have hrv : some w.heap.size ≠ u3.ownBlock := fun e => by
        obtain ⟨inner, ho⟩ := Kd.R_own HI.out.row
        obtain ⟨cells, hc⟩ := own_typed ho _ e.symm
        exact HI.out.it.off hc rfl
      have hbv : some b ≠ u3.ownBlock := fun e => by
        obtain ⟨inner, ho⟩ := Kd.R_own HI.out.row
        obtain ⟨cells, hc⟩ := own_typed ho _ e.symm
        exact HI.out.it.own.off hc rfl
      have HBV := Aside0.mk hbv
      have HRV := Aside0.mk hrv
      have HR1 := Aside0.mk (Kd.R_grown1 HI.out.row rfl hg1 hrv)
      have HB1 := Aside0.mk (HB.out.grown hg1 HB.out.size (fun k e => by cases e; exact Nat.le_refl _))
      have HG1 := Aside0.mk hlt1
      have HI1 := Aside0.mk hi1
      have HX := Aside0.mk hx
      have hl : (xs.length + 1) * 8 ≤ 140737488355328 := by have := HI.out.len; omega
      have HL := Aside0.mk hl
      have HSZ := Aside0.mk (show w.heap.size ≤ w1.heap.size from HB1.out.size)
      clear hg1 hlt1 hi1 hx hxM hl hs1 hrv hbv
      go_wp2_with (first | (at_builtin; refine Kd.R_append (Kd.int .i64) (w0 := w) w.heap.size rfl _ _ 65 3 (.int .i64 0) 8 rfl Try.underlying65 info3 rfl (by decide) (by omega) u3 xs x [.int .i64 x] (fun _ => True) (fun _ => False) rfl rfl rfl (fun _ hk => hk.elim) (fun _ _ => trivial) HR1.out HB1.out HSZ.out HL.out ?_; intro v2 w2 hr2 hb2 hg2 hat2) | go_in)
      go_roundw
      case rel => exact ⟨_, _, ⟨HI.out.step HX.out (HI1.out.grown hg2 HBV.out HRV.out) hr2⟩, ⟨hb2⟩⟩
      case measure => rw [HI1.out.left_grown hg2 HBV.out HRV.out]; exact HG1.out
structure ReachInv (g : List (List Int)) (l : List Int) (w : World) (b base : Nat) (v : Value) (L : List Int) (M : List (Int × Unit)) : Prop where
  own : OwnSet w b M
  row : (Kd.int .i64).R 3 w base (fun _ => True) v L
  nodup : L.Nodup
  sub : ∀ x ∈ L, x ∈ M.map (·.1)
  sound : ∀ x ∈ M.map (·.1), Rch g l x
  start : ∀ x ∈ l, 0 ≤ x → x < g.length → x ∈ M.map (·.1)
  closed : ∀ a ∈ M.map (·.1), a ∉ L → ∀ c, goesTo g a c → c ∈ M.map (·.1)
structure RoundInv (g : List (List Int)) (l : List Int) (w : World) (b base : Nat) (v : Value) (L : List Int) (M : List (Int × Unit)) (n : Int) (j : Nat) : Prop where
  own : OwnSet w b M
  row : (Kd.int .i64).R 3 w base (fun _ => True) v L
  nodup : L.Nodup
  sub : ∀ x ∈ L, x ∈ M.map (·.1)
  sound : ∀ x ∈ M.map (·.1), Rch g l x
  start : ∀ x ∈ l, 0 ≤ x → x < g.length → x ∈ M.map (·.1)
  at_n : n ∈ M.map (·.1)
  closed : ∀ a ∈ M.map (·.1), a ∉ L → a ≠ n → ∀ c, goesTo g a c → c ∈ M.map (·.1)
  part : ∀ i, i < j → ∀ c, c = rd (g.getD n.toNat []) i → 0 ≤ c → c < n → c ∈ M.map (·.1)
theorem mem_rd {l : List Int} {c : Int} (h : c ∈ l) : ∃ i : Nat, i < l.length ∧ c = rd l i := by
  obtain ⟨i, hi, rfl⟩ := List.getElem_of_mem h
  exact ⟨i, hi, by simp [rd, hi]⟩
theorem rd_mem {l : List Int} {i : Nat} (h : i < l.length) : rd l i ∈ l := by
  have : rd l i = l[i] := by simp [rd, h]
  rw [this]; exact List.getElem_mem h
theorem small_set {g : List (List Int)} {l : List Int} {w : World} {b : Nat} {M : List (Int × Unit)} (ho : OwnSet w b M) (hs : ∀ x ∈ M.map (·.1), Rch g l x) : M.length ≤ (rchL g l).length := by
  have := ho.nodup.length_le_of_subset (l₂ := rchL g l) (fun x hx => mem_rchL.2 (hs x hx))
  simpa using this
theorem small_rch (g : List (List Int)) (l : List Int) : (rchL g l).length ≤ g.length := by
  unfold rchL pickL
  exact Nat.le_trans (List.length_filter_le _ _) (by simp)
theorem ReachInv.pop {g : List (List Int)} {l : List Int} {w : World} {b base : Nat} {v v' : Value} {L : List Int} {n : Int} {M : List (Int × Unit)} (h : ReachInv g l w b base v (L ++ [n]) M) (hr : (Kd.int .i64).R 3 w base (fun _ => True) v' L) : RoundInv g l w b base v' L M n 0 where
  own := h.own
  row := hr
  nodup := (List.nodup_append.1 h.nodup).1
  sub x hx := h.sub x (List.mem_append_left _ hx)
  sound := h.sound
  start := h.start
  at_n := h.sub n (by simp)
  closed a ha hL hn := h.closed a ha (by simp [hL, hn])
  part i hi := absurd hi (Nat.not_lt_zero _)
theorem RoundInv.done {g : List (List Int)} {l : List Int} {w : World} {b base : Nat} {v : Value} {L : List Int} {n : Int} {M : List (Int × Unit)} {j : Nat} (h : RoundInv g l w b base v L M n j) (hj : (g.getD n.toNat []).length ≤ j) : ReachInv g l w b base v L M where
  own := h.own
  row := h.row
  nodup := h.nodup
  sub := h.sub
  sound := h.sound
  start := h.start
  closed a ha hL c hc := by
    by_cases e : a = n
    · subst e
      obtain ⟨i, hi, rfl⟩ := mem_rd hc.2.1
      exact h.part i (by omega) _ rfl hc.2.2.1 hc.2.2.2
    · exact h.closed a ha hL e c hc
theorem RoundInv.skip {g : List (List Int)} {l : List Int} {w : World} {b base : Nat} {v : Value} {L : List Int} {n : Int} {M : List (Int × Unit)} {j : Nat} (h : RoundInv g l w b base v L M n j) {x : Int} (hx : x = rd (g.getD n.toNat []) j) (hs : 0 ≤ x → x < n → x ∈ M.map (·.1))
    {w' : World} (ho : OwnSet w' b M) (hr : (Kd.int .i64).R 3 w' base (fun _ => True) v L) : RoundInv g l w' b base v L M n (j + 1) where
  own := ho
  row := hr
  nodup := h.nodup
  sub := h.sub
  sound := h.sound
  start := h.start
  at_n := h.at_n
  closed := h.closed
  part i hi c hc h0 h1 := by
    by_cases e : i = j
    · subst e; rw [← hx] at hc; subst hc; exact hs h0 h1
    · exact h.part i (by omega) c hc h0 h1
theorem RoundInv.push {g : List (List Int)} {l : List Int} {w : World} {b base : Nat} {v v' : Value} {L : List Int} {n : Int} {M : List (Int × Unit)} {j : Nat} (h : RoundInv g l w b base v L M n j) {x : Int} (hx : x = rd (g.getD n.toNat []) j) (hj : j < (g.getD n.toNat []).length) (h0 : 0 ≤ x) (h1 : x < n) (hn : x ∉ M.map (·.1))
    {w' : World} (ho : OwnSet w' b (putM M x ())) (hr : (Kd.int .i64).R 3 w' base (fun _ => True) v' (L ++ [x])) : RoundInv g l w' b base v' (L ++ [x]) (putM M x ()) n (j + 1) where
  own := ho
  row := hr
  nodup := List.nodup_append.2 ⟨h.nodup, by simp, fun a ha c hc e => by rw [List.mem_singleton.1 hc] at e; subst e; exact hn (h.sub a ha)⟩
  sub z hz := by
    rw [keys_putM]
    rcases List.mem_append.1 hz with hz | hz
    · exact .inr (h.sub z hz)
    · exact .inl (List.mem_singleton.1 hz)
  sound z hz := by
    rcases keys_putM.1 hz with rfl | hz
    · exact .step (h.sound n h.at_n) ⟨(h.sound n h.at_n).valid.1, by rw [hx]; exact rd_mem hj, h0, h1⟩
    · exact h.sound z hz
  start z hz h2 h3 := keys_putM.2 (.inr (h.start z hz h2 h3))
  at_n := keys_putM.2 (.inr h.at_n)
  closed a ha hL hna c hc := by
    rcases keys_putM.1 ha with rfl | ha
    · exact absurd (by simp) hL
    · exact keys_putM.2 (.inr (h.closed a ha (fun h' => hL (List.mem_append_left _ h')) hna c hc))
  part i hi c hc h2 h3 := by
    rw [keys_putM]
    by_cases e : i = j
    · subst e; rw [← hx] at hc; exact .inl hc
    · exact .inr (h.part i (by omega) c hc h2 h3)
theorem ReachInv.all {g : List (List Int)} {l : List Int} {w : World} {b base : Nat} {v : Value} {M : List (Int × Unit)} (h : ReachInv g l w b base v [] M) (x : Int) : x ∈ M.map (·.1) ↔ Rch g l x := by
  refine ⟨h.sound x, fun hx => ?_⟩
  induction hx with
  | base h1 h2 h3 => exact h.start _ h1 h2 h3
  | step h1 h2 ih => exact h.closed _ ih (by simp) _ h2
set_option maxHeartbeats 8000000 in
set_option maxRecDepth 100000 in
theorem graph_reach.walk (A0 : Option Addr) (c0 : Nat) (g : List (List Int)) (A1 : Option Addr) (c1 : Nat) (l : List Int) (w : World) (hr0 : Kd.C (Kd.slice 3 (Kd.int .i64)) w A0 g.length g) (hr1 : Kd.C (Kd.int .i64) w A1 l.length l) (hlim : g.length < 17592186044416) :
    Calls Try.prog 81 #[.slice A0 g.length c0, .slice A1 l.length c1] w fun e w' => ∃ b M, e = .returned (.map (some b)) ∧ w.heap.size ≤ b ∧ OwnSet w' b M ∧ (∀ x, x ∈ M.map (·.1) ↔ Rch g l x) ∧ Below w.heap.size w w' := by
  have HR0 := Aside0.mk hr0
  have HR1 := Aside0.mk hr1
  clear hr0 hr1
  go_enter Try.func81, Try.ntmps81
  go_wp2_with fail
  refine (graph_of.walk A0 c0 g A1 c1 l w (by omega) HR1.out).mono ?_
  rintro e w1 ⟨b, M1, rfl, hb, ho1, hm1, hb1⟩
  have HM1 := Aside0.mk hm1
  have HO1 := Aside0.mk ho1
  have HB1 := Aside0.mk hb1
  have HBB := Aside0.mk hb
  have hs1 : M1.length ≤ g.length := by
    have := ho1.nodup.length_le_of_subset (l₂ := rchL g l) (fun x hx => mem_rchL.2 (by obtain ⟨h1, h2, h3⟩ := (hm1 x).1 hx; exact .base h1 h2 h3))
    have h' := small_rch g l
    simp at this; omega
  clear hm1 ho1 hb1 hb
  go_wp2_with fail
  refine (set_rising.walk b M1 w1 HO1.out (by omega)).mono ?_
  rintro e w2 ⟨v, ys, rfl, hr2, hp2, hm2, hb2⟩
  have HI := Aside0.mk (show ReachInv g l w2 b w.heap.size v ys M1 from {
    own := HO1.out.below hb2
    row := Kd.R_lower hr2 HB1.out.size
    nodup := hp2.imp (fun h => by omega)
    sub := fun x hx => (hm2 x).1 hx
    sound := fun x hx => by obtain ⟨h1, h2, h3⟩ := (HM1.out x).1 hx; exact .base h1 h2 h3
    start := fun x h1 h2 h3 => (HM1.out x).2 ⟨h1, h2, h3⟩
    closed := fun a ha hL => absurd ((hm2 a).2 ha) hL })
  have HB := Aside0.mk (below_then HB1.out HB1.out.size hb2)
  clear hr2 hp2 hm2 hb2 HM1 HO1 HB1 hs1
  go_wp2
  go_loopg [6] (2 * ((rchL g l).length - M1.length) + ys.length) (fun kq v6 wr => ∃ (L : List Int) (M : List (Int × Unit)), Aside0 (ReachInv g l wr b w.heap.size v6 L M) ∧ Aside0 (2 * ((rchL g l).length - M.length) + L.length ≤ kq) ∧ Aside0 (Below w.heap.size w wr))
  case atStart => exact ⟨ys, M1, HI, ⟨Nat.le_refl _⟩, HB⟩
  case round =>
    clear HI HB
    obtain ⟨L, M, HI, HK, HB⟩ := hrel
    rcases List.eq_nil_or_concat L with hL | ⟨L', n, hL⟩
    · subst hL
      obtain ⟨A, c, rfl⟩ := Kd.R_slice HI.out.row
      go_wp2
      go_ret
      exact ⟨b, M, rfl, HBB.out, HI.out.own, HI.out.all, HB.out⟩
    · rw [List.concat_eq_append] at hL
      subst hL
      obtain ⟨gb, cap, hv, hc, hcell, hrow⟩ := row_last HI.out.row
      subst hv
      have HP := Aside0.mk (HI.out.pop hrow)
      have hnv := (HI.out.sound n (HI.out.sub n (by simp))).valid
      have hn0 := hnv.1
      have hn1 := hnv.2
      clear hnv hrow
      have hLm : L'.length + 1 ≤ 9223372036854775807 := by
        have h1 := HI.out.nodup.length_le_of_subset (l₂ := rchL g l) (fun x hx => mem_rchL.2 (HI.out.sound x (HI.out.sub x hx)))
        have h2 := small_rch g l
        simp at h1; omega
      obtain ⟨ad, Ar, cr, e, hrx, hrl, hrc⟩ := at_row HR0.out n hn0 hn1
      cases e
      replace hrx := (HB.out.cell (World.block_lt_of_cell? w _ hrx)).trans hrx
      obtain ⟨ns, hns⟩ : ∃ ns, ns = g.getD n.toNat [] := ⟨_, rfl⟩
      rw [← hns] at hrx hrl hrc
      have HN := Aside0.mk hns
      have HRC := Aside0.mk hrc
      have hnl : ns.length ≤ 9223372036854775807 := hrc.2.1
      clear hns hrc hrl
      obtain ⟨i0, hi0, hzz⟩ := Option.map_eq_some_iff.1 info3
      simp only [Prod.mk.injEq] at hzz
      have hcut := cut_up (P := Try.prog) 65 3 Try.underlying65 hi0 (some ⟨gb, 0, none⟩) (L'.length + 1) cap L'.length (L'.length : Int) rfl (by omega)
      clear hi0 hzz
      obtain ⟨ko, rfl⟩ : ∃ k, gk = k + 1 := ⟨gk - 1, by have := HK.out; simp at this; omega⟩
      have HK1 := Aside0.mk (show 2 * ((rchL g l).length - M.length) + L'.length ≤ ko by have := HK.out; simp at this; omega)
      clear HK HI
      go_wp2
      go_loopg [6, 34] ns.length (fun kq v6 v34 w3 => ∃ (L : List Int) (M : List (Int × Unit)) (j : Nat), v34 = .int .i64 j ∧ j ≤ ns.length ∧ Aside0 (RoundInv g l w3 b w.heap.size v6 L M n j) ∧ Aside0 (ns.length - j ≤ kq) ∧ Aside0 (2 * ((rchL g l).length - M.length) + L.length ≤ ko) ∧ Aside0 (Below w.heap.size w w3))
      case atStart => exact ⟨L', M, 0, rfl, Nat.zero_le _, HP, ⟨by omega⟩, HK1, HB⟩
      case round =>
        clear HP HK1 HB hcell hcut hc hrx
        obtain ⟨L, M, j, rfl, hj, HI, HJ, HK, HB⟩ := hrel
        by_cases hlt : j < ns.length
        · obtain ⟨ad2, e, hx⟩ := Kd.at_int (Kd.C_below HRC.out HB.out) (j : Int) (by omega) (by omega)
          cases e
          obtain ⟨x, hxd⟩ : ∃ x, x = rd ns j := ⟨_, rfl⟩
          rw [← hxd, Int.toNat_natCast] at hx
          have HX := Aside0.mk (hxd.trans (by rw [HN.out]) : x = rd (g.getD n.toNat []) j)
          clear hxd
          by_cases h0 : 0 ≤ x
          · by_cases h1 : x < n
            · have hwf : (Lit.int .i64 x).wf = true := WalkArith.wf_i64 (by omega)
              by_cases hin : x ∈ M.map (·.1)
              · have HH := Aside0.mk (fun W (hW : OwnSet W b M) => (set_has.walk b M x W hW hwf).mono (R' := fun e w' => e = .returned (.bool true) ∧ w' = W.alloc (.cells #[] 103)) (fun _ _ h => by rw [decide_eq_true hin] at h; exact h))
                have HIN := Aside0.mk hin
                clear hin hwf
                go_wp2_with (first | (go_at_call 91; refine (HH.out _ HI.out.own).mono ?_; rintro e w4 ⟨rfl, rfl⟩) | go_in)
                go_roundg (ns.length - (j + 1))
                case measure => have := HJ.out; omega
                case rel => exact ⟨L, M, j + 1, by go_num, by omega, ⟨HI.out.skip HX.out (fun _ _ => HIN.out) (HI.out.own.below ((Below.refl _ _).alloc (Nat.le_refl _) _)) (Kd.R_below HI.out.row ((Below.refl _ _).alloc (Nat.le_refl _) _))⟩, ⟨Nat.le_refl _⟩, HK, ⟨below_alloc HB.out _⟩⟩
              · have HH := Aside0.mk (fun W (hW : OwnSet W b M) => (set_has.walk b M x W hW hwf).mono (R' := fun e w' => e = .returned (.bool false) ∧ w' = W.alloc (.cells #[] 103)) (fun _ _ h => by rw [decide_eq_false hin] at h; exact h))
                have hsm := small_set HI.out.own HI.out.sound
                have hsr := small_rch g l
                have HP := Aside0.mk (fun W (hW : OwnSet W b M) => set_put.walk b M x W hW hwf (by unfold maxLen; omega))
                have HIN := Aside0.mk hin
                have hLm : L.length ≤ g.length := by
                  have h1 := HI.out.nodup.length_le_of_subset (l₂ := rchL g l) (fun x hx => mem_rchL.2 (HI.out.sound x (HI.out.sub x hx)))
                  omega
                have hll : (L.length + 1) * 8 ≤ 140737488355328 := by omega
                have HLL := Aside0.mk hll
                have hlp : (putM M x ()).length = M.length + 1 := by
                  have : delM M x = M := List.filter_eq_self.2 (fun p hp => by simp; rintro rfl; exact hin (List.mem_map.2 ⟨p, hp, rfl⟩))
                  unfold putM; rw [this, List.length_cons]
                have HLP := Aside0.mk hlp
                have hs2 : M.length + 1 ≤ (rchL g l).length := by
                  rw [← hlp]
                  have hnd := nodup_putM HI.out.own.nodup x ()
                  have := hnd.length_le_of_subset (l₂ := rchL g l) (fun z hz => mem_rchL.2 (by
                    rcases keys_putM.1 hz with rfl | hz
                    · exact .step (HI.out.sound n HI.out.at_n) ⟨hn0, by rw [HX.out]; exact rd_mem (by rw [← HN.out]; exact hlt), h0, h1⟩
                    · exact HI.out.sound z hz))
                  simpa using this
                have HS2 := Aside0.mk hs2
                clear hin hwf hsm hsr hLm hll hlp hs2
                go_wp2_with (go_at_call 91; refine (HH.out _ HI.out.own).mono ?_; rintro e w4 ⟨rfl, rfl⟩)
                have HO4 := Aside0.mk (HI.out.own.below ((Below.refl _ _).alloc (Nat.le_refl _) (.cells #[] 103)))
                have HR4 := Aside0.mk (Kd.R_below HI.out.row ((Below.refl _ _).alloc (Nat.le_refl _) (.cells #[] 103)))
                have HB4 := Aside0.mk (below_alloc HB.out (.cells #[] 103))
                go_wp2_with fail
                refine (HP.out _ HO4.out).mono ?_
                rintro e w5 ⟨rfl, ho5, hg5⟩
                have hbv : some b ≠ u6.ownBlock := fun e => by
                  obtain ⟨inner, ho⟩ := Kd.R_own HR4.out
                  obtain ⟨cells, hc⟩ := own_typed ho _ e.symm
                  exact HO4.out.off hc rfl
                have HBV := Aside0.mk hbv
                have HR5 := Aside0.mk (Kd.R_grown1 HR4.out rfl hg5 hbv)
                have HO5 := Aside0.mk ho5
                have HB5 := Aside0.mk (HB4.out.grown hg5 HB4.out.size (fun k e => by cases e; exact HBB.out))
                have HSZ := Aside0.mk (show w.heap.size ≤ w5.heap.size from HB5.out.size)
                clear hbv ho5 hg5
                go_wp2_with (first | (at_builtin; refine Kd.R_append (Kd.int .i64) (w0 := w) w.heap.size rfl _ _ 65 3 (.int .i64 0) 8 rfl Try.underlying65 info3 rfl (by decide) (by omega) u6 L x [.int .i64 x] (fun _ => True) (fun _ => False) rfl rfl rfl (fun _ hk => hk.elim) (fun _ _ => trivial) HR5.out HB5.out HSZ.out HLL.out ?_; intro v2 w6 hr2 hb2 hg2 hat2) | go_in)
                go_roundg (ns.length - (j + 1))
                case measure => have := HJ.out; omega
                case rel => exact ⟨L ++ [x], putM M x (), j + 1, by go_num, by omega, ⟨HI.out.push HX.out (by rw [← HN.out]; exact hlt) h0 h1 HIN.out (HO5.out.grown hg2 HBV.out) hr2⟩, ⟨Nat.le_refl _⟩, ⟨by rw [HLP.out, List.length_append]; have := HS2.out; have := HK.out; simp; omega⟩, ⟨hb2⟩⟩
            · go_wp2
              go_roundg (ns.length - (j + 1))
              case measure => have := HJ.out; omega
              case rel => exact ⟨L, M, j + 1, by go_num, by omega, ⟨HI.out.skip HX.out (fun _ h => by omega) HI.out.own HI.out.row⟩, ⟨Nat.le_refl _⟩, HK, HB⟩
          · go_wp2
            go_roundg (ns.length - (j + 1))
            case measure => have := HJ.out; omega
            case rel => exact ⟨L, M, j + 1, by go_num, by omega, ⟨HI.out.skip HX.out (fun h => by omega) HI.out.own HI.out.row⟩, ⟨Nat.le_refl _⟩, HK, HB⟩
        · go_wp2
          go_roundg ko
          case measure => omega
          case rel => exact ⟨L, M, ⟨HI.out.done (by rw [← HN.out]; omega)⟩, HK, HB⟩
set_option maxHeartbeats 2000000 in
theorem graph_Reach.walk (A0 : Option Addr) (c0 : Nat) (g : List (List Int)) (A1 : Option Addr) (c1 : Nat) (l : List Int) (w : World) (hr0 : Kd.C (Kd.slice 3 (Kd.int .i64)) w A0 g.length g) (hr1 : Kd.C (Kd.int .i64) w A1 l.length l) (hlim : g.length < 17592186044416) :
    Calls Try.prog 39 #[.slice A0 g.length c0, .slice A1 l.length c1] w fun e w' => ∃ v, e = .returned v ∧ (Kd.int .i64).R 3 w' w.heap.size (fun _ => True) v (rchL g l) ∧ Below w.heap.size w w' := by
  have HR0 := Aside0.mk hr0
  have HR1 := Aside0.mk hr1
  clear hr0 hr1
  go_enter Try.func39, Try.ntmps39
  go_wp2_with fail
  refine (graph_reach.walk A0 c0 g A1 c1 l w HR0.out HR1.out hlim).mono ?_
  rintro e w1 ⟨b, M1, rfl, hb, ho1, hm1, hb1⟩
  have HM1 := Aside0.mk hm1
  have HO1 := Aside0.mk ho1
  have HB1 := Aside0.mk hb1
  have hsm := small_set ho1 (fun x hx => (hm1 x).1 hx)
  have hsr := small_rch g l
  clear hm1 ho1 hb1 hb
  go_wp2_with fail
  refine (set_rising.walk b M1 w1 HO1.out (by omega)).mono ?_
  rintro e w2 ⟨v, ys, rfl, hr2, hp2, hm2, hb2⟩
  have HE := Aside0.mk (show ys = rchL g l from rises_eq hp2 (pickL_rises g _) (fun x => by rw [hm2, HM1.out]; exact (mem_rchL (g := g) (l := l)).symm))
  have HR2 := Aside0.mk (Kd.R_lower hr2 HB1.out.size)
  have HB2 := Aside0.mk (below_then HB1.out HB1.out.size hb2)
  clear hr2 hp2 hm2 hb2
  go_wp2
  go_ret
  exact ⟨v, rfl, by rw [← HE.out]; exact HR2.out, HB2.out⟩
def graph_Reach.f (g : List (List Int)) (l : List Int) : Option (List Int) := if g.length < 17592186044416 then some (rchL g l) else none
theorem graph_Reach.calls (A0 : Option Addr) (c0 : Nat) (l0 : List (List Int)) (A1 : Option Addr) (c1 : Nat) (l1 : List Int) (r : List Int) (w : World) (hr0 : Kd.C (Kd.slice 3 (Kd.int .i64)) w A0 l0.length l0) (hc0 : l0.length ≤ c0) (hr1 : Kd.C (Kd.int .i64) w A1 l1.length l1) (hc1 : l1.length ≤ c1) (h : graph_Reach.f l0 l1 = some r) :
    Calls Try.prog 39 #[.slice A0 l0.length c0, .slice A1 l1.length c1] w fun e w' => ∃ v0_ : Value, e = .returned (v0_) ∧ (Kd.int .i64).R 3 w' w.heap.size (fun _ => True) v0_ r ∧ Below w.heap.size w w' := by
  unfold graph_Reach.f at h
  split at h
  · obtain rfl := Option.some.inj h
    exact graph_Reach.walk A0 c0 l0 A1 c1 l1 w hr0 hr1 ‹_›
  · cases h

end Go.Proofs.Ytmmalieacakcbaa.S

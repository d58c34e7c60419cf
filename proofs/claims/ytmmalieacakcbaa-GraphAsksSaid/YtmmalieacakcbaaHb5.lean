-- Written by heprint.py (this session's, over the kit's print.py): not trusted, Lean checks it.
import Derived.Test.YtmmalieacakcbaaHb0
import Derived.Test.YtmmalieacakcbaaHb2
namespace Go.Proofs.Ytmmalieacakcbaa.S
open Go.RowKit Go.Proofs.YtmmalieacakcbaaW.PrintWords Go.Proofs.YtmmalieacakcbaaW.PrintLast Go.Proofs.YtmmalieacakcbaaW.PrintMore
attribute [local go_sem] max2_int min2_int max_two min_two max_three min_three max_four min_four   -- for this text's walks alone
set_option linter.unusedVariables false
set_option linter.unusedSimpArgs false

/-! ### heliastref12_Right: function 53 -/
mutual
def heliastref12_Right.l0 : Nat → List (List Int) → Int → Option (Bool)
  | 0, _, _ => none
  | k + 1, x0, x3 => if x3 < (x0.length : Int) then (heliastref12_Right.l1 k x0 x3 0) else (some true)
def heliastref12_Right.l1 : Nat → List (List Int) → Int → Int → Option (Bool)
  | 0, _, _, _ => none
  | k + 1, x0, x3, x4 => if 0 ≤ x3 then (if x3 < (x0.length : Int) then (if x4 < ((rd_L1 x0 x3).length : Int) then (if 0 ≤ x4 then (if (rd (rd_L1 x0 x3) x4) < 0 then (some false) else (if (rd (rd_L1 x0 x3) x4) ≥ x3 then (some false) else (if x4 > 0 then (if 0 ≤ (wrap64 (x4 - 1)) then (if (wrap64 (x4 - 1)) < ((rd_L1 x0 x3).length : Int) then (if (rd (rd_L1 x0 x3) x4) ≤ (rd (rd_L1 x0 x3) (wrap64 (x4 - 1))) then (some false) else (heliastref12_Right.l1 k x0 x3 (wrap64 (x4 + 1)))) else (none)) else (none)) else (heliastref12_Right.l1 k x0 x3 (wrap64 (x4 + 1)))))) else (none)) else (heliastref12_Right.l0 k x0 (wrap64 (x3 + 1)))) else (none)) else (none)
end
def heliastref12_Right.f (k : Nat) (l0 : List (List Int)) : Option (Bool) := heliastref12_Right.l0 k l0 0
theorem heliastref12_Right.mono_l : ∀ k, (∀ y0 y1, LeO (heliastref12_Right.l0 k y0 y1) (heliastref12_Right.l0 (k + 1) y0 y1)) ∧ (∀ y0 y1 y2, LeO (heliastref12_Right.l1 k y0 y1 y2) (heliastref12_Right.l1 (k + 1) y0 y1 y2))
  | 0 => ⟨fun _ _ r h => by simp [heliastref12_Right.l0] at h, fun _ _ _ r h => by simp [heliastref12_Right.l1] at h⟩
  | k + 1 => by
    obtain ⟨ih0, ih1⟩ := heliastref12_Right.mono_l k
    refine ⟨?_, ?_⟩
    · intro y0 y1
      unfold heliastref12_Right.l0
      repeat' first
      | (with_reducible exact ih0 _ _)
      | (with_reducible exact ih1 _ _ _)
      | (with_reducible exact LeO.refl _)
      | (with_reducible exact LeO.none _)
      | (with_reducible refine LeO.ite ?_ ?_)
      | (with_reducible refine LeO.bind ?_ (fun _ => ?_))
      | exact ih0 _ _
      | exact ih1 _ _ _
      | exact LeO.none _
      | refine LeO.ite ?_ ?_
      | refine LeO.bind ?_ (fun _ => ?_)
    · intro y0 y1 y2
      unfold heliastref12_Right.l1
      repeat' first
      | (with_reducible exact ih0 _ _)
      | (with_reducible exact ih1 _ _ _)
      | (with_reducible exact LeO.refl _)
      | (with_reducible exact LeO.none _)
      | (with_reducible refine LeO.ite ?_ ?_)
      | (with_reducible refine LeO.bind ?_ (fun _ => ?_))
      | exact ih0 _ _
      | exact ih1 _ _ _
      | exact LeO.none _
      | refine LeO.ite ?_ ?_
      | refine LeO.bind ?_ (fun _ => ?_)
theorem heliastref12_Right.mono : ∀ a0 k, LeO (heliastref12_Right.f k a0) (heliastref12_Right.f (k + 1) a0) := by
  intro a0 k
  obtain ⟨ih0, ih1⟩ := heliastref12_Right.mono_l k
  unfold heliastref12_Right.f
  repeat' first
      | (with_reducible exact ih0 _ _)
      | (with_reducible exact ih1 _ _ _)
      | (with_reducible exact LeO.refl _)
      | (with_reducible exact LeO.none _)
      | (with_reducible refine LeO.ite ?_ ?_)
      | (with_reducible refine LeO.bind ?_ (fun _ => ?_))
      | exact ih0 _ _
      | exact ih1 _ _ _
      | exact LeO.none _
      | refine LeO.ite ?_ ?_
      | refine LeO.bind ?_ (fun _ => ?_)
set_option maxHeartbeats 8000000 in
set_option maxRecDepth 100000 in
theorem heliastref12_Right.calls (k : Nat) (A0 : Option Addr) (c0 : Nat) (l0 : List (List Int)) (r : Bool) (w : World) (hr0 : Kd.C (Kd.slice 3 (Kd.int .i64)) w A0 l0.length l0) (hc0 : l0.length ≤ c0) (h : heliastref12_Right.f k l0 = some r) :
    Calls Try.prog 53 #[.slice A0 l0.length c0] w fun e w' => e = .returned (.bool r) ∧ Drawn0 w w' := by
  have HR0 := Aside0.mk hr0
  have HC0 := Aside0.mk hc0
  clear hr0 hc0
  have H : (heliastref12_Right.l0 k l0 0) = some r := h
  clear h
  have H' := Aside0.mk H
  clear H
  go_enter Try.func53, Try.ntmps53
  go_wp2
  repeat (go_quiet (fail); try go_wp2)
  go_loopg [3] k (fun kq v3 w' => ∃ (x3_1 : Int), v3 = .int .i64 x3_1 ∧ Aside0 (heliastref12_Right.l0 kq l0 x3_1 = some r) ∧ Aside0 (kq ≤ k) ∧ Drawn0 w w')
  case atStart => exact ⟨(0), (by first | rfl | (simp; done) | (simp [*]; done)), H', ⟨Nat.le_refl _⟩, by repeat (first | exact Drawn0.refl _ | apply Drawn0.step)⟩
  case round =>
    clear H'
    obtain ⟨x3_1, rfl, HA, HK1, ⟨m1, rfl⟩⟩ := hrel
    cases gk with
    | zero => exact absurd HA.out (by simp [heliastref12_Right.l0])
    | succ k1 =>
      have H := HA.out
      clear HA
      simp only [heliastref12_Right.l0] at H
      by_cases c2 : x3_1 < (l0.length : Int)
      · rw [if_pos c2] at H
        have c2b0 : decide (x3_1 < (l0.length : Int)) = true := decide_eq_true c2
        clear c2
        have H' := Aside0.mk H
        clear H
        go_wp2
        repeat (go_quiet (fail); try go_wp2)
        go_loopg [4] k1 (fun kq v4 w' => ∃ (x4_2 : Int), v4 = .int .i64 x4_2 ∧ Aside0 (heliastref12_Right.l1 kq l0 x3_1 x4_2 = some r) ∧ Aside0 (kq ≤ k1) ∧ Drawn0 w w')
        case atStart => exact ⟨(0), (by first | rfl | (simp; done) | (simp [*]; done)), H', ⟨Nat.le_refl _⟩, by repeat (first | exact Drawn0.refl _ | apply Drawn0.step)⟩
        case round =>
          clear H'
          try clear c2
          try clear c2b0
          try clear p2
          obtain ⟨x4_2, rfl, HA, HK2, ⟨m2, rfl⟩⟩ := hrel
          cases gk with
          | zero => exact absurd HA.out (by simp [heliastref12_Right.l1])
          | succ k2 =>
            have H := HA.out
            clear HA
            simp only [heliastref12_Right.l1] at H
            by_cases c3 : 0 ≤ x3_1
            · rw [if_pos c3] at H
              have c3b0 : decide (0 ≤ x3_1) = true := decide_eq_true c3
              clear c3
              by_cases c4 : x3_1 < (l0.length : Int)
              · rw [if_pos c4] at H
                have c4b0 : decide (x3_1 < (l0.length : Int)) = true := decide_eq_true c4
                clear c4
                by_cases c5 : x4_2 < ((rd_L1 l0 x3_1).length : Int)
                · rw [if_pos c5] at H
                  have c5b0 : decide (x4_2 < ((rd_L1 l0 x3_1).length : Int)) = true := decide_eq_true c5
                  clear c5
                  by_cases c6 : 0 ≤ x4_2
                  · rw [if_pos c6] at H
                    have c6b0 : decide (0 ≤ x4_2) = true := decide_eq_true c6
                    clear c6
                    by_cases c7 : (rd (rd_L1 l0 x3_1) x4_2) < 0
                    · rw [if_pos c7] at H
                      have c7b0 : decide ((rd (rd_L1 l0 x3_1) x4_2) < 0) = true := decide_eq_true c7
                      clear c7
                      obtain rfl := Option.some.inj H
                      have p150 : 0 ≤ (x3_1 : Int) := of_decide_eq_true (by first | (with_reducible assumption) | assumption)
                      have q150 : x3_1 < (l0.length : Int) := of_decide_eq_true (by first | (with_reducible assumption) | assumption)
                      obtain ⟨ad150, A150_0, c150_0, e150, hx150_0, hl150_0, hi150_0⟩ := at_L1 HR0.out x3_1 p150 q150
                      cases e150
                      have HR150_0 := Aside0.mk hi150_0
                      have HC150_0 := Aside0.mk hl150_0
                      clear hi150_0 hl150_0
                      replace p150 := eq_true p150
                      replace q150 := eq_true q150
                      have p151 : 0 ≤ (x3_1 : Int) := of_decide_eq_true (by first | (with_reducible assumption) | assumption)
                      have q151 : x3_1 < (l0.length : Int) := of_decide_eq_true (by first | (with_reducible assumption) | assumption)
                      obtain ⟨ad151, A151_0, c151_0, e151, hx151_0, hl151_0, hi151_0⟩ := at_L1 HR0.out x3_1 p151 q151
                      obtain rfl : ad150 = ad151 := (by injection e151)
                      have HR151_0 := Aside0.mk hi151_0
                      have HC151_0 := Aside0.mk hl151_0
                      clear hi151_0 hl151_0
                      replace p151 := eq_true p151
                      replace q151 := eq_true q151
                      have ea_ := Option.some.inj (hx150_0.symm.trans hx151_0)
                      injection ea_ with ea_ en_ ec_
                      subst ea_
                      subst ec_
                      clear en_
                      have p152 : 0 ≤ (x4_2 : Int) := of_decide_eq_true (by first | (with_reducible assumption) | assumption)
                      have q152 : x4_2 < ((rd_L1 l0 x3_1).length : Int) := of_decide_eq_true (by first | (with_reducible assumption) | assumption)
                      obtain ⟨ad152, e152, hx152_0⟩ := Kd.at_int HR151_0.out x4_2 p152 q152
                      cases e152
                      replace p152 := eq_true p152
                      replace q152 := eq_true q152
                      go_wp2
                      repeat (go_quiet (fail); try go_wp2)
                      go_ret
                      exact ⟨by first | rfl | (simp; done) | (simp [*]; done), by repeat (first | exact Drawn0.refl _ | apply Drawn0.step)⟩
                    · rw [if_neg c7] at H
                      have c7b0 : decide ((rd (rd_L1 l0 x3_1) x4_2) < 0) = false := decide_eq_false c7
                      clear c7
                      by_cases c8 : (rd (rd_L1 l0 x3_1) x4_2) ≥ x3_1
                      · rw [if_pos c8] at H
                        have c8b0 : decide (x3_1 ≤ (rd (rd_L1 l0 x3_1) x4_2)) = true := decide_eq_true c8
                        clear c8
                        obtain rfl := Option.some.inj H
                        have p150 : 0 ≤ (x3_1 : Int) := of_decide_eq_true (by first | (with_reducible assumption) | assumption)
                        have q150 : x3_1 < (l0.length : Int) := of_decide_eq_true (by first | (with_reducible assumption) | assumption)
                        obtain ⟨ad150, A150_0, c150_0, e150, hx150_0, hl150_0, hi150_0⟩ := at_L1 HR0.out x3_1 p150 q150
                        cases e150
                        have HR150_0 := Aside0.mk hi150_0
                        have HC150_0 := Aside0.mk hl150_0
                        clear hi150_0 hl150_0
                        replace p150 := eq_true p150
                        replace q150 := eq_true q150
                        have p151 : 0 ≤ (x3_1 : Int) := of_decide_eq_true (by first | (with_reducible assumption) | assumption)
                        have q151 : x3_1 < (l0.length : Int) := of_decide_eq_true (by first | (with_reducible assumption) | assumption)
                        obtain ⟨ad151, A151_0, c151_0, e151, hx151_0, hl151_0, hi151_0⟩ := at_L1 HR0.out x3_1 p151 q151
                        obtain rfl : ad150 = ad151 := (by injection e151)
                        have HR151_0 := Aside0.mk hi151_0
                        have HC151_0 := Aside0.mk hl151_0
                        clear hi151_0 hl151_0
                        replace p151 := eq_true p151
                        replace q151 := eq_true q151
                        have ea_ := Option.some.inj (hx150_0.symm.trans hx151_0)
                        injection ea_ with ea_ en_ ec_
                        subst ea_
                        subst ec_
                        clear en_
                        have p152 : 0 ≤ (x4_2 : Int) := of_decide_eq_true (by first | (with_reducible assumption) | assumption)
                        have q152 : x4_2 < ((rd_L1 l0 x3_1).length : Int) := of_decide_eq_true (by first | (with_reducible assumption) | assumption)
                        obtain ⟨ad152, e152, hx152_0⟩ := Kd.at_int HR151_0.out x4_2 p152 q152
                        cases e152
                        replace p152 := eq_true p152
                        replace q152 := eq_true q152
                        have p153 : 0 ≤ (x3_1 : Int) := of_decide_eq_true (by first | (with_reducible assumption) | assumption)
                        have q153 : x3_1 < (l0.length : Int) := of_decide_eq_true (by first | (with_reducible assumption) | assumption)
                        obtain ⟨ad153, A153_0, c153_0, e153, hx153_0, hl153_0, hi153_0⟩ := at_L1 HR0.out x3_1 p153 q153
                        obtain rfl : ad150 = ad153 := (by injection e153)
                        have HR153_0 := Aside0.mk hi153_0
                        have HC153_0 := Aside0.mk hl153_0
                        clear hi153_0 hl153_0
                        replace p153 := eq_true p153
                        replace q153 := eq_true q153
                        have ea_ := Option.some.inj (hx150_0.symm.trans hx153_0)
                        injection ea_ with ea_ en_ ec_
                        subst ea_
                        subst ec_
                        clear en_
                        have p154 : 0 ≤ (x4_2 : Int) := of_decide_eq_true (by first | (with_reducible assumption) | assumption)
                        have q154 : x4_2 < ((rd_L1 l0 x3_1).length : Int) := of_decide_eq_true (by first | (with_reducible assumption) | assumption)
                        obtain ⟨ad154, e154, hx154_0⟩ := Kd.at_int HR153_0.out x4_2 p154 q154
                        cases e154
                        replace p154 := eq_true p154
                        replace q154 := eq_true q154
                        go_wp2
                        repeat (go_quiet (fail); try go_wp2)
                        go_ret
                        exact ⟨by first | rfl | (simp; done) | (simp [*]; done), by repeat (first | exact Drawn0.refl _ | apply Drawn0.step)⟩
                      · rw [if_neg c8] at H
                        have c8b0 : decide (x3_1 ≤ (rd (rd_L1 l0 x3_1) x4_2)) = false := decide_eq_false c8
                        clear c8
                        by_cases c9 : x4_2 > 0
                        · rw [if_pos c9] at H
                          have c9b0 : decide (0 < x4_2) = true := decide_eq_true c9
                          clear c9
                          obtain ⟨ji10, hji10⟩ : ∃ j_ : Int, (wrap64 (x4_2 - 1)) = j_ := ⟨_, rfl⟩
                          replace H : (if 0 ≤ (ji10) then (if (ji10) < ((rd_L1 l0 x3_1).length : Int) then (if (rd (rd_L1 l0 x3_1) x4_2) ≤ (rd (rd_L1 l0 x3_1) (ji10)) then (some false) else (heliastref12_Right.l1 k2 l0 x3_1 (wrap64 (x4_2 + 1)))) else (none)) else (none)) = some r := by first | (rw [hji10] at H; exact H) | (simp only [hji10] at H ⊢; exact H)
                          have hji10w : (IntKind.i64.wrap (x4_2 - 1)) = ji10 := (i64_w _).trans hji10
                          by_cases c11 : 0 ≤ (ji10)
                          · rw [if_pos c11] at H
                            have c11b0 : decide (0 ≤ (ji10)) = true := decide_eq_true c11
                            clear c11
                            by_cases c12 : (ji10) < ((rd_L1 l0 x3_1).length : Int)
                            · rw [if_pos c12] at H
                              have c12b0 : decide ((ji10) < ((rd_L1 l0 x3_1).length : Int)) = true := decide_eq_true c12
                              clear c12
                              by_cases c13 : (rd (rd_L1 l0 x3_1) x4_2) ≤ (rd (rd_L1 l0 x3_1) (ji10))
                              · rw [if_pos c13] at H
                                have c13b0 : decide ((rd (rd_L1 l0 x3_1) x4_2) ≤ (rd (rd_L1 l0 x3_1) (ji10))) = true := decide_eq_true c13
                                clear c13
                                obtain rfl := Option.some.inj H
                                have p150 : 0 ≤ (x3_1 : Int) := of_decide_eq_true (by first | (with_reducible assumption) | assumption)
                                have q150 : x3_1 < (l0.length : Int) := of_decide_eq_true (by first | (with_reducible assumption) | assumption)
                                obtain ⟨ad150, A150_0, c150_0, e150, hx150_0, hl150_0, hi150_0⟩ := at_L1 HR0.out x3_1 p150 q150
                                cases e150
                                have HR150_0 := Aside0.mk hi150_0
                                have HC150_0 := Aside0.mk hl150_0
                                clear hi150_0 hl150_0
                                replace p150 := eq_true p150
                                replace q150 := eq_true q150
                                have p151 : 0 ≤ (x3_1 : Int) := of_decide_eq_true (by first | (with_reducible assumption) | assumption)
                                have q151 : x3_1 < (l0.length : Int) := of_decide_eq_true (by first | (with_reducible assumption) | assumption)
                                obtain ⟨ad151, A151_0, c151_0, e151, hx151_0, hl151_0, hi151_0⟩ := at_L1 HR0.out x3_1 p151 q151
                                obtain rfl : ad150 = ad151 := (by injection e151)
                                have HR151_0 := Aside0.mk hi151_0
                                have HC151_0 := Aside0.mk hl151_0
                                clear hi151_0 hl151_0
                                replace p151 := eq_true p151
                                replace q151 := eq_true q151
                                have ea_ := Option.some.inj (hx150_0.symm.trans hx151_0)
                                injection ea_ with ea_ en_ ec_
                                subst ea_
                                subst ec_
                                clear en_
                                have p152 : 0 ≤ (x4_2 : Int) := of_decide_eq_true (by first | (with_reducible assumption) | assumption)
                                have q152 : x4_2 < ((rd_L1 l0 x3_1).length : Int) := of_decide_eq_true (by first | (with_reducible assumption) | assumption)
                                obtain ⟨ad152, e152, hx152_0⟩ := Kd.at_int HR151_0.out x4_2 p152 q152
                                cases e152
                                replace p152 := eq_true p152
                                replace q152 := eq_true q152
                                have p153 : 0 ≤ (x3_1 : Int) := of_decide_eq_true (by first | (with_reducible assumption) | assumption)
                                have q153 : x3_1 < (l0.length : Int) := of_decide_eq_true (by first | (with_reducible assumption) | assumption)
                                obtain ⟨ad153, A153_0, c153_0, e153, hx153_0, hl153_0, hi153_0⟩ := at_L1 HR0.out x3_1 p153 q153
                                obtain rfl : ad150 = ad153 := (by injection e153)
                                have HR153_0 := Aside0.mk hi153_0
                                have HC153_0 := Aside0.mk hl153_0
                                clear hi153_0 hl153_0
                                replace p153 := eq_true p153
                                replace q153 := eq_true q153
                                have ea_ := Option.some.inj (hx150_0.symm.trans hx153_0)
                                injection ea_ with ea_ en_ ec_
                                subst ea_
                                subst ec_
                                clear en_
                                have p154 : 0 ≤ (x4_2 : Int) := of_decide_eq_true (by first | (with_reducible assumption) | assumption)
                                have q154 : x4_2 < ((rd_L1 l0 x3_1).length : Int) := of_decide_eq_true (by first | (with_reducible assumption) | assumption)
                                obtain ⟨ad154, e154, hx154_0⟩ := Kd.at_int HR153_0.out x4_2 p154 q154
                                cases e154
                                replace p154 := eq_true p154
                                replace q154 := eq_true q154
                                have p155 : 0 ≤ (x3_1 : Int) := of_decide_eq_true (by first | (with_reducible assumption) | assumption)
                                have q155 : x3_1 < (l0.length : Int) := of_decide_eq_true (by first | (with_reducible assumption) | assumption)
                                obtain ⟨ad155, A155_0, c155_0, e155, hx155_0, hl155_0, hi155_0⟩ := at_L1 HR0.out x3_1 p155 q155
                                obtain rfl : ad150 = ad155 := (by injection e155)
                                have HR155_0 := Aside0.mk hi155_0
                                have HC155_0 := Aside0.mk hl155_0
                                clear hi155_0 hl155_0
                                replace p155 := eq_true p155
                                replace q155 := eq_true q155
                                have ea_ := Option.some.inj (hx150_0.symm.trans hx155_0)
                                injection ea_ with ea_ en_ ec_
                                subst ea_
                                subst ec_
                                clear en_
                                have p156 : 0 ≤ (x4_2 : Int) := of_decide_eq_true (by first | (with_reducible assumption) | assumption)
                                have q156 : x4_2 < ((rd_L1 l0 x3_1).length : Int) := of_decide_eq_true (by first | (with_reducible assumption) | assumption)
                                obtain ⟨ad156, e156, hx156_0⟩ := Kd.at_int HR155_0.out x4_2 p156 q156
                                cases e156
                                replace p156 := eq_true p156
                                replace q156 := eq_true q156
                                have p157 : 0 ≤ (x3_1 : Int) := of_decide_eq_true (by first | (with_reducible assumption) | assumption)
                                have q157 : x3_1 < (l0.length : Int) := of_decide_eq_true (by first | (with_reducible assumption) | assumption)
                                obtain ⟨ad157, A157_0, c157_0, e157, hx157_0, hl157_0, hi157_0⟩ := at_L1 HR0.out x3_1 p157 q157
                                obtain rfl : ad150 = ad157 := (by injection e157)
                                have HR157_0 := Aside0.mk hi157_0
                                have HC157_0 := Aside0.mk hl157_0
                                clear hi157_0 hl157_0
                                replace p157 := eq_true p157
                                replace q157 := eq_true q157
                                have ea_ := Option.some.inj (hx150_0.symm.trans hx157_0)
                                injection ea_ with ea_ en_ ec_
                                subst ea_
                                subst ec_
                                clear en_
                                have p158 : 0 ≤ ((ji10) : Int) := of_decide_eq_true (by first | (with_reducible assumption) | assumption)
                                have q158 : (ji10) < ((rd_L1 l0 x3_1).length : Int) := of_decide_eq_true (by first | (with_reducible assumption) | assumption)
                                obtain ⟨ad158, e158, hx158_0⟩ := Kd.at_int HR157_0.out (ji10) p158 q158
                                cases e158
                                replace p158 := eq_true p158
                                replace q158 := eq_true q158
                                go_wp2
                                repeat (go_quiet (fail); try go_wp2)
                                go_ret
                                exact ⟨by first | rfl | (simp; done) | (simp only [← hji10] <;> (first | rfl | simp)) | (simp [*]; done), by repeat (first | exact Drawn0.refl _ | apply Drawn0.step)⟩
                              · rw [if_neg c13] at H
                                have c13b0 : decide ((rd (rd_L1 l0 x3_1) x4_2) ≤ (rd (rd_L1 l0 x3_1) (ji10))) = false := decide_eq_false c13
                                clear c13
                                have H' := Aside0.mk H
                                clear H
                                have p150 : 0 ≤ (x3_1 : Int) := of_decide_eq_true (by first | (with_reducible assumption) | assumption)
                                have q150 : x3_1 < (l0.length : Int) := of_decide_eq_true (by first | (with_reducible assumption) | assumption)
                                obtain ⟨ad150, A150_0, c150_0, e150, hx150_0, hl150_0, hi150_0⟩ := at_L1 HR0.out x3_1 p150 q150
                                cases e150
                                have HR150_0 := Aside0.mk hi150_0
                                have HC150_0 := Aside0.mk hl150_0
                                clear hi150_0 hl150_0
                                replace p150 := eq_true p150
                                replace q150 := eq_true q150
                                have p151 : 0 ≤ (x3_1 : Int) := of_decide_eq_true (by first | (with_reducible assumption) | assumption)
                                have q151 : x3_1 < (l0.length : Int) := of_decide_eq_true (by first | (with_reducible assumption) | assumption)
                                obtain ⟨ad151, A151_0, c151_0, e151, hx151_0, hl151_0, hi151_0⟩ := at_L1 HR0.out x3_1 p151 q151
                                obtain rfl : ad150 = ad151 := (by injection e151)
                                have HR151_0 := Aside0.mk hi151_0
                                have HC151_0 := Aside0.mk hl151_0
                                clear hi151_0 hl151_0
                                replace p151 := eq_true p151
                                replace q151 := eq_true q151
                                have ea_ := Option.some.inj (hx150_0.symm.trans hx151_0)
                                injection ea_ with ea_ en_ ec_
                                subst ea_
                                subst ec_
                                clear en_
                                have p152 : 0 ≤ (x4_2 : Int) := of_decide_eq_true (by first | (with_reducible assumption) | assumption)
                                have q152 : x4_2 < ((rd_L1 l0 x3_1).length : Int) := of_decide_eq_true (by first | (with_reducible assumption) | assumption)
                                obtain ⟨ad152, e152, hx152_0⟩ := Kd.at_int HR151_0.out x4_2 p152 q152
                                cases e152
                                replace p152 := eq_true p152
                                replace q152 := eq_true q152
                                have p153 : 0 ≤ (x3_1 : Int) := of_decide_eq_true (by first | (with_reducible assumption) | assumption)
                                have q153 : x3_1 < (l0.length : Int) := of_decide_eq_true (by first | (with_reducible assumption) | assumption)
                                obtain ⟨ad153, A153_0, c153_0, e153, hx153_0, hl153_0, hi153_0⟩ := at_L1 HR0.out x3_1 p153 q153
                                obtain rfl : ad150 = ad153 := (by injection e153)
                                have HR153_0 := Aside0.mk hi153_0
                                have HC153_0 := Aside0.mk hl153_0
                                clear hi153_0 hl153_0
                                replace p153 := eq_true p153
                                replace q153 := eq_true q153
                                have ea_ := Option.some.inj (hx150_0.symm.trans hx153_0)
                                injection ea_ with ea_ en_ ec_
                                subst ea_
                                subst ec_
                                clear en_
                                have p154 : 0 ≤ (x4_2 : Int) := of_decide_eq_true (by first | (with_reducible assumption) | assumption)
                                have q154 : x4_2 < ((rd_L1 l0 x3_1).length : Int) := of_decide_eq_true (by first | (with_reducible assumption) | assumption)
                                obtain ⟨ad154, e154, hx154_0⟩ := Kd.at_int HR153_0.out x4_2 p154 q154
                                cases e154
                                replace p154 := eq_true p154
                                replace q154 := eq_true q154
                                have p155 : 0 ≤ (x3_1 : Int) := of_decide_eq_true (by first | (with_reducible assumption) | assumption)
                                have q155 : x3_1 < (l0.length : Int) := of_decide_eq_true (by first | (with_reducible assumption) | assumption)
                                obtain ⟨ad155, A155_0, c155_0, e155, hx155_0, hl155_0, hi155_0⟩ := at_L1 HR0.out x3_1 p155 q155
                                obtain rfl : ad150 = ad155 := (by injection e155)
                                have HR155_0 := Aside0.mk hi155_0
                                have HC155_0 := Aside0.mk hl155_0
                                clear hi155_0 hl155_0
                                replace p155 := eq_true p155
                                replace q155 := eq_true q155
                                have ea_ := Option.some.inj (hx150_0.symm.trans hx155_0)
                                injection ea_ with ea_ en_ ec_
                                subst ea_
                                subst ec_
                                clear en_
                                have p156 : 0 ≤ (x4_2 : Int) := of_decide_eq_true (by first | (with_reducible assumption) | assumption)
                                have q156 : x4_2 < ((rd_L1 l0 x3_1).length : Int) := of_decide_eq_true (by first | (with_reducible assumption) | assumption)
                                obtain ⟨ad156, e156, hx156_0⟩ := Kd.at_int HR155_0.out x4_2 p156 q156
                                cases e156
                                replace p156 := eq_true p156
                                replace q156 := eq_true q156
                                have p157 : 0 ≤ (x3_1 : Int) := of_decide_eq_true (by first | (with_reducible assumption) | assumption)
                                have q157 : x3_1 < (l0.length : Int) := of_decide_eq_true (by first | (with_reducible assumption) | assumption)
                                obtain ⟨ad157, A157_0, c157_0, e157, hx157_0, hl157_0, hi157_0⟩ := at_L1 HR0.out x3_1 p157 q157
                                obtain rfl : ad150 = ad157 := (by injection e157)
                                have HR157_0 := Aside0.mk hi157_0
                                have HC157_0 := Aside0.mk hl157_0
                                clear hi157_0 hl157_0
                                replace p157 := eq_true p157
                                replace q157 := eq_true q157
                                have ea_ := Option.some.inj (hx150_0.symm.trans hx157_0)
                                injection ea_ with ea_ en_ ec_
                                subst ea_
                                subst ec_
                                clear en_
                                have p158 : 0 ≤ ((ji10) : Int) := of_decide_eq_true (by first | (with_reducible assumption) | assumption)
                                have q158 : (ji10) < ((rd_L1 l0 x3_1).length : Int) := of_decide_eq_true (by first | (with_reducible assumption) | assumption)
                                obtain ⟨ad158, e158, hx158_0⟩ := Kd.at_int HR157_0.out (ji10) p158 q158
                                cases e158
                                replace p158 := eq_true p158
                                replace q158 := eq_true q158
                                go_wp2
                                repeat (go_quiet (fail); try go_wp2)
                                go_roundg k2
                                case measure => have := HK1.out; have := HK2.out; omega
                                case rel => exact ⟨(wrap64 (x4_2 + 1)), (by first | rfl | (simp; done) | (simp [*]; done)), H', ⟨by have := HK1.out; have := HK2.out; omega⟩, by repeat (first | exact Drawn0.refl _ | apply Drawn0.step)⟩
                            · rw [if_neg c12] at H
                              exact absurd H (by simp)
                          · rw [if_neg c11] at H
                            exact absurd H (by simp)
                        · rw [if_neg c9] at H
                          have c9b0 : decide (0 < x4_2) = false := decide_eq_false c9
                          clear c9
                          have H' := Aside0.mk H
                          clear H
                          have p150 : 0 ≤ (x3_1 : Int) := of_decide_eq_true (by first | (with_reducible assumption) | assumption)
                          have q150 : x3_1 < (l0.length : Int) := of_decide_eq_true (by first | (with_reducible assumption) | assumption)
                          obtain ⟨ad150, A150_0, c150_0, e150, hx150_0, hl150_0, hi150_0⟩ := at_L1 HR0.out x3_1 p150 q150
                          cases e150
                          have HR150_0 := Aside0.mk hi150_0
                          have HC150_0 := Aside0.mk hl150_0
                          clear hi150_0 hl150_0
                          replace p150 := eq_true p150
                          replace q150 := eq_true q150
                          have p151 : 0 ≤ (x3_1 : Int) := of_decide_eq_true (by first | (with_reducible assumption) | assumption)
                          have q151 : x3_1 < (l0.length : Int) := of_decide_eq_true (by first | (with_reducible assumption) | assumption)
                          obtain ⟨ad151, A151_0, c151_0, e151, hx151_0, hl151_0, hi151_0⟩ := at_L1 HR0.out x3_1 p151 q151
                          obtain rfl : ad150 = ad151 := (by injection e151)
                          have HR151_0 := Aside0.mk hi151_0
                          have HC151_0 := Aside0.mk hl151_0
                          clear hi151_0 hl151_0
                          replace p151 := eq_true p151
                          replace q151 := eq_true q151
                          have ea_ := Option.some.inj (hx150_0.symm.trans hx151_0)
                          injection ea_ with ea_ en_ ec_
                          subst ea_
                          subst ec_
                          clear en_
                          have p152 : 0 ≤ (x4_2 : Int) := of_decide_eq_true (by first | (with_reducible assumption) | assumption)
                          have q152 : x4_2 < ((rd_L1 l0 x3_1).length : Int) := of_decide_eq_true (by first | (with_reducible assumption) | assumption)
                          obtain ⟨ad152, e152, hx152_0⟩ := Kd.at_int HR151_0.out x4_2 p152 q152
                          cases e152
                          replace p152 := eq_true p152
                          replace q152 := eq_true q152
                          have p153 : 0 ≤ (x3_1 : Int) := of_decide_eq_true (by first | (with_reducible assumption) | assumption)
                          have q153 : x3_1 < (l0.length : Int) := of_decide_eq_true (by first | (with_reducible assumption) | assumption)
                          obtain ⟨ad153, A153_0, c153_0, e153, hx153_0, hl153_0, hi153_0⟩ := at_L1 HR0.out x3_1 p153 q153
                          obtain rfl : ad150 = ad153 := (by injection e153)
                          have HR153_0 := Aside0.mk hi153_0
                          have HC153_0 := Aside0.mk hl153_0
                          clear hi153_0 hl153_0
                          replace p153 := eq_true p153
                          replace q153 := eq_true q153
                          have ea_ := Option.some.inj (hx150_0.symm.trans hx153_0)
                          injection ea_ with ea_ en_ ec_
                          subst ea_
                          subst ec_
                          clear en_
                          have p154 : 0 ≤ (x4_2 : Int) := of_decide_eq_true (by first | (with_reducible assumption) | assumption)
                          have q154 : x4_2 < ((rd_L1 l0 x3_1).length : Int) := of_decide_eq_true (by first | (with_reducible assumption) | assumption)
                          obtain ⟨ad154, e154, hx154_0⟩ := Kd.at_int HR153_0.out x4_2 p154 q154
                          cases e154
                          replace p154 := eq_true p154
                          replace q154 := eq_true q154
                          go_wp2
                          repeat (go_quiet (fail); try go_wp2)
                          go_roundg k2
                          case measure => have := HK1.out; have := HK2.out; omega
                          case rel => exact ⟨(wrap64 (x4_2 + 1)), (by first | rfl | (simp; done) | (simp [*]; done)), H', ⟨by have := HK1.out; have := HK2.out; omega⟩, by repeat (first | exact Drawn0.refl _ | apply Drawn0.step)⟩
                  · rw [if_neg c6] at H
                    exact absurd H (by simp)
                · rw [if_neg c5] at H
                  have c5b0 : decide (x4_2 < ((rd_L1 l0 x3_1).length : Int)) = false := decide_eq_false c5
                  clear c5
                  have H' := Aside0.mk H
                  clear H
                  have p150 : 0 ≤ (x3_1 : Int) := of_decide_eq_true (by first | (with_reducible assumption) | assumption)
                  have q150 : x3_1 < (l0.length : Int) := of_decide_eq_true (by first | (with_reducible assumption) | assumption)
                  obtain ⟨ad150, A150_0, c150_0, e150, hx150_0, hl150_0, hi150_0⟩ := at_L1 HR0.out x3_1 p150 q150
                  cases e150
                  have HR150_0 := Aside0.mk hi150_0
                  have HC150_0 := Aside0.mk hl150_0
                  clear hi150_0 hl150_0
                  replace p150 := eq_true p150
                  replace q150 := eq_true q150
                  go_wp2
                  repeat (go_quiet (fail); try go_wp2)
                  go_roundg k2
                  case measure => have := HK1.out; have := HK2.out; omega
                  case rel => exact ⟨(wrap64 (x3_1 + 1)), (by first | rfl | (simp; done) | (simp [*]; done)), H', ⟨by have := HK1.out; have := HK2.out; omega⟩, by repeat (first | exact Drawn0.refl _ | apply Drawn0.step)⟩
              · rw [if_neg c4] at H
                exact absurd H (by simp)
            · rw [if_neg c3] at H
              exact absurd H (by simp)
      · rw [if_neg c2] at H
        have c2b0 : decide (x3_1 < (l0.length : Int)) = false := decide_eq_false c2
        clear c2
        obtain rfl := Option.some.inj H
        go_wp2
        repeat (go_quiet (fail); try go_wp2)
        go_ret
        exact ⟨by first | rfl | (simp; done) | (simp [*]; done), by repeat (first | exact Drawn0.refl _ | apply Drawn0.step)⟩

/-! ### slices_DeleteFunc_int_int: function 90 -/
-- GIVEN slices.DeleteFunc[[]int,int] making as slices_DeleteFunc_int
open Go.Proofs.He
set_option maxHeartbeats 4000000 in
set_option maxRecDepth 100000 in
theorem slices_IndexFunc_int.calls (g : FuncId) (pre cb : Array Value) (eg : ∀ args w, (callFunc g args).run Try.prog w = .ok (.enter g args) w) (p : Int → Bool) (A0 : Option Addr) (c0 : Nat) (l0 : List Int) (w : World) (hr0 : Kd.C (Kd.int .i64) w A0 l0.length l0)
    (hp : ∀ x W, x ∈ l0 → Below w.heap.size w W → Calls Try.prog g (pre ++ #[.int .i64 x] ++ cb) W fun e W' => e = .returned (.bool (p x)) ∧ Below w.heap.size w W') :
    Calls Try.prog 116 #[.slice A0 l0.length c0, .func (.func g) pre cb] w fun e w' => e = .returned (.int .i64 (idxOf p l0)) ∧ Below w.heap.size w w' := by
  have HR0 := Aside0.mk hr0
  have HP := Aside0.mk hp
  have hlen : l0.length ≤ 9223372036854775807 := hr0.2.1
  clear hr0 hp
  go_enter Try.func116, Try.ntmps116
  go_wp2
  go_loopg [5, 8] l0.length (fun gg _ v8 wr => ∃ k : Nat, k ≤ l0.length ∧ l0.length - k ≤ gg ∧ v8 = .int .i64 k ∧ Aside0 (∀ j, j < k → ∀ x, l0[j]? = some x → p x = false) ∧ Aside0 (Below w.heap.size w wr))
  case atStart => exact ⟨0, Nat.zero_le _, by omega, rfl, ⟨fun j hj => absurd hj (Nat.not_lt_zero _)⟩, ⟨Below.refl _ _⟩⟩
  case round =>
    obtain ⟨k, hk, hg, rfl, HN, HB⟩ := hrel
    by_cases hlt : k < l0.length
    · obtain ⟨ad, e, hx0⟩ := Kd.at_int HR0.out (k : Int) (by omega) (by omega)
      cases e
      replace hx0 := (HB.out.cell (World.block_lt_of_cell? w _ hx0)).trans hx0
      rw [Int.toNat_natCast] at hx0
      have hltz : (k : Int) < (l0.length : Int) := by omega
      have hrd : rd l0 k = l0[k] := by simp [rd, hlt]
      have hcall := HP.out (rd l0 k) wr (by rw [hrd]; exact List.getElem_mem hlt) HB.out
      have HRD := Aside0.mk hrd
      clear hrd
      cases hq : p (rd l0 k) with
      | true =>
        rw [hq] at hcall
        go_wp2_with (go_at_fn g; refine hcall.mono ?_; rintro e w' ⟨rfl, hb'⟩)
        go_ret
        exact ⟨by rw [idxOf_hit hlt HN.out (by rw [← HRD.out]; exact hq)]; rfl, hb'⟩
      | false =>
        rw [hq] at hcall
        go_wp2_with (go_at_fn g; refine hcall.mono ?_; rintro e w' ⟨rfl, hb'⟩)
        go_roundg (l0.length - (k + 1))
        case measure => omega
        case rel =>
          refine ⟨k + 1, by omega, by omega, by go_num, ⟨fun j hj x hx => ?_⟩, ⟨hb'⟩⟩
          by_cases e : j = k
          · subst e
            rw [List.getElem?_eq_getElem hlt] at hx
            cases hx
            rw [← HRD.out]; exact hq
          · exact HN.out j (by omega) x hx
    · have hltz : ¬ (k : Int) < (l0.length : Int) := by omega
      have : k = l0.length := by omega
      subst this
      go_wp2
      go_ret
      exact ⟨by rw [idxOf_miss HN.out]; rfl, HB.out⟩
theorem idxOf_cases {α : Type} (p : α → Bool) (l : List α) : (idxOf p l = -1 ∧ ∀ x ∈ l, p x = false) ∨ ∃ k, ∃ h : k < l.length, idxOf p l = (k : Int) ∧ p l[k] = true ∧ ∀ j, (hj : j < k) → p (l[j]'(by omega)) = false := by
  unfold idxOf
  cases hf : l.findIdx? p with
  | none => exact .inl ⟨rfl, fun x hx => by rw [List.findIdx?_eq_none_iff] at hf; exact hf x hx⟩
  | some i =>
    obtain ⟨hi, h1, h2⟩ := List.findIdx?_eq_some_iff_getElem.1 hf
    exact .inr ⟨i, hi, rfl, h1, fun j hj => by simpa using h2 j hj⟩
set_option maxHeartbeats 4000000 in
set_option maxRecDepth 100000 in
/-- DeleteFunc of a row of the call's own, by a predicate that may make new blocks, and turns none. -/
theorem slices_DeleteFunc_int.calls (g : FuncId) (pre cb : Array Value) (eg : ∀ args w, (callFunc g args).run Try.prog w = .ok (.enter g args) w) (p : Int → Bool) {base : Nat} {ok : Nat → Prop} {v : Value} {xs : List Int} {w : World} (h : (Kd.int .i64).R 3 w base ok v xs)
    (hp : ∀ x W, x ∈ xs → w.grownBy W v.ownBlock → Calls Try.prog g (pre ++ #[.int .i64 x] ++ cb) W fun e W' => e = .returned (.bool (p x)) ∧ W.grownBy W' none) :
    Calls Try.prog 90 #[v, .func (.func g) pre cb] w fun e w' => ∃ v', e = .returned v' ∧ (Kd.int .i64).R 3 w' base ok v' (xs.filter fun x => !p x) ∧ w.grownBy w' v.ownBlock := by
  obtain ⟨ho, hok⟩ := scalar_own h
  obtain ⟨A, c, rfl⟩ := Kd.R_slice h
  have hC := (Kd.R_reads' h).2.2
  have hIF := slices_IndexFunc_int.calls g pre cb eg p A c xs w hC (fun x W hx hb => (hp x W hx ⟨hb.os, hb.tape, hb.output, hb.size, fun k hk _ => hb.block k hk⟩).mono (fun e W' ⟨he, hb'⟩ => ⟨he, hb.grown hb' hb.size (fun k e => by cases e)⟩))
  have hlen : xs.length ≤ 9223372036854775807 := hC.2.1
  rcases idxOf_cases p xs with ⟨e1, hall⟩ | ⟨k0, hk0, e1, ht, hall⟩
  · rw [e1] at hIF
    have HF := Aside0.mk (show (xs.filter fun x => !p x) = xs from List.filter_eq_self.2 (fun x hx => by rw [hall x hx]; rfl))
    have HI := Aside0.mk hIF
    have HR := Aside0.mk h
    clear hIF h ho hok hC hp hall
    go_enter Try.func90, Try.ntmps90
    go_wp2_with (go_at_call 116; refine HI.out.mono ?_; rintro e w' ⟨rfl, hb⟩)
    go_ret
    rw [HF.out]
    exact ⟨_, rfl, Kd.R_below HR.out hb, ⟨hb.os, hb.tape, hb.output, hb.size, fun k hk _ => hb.block k hk⟩⟩
  · rw [e1] at hIF
    obtain ⟨g0, cap, e2, hbase⟩ := row_form h (by omega)
    cases e2
    obtain ⟨hrow, _⟩ := RowAt.of ho
    obtain ⟨kp, HK⟩ : ∃ kp : Nat → Bool, Aside0 (kp = fun j => !p xs.toArray[j]!) := ⟨_, ⟨rfl⟩⟩
    have tl : ∀ j, (hj : j < xs.length) → xs.toArray[j]! = xs[j] := fun j hj => by rw [getElem!_pos xs.toArray j (by simpa using hj)]; simp
    have hfil : (xs.filter fun x => !p x) = Go.Lib.keptUpTo kp xs.toArray xs.length := by rw [HK.out]; exact (drop_kept (kp := fun x => !p x)).symm
    rw [hfil]
    have hkeep : ∀ j, j < k0 → kp j = true := fun j hj => by rw [HK.out]; show (!p xs.toArray[j]!) = true; rw [tl j (by omega), hall j hj]; rfl
    have hdrop : kp k0 = false := by rw [HK.out]; show (!p xs.toArray[k0]!) = false; rw [tl k0 hk0, ht]; rfl
    have hne1 : ((k0 : Int) == -1) = false := beq_eq_false_iff_ne.2 (by omega)
    have HP := Aside0.mk hp
    have HI := Aside0.mk hIF
    have HROW := Aside0.mk hrow
    have HST := Aside0.mk (Go.Lib.KeptInv.start (d := xs.toArray) hkeep hdrop)
    have TL := Aside0.mk tl
    have HOK := Aside0.mk (hok g0 rfl)
    have HB0 := Aside0.mk hbase
    clear hIF h ho hok hC hp hall hrow hkeep hdrop hfil ht tl e1 hbase
    go_enter Try.func90, Try.ntmps90
    go_wp2_with (go_at_call 116; refine HI.out.mono ?_; rintro e w1 ⟨rfl, hb⟩)
    have HG1 := Aside0.mk (show w.grownBy w1 (some g0) from ⟨hb.os, hb.tape, hb.output, hb.size, fun k hk _ => hb.block k hk⟩)
    have HR1 := Aside0.mk (HROW.out.grown ⟨hb.os, hb.tape, hb.output, hb.size, fun k hk _ => hb.block k hk⟩)
    clear hb
    go_loopg [5, 6, 7] xs.length (fun gg s5 s6 _ wr => ∃ (i j : Nat) (dk : Array Int), s5 = .int .i64 i ∧ s6 = .int .i64 j ∧ j ≤ xs.length ∧ xs.length - j ≤ gg ∧ Aside0 (Go.Lib.KeptInv kp xs.toArray j i dk) ∧ Aside0 (w.grownBy wr (some g0)) ∧ Aside0 (RowAt wr 3 g0 xs.length c (dk.toList.map (Value.int .i64))))
    case atStart => exact ⟨k0, k0 + 1, xs.toArray, rfl, by go_num, by omega, by omega, HST, HG1, by simpa using HR1⟩
    case round =>
      clear HR1 HG1
      obtain ⟨i, j, dk, rfl, rfl, hjd, hgg, I2, HG, HR⟩ := hrel
      have hij := I2.out.lt
      have hds : dk.size = xs.length := by have := I2.out.size; simpa using this
      by_cases hlt : j < xs.length
      · have hltz : (j : Int) < (xs.length : Int) := by omega
        have hj1 : dk[j]! = xs[j] := by rw [I2.out.high j (by omega), TL.out j hlt]
        obtain ⟨cj, _⟩ := HR.out.at j hlt (.int .i64 xs[j]) (by rw [List.getElem?_map, Array.getElem?_toList, Array.getElem?_eq_getElem (by omega), ← hj1, getElem!_pos dk j (by omega)]; rfl)
        obtain ⟨ci, fi⟩ := HR.out.at i (by omega) (.int .i64 dk[i]!) (by rw [List.getElem?_map, Array.getElem?_toList, Array.getElem?_eq_getElem (by omega), getElem!_pos dk i (by omega)]; rfl)
        have hcall := HP.out xs[j] wr (List.getElem_mem hlt) HG.out
        have hkj : kp j = !p xs[j] := by rw [HK.out]; show (!p xs.toArray[j]!) = _; rw [TL.out j hlt]
        have hdj : xs.toArray[j]! = xs[j] := TL.out j hlt
        generalize xs[j] = u at cj hcall hkj hdj
        generalize dk[i]! = old at ci
        have HKJ := Aside0.mk hkj
        have HDJ := Aside0.mk hdj
        clear hkj hdj hj1
        cases hq : p u with
        | false =>
          rw [hq] at hcall
          go_wp2_with (go_at_fn g; refine hcall.mono ?_; rintro e w2 ⟨rfl, hb2⟩; have HR2 := Aside0.mk (HR.out.grown hb2); obtain ⟨ci2, fi2⟩ := HR2.out.at i (by omega) (.int .i64 dk[i]!) (by rw [List.getElem?_map, Array.getElem?_toList, Array.getElem?_eq_getElem (by omega), getElem!_pos dk i (by omega)]; rfl); have HG2 := Aside0.mk (HG.out.trans (grown_none hb2 (some g0))); clear hb2 ci fi cj)
          go_roundg (xs.length - (j + 1))
          case measure => omega
          case rel =>
            refine ⟨i + 1, j + 1, dk.setIfInBounds i u, by go_num, by go_num, by omega, Nat.le_refl _, ⟨?_⟩, ⟨?_⟩, ⟨?_⟩⟩
            · have := I2.out.keep (by simpa using hlt) (by rw [HKJ.out, hq]; rfl)
              rwa [HDJ.out] at this
            · exact HG2.out.trans (grown_setCell _ _ _)
            · rw [Array.toList_setIfInBounds, List.map_set]; exact HR2.out.set i (by omega) _
        | true =>
          rw [hq] at hcall
          go_wp2_with (go_at_fn g; refine hcall.mono ?_; rintro e w2 ⟨rfl, hb2⟩; have HR2 := Aside0.mk (HR.out.grown hb2); have HG2 := Aside0.mk (HG.out.trans (grown_none hb2 (some g0))); clear hb2 ci fi cj)
          go_roundg (xs.length - (j + 1))
          case measure => omega
          case rel => exact ⟨i, j + 1, dk, rfl, by go_num, by omega, Nat.le_refl _, ⟨I2.out.skip (by rw [HKJ.out, hq]; rfl)⟩, HG2, HR2⟩
      · obtain rfl : j = xs.length := by omega
        have hltz : ¬ (xs.length : Int) < (xs.length : Int) := by omega
        have hcap : xs.length ≤ c := by obtain ⟨_, _, h, _⟩ := HR.out; exact h
        have hcl : ∀ ty, (Builtin.clear_ #[65] ty #[.slice (some ⟨g0, i, none⟩) (xs.length - i) (c - i)]).run Try.prog wr = .ok (.tuple #[]) (wr.setCells g0 i (List.replicate (xs.length - i) (.int .i64 0))) :=
          fun ty => Go.Lib.run_clear_slice wr 65 3 ty (.int .i64 0) Try.underlying65 (fun _ => by kernel_rfl) rfl rfl g0 i _ _ (by omega)
            (fun t ht => by rw [(HR.out.at (i + t) (by omega) (.int .i64 dk[i + t]!) (by rw [List.getElem?_map, Array.getElem?_toList, Array.getElem?_eq_getElem (by omega), getElem!_pos dk (i + t) (by omega)]; rfl)).1]; rfl)
            (fun t ht => (HR.out.at (i + t) (by omega) (.int .i64 dk[i + t]!) (by rw [List.getElem?_map, Array.getElem?_toList, Array.getElem?_eq_getElem (by omega), getElem!_pos dk (i + t) (by omega)]; rfl)).2)
        go_wp2
        go_ret
        have hI := I2.out
        have hl : (Go.Lib.keptUpTo kp xs.toArray xs.length).length = i := hI.len
        have htk : dk.toList.take i = Go.Lib.keptUpTo kp xs.toArray xs.length := by
          apply List.ext_getElem?
          intro t
          rw [List.getElem?_take]
          split
          · rename_i htt
            rw [hI.low t htt, Array.getElem?_toList, Array.getElem?_eq_getElem (by omega), getElem!_pos dk t (by omega)]
          · rw [List.getElem?_eq_none]; omega
        refine ⟨_, rfl, ?_, HG.out.trans (grown_setCells _ _ _ _)⟩
        refine scalar_put ?_ (fun k hk => by cases hk; exact HOK.out)
        have := (HR.out.strike i (by omega) (List.replicate (xs.length - i) (.int .i64 0)) (by simp)).put HB0.out
        rw [← List.map_take, htk] at this
        rw [hl]; exact this


/-! ### graph_Heads: function 46 -/
-- GIVEN heliast/graph.Heads making uses heliast/graph.Reach uses slices.DeleteFunc[[]int,int]
open Go.Proofs.He
structure HeadOut (g : List (List Int)) (Ma : List (Int × Unit)) (w : World) (ba b1 r : Nat) (todo : List Int) (Mt : List (Int × Unit)) : Prop where
  own : OwnSet w b1 Mt
  it : Iter setK unitV w ba r Ma todo
  mem : ∀ z, z ∈ Mt.map (·.1) ↔ ∃ n ∈ Ma.map (·.1), n ∉ todo ∧ z ∈ g.getD n.toNat []
structure HeadIn (g : List (List Int)) (Ma : List (Int × Unit)) (w : World) (ba b1 r : Nat) (todo : List Int) (x : Int) (j cnt : Nat) (Mt : List (Int × Unit)) : Prop where
  own : OwnSet w b1 Mt
  it : Iter setK unitV w ba r Ma (strikeL todo x)
  mem : ∀ z, z ∈ Mt.map (·.1) ↔ (∃ n ∈ Ma.map (·.1), n ∉ todo ∧ z ∈ g.getD n.toNat []) ∨ z ∈ (g.getD x.toNat []).take j
  left : w.rangeLeft ba r < cnt
theorem mem_flat_row {g : List (List Int)} {n : Nat} {z : Int} (h : z ∈ g.getD n []) : z ∈ g.flatten := by
  rw [List.getD_eq_getElem?_getD] at h
  by_cases hn : n < g.length
  · rw [List.getElem?_eq_getElem hn, Option.getD_some] at h
    exact List.mem_flatten.2 ⟨_, List.getElem_mem hn, h⟩
  · rw [List.getElem?_eq_none (by omega)] at h; cases h
theorem HeadIn.small {g : List (List Int)} {Ma Mt : List (Int × Unit)} {w : World} {ba b1 r j cnt : Nat} {todo : List Int} {x : Int} (h : HeadIn g Ma w ba b1 r todo x j cnt Mt) (hv : ∀ x ∈ g.flatten, 0 ≤ x ∧ x < g.length) : Mt.length ≤ g.length := by
  have := h.own.nodup.length_le_of_subset (l₂ := (List.range g.length).map Int.ofNat) (fun z hz => by
    have hz2 : z ∈ g.flatten := by
      rcases (h.mem z).1 hz with ⟨n, _, _, hn⟩ | hz
      · exact mem_flat_row hn
      · exact mem_flat_row (List.mem_of_mem_take hz)
    have := hv z hz2
    exact List.mem_map.2 ⟨z.toNat, List.mem_range.2 (by omega), by show ((z.toNat : Nat) : Int) = z; omega⟩)
  simpa using this
theorem HeadIn.done {g : List (List Int)} {Ma Mt : List (Int × Unit)} {w : World} {ba b1 r j cnt : Nat} {todo : List Int} {x : Int} (h : HeadIn g Ma w ba b1 r todo x j cnt Mt) (hj : j = (g.getD x.toNat []).length) (hx : x ∈ Ma.map (·.1)) : HeadOut g Ma w ba b1 r (strikeL todo x) Mt where
  own := h.own
  it := h.it
  mem z := by
    subst hj
    rw [h.mem, List.take_length]
    constructor
    · rintro (⟨n, h1, h2, h3⟩ | h1)
      · exact ⟨n, h1, fun e => h2 (mem_strikeL.1 e).1, h3⟩
      · exact ⟨x, hx, fun e => (mem_strikeL.1 e).2 rfl, h1⟩
    · rintro ⟨n, h1, h2, h3⟩
      by_cases e : n = x
      · subst e; exact .inr h3
      · exact .inl ⟨n, h1, fun e2 => h2 (mem_strikeL.2 ⟨e2, e⟩), h3⟩
theorem HeadIn.put {g : List (List Int)} {Ma Mt : List (Int × Unit)} {w w2 : World} {ba b1 r j cnt : Nat} {todo : List Int} {x k : Int} (h : HeadIn g Ma w ba b1 r todo x j cnt Mt) (hj : j < (g.getD x.toNat []).length) (hk : k = rd (g.getD x.toNat []) j) (hne : ba ≠ b1) (ho : OwnSet w2 b1 (putM Mt k ())) (hg : w.grownBy w2 (some b1)) : HeadIn g Ma w2 ba b1 r todo x (j + 1) cnt (putM Mt k ()) where
  own := ho
  it := h.it.grown hg (by simpa using hne) (fun e => h.own.ne_iter h.it (by cases e; rfl))
  mem z := by
    rw [keys_putM, h.mem, mem_take_succ _ j hj, ← hk]
    constructor
    · rintro (h1 | h1 | h1)
      · exact .inr (.inr h1)
      · exact .inl h1
      · exact .inr (.inl h1)
    · rintro (h1 | h1 | h1)
      · exact .inr (.inl h1)
      · exact .inr (.inr h1)
      · exact .inl h1
  left := by rw [h.it.left_grown hg (by simpa using hne) (fun e => h.own.ne_iter h.it (by cases e; rfl))]; exact h.left
theorem head_filter {g : List (List Int)} {l : List Int} {Ma Mt : List (Int × Unit)} (hma : ∀ x, x ∈ Ma.map (·.1) ↔ x ∈ l ∧ 0 ≤ x ∧ x < g.length) (hmt : ∀ z, z ∈ Mt.map (·.1) ↔ ∃ n ∈ Ma.map (·.1), z ∈ g.getD n.toNat []) {ys : List Int} (hp : ys.Pairwise (· < ·)) (hy : ∀ x, x ∈ ys ↔ x ∈ Ma.map (·.1)) :
    (ys.filter fun x => !decide (x ∈ Mt.map (·.1))) = headL g l := by
  have e : ys = setL g l := rises_eq hp (pickL_rises g _) (fun x => by
    rw [hy, hma]; show _ ↔ x ∈ setL g l
    rw [mem_setL]; exact And.comm)
  subst e
  unfold headL
  refine List.filter_congr (fun x hx => ?_)
  congr 1
  rw [Bool.eq_iff_iff, decide_eq_true_iff, hmt, List.any_eq_true]
  constructor
  · rintro ⟨n, h1, h2⟩; exact ⟨n, (hy n).2 h1, by simpa using h2⟩
  · rintro ⟨n, h1, h2⟩; exact ⟨n, (hy n).1 h1, by simpa using h2⟩
set_option maxHeartbeats 8000000 in
set_option maxRecDepth 100000 in
theorem graph_Heads.walk (A0 : Option Addr) (c0 : Nat) (g : List (List Int)) (A1 : Option Addr) (c1 : Nat) (l : List Int) (w : World) (hr0 : Kd.C (Kd.slice 3 (Kd.int .i64)) w A0 g.length g) (hr1 : Kd.C (Kd.int .i64) w A1 l.length l) (hlim : g.length < 17592186044416)
    (hwf : ∀ x ∈ g.flatten, 0 ≤ x ∧ x < g.length) :
    Calls Try.prog 46 #[.slice A0 g.length c0, .slice A1 l.length c1] w fun e w' => ∃ v, e = .returned v ∧ (Kd.int .i64).R 3 w' w.heap.size (fun _ => True) v (headL g l) ∧ Below w.heap.size w w' := by
  have hmm := @run_makeMap Try.prog
  have HR0 := Aside0.mk hr0
  have HR1 := Aside0.mk hr1
  have HWF := Aside0.mk hwf
  clear hr0 hr1 hwf
  go_enter Try.func46, Try.ntmps46
  go_wp2_with fail
  refine (graph_of.walk A0 c0 g A1 c1 l w (by omega) HR1.out).mono ?_
  rintro e w1 ⟨ba, Ma, rfl, hb, ho1, hm1, hb1⟩
  have HM1 := Aside0.mk hm1
  have hs1 : Ma.length ≤ g.length := by
    have := ho1.nodup.length_le_of_subset (l₂ := rchL g l) (fun x hx => mem_rchL.2 (by obtain ⟨h1, h2, h3⟩ := (hm1 x).1 hx; exact .base h1 h2 h3))
    have h' := small_rch g l
    simp at this; omega
  have HS1 := Aside0.mk hs1
  have HBA := Aside0.mk (show ba ≠ w1.heap.size from by have := ho1.lt; omega)
  have HB1 := Aside0.mk hb1
  have HBB := Aside0.mk hb
  have HO1 := Aside0.mk (ho1.below ((Below.refl _ _).alloc (Nat.le_refl _) (.map #[] 0)))
  have HSZ := Aside0.mk (show w.heap.size ≤ w1.heap.size from hb1.size)
  clear hm1 ho1 hb1 hb hs1
  go_wp2_with (first | (at_range; refine wpList_mrange rfl _ 121 rfl setK unitV 103 Try.underlying121 ba Ma rfl HO1.out ?_; intro w3 hi0 hg0 hs0) | go_in)
  go_frame
  generalize hrI : (w1.alloc (Obj.map #[] 0)).heap.size = rI at hi0 ⊢
  have HRI0 := Aside0.mk (show w.heap.size ≤ rI by rw [← hrI]; simp; have := HSZ.out; omega)
  clear hrI
  have HI0 := Aside0.mk (show HeadOut g Ma w3 ba w1.heap.size rI (Ma.map (·.1)) [] from ⟨(Own.made setK unitV w1).grown hg0 (by simp), hi0, fun z => ⟨fun h => by simp at h, fun ⟨n, h1, h2, _⟩ => absurd h1 h2⟩⟩)
  have HB := Aside0.mk ((HB1.out.alloc HSZ.out (Obj.map #[] 0)).grown hg0 (by simp; have := HSZ.out; omega) (fun k e => by cases e))
  clear hi0 hg0 hs0 HO1 HB1
  go_loopw [7] (fun _ wr => ∃ (todo : List Int) (Mt : List (Int × Unit)), Aside0 (HeadOut g Ma wr ba w1.heap.size rI todo Mt) ∧ Aside0 (Below w.heap.size w wr)) (fun _ wr => wr.rangeLeft ba rI)
  case atStart => exact ⟨_, _, HI0, HB⟩
  case round =>
    clear HI0 HB hmm
    obtain ⟨todo, Mt, HI, HB⟩ := hrel
    go_wp2_with (first | (at_next; refine wpList_mnext rfl _ rfl setK unitV ba rI Ma rfl HI.out.it ?_ ?_) | go_in)
    · intro ht
      subst ht
      have HMT := Aside0.mk (show ∀ z, z ∈ Mt.map (·.1) ↔ ∃ n ∈ Ma.map (·.1), z ∈ g.getD n.toNat [] from fun z => by rw [HI.out.mem]; simp)
      have HRI := Aside0.mk (fun W (hW : OwnSet W ba Ma) => set_rising.walk ba Ma W hW (by have := HS1.out; omega))
      have HLIM := Aside0.mk hlim
      clear hlim
      go_wp2_with (go_at_call 82; refine (HRI.out _ HI.out.it.own).mono ?_; rintro e w5 ⟨v, ys, rfl, hr5, hp5, hm5, hb5⟩)
      have HO5 := Aside0.mk (HI.out.own.below hb5)
      have HR5 := Aside0.mk (Kd.R_lower hr5 HB.out.size)
      have HB5 := Aside0.mk (below_then HB.out HB.out.size hb5)
      have HF := Aside0.mk (head_filter HM1.out HMT.out hp5 hm5)
      have HY := Aside0.mk (fun x (hx : x ∈ ys) => (HM1.out x).1 ((hm5 x).1 hx))
      clear hr5 hp5 hm5 hb5
      have hdel := slices_DeleteFunc_int.calls 91 #[.map (some w1.heap.size)] #[] (enters_of Try.func91 (by kernel_rfl) rfl) (fun x => decide (x ∈ Mt.map (·.1))) HR5.out (fun x W hx hg => by
        have hv := HY.out x hx
        have := set_has.walk w1.heap.size Mt x W (HO5.out.grown hg (own_ne_row HO5.out HR5.out)) (WalkArith.wf_i64 (by have := HLIM.out; omega))
        exact this.mono (fun e W' ⟨he, hw⟩ => ⟨he, by rw [hw]; exact World.grownBy_alloc _ _ _⟩))
      rw [HF.out] at hdel
      have HD := Aside0.mk hdel
      clear hdel
      obtain ⟨Av, cv, rfl⟩ := Kd.R_slice HR5.out
      go_wp2_with fail
      refine HD.out.mono ?_
      rintro e w6 ⟨v6, rfl, hr6, hg6⟩
      go_wp2
      go_ret
      exact ⟨_, rfl, hr6, HB5.out.grown hg6 HB5.out.size (fun k e => own_base (Kd.R_own HR5.out).choose_spec k e)⟩
    · intro x y w4 hx hxM hi1 hlt1 hg1 hs1 hen
      have hen' : (Instr.entry (.pointer (some ⟨rI, 0, none⟩))).run Try.prog w4 = .ok (.tuple #[.int .i64 x, .agg #[]]) w4 := hen
      clear hen
      have hv := (HM1.out x).1 (HI.out.it.sub x hx)
      have hx0 := hv.2.1
      have hx1 := hv.2.2
      have HXM := Aside0.mk (HI.out.it.sub x hx)
      clear hv
      have hob := HI.out.own.grown hg1 (fun e => HI.out.own.ne_iter HI.out.it (by cases e; rfl))
      have HB4 := Aside0.mk (HB.out.grown hg1 HB.out.size (fun k e => by cases e; exact HRI0.out))
      obtain ⟨ad, Ar, cr, e, hrx, hrl, hrc⟩ := at_row HR0.out x hx0 hx1
      cases e
      replace hrx := (HB4.out.cell (World.block_lt_of_cell? w _ hrx)).trans hrx
      obtain ⟨ns, hns⟩ : ∃ ns, ns = g.getD x.toNat [] := ⟨_, rfl⟩
      rw [← hns] at hrx hrl hrc
      have HP := Aside0.mk (show HeadIn g Ma w4 ba w1.heap.size rI todo x 0 (wr.rangeLeft ba rI) Mt from ⟨hob, hi1, fun z => by rw [HI.out.mem]; simp, hlt1⟩)
      have HN := Aside0.mk hns
      have HRC := Aside0.mk hrc
      have hnl : ns.length ≤ 9223372036854775807 := hrc.2.1
      clear hns hrc hrl hob hi1 hlt1 hg1 hs1 hx hxM HI HB
      go_wp2
      go_loopw [25] (fun v25 w5 => ∃ (j : Nat) (Mt : List (Int × Unit)), v25 = .int .i64 j ∧ j ≤ ns.length ∧ Aside0 (HeadIn g Ma w5 ba w1.heap.size rI todo x j (wr.rangeLeft ba rI) Mt) ∧ Aside0 (Below w.heap.size w w5)) (fun v25 _ => ns.length - (intOf v25).toNat)
      case atStart => exact ⟨0, Mt, rfl, Nat.zero_le _, HP, HB4⟩
      case round =>
        clear HP HB4
        obtain ⟨j, Mt, rfl, hj, HI, HB⟩ := hrel
        by_cases hlt : j < ns.length
        · obtain ⟨ad2, e, hx⟩ := Kd.at_int (Kd.C_below HRC.out HB.out) (j : Int) (by omega) (by omega)
          cases e
          obtain ⟨k, hxd⟩ : ∃ k, k = rd ns j := ⟨_, rfl⟩
          rw [← hxd, Int.toNat_natCast] at hx
          have HX := Aside0.mk (hxd.trans (by rw [HN.out]) : k = rd (g.getD x.toNat []) j)
          have hkv := HWF.out k (mem_flat_row (n := x.toNat) (by rw [HX.out]; exact rd_mem (by rw [← HN.out]; exact hlt)))
          have hwf : (Lit.int .i64 k).wf = true := WalkArith.wf_i64 (by omega)
          have HP := Aside0.mk (fun W (hW : OwnSet W w1.heap.size Mt) => set_put.walk w1.heap.size Mt k W hW hwf (by have := HI.out.small HWF.out; unfold maxLen; omega))
          clear hxd hwf hkv
          go_wp2_with (first | (go_at_call 89; refine (HP.out _ HI.out.own).mono ?_; rintro e w6 ⟨rfl, ho6, hg6⟩) | go_in)
          have HB6 := Aside0.mk (HB.out.grown hg6 HB.out.size (fun k e => by cases e; exact HSZ.out))
          have HI6 := Aside0.mk (HI.out.put (by rw [← HN.out]; exact hlt) HX.out HBA.out ho6 hg6)
          clear ho6 hg6
          go_roundw
          case rel => exact ⟨j + 1, _, by go_num, by omega, HI6, HB6⟩
          case measure => simp [intOf]; omega
        · have hjl : j = ns.length := by omega
          go_wp2
          go_roundw
          case rel => exact ⟨_, Mt, ⟨HI.out.done (by rw [hjl, HN.out]) HXM.out⟩, HB⟩
          case measure => exact HI.out.left
def graph_Heads.f (g : List (List Int)) (l : List Int) : Option (List Int) := if g.length < 17592186044416 ∧ (∀ x ∈ g.flatten, 0 ≤ x ∧ x < (g.length : Int)) then some (headL g l) else none
theorem graph_Heads.calls (A0 : Option Addr) (c0 : Nat) (l0 : List (List Int)) (A1 : Option Addr) (c1 : Nat) (l1 : List Int) (r : List Int) (w : World) (hr0 : Kd.C (Kd.slice 3 (Kd.int .i64)) w A0 l0.length l0) (hc0 : l0.length ≤ c0) (hr1 : Kd.C (Kd.int .i64) w A1 l1.length l1) (hc1 : l1.length ≤ c1) (h : graph_Heads.f l0 l1 = some r) :
    Calls Try.prog 46 #[.slice A0 l0.length c0, .slice A1 l1.length c1] w fun e w' => ∃ v0_ : Value, e = .returned (v0_) ∧ (Kd.int .i64).R 3 w' w.heap.size (fun _ => True) v0_ r ∧ Below w.heap.size w w' := by
  unfold graph_Heads.f at h
  split at h
  · obtain rfl := Option.some.inj h
    rename_i hc
    exact graph_Heads.walk A0 c0 l0 A1 c1 l1 w hr0 hr1 hc.1 hc.2
  · cases h


end Go.Proofs.Ytmmalieacakcbaa.S

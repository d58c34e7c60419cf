-- Written by heprint.py (this session's, over the kit's print.py): not trusted, Lean checks it.
import Derived.Test.YtmmalieacakcbaaHb0
namespace Go.Proofs.Ytmmalieacakcbaa.S
open Go.RowKit Go.Proofs.YtmmalieacakcbaaW.PrintWords Go.Proofs.YtmmalieacakcbaaW.PrintLast Go.Proofs.YtmmalieacakcbaaW.PrintMore
attribute [local go_sem] max2_int min2_int max_two min_two max_three min_three max_four min_four   -- for this text's walks alone
set_option linter.unusedVariables false
set_option linter.unusedSimpArgs false

/-! ### heliastref12_Reach: function 96 -/
mutual
def heliastref12_Reach.l0 : Nat → List (List Int) → List Int → List Bool → Int → Option (List Int)
  | 0, _, _, _, _ => none
  | k + 1, x0, x1, x5, x6 => if x6 < (x1.length : Int) then (if 0 ≤ x6 then (if (rd x1 x6) ≥ 0 then (if (rd x1 x6) < (x0.length : Int) then (if 0 ≤ (rd x1 x6) then (if (rd x1 x6) < (x5.length : Int) then (heliastref12_Reach.l0 k x0 x1 (x5.set ((rd x1 x6) : Int).toNat true) (wrap64 (x6 + 1))) else (none)) else (none)) else (heliastref12_Reach.l0 k x0 x1 x5 (wrap64 (x6 + 1)))) else (heliastref12_Reach.l0 k x0 x1 x5 (wrap64 (x6 + 1)))) else (none)) else (heliastref12_Reach.l1 k x0 x5 (wrap64 ((x0.length : Int) - 1)))
def heliastref12_Reach.l1 : Nat → List (List Int) → List Bool → Int → Option (List Int)
  | 0, _, _, _ => none
  | k + 1, x0, x5, x7 => if x7 ≥ 0 then (heliastref12_Reach.l2 k x0 x5 x7 0) else (heliastref12_Reach.l3 k x0 x5 ([] : List Int) 0)
def heliastref12_Reach.l2 : Nat → List (List Int) → List Bool → Int → Int → Option (List Int)
  | 0, _, _, _, _ => none
  | k + 1, x0, x5, x7, x8 => if 0 ≤ x7 then (if x7 < (x0.length : Int) then (if x8 < ((rd_L1 x0 x7).length : Int) then (if x7 < (x5.length : Int) then (heliastref12_Reach.j3 k x0 x5 x7 x8 (rdOf false x5 x7)) else (none)) else (heliastref12_Reach.j3 k x0 x5 x7 x8 false)) else (none)) else (none)
def heliastref12_Reach.j3 : Nat → List (List Int) → List Bool → Int → Int → Bool → Option (List Int)
  | 0, _, _, _, _, _ => none
  | k + 1, x0, x5, x7, x8, x59 => if x59 = true then (if 0 ≤ x7 then (if x7 < (x0.length : Int) then (if 0 ≤ x8 then (if x8 < ((rd_L1 x0 x7).length : Int) then (if (rd (rd_L1 x0 x7) x8) ≥ 0 then (if (rd (rd_L1 x0 x7) x8) < x7 then (if 0 ≤ (rd (rd_L1 x0 x7) x8) then (if (rd (rd_L1 x0 x7) x8) < (x5.length : Int) then (heliastref12_Reach.l2 k x0 (x5.set ((rd (rd_L1 x0 x7) x8) : Int).toNat true) x7 (wrap64 (x8 + 1))) else (none)) else (none)) else (heliastref12_Reach.l2 k x0 x5 x7 (wrap64 (x8 + 1)))) else (heliastref12_Reach.l2 k x0 x5 x7 (wrap64 (x8 + 1)))) else (none)) else (none)) else (none)) else (none)) else (heliastref12_Reach.l1 k x0 x5 (wrap64 (x7 - 1)))
def heliastref12_Reach.l3 : Nat → List (List Int) → List Bool → List Int → Int → Option (List Int)
  | 0, _, _, _, _ => none
  | k + 1, x0, x5, x9, x10 => if x10 < (x0.length : Int) then (if 0 ≤ x10 then (if x10 < (x5.length : Int) then (if rdOf false x5 x10 = true then (if x9.length < 17592186044416 then (heliastref12_Reach.l3 k x0 x5 (x9 ++ [x10]) (wrap64 (x10 + 1))) else (none)) else (heliastref12_Reach.l3 k x0 x5 x9 (wrap64 (x10 + 1)))) else (none)) else (none)) else (some x9)
end
def heliastref12_Reach.f (k : Nat) (l0 : List (List Int)) (l1 : List Int) : Option (List Int) := if 0 ≤ (l0.length : Int) then (if ((l0.length : Int) : Int).toNat ≤ 281474976710656 then (heliastref12_Reach.l0 k l0 l1 (List.replicate ((l0.length : Int) : Int).toNat false) 0) else (none)) else (none)
theorem heliastref12_Reach.mono_l : ∀ k, (∀ y0 y1 y2 y3, LeO (heliastref12_Reach.l0 k y0 y1 y2 y3) (heliastref12_Reach.l0 (k + 1) y0 y1 y2 y3)) ∧ (∀ y0 y1 y2, LeO (heliastref12_Reach.l1 k y0 y1 y2) (heliastref12_Reach.l1 (k + 1) y0 y1 y2)) ∧ (∀ y0 y1 y2 y3, LeO (heliastref12_Reach.l2 k y0 y1 y2 y3) (heliastref12_Reach.l2 (k + 1) y0 y1 y2 y3)) ∧ (∀ y0 y1 y2 y3 y4, LeO (heliastref12_Reach.j3 k y0 y1 y2 y3 y4) (heliastref12_Reach.j3 (k + 1) y0 y1 y2 y3 y4)) ∧ (∀ y0 y1 y2 y3, LeO (heliastref12_Reach.l3 k y0 y1 y2 y3) (heliastref12_Reach.l3 (k + 1) y0 y1 y2 y3))
  | 0 => ⟨fun _ _ _ _ r h => by simp [heliastref12_Reach.l0] at h, fun _ _ _ r h => by simp [heliastref12_Reach.l1] at h, fun _ _ _ _ r h => by simp [heliastref12_Reach.l2] at h, fun _ _ _ _ _ r h => by simp [heliastref12_Reach.j3] at h, fun _ _ _ _ r h => by simp [heliastref12_Reach.l3] at h⟩
  | k + 1 => by
    obtain ⟨ih0, ih1, ih2, ih3, ih4⟩ := heliastref12_Reach.mono_l k
    refine ⟨?_, ?_, ?_, ?_, ?_⟩
    · intro y0 y1 y2 y3
      unfold heliastref12_Reach.l0
      repeat' first
      | (with_reducible exact ih0 _ _ _ _)
      | (with_reducible exact ih1 _ _ _)
      | (with_reducible exact ih2 _ _ _ _)
      | (with_reducible exact ih3 _ _ _ _ _)
      | (with_reducible exact ih4 _ _ _ _)
      | (with_reducible exact LeO.refl _)
      | (with_reducible exact LeO.none _)
      | (with_reducible refine LeO.ite ?_ ?_)
      | (with_reducible refine LeO.bind ?_ (fun _ => ?_))
      | exact ih0 _ _ _ _
      | exact ih1 _ _ _
      | exact ih2 _ _ _ _
      | exact ih3 _ _ _ _ _
      | exact ih4 _ _ _ _
      | exact LeO.none _
      | refine LeO.ite ?_ ?_
      | refine LeO.bind ?_ (fun _ => ?_)
    · intro y0 y1 y2
      unfold heliastref12_Reach.l1
      repeat' first
      | (with_reducible exact ih0 _ _ _ _)
      | (with_reducible exact ih1 _ _ _)
      | (with_reducible exact ih2 _ _ _ _)
      | (with_reducible exact ih3 _ _ _ _ _)
      | (with_reducible exact ih4 _ _ _ _)
      | (with_reducible exact LeO.refl _)
      | (with_reducible exact LeO.none _)
      | (with_reducible refine LeO.ite ?_ ?_)
      | (with_reducible refine LeO.bind ?_ (fun _ => ?_))
      | exact ih0 _ _ _ _
      | exact ih1 _ _ _
      | exact ih2 _ _ _ _
      | exact ih3 _ _ _ _ _
      | exact ih4 _ _ _ _
      | exact LeO.none _
      | refine LeO.ite ?_ ?_
      | refine LeO.bind ?_ (fun _ => ?_)
    · intro y0 y1 y2 y3
      unfold heliastref12_Reach.l2
      repeat' first
      | (with_reducible exact ih0 _ _ _ _)
      | (with_reducible exact ih1 _ _ _)
      | (with_reducible exact ih2 _ _ _ _)
      | (with_reducible exact ih3 _ _ _ _ _)
      | (with_reducible exact ih4 _ _ _ _)
      | (with_reducible exact LeO.refl _)
      | (with_reducible exact LeO.none _)
      | (with_reducible refine LeO.ite ?_ ?_)
      | (with_reducible refine LeO.bind ?_ (fun _ => ?_))
      | exact ih0 _ _ _ _
      | exact ih1 _ _ _
      | exact ih2 _ _ _ _
      | exact ih3 _ _ _ _ _
      | exact ih4 _ _ _ _
      | exact LeO.none _
      | refine LeO.ite ?_ ?_
      | refine LeO.bind ?_ (fun _ => ?_)
    · intro y0 y1 y2 y3 y4
      unfold heliastref12_Reach.j3
      repeat' first
      | (with_reducible exact ih0 _ _ _ _)
      | (with_reducible exact ih1 _ _ _)
      | (with_reducible exact ih2 _ _ _ _)
      | (with_reducible exact ih3 _ _ _ _ _)
      | (with_reducible exact ih4 _ _ _ _)
      | (with_reducible exact LeO.refl _)
      | (with_reducible exact LeO.none _)
      | (with_reducible refine LeO.ite ?_ ?_)
      | (with_reducible refine LeO.bind ?_ (fun _ => ?_))
      | exact ih0 _ _ _ _
      | exact ih1 _ _ _
      | exact ih2 _ _ _ _
      | exact ih3 _ _ _ _ _
      | exact ih4 _ _ _ _
      | exact LeO.none _
      | refine LeO.ite ?_ ?_
      | refine LeO.bind ?_ (fun _ => ?_)
    · intro y0 y1 y2 y3
      unfold heliastref12_Reach.l3
      repeat' first
      | (with_reducible exact ih0 _ _ _ _)
      | (with_reducible exact ih1 _ _ _)
      | (with_reducible exact ih2 _ _ _ _)
      | (with_reducible exact ih3 _ _ _ _ _)
      | (with_reducible exact ih4 _ _ _ _)
      | (with_reducible exact LeO.refl _)
      | (with_reducible exact LeO.none _)
      | (with_reducible refine LeO.ite ?_ ?_)
      | (with_reducible refine LeO.bind ?_ (fun _ => ?_))
      | exact ih0 _ _ _ _
      | exact ih1 _ _ _
      | exact ih2 _ _ _ _
      | exact ih3 _ _ _ _ _
      | exact ih4 _ _ _ _
      | exact LeO.none _
      | refine LeO.ite ?_ ?_
      | refine LeO.bind ?_ (fun _ => ?_)
theorem heliastref12_Reach.mono : ∀ a0 a1 k, LeO (heliastref12_Reach.f k a0 a1) (heliastref12_Reach.f (k + 1) a0 a1) := by
  intro a0 a1 k
  obtain ⟨ih0, ih1, ih2, ih3, ih4⟩ := heliastref12_Reach.mono_l k
  unfold heliastref12_Reach.f
  repeat' first
      | (with_reducible exact ih0 _ _ _ _)
      | (with_reducible exact ih1 _ _ _)
      | (with_reducible exact ih2 _ _ _ _)
      | (with_reducible exact ih3 _ _ _ _ _)
      | (with_reducible exact ih4 _ _ _ _)
      | (with_reducible exact LeO.refl _)
      | (with_reducible exact LeO.none _)
      | (with_reducible refine LeO.ite ?_ ?_)
      | (with_reducible refine LeO.bind ?_ (fun _ => ?_))
      | exact ih0 _ _ _ _
      | exact ih1 _ _ _
      | exact ih2 _ _ _ _
      | exact ih3 _ _ _ _ _
      | exact ih4 _ _ _ _
      | exact LeO.none _
      | refine LeO.ite ?_ ?_
      | refine LeO.bind ?_ (fun _ => ?_)
set_option maxHeartbeats 8000000 in
set_option maxRecDepth 100000 in
theorem heliastref12_Reach.calls (k : Nat) (A0 : Option Addr) (c0 : Nat) (l0 : List (List Int)) (A1 : Option Addr) (c1 : Nat) (l1 : List Int) (r : List Int) (w : World) (hr0 : Kd.C (Kd.slice 3 (Kd.int .i64)) w A0 l0.length l0) (hc0 : l0.length ≤ c0) (hr1 : Kd.C (Kd.int .i64) w A1 l1.length l1) (hc1 : l1.length ≤ c1) (h : heliastref12_Reach.f k l0 l1 = some r) :
    Calls Try.prog 96 #[.slice A0 l0.length c0, .slice A1 l1.length c1] w fun e w' => ∃ v0_ : Value, e = .returned (v0_) ∧ Kd.R (Kd.int .i64) 3 w' w.heap.size (fun _ => True) v0_ r ∧ Below w.heap.size w w' := by
  have HR0 := Aside0.mk hr0
  have HC0 := Aside0.mk hc0
  clear hr0 hc0
  have HR1 := Aside0.mk hr1
  have HC1 := Aside0.mk hc1
  clear hr1 hc1
  have HB := Aside0.mk (Below.refl w.heap.size w)
  have H : (if 0 ≤ (l0.length : Int) then (if ((l0.length : Int) : Int).toNat ≤ 281474976710656 then (heliastref12_Reach.l0 k l0 l1 (List.replicate ((l0.length : Int) : Int).toNat false) 0) else (none)) else (none)) = some r := h
  clear h
  by_cases c3 : 0 ≤ (l0.length : Int)
  · rw [if_pos c3] at H
    have c3b0 := eq_true c3
    have c3b1 : decide (0 ≤ (l0.length : Int)) = true := decide_eq_true c3
    clear c3
    by_cases c4 : ((l0.length : Int) : Int).toNat ≤ 281474976710656
    · rw [if_pos c4] at H
      have c4b0 := eq_true c4
      have c4b1 : decide (((l0.length : Int) : Int).toNat ≤ 281474976710656) = true := decide_eq_true c4
      clear c4
      obtain ⟨y159, hy159⟩ : ∃ y_ : List Bool, y_ = (List.replicate ((l0.length : Int) : Int).toNat false) := ⟨_, rfl⟩
      replace H : (heliastref12_Reach.l0 k l0 l1 y159 0) = some r := by first | (rw [hy159]; with_reducible exact H) | (have H2_ := (Option.bind_some _ _).symm.trans H; rw [hy159]; with_reducible exact H2_) | (have H2_ := (Option.bind_some _ _).symm.trans H; with_reducible exact H2_) | with_reducible exact H | (rw [hy159]; exact H) | exact H
      have Ny159 := Aside0.mk hy159
      clear hy159
      have H' := Aside0.mk H
      clear H
      go_enter Try.func96, Try.ntmps96
      go_wp2_with (first | ((with_reducible refine gate_dst (N := 13) rfl ?_); (try (refine gate_guard (by rfl) ?_; dsimp only)); refine Kd.R_make Kd.bool _ 4 rfl (N := 13) rfl 55 _ _ rfl (l0.length : Int) rfl rfl Try.underlying55 (.bool false) 1 info4 rfl (by decide) (by omega) false (ok := fun _ => True) (okp := fun _ => True) rfl (fun _ hk => hk) trivial (of_decide_eq_true (by first | (with_reducible assumption) | assumption)) (Nat.le_trans (Nat.mul_le_mul_right _ (of_decide_eq_true (by first | (with_reducible assumption) | assumption) : (l0.length : Int).toNat ≤ 281474976710656)) (by omega)) (Below.refl _ _) (Nat.le_refl _) ?_; intro v160 w5 ho6 hb hg_ hnew_; clear hg_ hnew_; (first | rw [← Ny159.out] at ho6 | (simp only [Int.reduceToNat] at ho6; rw [← Ny159.out] at ho6)); have n0_ := Aside0.mk (Kd.R_lower ho6 (below_size (by repeat (first | (with_reducible first | exact HB.out | apply below_alloc | apply pw_below_drewN | apply below_drew1) | exact HB.out)))); have n1_ := Aside0.mk (below_step (by repeat (first | (with_reducible first | exact HB.out | apply below_alloc | apply pw_below_drewN | apply below_drew1) | exact HB.out)) hb); clear HB; have HO161 := n0_; have HB := n1_; clear n0_ n1_; clear hb ho6))
      go_loopg [6] k (fun kq v6 w' => ∃ (x5_1 : List Bool) (x6_1 : Int), v6 = .int .i64 x6_1 ∧ Aside0 (heliastref12_Reach.l0 kq l0 l1 x5_1 x6_1 = some r) ∧ Aside0 (kq ≤ k) ∧ Aside0 (Kd.R Kd.bool 4 w' w.heap.size (fun _ => True) v160 x5_1) ∧ Aside0 (Below w.heap.size w w'))
      case atStart => exact ⟨(y159), (0), (by first | rfl | (simp; done) | (simp [*]; done)), H', ⟨Nat.le_refl _⟩, ⟨by (with_reducible repeat (first | apply Kd.R_alloc | apply Kd.R_drewN | apply Kd.R_drew)); exact HO161.out⟩, ⟨by repeat (first | (with_reducible first | exact HB.out | apply below_alloc | apply pw_below_drewN | apply below_drew1) | exact HB.out)⟩⟩
      case round =>
        clear H'
        try clear c1
        try clear p2
        try clear c3
        try clear c3b0
        try clear c3b1
        try clear c4
        try clear c4b0
        try clear c4b1
        obtain ⟨x5_1, x6_1, rfl, HA, HK1, HO_5, HB⟩ := hrel
        cases gk with
        | zero => exact absurd HA.out (by simp [heliastref12_Reach.l0])
        | succ k1 =>
          have H := HA.out
          clear HA
          simp only [heliastref12_Reach.l0] at H
          by_cases c7 : x6_1 < (l1.length : Int)
          · rw [if_pos c7] at H
            have c7b0 : decide (x6_1 < (l1.length : Int)) = true := decide_eq_true c7
            clear c7
            by_cases c8 : 0 ≤ x6_1
            · rw [if_pos c8] at H
              have c8b0 : decide (0 ≤ x6_1) = true := decide_eq_true c8
              clear c8
              by_cases c9 : (rd l1 x6_1) ≥ 0
              · rw [if_pos c9] at H
                have c9b0 : decide (0 ≤ (rd l1 x6_1)) = true := decide_eq_true c9
                clear c9
                by_cases c10 : (rd l1 x6_1) < (l0.length : Int)
                · rw [if_pos c10] at H
                  have c10b0 : decide ((rd l1 x6_1) < (l0.length : Int)) = true := decide_eq_true c10
                  clear c10
                  by_cases c11 : 0 ≤ (rd l1 x6_1)
                  · rw [if_pos c11] at H
                    have c11b0 : decide (0 ≤ (rd l1 x6_1)) = true := decide_eq_true c11
                    clear c11
                    by_cases c12 : (rd l1 x6_1) < (x5_1.length : Int)
                    · rw [if_pos c12] at H
                      have c12b0 : decide ((rd l1 x6_1) < (x5_1.length : Int)) = true := decide_eq_true c12
                      clear c12
                      obtain ⟨y165, hy165⟩ : ∃ y_ : List Bool, y_ = (x5_1.set ((rd l1 x6_1) : Int).toNat true) := ⟨_, rfl⟩
                      replace H : (heliastref12_Reach.l0 k1 l0 l1 y165 (wrap64 (x6_1 + 1))) = some r := by first | (rw [hy165]; with_reducible exact H) | (have H2_ := (Option.bind_some _ _).symm.trans H; rw [hy165]; with_reducible exact H2_) | (have H2_ := (Option.bind_some _ _).symm.trans H; with_reducible exact H2_) | with_reducible exact H | (rw [hy165]; exact H) | exact H
                      have Ny165 := Aside0.mk hy165
                      clear hy165
                      have H' := Aside0.mk H
                      clear H
                      have p162 : 0 ≤ (x6_1 : Int) := of_decide_eq_true (by first | (with_reducible assumption) | assumption)
                      have q162 : x6_1 < (l1.length : Int) := of_decide_eq_true (by first | (with_reducible assumption) | assumption)
                      obtain ⟨ad162, e162, hx162_0⟩ := Kd.at_int HR1.out x6_1 p162 q162
                      cases e162
                      replace hx162_0 := (HB.out.cell (World.block_lt_of_cell? w _ hx162_0)).trans hx162_0
                      replace p162 := eq_true p162
                      replace q162 := eq_true q162
                      have p163 : 0 ≤ (x6_1 : Int) := of_decide_eq_true (by first | (with_reducible assumption) | assumption)
                      have q163 : x6_1 < (l1.length : Int) := of_decide_eq_true (by first | (with_reducible assumption) | assumption)
                      obtain ⟨ad163, e163, hx163_0⟩ := Kd.at_int HR1.out x6_1 p163 q163
                      obtain rfl : ad162 = ad163 := (by injection e163)
                      replace hx163_0 := (HB.out.cell (World.block_lt_of_cell? w _ hx163_0)).trans hx163_0
                      replace p163 := eq_true p163
                      replace q163 := eq_true q163
                      have p164 : 0 ≤ (x6_1 : Int) := of_decide_eq_true (by first | (with_reducible assumption) | assumption)
                      have q164 : x6_1 < (l1.length : Int) := of_decide_eq_true (by first | (with_reducible assumption) | assumption)
                      obtain ⟨ad164, e164, hx164_0⟩ := Kd.at_int HR1.out x6_1 p164 q164
                      obtain rfl : ad162 = ad164 := (by injection e164)
                      replace hx164_0 := (HB.out.cell (World.block_lt_of_cell? w _ hx164_0)).trans hx164_0
                      replace p164 := eq_true p164
                      replace q164 := eq_true q164
                      have p13 : 0 ≤ ((rd l1 x6_1) : Int) := of_decide_eq_true (by first | (with_reducible assumption) | assumption)
                      have q13 : ((rd l1 x6_1) : Int) < ((x5_1.length : Int) : Int) := of_decide_eq_true (by first | (with_reducible assumption) | assumption)
                      obtain ⟨go13, co13, eo13, gb13, gl13, cl13, HG13⟩ := Kd.R_form HO_5.out (by omega)
                      (first | cases eo13 | (injection eo13 with ea_ en_ ec_; (first | subst ea_ | (injection ea_ with ea_; subst ea_)); subst ec_; clear en_))
                      have GB13 := Aside0.mk gb13
                      have GG13 := Aside0.mk HG13
                      clear gb13 gl13 HG13
                      obtain ⟨hx13_0, hf13_0⟩ := Kd.R_celln false HO_5.out ((rd l1 x6_1) : Int) p13 q13
                      replace p13 := eq_true p13
                      replace q13 := eq_true q13
                      have HP14 := Kd.R_putg HO_5.out ((rd l1 x6_1) : Int) true
                      go_wp2_with (first | ((with_reducible refine gate_store (t := 4) (p := 39) rfl ?_); refine store_event (t := 4) (p := 39) (v := ?vo_w15) (w1 := (wr.setCell ⟨go13, ((rd l1 x6_1) : Int).toNat, none⟩ (.bool true))) ?hg ?ho ?hn ?hr ?_; (case ho => rfl); (case hg => rfl); (case hn => rfl); (case hr => first | (go_simp; done) | (go_simp; rfl)); intro w15 hw; have hg : wr.grownBy w15 (some go13) := (by rw [hw]; exact HP14.2); have hp_ : Kd.R Kd.bool 4 w15 w.heap.size (fun _ => True) (.slice (some ⟨go13, 0, none⟩) x5_1.length co13) y165 := (by rw [hw, Ny165.out]; exact HP14.1); clear HP14; have n0_ := Aside0.mk (hp_); have n1_ := Aside0.mk ((by rw [hw]; exact below_set (HB.out) GB13.out : Below w.heap.size w w15)); clear HO_5; clear HB; have HO_5 := n0_; have HB := n1_; clear n0_ n1_; clear hg hw hp_))
                      go_roundg k1
                      case measure => have := HK1.out; omega
                      case rel => exact ⟨(y165), (wrap64 (x6_1 + 1)), (by first | rfl | (simp; done) | (simp [*]; done)), H', ⟨by have := HK1.out; omega⟩, ⟨by (with_reducible repeat (first | apply Kd.R_alloc | apply Kd.R_drewN | apply Kd.R_drew)); exact HO_5.out⟩, ⟨by repeat (first | (with_reducible first | exact HB.out | apply below_alloc | apply pw_below_drewN | apply below_drew1) | exact HB.out)⟩⟩
                    · rw [if_neg c12] at H
                      exact absurd H (by simp)
                  · rw [if_neg c11] at H
                    exact absurd H (by simp)
                · rw [if_neg c10] at H
                  have c10b0 : decide ((rd l1 x6_1) < (l0.length : Int)) = false := decide_eq_false c10
                  clear c10
                  have H' := Aside0.mk H
                  clear H
                  have p162 : 0 ≤ (x6_1 : Int) := of_decide_eq_true (by first | (with_reducible assumption) | assumption)
                  have q162 : x6_1 < (l1.length : Int) := of_decide_eq_true (by first | (with_reducible assumption) | assumption)
                  obtain ⟨ad162, e162, hx162_0⟩ := Kd.at_int HR1.out x6_1 p162 q162
                  cases e162
                  replace hx162_0 := (HB.out.cell (World.block_lt_of_cell? w _ hx162_0)).trans hx162_0
                  replace p162 := eq_true p162
                  replace q162 := eq_true q162
                  have p163 : 0 ≤ (x6_1 : Int) := of_decide_eq_true (by first | (with_reducible assumption) | assumption)
                  have q163 : x6_1 < (l1.length : Int) := of_decide_eq_true (by first | (with_reducible assumption) | assumption)
                  obtain ⟨ad163, e163, hx163_0⟩ := Kd.at_int HR1.out x6_1 p163 q163
                  obtain rfl : ad162 = ad163 := (by injection e163)
                  replace hx163_0 := (HB.out.cell (World.block_lt_of_cell? w _ hx163_0)).trans hx163_0
                  replace p163 := eq_true p163
                  replace q163 := eq_true q163
                  go_wp2
                  go_roundg k1
                  case measure => have := HK1.out; omega
                  case rel => exact ⟨(x5_1), (wrap64 (x6_1 + 1)), (by first | rfl | (simp; done) | (simp [*]; done)), H', ⟨by have := HK1.out; omega⟩, ⟨by (with_reducible repeat (first | apply Kd.R_alloc | apply Kd.R_drewN | apply Kd.R_drew)); exact HO_5.out⟩, ⟨by repeat (first | (with_reducible first | exact HB.out | apply below_alloc | apply pw_below_drewN | apply below_drew1) | exact HB.out)⟩⟩
              · rw [if_neg c9] at H
                have c9b0 : decide (0 ≤ (rd l1 x6_1)) = false := decide_eq_false c9
                clear c9
                have H' := Aside0.mk H
                clear H
                have p162 : 0 ≤ (x6_1 : Int) := of_decide_eq_true (by first | (with_reducible assumption) | assumption)
                have q162 : x6_1 < (l1.length : Int) := of_decide_eq_true (by first | (with_reducible assumption) | assumption)
                obtain ⟨ad162, e162, hx162_0⟩ := Kd.at_int HR1.out x6_1 p162 q162
                cases e162
                replace hx162_0 := (HB.out.cell (World.block_lt_of_cell? w _ hx162_0)).trans hx162_0
                replace p162 := eq_true p162
                replace q162 := eq_true q162
                go_wp2
                go_roundg k1
                case measure => have := HK1.out; omega
                case rel => exact ⟨(x5_1), (wrap64 (x6_1 + 1)), (by first | rfl | (simp; done) | (simp [*]; done)), H', ⟨by have := HK1.out; omega⟩, ⟨by (with_reducible repeat (first | apply Kd.R_alloc | apply Kd.R_drewN | apply Kd.R_drew)); exact HO_5.out⟩, ⟨by repeat (first | (with_reducible first | exact HB.out | apply below_alloc | apply pw_below_drewN | apply below_drew1) | exact HB.out)⟩⟩
            · rw [if_neg c8] at H
              exact absurd H (by simp)
          · rw [if_neg c7] at H
            have c7b0 : decide (x6_1 < (l1.length : Int)) = false := decide_eq_false c7
            clear c7
            have H' := Aside0.mk H
            clear H
            go_wp2
            go_loopg [7] k1 (fun kq v7 w' => ∃ (x5_2 : List Bool) (x7_2 : Int), v7 = .int .i64 x7_2 ∧ Aside0 (heliastref12_Reach.l1 kq l0 x5_2 x7_2 = some r) ∧ Aside0 (kq ≤ k1) ∧ Aside0 (Kd.R Kd.bool 4 w' w.heap.size (fun _ => True) v160 x5_2) ∧ Aside0 (Below w.heap.size w w'))
            case atStart => exact ⟨(x5_1), (wrap64 ((l0.length : Int) - 1)), (by first | rfl | (simp; done) | (simp [*]; done)), H', ⟨Nat.le_refl _⟩, ⟨by (with_reducible repeat (first | apply Kd.R_alloc | apply Kd.R_drewN | apply Kd.R_drew)); exact HO_5.out⟩, ⟨by repeat (first | (with_reducible first | exact HB.out | apply below_alloc | apply pw_below_drewN | apply below_drew1) | exact HB.out)⟩⟩
            case round =>
              clear H'
              try clear c1
              try clear p1
              try clear q1
              try clear hx1
              try clear p2
              try clear c3
              try clear c3b0
              try clear c3b1
              try clear c4
              try clear c4b0
              try clear c4b1
              try clear p6
              try clear c7
              try clear c7b0
              try clear c8
              try clear c8b0
              try clear c9
              try clear c9b0
              try clear c10
              try clear c10b0
              try clear c11
              try clear c11b0
              try clear c12
              try clear c12b0
              try clear p13
              try clear q13
              try clear hx13
              try clear hf13
              try clear hx13_0
              try clear hx162_0
              try clear hx163_0
              try clear hx164_0
              try clear p13
              try clear p162
              try clear p163
              try clear p164
              try clear p2
              try clear q13
              try clear q162
              try clear q163
              try clear q164
              obtain ⟨x5_2, x7_2, rfl, HA, HK2, HO_5, HB⟩ := hrel
              cases gk with
              | zero => exact absurd HA.out (by simp [heliastref12_Reach.l1])
              | succ k2 =>
                have H := HA.out
                clear HA
                simp only [heliastref12_Reach.l1] at H
                by_cases c16 : x7_2 ≥ 0
                · rw [if_pos c16] at H
                  have c16b0 : decide (0 ≤ x7_2) = true := decide_eq_true c16
                  clear c16
                  have H' := Aside0.mk H
                  clear H
                  go_wp2
                  go_loopg [8] k2 (fun kq v8 w' => ∃ (x5_3 : List Bool) (x8_3 : Int), v8 = .int .i64 x8_3 ∧ Aside0 (heliastref12_Reach.l2 kq l0 x5_3 x7_2 x8_3 = some r) ∧ Aside0 (kq ≤ k2) ∧ Aside0 (Kd.R Kd.bool 4 w' w.heap.size (fun _ => True) v160 x5_3) ∧ Aside0 (Below w.heap.size w w'))
                  case atStart => exact ⟨(x5_2), (0), (by first | rfl | (simp; done) | (simp [*]; done)), H', ⟨Nat.le_refl _⟩, ⟨by (with_reducible repeat (first | apply Kd.R_alloc | apply Kd.R_drewN | apply Kd.R_drew)); exact HO_5.out⟩, ⟨by repeat (first | (with_reducible first | exact HB.out | apply below_alloc | apply pw_below_drewN | apply below_drew1) | exact HB.out)⟩⟩
                  case round =>
                    clear H'
                    try clear c1
                    try clear p1
                    try clear q1
                    try clear hx1
                    try clear p2
                    try clear c3
                    try clear c3b0
                    try clear c3b1
                    try clear c4
                    try clear c4b0
                    try clear c4b1
                    try clear p6
                    try clear c7
                    try clear c7b0
                    try clear c8
                    try clear c8b0
                    try clear c9
                    try clear c9b0
                    try clear c10
                    try clear c10b0
                    try clear c11
                    try clear c11b0
                    try clear c12
                    try clear c12b0
                    try clear p13
                    try clear q13
                    try clear hx13
                    try clear hf13
                    try clear c16
                    try clear c16b0
                    try clear p16
                    try clear q16
                    try clear hx16
                    try clear hx13_0
                    try clear hx162_0
                    try clear hx163_0
                    try clear hx164_0
                    try clear p1
                    try clear p13
                    try clear p162
                    try clear p163
                    try clear p164
                    try clear p2
                    try clear p6
                    try clear q1
                    try clear q13
                    try clear q162
                    try clear q163
                    try clear q164
                    obtain ⟨x5_3, x8_3, rfl, HA, HK3, HO_5, HB⟩ := hrel
                    cases gk with
                    | zero => exact absurd HA.out (by simp [heliastref12_Reach.l2])
                    | succ k3 =>
                      have H := HA.out
                      clear HA
                      simp only [heliastref12_Reach.l2] at H
                      have HC17 := Aside0.mk H
                      clear H
                      go_upto_region 11 with (fail)
                      go_cut [59] (fun v59 wc => ∃ (kq : Nat) (x59_16 : Bool), v59 = .bool x59_16 ∧ Aside0 (heliastref12_Reach.j3 kq l0 x5_3 x7_2 x8_3 x59_16 = some r) ∧ Aside0 (kq ≤ k3) ∧ Aside0 (Kd.R Kd.bool 4 wc w.heap.size (fun _ => True) v160 x5_3) ∧ Aside0 (Below w.heap.size w wc))
                      case first =>
                        have H := HC17.out
                        clear HC17
                        by_cases c18 : 0 ≤ x7_2
                        · rw [if_pos c18] at H
                          have c18b0 : decide (0 ≤ x7_2) = true := decide_eq_true c18
                          clear c18
                          (first | rw [c18b0] | (simp only [i64_w, i32_w]; rw [c18b0]) | skip)
                          by_cases c19 : x7_2 < (l0.length : Int)
                          · rw [if_pos c19] at H
                            have c19b0 : decide (x7_2 < (l0.length : Int)) = true := decide_eq_true c19
                            clear c19
                            by_cases c20 : x8_3 < ((rd_L1 l0 x7_2).length : Int)
                            · rw [if_pos c20] at H
                              have c20b0 : decide (x8_3 < ((rd_L1 l0 x7_2).length : Int)) = true := decide_eq_true c20
                              clear c20
                              by_cases c21 : x7_2 < (x5_3.length : Int)
                              · rw [if_pos c21] at H
                                have c21b0 : decide (x7_2 < (x5_3.length : Int)) = true := decide_eq_true c21
                                clear c21
                                have H' := Aside0.mk H
                                clear H
                                have p166 : 0 ≤ (x7_2 : Int) := of_decide_eq_true (by first | (with_reducible assumption) | assumption)
                                have q166 : x7_2 < (l0.length : Int) := of_decide_eq_true (by first | (with_reducible assumption) | assumption)
                                obtain ⟨ad166, A166_0, c166_0, e166, hx166_0, hl166_0, hi166_0⟩ := at_L1 HR0.out x7_2 p166 q166
                                cases e166
                                replace hx166_0 := (HB.out.cell (World.block_lt_of_cell? w _ hx166_0)).trans hx166_0
                                have HR166_0 := Aside0.mk hi166_0
                                have HC166_0 := Aside0.mk hl166_0
                                clear hi166_0 hl166_0
                                replace p166 := eq_true p166
                                replace q166 := eq_true q166
                                obtain ⟨Ao22, co22, eo22⟩ := Kd.R_slice HO_5.out
                                subst eo22
                                have p167 : 0 ≤ (x7_2 : Int) := of_decide_eq_true (by first | (with_reducible assumption) | assumption)
                                have q167 : x7_2 < (x5_3.length : Int) := of_decide_eq_true (by first | (with_reducible assumption) | assumption)
                                obtain ⟨ad167, e167, hx167_0⟩ := Kd.at_bool (Kd.R_reads' HO_5.out).2.2 x7_2 p167 q167
                                cases e167
                                replace p167 := eq_true p167
                                replace q167 := eq_true q167
                                go_wp2
                                go_meet
                                case rel => exact ⟨_, (rdOf false x5_3 x7_2), (by first | rfl | (simp; done) | (simp [*]; done)), H', ⟨by have := HK1.out; have := HK2.out; have := HK3.out; first | omega | exact Nat.le_refl _⟩, ⟨by (with_reducible repeat (first | apply Kd.R_alloc | apply Kd.R_drewN | apply Kd.R_drew)); exact HO_5.out⟩, ⟨by repeat (first | (with_reducible first | exact HB.out | apply below_alloc | apply pw_below_drewN | apply below_drew1) | exact HB.out)⟩⟩
                              · rw [if_neg c21] at H
                                exact absurd H (by simp)
                            · rw [if_neg c20] at H
                              have c20b0 : decide (x8_3 < ((rd_L1 l0 x7_2).length : Int)) = false := decide_eq_false c20
                              clear c20
                              have H' := Aside0.mk H
                              clear H
                              have p166 : 0 ≤ (x7_2 : Int) := of_decide_eq_true (by first | (with_reducible assumption) | assumption)
                              have q166 : x7_2 < (l0.length : Int) := of_decide_eq_true (by first | (with_reducible assumption) | assumption)
                              obtain ⟨ad166, A166_0, c166_0, e166, hx166_0, hl166_0, hi166_0⟩ := at_L1 HR0.out x7_2 p166 q166
                              cases e166
                              replace hx166_0 := (HB.out.cell (World.block_lt_of_cell? w _ hx166_0)).trans hx166_0
                              have HR166_0 := Aside0.mk hi166_0
                              have HC166_0 := Aside0.mk hl166_0
                              clear hi166_0 hl166_0
                              replace p166 := eq_true p166
                              replace q166 := eq_true q166
                              go_wp2
                              go_meet
                              case rel => exact ⟨_, (false), (by first | rfl | (simp; done) | (simp [*]; done)), H', ⟨by have := HK1.out; have := HK2.out; have := HK3.out; first | omega | exact Nat.le_refl _⟩, ⟨by (with_reducible repeat (first | apply Kd.R_alloc | apply Kd.R_drewN | apply Kd.R_drew)); exact HO_5.out⟩, ⟨by repeat (first | (with_reducible first | exact HB.out | apply below_alloc | apply pw_below_drewN | apply below_drew1) | exact HB.out)⟩⟩
                          · rw [if_neg c19] at H
                            exact absurd H (by simp)
                        · rw [if_neg c18] at H
                          exact absurd H (by simp)
                      case rest =>
                        clear HC17
                        try clear c1
                        try clear p1
                        try clear q1
                        try clear hx1
                        try clear c2
                        try clear p2
                        try clear c3
                        try clear c3b0
                        try clear c3b1
                        try clear c4
                        try clear c4b0
                        try clear c4b1
                        try clear p6
                        try clear c7
                        try clear c7b0
                        try clear c8
                        try clear c8b0
                        try clear c9
                        try clear c9b0
                        try clear c10
                        try clear c10b0
                        try clear c11
                        try clear c11b0
                        try clear c12
                        try clear c12b0
                        try clear p13
                        try clear q13
                        try clear hx13
                        try clear hf13
                        try clear c16
                        try clear c16b0
                        try clear p16
                        try clear q16
                        try clear hx16
                        try clear c18
                        try clear c18b0
                        try clear c19
                        try clear c19b0
                        try clear c20
                        try clear c20b0
                        try clear c21
                        try clear c21b0
                        try clear hx13_0
                        try clear hx162_0
                        try clear hx163_0
                        try clear hx164_0
                        try clear hx166_0
                        try clear hx167_0
                        try clear p1
                        try clear p13
                        try clear p16
                        try clear p162
                        try clear p163
                        try clear p164
                        try clear p166
                        try clear p167
                        try clear p2
                        try clear p6
                        try clear q1
                        try clear q13
                        try clear q16
                        try clear q162
                        try clear q163
                        try clear q164
                        try clear q166
                        try clear q167
                        obtain ⟨kq, x59_16, rfl, HA, HJ16, HO_5, HB⟩ := hcut
                        cases kq with
                        | zero => exact absurd HA.out (by simp [heliastref12_Reach.j3])
                        | succ kj16 =>
                          have H := HA.out
                          clear HA
                          simp only [heliastref12_Reach.j3] at H
                          by_cases c23 : x59_16 = true
                          · subst c23
                            have H1 : (if 0 ≤ x7_2 then (if x7_2 < (l0.length : Int) then (if 0 ≤ x8_3 then (if x8_3 < ((rd_L1 l0 x7_2).length : Int) then (if (rd (rd_L1 l0 x7_2) x8_3) ≥ 0 then (if (rd (rd_L1 l0 x7_2) x8_3) < x7_2 then (if 0 ≤ (rd (rd_L1 l0 x7_2) x8_3) then (if (rd (rd_L1 l0 x7_2) x8_3) < (x5_3.length : Int) then (heliastref12_Reach.l2 kj16 l0 (x5_3.set ((rd (rd_L1 l0 x7_2) x8_3) : Int).toNat true) x7_2 (wrap64 (x8_3 + 1))) else (none)) else (none)) else (heliastref12_Reach.l2 kj16 l0 x5_3 x7_2 (wrap64 (x8_3 + 1)))) else (heliastref12_Reach.l2 kj16 l0 x5_3 x7_2 (wrap64 (x8_3 + 1)))) else (none)) else (none)) else (none)) else (none)) = some r := by rw [if_pos rfl] at H; exact H
                            clear H
                            have H := H1
                            clear H1
                            by_cases c24 : 0 ≤ x7_2
                            · rw [if_pos c24] at H
                              have c24b0 : decide (0 ≤ x7_2) = true := decide_eq_true c24
                              clear c24
                              by_cases c25 : x7_2 < (l0.length : Int)
                              · rw [if_pos c25] at H
                                have c25b0 : decide (x7_2 < (l0.length : Int)) = true := decide_eq_true c25
                                clear c25
                                by_cases c26 : 0 ≤ x8_3
                                · rw [if_pos c26] at H
                                  have c26b0 : decide (0 ≤ x8_3) = true := decide_eq_true c26
                                  clear c26
                                  by_cases c27 : x8_3 < ((rd_L1 l0 x7_2).length : Int)
                                  · rw [if_pos c27] at H
                                    have c27b0 : decide (x8_3 < ((rd_L1 l0 x7_2).length : Int)) = true := decide_eq_true c27
                                    clear c27
                                    by_cases c28 : (rd (rd_L1 l0 x7_2) x8_3) ≥ 0
                                    · rw [if_pos c28] at H
                                      have c28b0 : decide (0 ≤ (rd (rd_L1 l0 x7_2) x8_3)) = true := decide_eq_true c28
                                      clear c28
                                      by_cases c29 : (rd (rd_L1 l0 x7_2) x8_3) < x7_2
                                      · rw [if_pos c29] at H
                                        have c29b0 : decide ((rd (rd_L1 l0 x7_2) x8_3) < x7_2) = true := decide_eq_true c29
                                        clear c29
                                        by_cases c30 : 0 ≤ (rd (rd_L1 l0 x7_2) x8_3)
                                        · rw [if_pos c30] at H
                                          have c30b0 : decide (0 ≤ (rd (rd_L1 l0 x7_2) x8_3)) = true := decide_eq_true c30
                                          clear c30
                                          by_cases c31 : (rd (rd_L1 l0 x7_2) x8_3) < (x5_3.length : Int)
                                          · rw [if_pos c31] at H
                                            have c31b0 : decide ((rd (rd_L1 l0 x7_2) x8_3) < (x5_3.length : Int)) = true := decide_eq_true c31
                                            clear c31
                                            obtain ⟨y174, hy174⟩ : ∃ y_ : List Bool, y_ = (x5_3.set ((rd (rd_L1 l0 x7_2) x8_3) : Int).toNat true) := ⟨_, rfl⟩
                                            replace H : (heliastref12_Reach.l2 kj16 l0 y174 x7_2 (wrap64 (x8_3 + 1))) = some r := by first | (rw [hy174]; with_reducible exact H) | (have H2_ := (Option.bind_some _ _).symm.trans H; rw [hy174]; with_reducible exact H2_) | (have H2_ := (Option.bind_some _ _).symm.trans H; with_reducible exact H2_) | with_reducible exact H | (rw [hy174]; exact H) | exact H
                                            have Ny174 := Aside0.mk hy174
                                            clear hy174
                                            have H' := Aside0.mk H
                                            clear H
                                            have p168 : 0 ≤ (x7_2 : Int) := of_decide_eq_true (by first | (with_reducible assumption) | assumption)
                                            have q168 : x7_2 < (l0.length : Int) := of_decide_eq_true (by first | (with_reducible assumption) | assumption)
                                            obtain ⟨ad168, A168_0, c168_0, e168, hx168_0, hl168_0, hi168_0⟩ := at_L1 HR0.out x7_2 p168 q168
                                            cases e168
                                            replace hx168_0 := (HB.out.cell (World.block_lt_of_cell? w _ hx168_0)).trans hx168_0
                                            have HR168_0 := Aside0.mk hi168_0
                                            have HC168_0 := Aside0.mk hl168_0
                                            clear hi168_0 hl168_0
                                            replace p168 := eq_true p168
                                            replace q168 := eq_true q168
                                            have p169 : 0 ≤ (x8_3 : Int) := of_decide_eq_true (by first | (with_reducible assumption) | assumption)
                                            have q169 : x8_3 < ((rd_L1 l0 x7_2).length : Int) := of_decide_eq_true (by first | (with_reducible assumption) | assumption)
                                            obtain ⟨ad169, e169, hx169_0⟩ := Kd.at_int HR168_0.out x8_3 p169 q169
                                            cases e169
                                            replace hx169_0 := (HB.out.cell (World.block_lt_of_cell? w _ hx169_0)).trans hx169_0
                                            replace p169 := eq_true p169
                                            replace q169 := eq_true q169
                                            have p170 : 0 ≤ (x7_2 : Int) := of_decide_eq_true (by first | (with_reducible assumption) | assumption)
                                            have q170 : x7_2 < (l0.length : Int) := of_decide_eq_true (by first | (with_reducible assumption) | assumption)
                                            obtain ⟨ad170, A170_0, c170_0, e170, hx170_0, hl170_0, hi170_0⟩ := at_L1 HR0.out x7_2 p170 q170
                                            obtain rfl : ad168 = ad170 := (by injection e170)
                                            replace hx170_0 := (HB.out.cell (World.block_lt_of_cell? w _ hx170_0)).trans hx170_0
                                            have HR170_0 := Aside0.mk hi170_0
                                            have HC170_0 := Aside0.mk hl170_0
                                            clear hi170_0 hl170_0
                                            replace p170 := eq_true p170
                                            replace q170 := eq_true q170
                                            have ea_ := Option.some.inj (hx168_0.symm.trans hx170_0)
                                            injection ea_ with ea_ en_ ec_
                                            subst ea_
                                            subst ec_
                                            clear en_
                                            have p171 : 0 ≤ (x8_3 : Int) := of_decide_eq_true (by first | (with_reducible assumption) | assumption)
                                            have q171 : x8_3 < ((rd_L1 l0 x7_2).length : Int) := of_decide_eq_true (by first | (with_reducible assumption) | assumption)
                                            obtain ⟨ad171, e171, hx171_0⟩ := Kd.at_int HR170_0.out x8_3 p171 q171
                                            cases e171
                                            replace hx171_0 := (HB.out.cell (World.block_lt_of_cell? w _ hx171_0)).trans hx171_0
                                            replace p171 := eq_true p171
                                            replace q171 := eq_true q171
                                            have p172 : 0 ≤ (x7_2 : Int) := of_decide_eq_true (by first | (with_reducible assumption) | assumption)
                                            have q172 : x7_2 < (l0.length : Int) := of_decide_eq_true (by first | (with_reducible assumption) | assumption)
                                            obtain ⟨ad172, A172_0, c172_0, e172, hx172_0, hl172_0, hi172_0⟩ := at_L1 HR0.out x7_2 p172 q172
                                            obtain rfl : ad168 = ad172 := (by injection e172)
                                            replace hx172_0 := (HB.out.cell (World.block_lt_of_cell? w _ hx172_0)).trans hx172_0
                                            have HR172_0 := Aside0.mk hi172_0
                                            have HC172_0 := Aside0.mk hl172_0
                                            clear hi172_0 hl172_0
                                            replace p172 := eq_true p172
                                            replace q172 := eq_true q172
                                            have ea_ := Option.some.inj (hx168_0.symm.trans hx172_0)
                                            injection ea_ with ea_ en_ ec_
                                            subst ea_
                                            subst ec_
                                            clear en_
                                            have p173 : 0 ≤ (x8_3 : Int) := of_decide_eq_true (by first | (with_reducible assumption) | assumption)
                                            have q173 : x8_3 < ((rd_L1 l0 x7_2).length : Int) := of_decide_eq_true (by first | (with_reducible assumption) | assumption)
                                            obtain ⟨ad173, e173, hx173_0⟩ := Kd.at_int HR172_0.out x8_3 p173 q173
                                            cases e173
                                            replace hx173_0 := (HB.out.cell (World.block_lt_of_cell? w _ hx173_0)).trans hx173_0
                                            replace p173 := eq_true p173
                                            replace q173 := eq_true q173
                                            have p32 : 0 ≤ ((rd (rd_L1 l0 x7_2) x8_3) : Int) := of_decide_eq_true (by first | (with_reducible assumption) | assumption)
                                            have q32 : ((rd (rd_L1 l0 x7_2) x8_3) : Int) < ((x5_3.length : Int) : Int) := of_decide_eq_true (by first | (with_reducible assumption) | assumption)
                                            obtain ⟨go32, co32, eo32, gb32, gl32, cl32, HG32⟩ := Kd.R_form HO_5.out (by omega)
                                            (first | cases eo32 | (injection eo32 with ea_ en_ ec_; (first | subst ea_ | (injection ea_ with ea_; subst ea_)); subst ec_; clear en_))
                                            have GB32 := Aside0.mk gb32
                                            have GG32 := Aside0.mk HG32
                                            clear gb32 gl32 HG32
                                            obtain ⟨hx32_0, hf32_0⟩ := Kd.R_celln false HO_5.out ((rd (rd_L1 l0 x7_2) x8_3) : Int) p32 q32
                                            replace p32 := eq_true p32
                                            replace q32 := eq_true q32
                                            have HP33 := Kd.R_putg HO_5.out ((rd (rd_L1 l0 x7_2) x8_3) : Int) true
                                            go_wp2_with (first | ((with_reducible refine gate_store (t := 4) (p := 89) rfl ?_); refine store_event (t := 4) (p := 89) (v := ?vo_w34) (w1 := (wc.setCell ⟨go32, ((rd (rd_L1 l0 x7_2) x8_3) : Int).toNat, none⟩ (.bool true))) ?hg ?ho ?hn ?hr ?_; (case ho => rfl); (case hg => rfl); (case hn => rfl); (case hr => first | (go_simp; done) | (go_simp; rfl)); intro w34 hw; have hg : wc.grownBy w34 (some go32) := (by rw [hw]; exact HP33.2); have hp_ : Kd.R Kd.bool 4 w34 w.heap.size (fun _ => True) (.slice (some ⟨go32, 0, none⟩) x5_3.length co32) y174 := (by rw [hw, Ny174.out]; exact HP33.1); clear HP33; have n0_ := Aside0.mk (hp_); have n1_ := Aside0.mk ((by rw [hw]; exact below_set (HB.out) GB32.out : Below w.heap.size w w34)); clear HO_5; clear HB; have HO_5 := n0_; have HB := n1_; clear n0_ n1_; clear hg hw hp_))
                                            go_roundg kj16
                                            case measure => have := HK1.out; have := HK2.out; have := HK3.out; have := HJ16.out; omega
                                            case rel => exact ⟨(y174), (wrap64 (x8_3 + 1)), (by first | rfl | (simp; done) | (simp [*]; done)), H', ⟨by have := HK1.out; have := HK2.out; have := HK3.out; have := HJ16.out; omega⟩, ⟨by (with_reducible repeat (first | apply Kd.R_alloc | apply Kd.R_drewN | apply Kd.R_drew)); exact HO_5.out⟩, ⟨by repeat (first | (with_reducible first | exact HB.out | apply below_alloc | apply pw_below_drewN | apply below_drew1) | exact HB.out)⟩⟩
                                          · rw [if_neg c31] at H
                                            exact absurd H (by simp)
                                        · rw [if_neg c30] at H
                                          exact absurd H (by simp)
                                      · rw [if_neg c29] at H
                                        have c29b0 : decide ((rd (rd_L1 l0 x7_2) x8_3) < x7_2) = false := decide_eq_false c29
                                        clear c29
                                        have H' := Aside0.mk H
                                        clear H
                                        have p168 : 0 ≤ (x7_2 : Int) := of_decide_eq_true (by first | (with_reducible assumption) | assumption)
                                        have q168 : x7_2 < (l0.length : Int) := of_decide_eq_true (by first | (with_reducible assumption) | assumption)
                                        obtain ⟨ad168, A168_0, c168_0, e168, hx168_0, hl168_0, hi168_0⟩ := at_L1 HR0.out x7_2 p168 q168
                                        cases e168
                                        replace hx168_0 := (HB.out.cell (World.block_lt_of_cell? w _ hx168_0)).trans hx168_0
                                        have HR168_0 := Aside0.mk hi168_0
                                        have HC168_0 := Aside0.mk hl168_0
                                        clear hi168_0 hl168_0
                                        replace p168 := eq_true p168
                                        replace q168 := eq_true q168
                                        have p169 : 0 ≤ (x8_3 : Int) := of_decide_eq_true (by first | (with_reducible assumption) | assumption)
                                        have q169 : x8_3 < ((rd_L1 l0 x7_2).length : Int) := of_decide_eq_true (by first | (with_reducible assumption) | assumption)
                                        obtain ⟨ad169, e169, hx169_0⟩ := Kd.at_int HR168_0.out x8_3 p169 q169
                                        cases e169
                                        replace hx169_0 := (HB.out.cell (World.block_lt_of_cell? w _ hx169_0)).trans hx169_0
                                        replace p169 := eq_true p169
                                        replace q169 := eq_true q169
                                        have p170 : 0 ≤ (x7_2 : Int) := of_decide_eq_true (by first | (with_reducible assumption) | assumption)
                                        have q170 : x7_2 < (l0.length : Int) := of_decide_eq_true (by first | (with_reducible assumption) | assumption)
                                        obtain ⟨ad170, A170_0, c170_0, e170, hx170_0, hl170_0, hi170_0⟩ := at_L1 HR0.out x7_2 p170 q170
                                        obtain rfl : ad168 = ad170 := (by injection e170)
                                        replace hx170_0 := (HB.out.cell (World.block_lt_of_cell? w _ hx170_0)).trans hx170_0
                                        have HR170_0 := Aside0.mk hi170_0
                                        have HC170_0 := Aside0.mk hl170_0
                                        clear hi170_0 hl170_0
                                        replace p170 := eq_true p170
                                        replace q170 := eq_true q170
                                        have ea_ := Option.some.inj (hx168_0.symm.trans hx170_0)
                                        injection ea_ with ea_ en_ ec_
                                        subst ea_
                                        subst ec_
                                        clear en_
                                        have p171 : 0 ≤ (x8_3 : Int) := of_decide_eq_true (by first | (with_reducible assumption) | assumption)
                                        have q171 : x8_3 < ((rd_L1 l0 x7_2).length : Int) := of_decide_eq_true (by first | (with_reducible assumption) | assumption)
                                        obtain ⟨ad171, e171, hx171_0⟩ := Kd.at_int HR170_0.out x8_3 p171 q171
                                        cases e171
                                        replace hx171_0 := (HB.out.cell (World.block_lt_of_cell? w _ hx171_0)).trans hx171_0
                                        replace p171 := eq_true p171
                                        replace q171 := eq_true q171
                                        go_wp2
                                        go_roundg kj16
                                        case measure => have := HK1.out; have := HK2.out; have := HK3.out; have := HJ16.out; omega
                                        case rel => exact ⟨(x5_3), (wrap64 (x8_3 + 1)), (by first | rfl | (simp; done) | (simp [*]; done)), H', ⟨by have := HK1.out; have := HK2.out; have := HK3.out; have := HJ16.out; omega⟩, ⟨by (with_reducible repeat (first | apply Kd.R_alloc | apply Kd.R_drewN | apply Kd.R_drew)); exact HO_5.out⟩, ⟨by repeat (first | (with_reducible first | exact HB.out | apply below_alloc | apply pw_below_drewN | apply below_drew1) | exact HB.out)⟩⟩
                                    · rw [if_neg c28] at H
                                      have c28b0 : decide (0 ≤ (rd (rd_L1 l0 x7_2) x8_3)) = false := decide_eq_false c28
                                      clear c28
                                      have H' := Aside0.mk H
                                      clear H
                                      have p168 : 0 ≤ (x7_2 : Int) := of_decide_eq_true (by first | (with_reducible assumption) | assumption)
                                      have q168 : x7_2 < (l0.length : Int) := of_decide_eq_true (by first | (with_reducible assumption) | assumption)
                                      obtain ⟨ad168, A168_0, c168_0, e168, hx168_0, hl168_0, hi168_0⟩ := at_L1 HR0.out x7_2 p168 q168
                                      cases e168
                                      replace hx168_0 := (HB.out.cell (World.block_lt_of_cell? w _ hx168_0)).trans hx168_0
                                      have HR168_0 := Aside0.mk hi168_0
                                      have HC168_0 := Aside0.mk hl168_0
                                      clear hi168_0 hl168_0
                                      replace p168 := eq_true p168
                                      replace q168 := eq_true q168
                                      have p169 : 0 ≤ (x8_3 : Int) := of_decide_eq_true (by first | (with_reducible assumption) | assumption)
                                      have q169 : x8_3 < ((rd_L1 l0 x7_2).length : Int) := of_decide_eq_true (by first | (with_reducible assumption) | assumption)
                                      obtain ⟨ad169, e169, hx169_0⟩ := Kd.at_int HR168_0.out x8_3 p169 q169
                                      cases e169
                                      replace hx169_0 := (HB.out.cell (World.block_lt_of_cell? w _ hx169_0)).trans hx169_0
                                      replace p169 := eq_true p169
                                      replace q169 := eq_true q169
                                      go_wp2
                                      go_roundg kj16
                                      case measure => have := HK1.out; have := HK2.out; have := HK3.out; have := HJ16.out; omega
                                      case rel => exact ⟨(x5_3), (wrap64 (x8_3 + 1)), (by first | rfl | (simp; done) | (simp [*]; done)), H', ⟨by have := HK1.out; have := HK2.out; have := HK3.out; have := HJ16.out; omega⟩, ⟨by (with_reducible repeat (first | apply Kd.R_alloc | apply Kd.R_drewN | apply Kd.R_drew)); exact HO_5.out⟩, ⟨by repeat (first | (with_reducible first | exact HB.out | apply below_alloc | apply pw_below_drewN | apply below_drew1) | exact HB.out)⟩⟩
                                  · rw [if_neg c27] at H
                                    exact absurd H (by simp)
                                · rw [if_neg c26] at H
                                  exact absurd H (by simp)
                              · rw [if_neg c25] at H
                                exact absurd H (by simp)
                            · rw [if_neg c24] at H
                              exact absurd H (by simp)
                          · replace c23 := Bool.eq_false_iff.mpr c23
                            subst c23
                            have H1 : (heliastref12_Reach.l1 kj16 l0 x5_3 (wrap64 (x7_2 - 1))) = some r := by rw [if_neg (show ¬ (false = true) by decide)] at H; exact H
                            clear H
                            have H := H1
                            clear H1
                            have H' := Aside0.mk H
                            clear H
                            go_wp2
                            go_roundg kj16
                            case measure => have := HK1.out; have := HK2.out; have := HK3.out; have := HJ16.out; omega
                            case rel => exact ⟨(x5_3), (wrap64 (x7_2 - 1)), (by first | rfl | (simp; done) | (simp [*]; done)), H', ⟨by have := HK1.out; have := HK2.out; have := HK3.out; have := HJ16.out; omega⟩, ⟨by (with_reducible repeat (first | apply Kd.R_alloc | apply Kd.R_drewN | apply Kd.R_drew)); exact HO_5.out⟩, ⟨by repeat (first | (with_reducible first | exact HB.out | apply below_alloc | apply pw_below_drewN | apply below_drew1) | exact HB.out)⟩⟩
                · rw [if_neg c16] at H
                  have c16b0 : decide (0 ≤ x7_2) = false := decide_eq_false c16
                  clear c16
                  have H' := Aside0.mk H
                  clear H
                  go_wp2
                  go_loopg [9, 10] k2 (fun kq v9 v10 w' => ∃ (x9_3 : List Int) (x10_3 : Int), v10 = .int .i64 x10_3 ∧ Aside0 (heliastref12_Reach.l3 kq l0 x5_2 x9_3 x10_3 = some r) ∧ Aside0 (kq ≤ k2) ∧ Aside0 (Kd.R Kd.bool 4 w' w.heap.size (fun _ => True) v160 x5_2) ∧ Aside0 (Kd.R (Kd.int .i64) 3 w' w.heap.size (fun _ => True) v9 x9_3) ∧ Aside0 (Below w.heap.size w w'))
                  case atStart => exact ⟨(([] : List Int)), (0), (by first | rfl | (simp; done) | (simp [*]; done)), H', ⟨Nat.le_refl _⟩, ⟨by (with_reducible repeat (first | apply Kd.R_alloc | apply Kd.R_drewN | apply Kd.R_drew)); exact HO_5.out⟩, ⟨by first | exact Kd.R_nil _ _ _ _ _ | exact Kd.N_nil _ _ _ _ _ | exact Kd.V_nil _ _ _ _ _ | exact Kd.Q_nil _ _ _ _ _ | exact Kd.S_nil _ _ _ _ _⟩, ⟨by repeat (first | (with_reducible first | exact HB.out | apply below_alloc | apply pw_below_drewN | apply below_drew1) | exact HB.out)⟩⟩
                  case round =>
                    clear H'
                    try clear c1
                    try clear p1
                    try clear q1
                    try clear hx1
                    try clear c2
                    try clear p2
                    try clear c3
                    try clear c3b0
                    try clear c3b1
                    try clear p3
                    try clear q3
                    try clear hx3
                    try clear hf3
                    try clear c4
                    try clear c4b0
                    try clear c4b1
                    try clear p6
                    try clear c7
                    try clear c7b0
                    try clear c8
                    try clear c8b0
                    try clear c9
                    try clear c9b0
                    try clear c10
                    try clear c10b0
                    try clear c11
                    try clear c11b0
                    try clear c12
                    try clear c12b0
                    try clear p13
                    try clear q13
                    try clear hx13
                    try clear hf13
                    try clear c16
                    try clear c16b0
                    try clear p16
                    try clear q16
                    try clear hx16
                    try clear c17
                    try clear p17
                    try clear q17
                    try clear hx17
                    try clear c18
                    try clear c18b0
                    try clear c19
                    try clear c19b0
                    try clear c20
                    try clear c20b0
                    try clear c21
                    try clear c21b0
                    try clear c23
                    try clear c24
                    try clear c24b0
                    try clear c25
                    try clear c25b0
                    try clear c26
                    try clear c26b0
                    try clear c27
                    try clear c27b0
                    try clear c28
                    try clear c28b0
                    try clear c29
                    try clear c29b0
                    try clear c30
                    try clear c30b0
                    try clear c31
                    try clear c31b0
                    try clear p32
                    try clear q32
                    try clear hx32
                    try clear hf32
                    try clear hx13_0
                    try clear hx162_0
                    try clear hx163_0
                    try clear hx164_0
                    try clear hx166_0
                    try clear hx167_0
                    try clear hx168_0
                    try clear hx169_0
                    try clear hx170_0
                    try clear hx171_0
                    try clear hx172_0
                    try clear hx173_0
                    try clear hx32_0
                    try clear p1
                    try clear p13
                    try clear p16
                    try clear p162
                    try clear p163
                    try clear p164
                    try clear p166
                    try clear p167
                    try clear p168
                    try clear p169
                    try clear p170
                    try clear p171
                    try clear p172
                    try clear p173
                    try clear p2
                    try clear p32
                    try clear p6
                    try clear q1
                    try clear q13
                    try clear q16
                    try clear q162
                    try clear q163
                    try clear q164
                    try clear q166
                    try clear q167
                    try clear q168
                    try clear q169
                    try clear q170
                    try clear q171
                    try clear q172
                    try clear q173
                    try clear q32
                    obtain ⟨x9_3, x10_3, rfl, HA, HK3, HO_5, HO_9, HB⟩ := hrel
                    cases gk with
                    | zero => exact absurd HA.out (by simp [heliastref12_Reach.l3])
                    | succ k3 =>
                      have H := HA.out
                      clear HA
                      simp only [heliastref12_Reach.l3] at H
                      by_cases c35 : x10_3 < (l0.length : Int)
                      · rw [if_pos c35] at H
                        have c35b0 : decide (x10_3 < (l0.length : Int)) = true := decide_eq_true c35
                        clear c35
                        by_cases c36 : 0 ≤ x10_3
                        · rw [if_pos c36] at H
                          have c36b0 : decide (0 ≤ x10_3) = true := decide_eq_true c36
                          clear c36
                          by_cases c37 : x10_3 < (x5_2.length : Int)
                          · rw [if_pos c37] at H
                            have c37b0 : decide (x10_3 < (x5_2.length : Int)) = true := decide_eq_true c37
                            clear c37
                            obtain ⟨bq38, hbq38⟩ : ∃ b_ : Bool, b_ = (rdOf false x5_2 x10_3) := ⟨_, rfl⟩
                            replace H : (if bq38 = true then (if x9_3.length < 17592186044416 then (heliastref12_Reach.l3 k3 l0 x5_2 (x9_3 ++ [x10_3]) (wrap64 (x10_3 + 1))) else (none)) else (heliastref12_Reach.l3 k3 l0 x5_2 x9_3 (wrap64 (x10_3 + 1)))) = some r := by rw [← hbq38] at H; exact H
                            have Nbq38 := Aside0.mk hbq38
                            clear hbq38
                            by_cases c39 : bq38 = true
                            · subst c39
                              have H1 : (if x9_3.length < 17592186044416 then (heliastref12_Reach.l3 k3 l0 x5_2 (x9_3 ++ [x10_3]) (wrap64 (x10_3 + 1))) else (none)) = some r := by rw [if_pos rfl] at H; exact H
                              clear H
                              have H := H1
                              clear H1
                              by_cases c40 : x9_3.length < 17592186044416
                              · rw [if_pos c40] at H
                                have LMc40 := Aside0.mk c40
                                clear c40
                                obtain ⟨y176, hy176⟩ : ∃ y_ : List Int, y_ = (x9_3 ++ [x10_3]) := ⟨_, rfl⟩
                                replace H : (heliastref12_Reach.l3 k3 l0 x5_2 y176 (wrap64 (x10_3 + 1))) = some r := by first | (rw [hy176]; with_reducible exact H) | (have H2_ := (Option.bind_some _ _).symm.trans H; rw [hy176]; with_reducible exact H2_) | (have H2_ := (Option.bind_some _ _).symm.trans H; with_reducible exact H2_) | with_reducible exact H | (rw [hy176]; exact H) | exact H
                                have Ny176 := Aside0.mk hy176
                                clear hy176
                                have H' := Aside0.mk H
                                clear H
                                obtain ⟨Ao41, co41, eo41⟩ := Kd.R_slice HO_5.out
                                subst eo41
                                have p175 : 0 ≤ (x10_3 : Int) := of_decide_eq_true (by first | (with_reducible assumption) | assumption)
                                have q175 : x10_3 < (x5_2.length : Int) := of_decide_eq_true (by first | (with_reducible assumption) | assumption)
                                obtain ⟨ad175, e175, hx175_0⟩ := Kd.at_bool (Kd.R_reads' HO_5.out).2.2 x10_3 p175 q175
                                (try rw [← Nbq38.out] at hx175_0)
                                cases e175
                                replace p175 := eq_true p175
                                replace q175 := eq_true q175
                                go_wp2_with (first | ((with_reducible refine gate_builtin (b := .append) (xs := #[.tmp 100, .tmp 102]) rfl ?_); (try (refine gate_guard (by rfl) ?_; dsimp only)); at_builtin; refine Kd.R_append (Kd.int .i64) (w0 := w) w.heap.size rfl (.tmp 100) (.tmp 102) 65 3 (.int .i64 0) 8 rfl Try.underlying65 info3 rfl (by decide) (by omega) u9 x9_3 x10_3 [.int .i64 x10_3] (fun _ => True) (fun _ => False) rfl rfl ?aP (fun _ hk => hk.elim) ?aF ?aO ?aB ?aS ?aL ?_; (case aP => exact rfl); (case aB => exact (by repeat (first | (with_reducible first | exact HB.out | apply below_alloc | apply pw_below_drewN | apply below_drew1) | exact HB.out))); (case aF => exact (fun _ _ => trivial)); (case aO => exact (by (with_reducible repeat (first | apply Kd.R_alloc | apply Kd.R_drewN | apply Kd.R_drew)); exact HO_9.out)); (case aS => exact (below_size (by repeat (first | (with_reducible first | exact HB.out | apply below_alloc | apply pw_below_drewN | apply below_drew1) | exact HB.out)))); (case aL => have := LMc40.out; omega); intro v177 w42 ho hb hg hat; rw [← Ny176.out] at ho; have n0_ := Aside0.mk (Kd.R_over' (by (with_reducible repeat (first | apply Kd.R_alloc | apply Kd.R_drewN | apply Kd.R_drew)); exact HO_5.out) (Kd.R_typed (by (with_reducible repeat (first | apply Kd.R_alloc | apply Kd.R_drewN | apply Kd.R_drew)); exact HO_9.out)) (by decide) hg); have n1_ := Aside0.mk (hb); have n2_ := Aside0.mk (ho); clear HO_5; clear HB; clear HO_9; have HO_5 := n0_; have HB := n1_; have HO178 := n2_; clear n0_ n1_ n2_; clear ho hb hg hat))
                                go_roundg k3
                                case measure => have := HK1.out; have := HK2.out; have := HK3.out; omega
                                case rel => exact ⟨(y176), (wrap64 (x10_3 + 1)), (by first | rfl | (simp; done) | (simp [*]; done)), H', ⟨by have := HK1.out; have := HK2.out; have := HK3.out; omega⟩, ⟨by (with_reducible repeat (first | apply Kd.R_alloc | apply Kd.R_drewN | apply Kd.R_drew)); exact HO_5.out⟩, ⟨by (with_reducible repeat (first | apply Kd.R_alloc | apply Kd.R_drewN | apply Kd.R_drew)); exact HO178.out⟩, ⟨by repeat (first | (with_reducible first | exact HB.out | apply below_alloc | apply pw_below_drewN | apply below_drew1) | exact HB.out)⟩⟩
                              · rw [if_neg c40] at H
                                exact absurd H (by simp)
                            · replace c39 := Bool.eq_false_iff.mpr c39
                              subst c39
                              have H1 : (heliastref12_Reach.l3 k3 l0 x5_2 x9_3 (wrap64 (x10_3 + 1))) = some r := by rw [if_neg (show ¬ (false = true) by decide)] at H; exact H
                              clear H
                              have H := H1
                              clear H1
                              have H' := Aside0.mk H
                              clear H
                              obtain ⟨Ao43, co43, eo43⟩ := Kd.R_slice HO_5.out
                              subst eo43
                              have p175 : 0 ≤ (x10_3 : Int) := of_decide_eq_true (by first | (with_reducible assumption) | assumption)
                              have q175 : x10_3 < (x5_2.length : Int) := of_decide_eq_true (by first | (with_reducible assumption) | assumption)
                              obtain ⟨ad175, e175, hx175_0⟩ := Kd.at_bool (Kd.R_reads' HO_5.out).2.2 x10_3 p175 q175
                              (try rw [← Nbq38.out] at hx175_0)
                              cases e175
                              replace p175 := eq_true p175
                              replace q175 := eq_true q175
                              go_wp2
                              go_roundg k3
                              case measure => have := HK1.out; have := HK2.out; have := HK3.out; omega
                              case rel => exact ⟨(x9_3), (wrap64 (x10_3 + 1)), (by first | rfl | (simp; done) | (simp [*]; done)), H', ⟨by have := HK1.out; have := HK2.out; have := HK3.out; omega⟩, ⟨by (with_reducible repeat (first | apply Kd.R_alloc | apply Kd.R_drewN | apply Kd.R_drew)); exact HO_5.out⟩, ⟨by (with_reducible repeat (first | apply Kd.R_alloc | apply Kd.R_drewN | apply Kd.R_drew)); exact HO_9.out⟩, ⟨by repeat (first | (with_reducible first | exact HB.out | apply below_alloc | apply pw_below_drewN | apply below_drew1) | exact HB.out)⟩⟩
                          · rw [if_neg c37] at H
                            exact absurd H (by simp)
                        · rw [if_neg c36] at H
                          exact absurd H (by simp)
                      · rw [if_neg c35] at H
                        have c35b0 : decide (x10_3 < (l0.length : Int)) = false := decide_eq_false c35
                        clear c35
                        obtain rfl := Option.some.inj H
                        go_wp2
                        go_ret
                        exact ⟨_, by first | rfl | (simp [errW_none, errW_some] <;> rfl) | (simp [*, errW_none, errW_some] <;> rfl), by (with_reducible repeat (first | apply Kd.R_alloc | apply Kd.R_drewN | apply Kd.R_drew)); exact HO_9.out, by repeat (first | (with_reducible first | exact HB.out | apply below_alloc | apply pw_below_drewN | apply below_drew1) | exact HB.out)⟩
    · rw [if_neg c4] at H
      exact absurd H (by simp)
  · rw [if_neg c3] at H
    exact absurd H (by simp)

end Go.Proofs.Ytmmalieacakcbaa.S

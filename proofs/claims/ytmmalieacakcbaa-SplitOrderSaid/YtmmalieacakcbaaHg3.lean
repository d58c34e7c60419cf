-- Written by heprint.py (this session's, over the kit's print.py): not trusted, Lean checks it.
import Derived.Test.YtmmalieacakcbaaHg0
import Derived.Test.YtmmalieacakcbaaHg2
namespace Go.Proofs.Ytmmalieacakcbaa.S
open Go.RowKit Go.Proofs.YtmmalieacakcbaaW.PrintWords Go.Proofs.YtmmalieacakcbaaW.PrintLast Go.Proofs.YtmmalieacakcbaaW.PrintMore
attribute [local go_sem] max2_int min2_int max_two min_two max_three min_three max_four min_four   -- for this text's walks alone
set_option linter.unusedVariables false
set_option linter.unusedSimpArgs false

/-! ### heliastlaw13_State: function 48 -/
def heliastlaw13_State.l0 : Nat → List Int → Int → List ByteArray → List ByteArray → List (S69) → Int → Option ((List (S69)))
  | 0, _, _, _, _, _, _ => none
  | k + 1, x0, x1, x5, x6, x7, x8 => if (wrap64 (x8 + 1)) < (x0.length : Int) then (if x8 < 40 then (if 0 ≤ x8 then (if x8 < (x0.length : Int) then (if 0 ≤ (Int.tmod (rd x0 x8) 5) then (if (Int.tmod (rd x0 x8) 5) < (x5.length : Int) then (if 0 ≤ (((Int.tdiv (rd x0 x8) 5) % 256) % 3) then (if (((Int.tdiv (rd x0 x8) 5) % 256) % 3) < (x6.length : Int) then (if 0 ≤ (wrap64 (x8 + 1)) then (if (mx x1 1) = 0 then (none) else ((heliastref13_Put.f k x7 (rdOf ByteArray.empty x5 (Int.tmod (rd x0 x8) 5)) (rdOf ByteArray.empty x6 (((Int.tdiv (rd x0 x8) 5) % 256) % 3)) (Int.tmod (wrap64 (rd x0 (wrap64 (x8 + 1)))) (mx x1 1))).bind fun t131 => (heliastlaw13_State.l0 k x0 x1 x5 x6 t131 (wrap64 (x8 + 2))))) else (none)) else (none)) else (none)) else (none)) else (none)) else (none)) else (none)) else (some x7)) else (some x7)
def heliastlaw13_State.f (k : Nat) (l0 : List Int) (a1 : Int) : Option ((List (S69))) := heliastlaw13_State.l0 k l0 a1 (([(⟨#[109, 46, 114, 111, 111, 109, 46, 99, 114, 101, 97, 116, 101]⟩ : ByteArray), (⟨#[109, 46, 114, 111, 111, 109, 46, 109, 101, 109, 98, 101, 114]⟩ : ByteArray), (⟨#[109, 46, 114, 111, 111, 109, 46, 112, 111, 119, 101, 114, 95, 108, 101, 118, 101, 108, 115]⟩ : ByteArray), (⟨#[109, 46, 114, 111, 111, 109, 46, 106, 111, 105, 110, 95, 114, 117, 108, 101, 115]⟩ : ByteArray), (⟨#[116]⟩ : ByteArray)] : List ByteArray)) (([(⟨#[]⟩ : ByteArray), (⟨#[64, 97, 58, 115]⟩ : ByteArray), (⟨#[64, 98, 58, 115]⟩ : ByteArray)] : List ByteArray)) ([] : List (S69)) 0
theorem heliastlaw13_State.mono_l : ∀ k, (∀ y0 y1 y2 y3 y4 y5, LeO (heliastlaw13_State.l0 k y0 y1 y2 y3 y4 y5) (heliastlaw13_State.l0 (k + 1) y0 y1 y2 y3 y4 y5))
  | 0 => fun _ _ _ _ _ _ r h => by simp [heliastlaw13_State.l0] at h
  | k + 1 => by
    have ih0 := heliastlaw13_State.mono_l k
    · intro y0 y1 y2 y3 y4 y5
      unfold heliastlaw13_State.l0
      repeat' first
      | (with_reducible exact ih0 _ _ _ _ _ _)
      | (with_reducible exact heliastref13_Put.mono _ _ _ _ _)
      | (with_reducible exact LeO.refl _)
      | (with_reducible exact LeO.none _)
      | (with_reducible refine LeO.ite ?_ ?_)
      | (with_reducible refine LeO.bind ?_ (fun _ => ?_))
      | exact ih0 _ _ _ _ _ _
      | exact heliastref13_Put.mono _ _ _ _ _
      | exact LeO.none _
      | refine LeO.ite ?_ ?_
      | refine LeO.bind ?_ (fun _ => ?_)
theorem heliastlaw13_State.mono : ∀ a0 a1 k, LeO (heliastlaw13_State.f k a0 a1) (heliastlaw13_State.f (k + 1) a0 a1) := by
  intro a0 a1 k
  have ih0 := heliastlaw13_State.mono_l k
  unfold heliastlaw13_State.f
  repeat' first
      | (with_reducible exact ih0 _ _ _ _ _ _)
      | (with_reducible exact heliastref13_Put.mono _ _ _ _ _)
      | (with_reducible exact LeO.refl _)
      | (with_reducible exact LeO.none _)
      | (with_reducible refine LeO.ite ?_ ?_)
      | (with_reducible refine LeO.bind ?_ (fun _ => ?_))
      | exact ih0 _ _ _ _ _ _
      | exact heliastref13_Put.mono _ _ _ _ _
      | exact LeO.none _
      | refine LeO.ite ?_ ?_
      | refine LeO.bind ?_ (fun _ => ?_)
def heliastlaw13_State.T7 : Bool × List (List Nat × List Nat) := (true, [([], []), ([], []), ([], []), ([], []), ([2, 3], [2, 3]), ([4], [4]), ([5], [5]), ([1, 6], [1, 6]), ([7], [7]), ([], []), ([], []), ([], []), ([10, 11], [10, 11]), ([12], [12]), ([13], [13]), ([14], [14]), ([9, 15], [9, 15]), ([16], [16]), ([], []), ([], []), ([19], [19]), ([18, 20], [18, 20]), ([21], [21]), ([22], [22]), ([], []), ([24], [24]), ([23, 25], [23, 25]), ([8, 17, 26], [8, 17, 26]), ([0, 27], [0, 27]), ([28, 28, 0, 1, 2, 3, 4, 5, 6, 7, 8, 9, 10, 11, 12, 13, 14, 15, 16, 17, 18, 19, 20, 21, 22, 23, 24, 25, 26, 27, 28], [0, 28])])
def heliastlaw13_State.B7 : List Nat := [0, 0, 0, 0, 12, 28, 60, 126, 254, 0, 0, 0, 3072, 7168, 15360, 31744, 65024, 130560, 0, 0, 524288, 1835008, 3932160, 8126464, 0, 16777216, 66846720, 134217726, 268435455, 536870911]
theorem heliastlaw13_State.tab7 : rtab .any (opsOf Try.f48 7) = heliastlaw13_State.T7 := by kernel_rfl
theorem heliastlaw13_State.bits7 : waitsOk heliastlaw13_State.T7.2 heliastlaw13_State.B7 = true := by kernel_rfl
set_option maxHeartbeats 8000000 in
set_option maxRecDepth 100000 in
theorem heliastlaw13_State.calls (k : Nat) (A0 : Option Addr) (c0 : Nat) (l0 : List Int) (a1 : Int) (r : List (S69)) (w : World) (hr0 : Kd.C (Kd.int .u8) w A0 l0.length l0) (hc0 : l0.length ≤ c0) (h : heliastlaw13_State.f k l0 a1 = some r) :
    Calls Try.prog 48 #[.slice A0 l0.length c0, .int .i64 a1] w fun e w' => ∃ v0_ : Value, e = .returned (v0_) ∧ Kd.R k69 69 w' w.heap.size (fun _ => True) v0_ r ∧ Below w.heap.size w w' := by
  have hu69 := Try.underlying69
  have HR0 := Aside0.mk hr0
  have HC0 := Aside0.mk hc0
  clear hr0 hc0
  have HB := Aside0.mk (Below.refl w.heap.size w)
  have H : (heliastlaw13_State.l0 k l0 a1 (([(⟨#[109, 46, 114, 111, 111, 109, 46, 99, 114, 101, 97, 116, 101]⟩ : ByteArray), (⟨#[109, 46, 114, 111, 111, 109, 46, 109, 101, 109, 98, 101, 114]⟩ : ByteArray), (⟨#[109, 46, 114, 111, 111, 109, 46, 112, 111, 119, 101, 114, 95, 108, 101, 118, 101, 108, 115]⟩ : ByteArray), (⟨#[109, 46, 114, 111, 111, 109, 46, 106, 111, 105, 110, 95, 114, 117, 108, 101, 115]⟩ : ByteArray), (⟨#[116]⟩ : ByteArray)] : List ByteArray)) (([(⟨#[]⟩ : ByteArray), (⟨#[64, 97, 58, 115]⟩ : ByteArray), (⟨#[64, 98, 58, 115]⟩ : ByteArray)] : List ByteArray)) ([] : List (S69)) 0) = some r := h
  clear h
  obtain ⟨y120, hy120⟩ : ∃ y_ : List ByteArray, y_ = (([(⟨#[109, 46, 114, 111, 111, 109, 46, 99, 114, 101, 97, 116, 101]⟩ : ByteArray), (⟨#[109, 46, 114, 111, 111, 109, 46, 109, 101, 109, 98, 101, 114]⟩ : ByteArray), (⟨#[109, 46, 114, 111, 111, 109, 46, 112, 111, 119, 101, 114, 95, 108, 101, 118, 101, 108, 115]⟩ : ByteArray), (⟨#[109, 46, 114, 111, 111, 109, 46, 106, 111, 105, 110, 95, 114, 117, 108, 101, 115]⟩ : ByteArray), (⟨#[116]⟩ : ByteArray)] : List ByteArray)) := ⟨_, rfl⟩
  replace H : (heliastlaw13_State.l0 k l0 a1 y120 (([(⟨#[]⟩ : ByteArray), (⟨#[64, 97, 58, 115]⟩ : ByteArray), (⟨#[64, 98, 58, 115]⟩ : ByteArray)] : List ByteArray)) ([] : List (S69)) 0) = some r := by first | (rw [hy120]; with_reducible exact H) | (have H2_ := (Option.bind_some _ _).symm.trans H; rw [hy120]; with_reducible exact H2_) | (have H2_ := (Option.bind_some _ _).symm.trans H; with_reducible exact H2_) | with_reducible exact H | (rw [hy120]; exact H) | exact H
  have Ny120 := Aside0.mk hy120
  clear hy120
  obtain ⟨y123, hy123⟩ : ∃ y_ : List ByteArray, y_ = (([(⟨#[]⟩ : ByteArray), (⟨#[64, 97, 58, 115]⟩ : ByteArray), (⟨#[64, 98, 58, 115]⟩ : ByteArray)] : List ByteArray)) := ⟨_, rfl⟩
  replace H : (heliastlaw13_State.l0 k l0 a1 y120 y123 ([] : List (S69)) 0) = some r := by first | (rw [hy123]; with_reducible exact H) | (have H2_ := (Option.bind_some _ _).symm.trans H; rw [hy123]; with_reducible exact H2_) | (have H2_ := (Option.bind_some _ _).symm.trans H; with_reducible exact H2_) | with_reducible exact H | (rw [hy123]; exact H) | exact H
  have Ny123 := Aside0.mk hy123
  clear hy123
  have H' := Aside0.mk H
  clear H
  go_enter Try.func48, Try.ntmps48
  go_wp2_with (first | ((with_reducible refine gate_dst (N := 9) rfl ?_); refine Kd.R_lit Kd.string _ 9 ?hg (N := 9) ?hd (xs := ([(⟨#[109, 46, 114, 111, 111, 109, 46, 99, 114, 101, 97, 116, 101]⟩ : ByteArray), (⟨#[109, 46, 114, 111, 111, 109, 46, 109, 101, 109, 98, 101, 114]⟩ : ByteArray), (⟨#[109, 46, 114, 111, 111, 109, 46, 112, 111, 119, 101, 114, 95, 108, 101, 118, 101, 108, 115]⟩ : ByteArray), (⟨#[109, 46, 114, 111, 111, 109, 46, 106, 111, 105, 110, 95, 114, 117, 108, 101, 115]⟩ : ByteArray), (⟨#[116]⟩ : ByteArray)] : List ByteArray)) (inner := [.string (⟨#[109, 46, 114, 111, 111, 109, 46, 99, 114, 101, 97, 116, 101]⟩ : ByteArray), .string (⟨#[109, 46, 114, 111, 111, 109, 46, 109, 101, 109, 98, 101, 114]⟩ : ByteArray), .string (⟨#[109, 46, 114, 111, 111, 109, 46, 112, 111, 119, 101, 114, 95, 108, 101, 118, 101, 108, 115]⟩ : ByteArray), .string (⟨#[109, 46, 114, 111, 111, 109, 46, 106, 111, 105, 110, 95, 114, 117, 108, 101, 115]⟩ : ByteArray), .string (⟨#[116]⟩ : ByteArray)]) (ok := fun _ => True) (okp := fun _ => True) ?hr ?hp (fun _ hk => hk) trivial (Below.refl _ _) (Nat.le_refl _) (by simp) ?_; (case hd => rfl); (case hg => rfl); (case hr => first | (go_simp; done) | (go_simp; rfl)); (case hp => exact (Reps.one (show Kd.M Kd.string _ _ _ (⟨#[109, 46, 114, 111, 111, 109, 46, 99, 114, 101, 97, 116, 101]⟩ : ByteArray) [.string (⟨#[109, 46, 114, 111, 111, 109, 46, 99, 114, 101, 97, 116, 101]⟩ : ByteArray)] from rfl) (Reps.one (show Kd.M Kd.string _ _ _ (⟨#[109, 46, 114, 111, 111, 109, 46, 109, 101, 109, 98, 101, 114]⟩ : ByteArray) [.string (⟨#[109, 46, 114, 111, 111, 109, 46, 109, 101, 109, 98, 101, 114]⟩ : ByteArray)] from rfl) (Reps.one (show Kd.M Kd.string _ _ _ (⟨#[109, 46, 114, 111, 111, 109, 46, 112, 111, 119, 101, 114, 95, 108, 101, 118, 101, 108, 115]⟩ : ByteArray) [.string (⟨#[109, 46, 114, 111, 111, 109, 46, 112, 111, 119, 101, 114, 95, 108, 101, 118, 101, 108, 115]⟩ : ByteArray)] from rfl) (Reps.one (show Kd.M Kd.string _ _ _ (⟨#[109, 46, 114, 111, 111, 109, 46, 106, 111, 105, 110, 95, 114, 117, 108, 101, 115]⟩ : ByteArray) [.string (⟨#[109, 46, 114, 111, 111, 109, 46, 106, 111, 105, 110, 95, 114, 117, 108, 101, 115]⟩ : ByteArray)] from rfl) (Reps.one (show Kd.M Kd.string _ _ _ (⟨#[116]⟩ : ByteArray) [.string (⟨#[116]⟩ : ByteArray)] from rfl) (Reps.none _ _))))))); intro v121 w3 ho4 hb hg_ hnew_; clear hg_ hnew_; (first | rw [← Ny120.out] at ho4 | (simp only [Int.reduceToNat] at ho4; rw [← Ny120.out] at ho4)); have n0_ := Aside0.mk (Kd.R_lower ho4 (below_size (by repeat (first | (with_reducible first | exact HB.out | apply below_alloc | apply pw_below_drewN | apply below_drew1) | exact HB.out)))); have n1_ := Aside0.mk (below_step (by repeat (first | (with_reducible first | exact HB.out | apply below_alloc | apply pw_below_drewN | apply below_drew1) | exact HB.out)) hb); clear HB; have HO122 := n0_; have HB := n1_; clear n0_ n1_; clear hb ho4) | ((with_reducible refine gate_dst (N := 10) rfl ?_); refine Kd.R_lit Kd.string _ 9 ?hg (N := 10) ?hd (xs := ([(⟨#[]⟩ : ByteArray), (⟨#[64, 97, 58, 115]⟩ : ByteArray), (⟨#[64, 98, 58, 115]⟩ : ByteArray)] : List ByteArray)) (inner := [.string (⟨#[]⟩ : ByteArray), .string (⟨#[64, 97, 58, 115]⟩ : ByteArray), .string (⟨#[64, 98, 58, 115]⟩ : ByteArray)]) (ok := fun _ => True) (okp := fun _ => True) ?hr ?hp (fun _ hk => hk) trivial (Below.refl _ _) (Nat.le_refl _) (by simp) ?_; (case hd => rfl); (case hg => rfl); (case hr => first | (go_simp; done) | (go_simp; rfl)); (case hp => exact (Reps.one (show Kd.M Kd.string _ _ _ (⟨#[]⟩ : ByteArray) [.string (⟨#[]⟩ : ByteArray)] from rfl) (Reps.one (show Kd.M Kd.string _ _ _ (⟨#[64, 97, 58, 115]⟩ : ByteArray) [.string (⟨#[64, 97, 58, 115]⟩ : ByteArray)] from rfl) (Reps.one (show Kd.M Kd.string _ _ _ (⟨#[64, 98, 58, 115]⟩ : ByteArray) [.string (⟨#[64, 98, 58, 115]⟩ : ByteArray)] from rfl) (Reps.none _ _))))); intro v124 w5 ho6 hb hg_ hnew_; clear hg_ hnew_; (first | rw [← Ny123.out] at ho6 | (simp only [Int.reduceToNat] at ho6; rw [← Ny123.out] at ho6)); have n0_ := Aside0.mk (Kd.R_elder' (by (with_reducible repeat (first | apply Kd.R_alloc | apply Kd.R_drewN | apply Kd.R_drew)); exact HO122.out) (Kd.R_base ho6) hb); have n1_ := Aside0.mk (Kd.R_lower (Kd.R_new' ho6 (Kd.R_lt (by (with_reducible repeat (first | apply Kd.R_alloc | apply Kd.R_drewN | apply Kd.R_drew)); exact HO122.out))) (below_size (by repeat (first | (with_reducible first | exact HB.out | apply below_alloc | apply pw_below_drewN | apply below_drew1) | exact HB.out)))); have n2_ := Aside0.mk (below_step (by repeat (first | (with_reducible first | exact HB.out | apply below_alloc | apply pw_below_drewN | apply below_drew1) | exact HB.out)) hb); clear HO122; clear HB; have HO122 := n0_; have HO125 := n1_; have HB := n2_; clear n0_ n1_ n2_; clear hb ho6))
  go_loopg [7, 8] k (fun kq v7 v8 w' => ∃ (x7_1 : List (S69)) (x8_1 : Int), v8 = .int .i64 x8_1 ∧ Aside0 (heliastlaw13_State.l0 kq l0 a1 y120 y123 x7_1 x8_1 = some r) ∧ Aside0 (kq ≤ k) ∧ Aside0 (Kd.R Kd.string 9 w' w.heap.size (fun k_ => some k_ ≠ (v124 : Value).ownBlock) v121 y120) ∧ Aside0 (Kd.R Kd.string 9 w' w.heap.size (fun k_ => some k_ ≠ (v121 : Value).ownBlock) v124 y123) ∧ Aside0 (Kd.R k69 69 w' w.heap.size (fun _ => True) v7 x7_1) ∧ Aside0 (Below w.heap.size w w'))
  case atStart => exact ⟨(([] : List (S69))), (0), (by first | rfl | (simp; done) | (simp [*]; done)), H', ⟨Nat.le_refl _⟩, ⟨by (with_reducible repeat (first | apply Kd.R_alloc | apply Kd.R_drewN | apply Kd.R_drew)); exact Kd.R_mono HO122.out (fun _ hk => hk.2)⟩, ⟨by (with_reducible repeat (first | apply Kd.R_alloc | apply Kd.R_drewN | apply Kd.R_drew)); exact Kd.R_mono HO125.out (fun _ hk => hk.2)⟩, ⟨by first | exact Kd.R_nil _ _ _ _ _ | exact Kd.N_nil _ _ _ _ _ | exact Kd.V_nil _ _ _ _ _ | exact Kd.Q_nil _ _ _ _ _ | exact Kd.S_nil _ _ _ _ _⟩, ⟨by repeat (first | (with_reducible first | exact HB.out | apply below_alloc | apply pw_below_drewN | apply below_drew1) | exact HB.out)⟩⟩
  case round =>
    clear H'
    try clear p2
    try clear c4
    obtain ⟨x7_1, x8_1, rfl, HA, HK1, HO_5, HO_6, HO_7, HB⟩ := hrel
    cases gk with
    | zero => exact absurd HA.out (by simp [heliastlaw13_State.l0])
    | succ k1 =>
      have H := HA.out
      clear HA
      simp only [heliastlaw13_State.l0] at H
      by_cases c7 : (wrap64 (x8_1 + 1)) < (l0.length : Int)
      · rw [if_pos c7] at H
        have c7b0 : decide ((wrap64 (x8_1 + 1)) < (l0.length : Int)) = true := decide_eq_true c7
        clear c7
        by_cases c8 : x8_1 < 40
        · rw [if_pos c8] at H
          have c8b0 : decide (x8_1 < 40) = true := decide_eq_true c8
          clear c8
          by_cases c9 : 0 ≤ x8_1
          · rw [if_pos c9] at H
            have c9b0 : decide (0 ≤ x8_1) = true := decide_eq_true c9
            clear c9
            by_cases c10 : x8_1 < (l0.length : Int)
            · rw [if_pos c10] at H
              have c10b0 : decide (x8_1 < (l0.length : Int)) = true := decide_eq_true c10
              clear c10
              obtain ⟨ji11, hji11⟩ : ∃ j_ : Int, (Int.tmod (rd l0 x8_1) 5) = j_ := ⟨_, rfl⟩
              replace H : (if 0 ≤ (ji11) then (if (ji11) < (y120.length : Int) then (if 0 ≤ (((Int.tdiv (rd l0 x8_1) 5) % 256) % 3) then (if (((Int.tdiv (rd l0 x8_1) 5) % 256) % 3) < (y123.length : Int) then (if 0 ≤ (wrap64 (x8_1 + 1)) then (if (mx a1 1) = 0 then (none) else ((heliastref13_Put.f k1 x7_1 (rdOf ByteArray.empty y120 (ji11)) (rdOf ByteArray.empty y123 (((Int.tdiv (rd l0 x8_1) 5) % 256) % 3)) (Int.tmod (wrap64 (rd l0 (wrap64 (x8_1 + 1)))) (mx a1 1))).bind fun t131 => (heliastlaw13_State.l0 k1 l0 a1 y120 y123 t131 (wrap64 (x8_1 + 2))))) else (none)) else (none)) else (none)) else (none)) else (none)) = some r := by first | (rw [hji11] at H; exact H) | (simp only [hji11] at H ⊢; exact H)
              by_cases c12 : 0 ≤ (ji11)
              · rw [if_pos c12] at H
                have c12b0 : decide (0 ≤ (ji11)) = true := decide_eq_true c12
                clear c12
                by_cases c13 : (ji11) < (y120.length : Int)
                · rw [if_pos c13] at H
                  have c13b0 : decide ((ji11) < (y120.length : Int)) = true := decide_eq_true c13
                  clear c13
                  obtain ⟨ji14, hji14⟩ : ∃ j_ : Int, (((Int.tdiv (rd l0 x8_1) 5) % 256) % 3) = j_ := ⟨_, rfl⟩
                  replace H : (if 0 ≤ (ji14) then (if (ji14) < (y123.length : Int) then (if 0 ≤ (wrap64 (x8_1 + 1)) then (if (mx a1 1) = 0 then (none) else ((heliastref13_Put.f k1 x7_1 (rdOf ByteArray.empty y120 (ji11)) (rdOf ByteArray.empty y123 (ji14)) (Int.tmod (wrap64 (rd l0 (wrap64 (x8_1 + 1)))) (mx a1 1))).bind fun t131 => (heliastlaw13_State.l0 k1 l0 a1 y120 y123 t131 (wrap64 (x8_1 + 2))))) else (none)) else (none)) else (none)) = some r := by first | (rw [hji14] at H; exact H) | (simp only [hji14] at H ⊢; exact H)
                  by_cases c15 : 0 ≤ (ji14)
                  · rw [if_pos c15] at H
                    have c15b0 : decide (0 ≤ (ji14)) = true := decide_eq_true c15
                    clear c15
                    by_cases c16 : (ji14) < (y123.length : Int)
                    · rw [if_pos c16] at H
                      have c16b0 : decide ((ji14) < (y123.length : Int)) = true := decide_eq_true c16
                      clear c16
                      obtain ⟨ji17, hji17⟩ : ∃ j_ : Int, (wrap64 (x8_1 + 1)) = j_ := ⟨_, rfl⟩
                      replace H : (if 0 ≤ (ji17) then (if (mx a1 1) = 0 then (none) else ((heliastref13_Put.f k1 x7_1 (rdOf ByteArray.empty y120 (ji11)) (rdOf ByteArray.empty y123 (ji14)) (Int.tmod (wrap64 (rd l0 (ji17))) (mx a1 1))).bind fun t131 => (heliastlaw13_State.l0 k1 l0 a1 y120 y123 t131 (wrap64 (x8_1 + 2))))) else (none)) = some r := by first | (rw [hji17] at H; exact H) | (simp only [hji17] at H ⊢; exact H)
                      (try rw [hji17] at c7b0)
                      have hji17w : (IntKind.i64.wrap (x8_1 + 1)) = ji17 := (i64_w _).trans hji17
                      by_cases c18 : 0 ≤ (ji17)
                      · rw [if_pos c18] at H
                        have c18b0 : decide (0 ≤ (ji17)) = true := decide_eq_true c18
                        clear c18
                        obtain ⟨ji19, hji19⟩ : ∃ j_ : Int, (mx a1 1) = j_ := ⟨_, rfl⟩
                        replace H : (if (ji19) = 0 then (none) else ((heliastref13_Put.f k1 x7_1 (rdOf ByteArray.empty y120 (ji11)) (rdOf ByteArray.empty y123 (ji14)) (Int.tmod (wrap64 (rd l0 (ji17))) (ji19))).bind fun t131 => (heliastlaw13_State.l0 k1 l0 a1 y120 y123 t131 (wrap64 (x8_1 + 2))))) = some r := by first | (rw [hji19] at H; exact H) | (simp only [hji19] at H ⊢; exact H)
                        have hji19_ : (if a1 < 1 then 1 else a1) = ji19 := hji19
                        by_cases c20 : (ji19) = 0
                        · rw [if_pos c20] at H
                          exact absurd H (by simp)
                        · rw [if_neg c20] at H
                          have c20b0 : ((ji19) == 0) = false := beq_eq_false_iff_ne.mpr c20
                          have c20b1 : ((ji19) != 0) = true := bne_iff_ne.mpr c20
                          replace H := Option.bind_eq_some_iff.mp H
                          obtain ⟨t131, A210, H⟩ := H
                          replace H : (heliastlaw13_State.l0 k1 l0 a1 y120 y123 t131 (wrap64 (x8_1 + 2))) = some r := H
                          have A21 := Aside0.mk A210
                          clear A210
                          have H' := Aside0.mk H
                          clear H
                          try go_wp2
                          have n0_ := Aside0.mk (Kd.R_drew HO_5.out)
                          have n1_ := Aside0.mk (Kd.R_drew HO_6.out)
                          have n2_ := Aside0.mk (Kd.R_drew HO_7.out)
                          have n3_ := Aside0.mk (below_drew1 HB.out)
                          clear HO_5
                          clear HO_6
                          clear HO_7
                          clear HB
                          have HO_5 := n0_
                          have HO_6 := n1_
                          have HO_7 := n2_
                          have HB := n3_
                          clear n0_ n1_ n2_ n3_
                          have p126 : 0 ≤ (x8_1 : Int) := of_decide_eq_true (by first | (with_reducible assumption) | assumption)
                          have q126 : x8_1 < (l0.length : Int) := of_decide_eq_true (by first | (with_reducible assumption) | assumption)
                          obtain ⟨ad126, e126, hx126_0⟩ := Kd.at_int HR0.out x8_1 p126 q126
                          have hw126_0 := hx126_0
                          cases e126
                          replace hx126_0 := (HB.out.cell (World.block_lt_of_cell? w _ hx126_0)).trans hx126_0
                          replace p126 := eq_true p126
                          replace q126 := eq_true q126
                          obtain ⟨Ao23, co23, eo23⟩ := Kd.R_slice HO_5.out
                          (first | subst eo23 | (injection eo23 with f1_ f2_ f3_; have f4_ := f1_.symm; have f5_ := f3_.symm; clear f1_ f2_ f3_; subst f4_; subst f5_))
                          have p127 : 0 ≤ ((ji11) : Int) := of_decide_eq_true (by first | (with_reducible assumption) | assumption)
                          have q127 : (ji11) < (y120.length : Int) := of_decide_eq_true (by first | (with_reducible assumption) | assumption)
                          obtain ⟨ad127, e127, hx127_0⟩ := Kd.at_string (Kd.R_reads' HO_5.out).2.2 (ji11) p127 q127
                          cases e127
                          replace p127 := eq_true p127
                          replace q127 := eq_true q127
                          have p128 : 0 ≤ (x8_1 : Int) := of_decide_eq_true (by first | (with_reducible assumption) | assumption)
                          have q128 : x8_1 < (l0.length : Int) := of_decide_eq_true (by first | (with_reducible assumption) | assumption)
                          obtain ⟨ad128, e128, hx128_0⟩ := Kd.at_int HR0.out x8_1 p128 q128
                          have hw128_0 := hx128_0
                          obtain rfl : ad126 = ad128 := (by injection e128)
                          replace hx128_0 := (HB.out.cell (World.block_lt_of_cell? w _ hx128_0)).trans hx128_0
                          replace p128 := eq_true p128
                          replace q128 := eq_true q128
                          obtain ⟨Ao24, co24, eo24⟩ := Kd.R_slice HO_6.out
                          (first | subst eo24 | (injection eo24 with f1_ f2_ f3_; have f4_ := f1_.symm; have f5_ := f3_.symm; clear f1_ f2_ f3_; subst f4_; subst f5_))
                          have p129 : 0 ≤ ((ji14) : Int) := of_decide_eq_true (by first | (with_reducible assumption) | assumption)
                          have q129 : (ji14) < (y123.length : Int) := of_decide_eq_true (by first | (with_reducible assumption) | assumption)
                          obtain ⟨ad129, e129, hx129_0⟩ := Kd.at_string (Kd.R_reads' HO_6.out).2.2 (ji14) p129 q129
                          cases e129
                          replace p129 := eq_true p129
                          replace q129 := eq_true q129
                          have p130 : 0 ≤ ((ji17) : Int) := of_decide_eq_true (by first | (with_reducible assumption) | assumption)
                          have q130 : (ji17) < (l0.length : Int) := of_decide_eq_true (by first | (with_reducible assumption) | assumption)
                          obtain ⟨ad130, e130, hx130_0⟩ := Kd.at_int HR0.out (ji17) p130 q130
                          have hw130_0 := hx130_0
                          obtain rfl : ad126 = ad130 := (by injection e130)
                          replace hx130_0 := (HB.out.cell (World.block_lt_of_cell? w _ hx130_0)).trans hx130_0
                          replace p130 := eq_true p130
                          replace q130 := eq_true q130
                          obtain ⟨Ao25, co25, eo25⟩ := Kd.R_slice HO_7.out
                          (first | subst eo25 | (injection eo25 with f1_ f2_ f3_; have f4_ := f1_.symm; have f5_ := f3_.symm; clear f1_ f2_ f3_; subst f4_; subst f5_))
                          refine start_ (n := 30) (S := fun w' => w'.cell? (ad126.add (x8_1).toNat) = some (.int .u8 (rd l0 x8_1)) ∧ w'.cell? (ad127.add ((ji11)).toNat) = some (.string (rdOf ByteArray.empty y120 (ji11))) ∧ w'.cell? (ad126.add (x8_1).toNat) = some (.int .u8 (rd l0 x8_1)) ∧ w'.cell? (ad129.add ((ji14)).toNat) = some (.string (rdOf ByteArray.empty y123 (ji14))) ∧ w'.cell? (ad126.add ((ji17)).toNat) = some (.int .u8 (rd l0 (ji17)))) (ds := []) #[false, false, false, false, false, false, false, false, false, false, false, false, false, false, false, false, false, false, false, false, false, false, false, false, false, false, false, false, false, false] (by kernel_rfl) rfl rfl ⟨((HB.out.cell (World.block_lt_of_cell? w _ hw126_0)).trans hw126_0), hx127_0, ((HB.out.cell (World.block_lt_of_cell? w _ hw128_0)).trans hw128_0), hx129_0, ((HB.out.cell (World.block_lt_of_cell? w _ hw130_0)).trans hw130_0)⟩ (fun hHeld => ?_); refine with_tabW heliastlaw13_State.tab7 heliastlaw13_State.bits7 (fun HT_ HW_ => ?_)
                          generalize wr.drew = w22 at HO_5 HO_6 HO_7 HB hx126_0 hx127_0 hx128_0 hx129_0 hx130_0 hHeld ⊢
                          refine pure_ (i := 0) (N := some 22) (v := ?_) (a' := ?_) #[true, false, false, false, false, false, false, false, false, false, false, false, false, false, false, false, false, false, false, false, false, false, false, false, false, false, false, false, false, false] rfl rfl (any_of HT_.out (by kernel_rfl)) (fun _ _ _ h => h) (Or.inl ⟨by rfl, ?_⟩) ?_ ?_
                          rotate_left
                          · intro w'
                            go_simp
                            with_reducible rfl
                          rotate_left
                          · simp only [Act.put, List.setIfInBounds_toArray, List.set_cons_zero, List.set_cons_succ, i64_w, i32_w]
                            rfl
                          refine pure_ (i := 1) (N := some 23) (v := ?_) (a' := ?_) #[true, true, false, false, false, false, false, false, false, false, false, false, false, false, false, false, false, false, false, false, false, false, false, false, false, false, false, false, false, false] rfl rfl (any_of HT_.out (by kernel_rfl)) (fun _ _ _ h => h) (Or.inl ⟨by rfl, ?_⟩) ?_ ?_
                          rotate_left
                          · intro w'
                            go_simp
                            with_reducible rfl
                          rotate_left
                          · simp only [Act.put, List.setIfInBounds_toArray, List.set_cons_zero, List.set_cons_succ, i64_w, i32_w]
                            rfl
                          refine pure_ (i := 2) (N := some 24) (v := ?_) (a' := ?_) #[true, true, true, false, false, false, false, false, false, false, false, false, false, false, false, false, false, false, false, false, false, false, false, false, false, false, false, false, false, false] rfl rfl (any_of HT_.out (by kernel_rfl)) (fun _ _ _ h => h) (Or.inl ⟨by rfl, ?_⟩) ?_ ?_
                          rotate_left
                          · intro w'
                            go_simp
                            with_reducible rfl
                          rotate_left
                          · simp only [Act.put, List.setIfInBounds_toArray, List.set_cons_zero, List.set_cons_succ, i64_w, i32_w]
                            rfl
                          refine pure_ (i := 3) (N := some 25) (v := ?_) (a' := ?_) #[true, true, true, true, false, false, false, false, false, false, false, false, false, false, false, false, false, false, false, false, false, false, false, false, false, false, false, false, false, false] rfl rfl (any_of HT_.out (by kernel_rfl)) (fun _ _ _ h => h) (Or.inl ⟨by rfl, ?_⟩) ?_ ?_
                          rotate_left
                          · intro w'
                            go_simp
                            with_reducible rfl
                          rotate_left
                          · simp only [Act.put, List.setIfInBounds_toArray, List.set_cons_zero, List.set_cons_succ, i64_w, i32_w]
                            rfl
                          refine pure_ (i := 4) (N := some 26) (v := ?_) (a' := ?_) #[true, true, true, true, true, false, false, false, false, false, false, false, false, false, false, false, false, false, false, false, false, false, false, false, false, false, false, false, false, false] rfl rfl (any_of HT_.out (by kernel_rfl)) (fun _ _ _ h => h) (Or.inl ⟨by rfl, ?_⟩) ?_ ?_
                          rotate_left
                          · intro w'
                            go_simp
                            with_reducible rfl
                          rotate_left
                          · simp only [Act.put, List.setIfInBounds_toArray, List.set_cons_zero, List.set_cons_succ, i64_w, i32_w]
                            rfl
                          refine pure_ (i := 9) (N := some 31) (v := ?_) (a' := ?_) #[true, true, true, true, true, false, false, false, false, true, false, false, false, false, false, false, false, false, false, false, false, false, false, false, false, false, false, false, false, false] rfl rfl (any_of HT_.out (by kernel_rfl)) (fun _ _ _ h => h) (Or.inl ⟨by rfl, ?_⟩) ?_ ?_
                          rotate_left
                          · intro w'
                            go_simp
                            with_reducible rfl
                          rotate_left
                          · simp only [Act.put, List.setIfInBounds_toArray, List.set_cons_zero, List.set_cons_succ, i64_w, i32_w]
                            rfl
                          refine pure_ (i := 10) (N := some 32) (v := ?_) (a' := ?_) #[true, true, true, true, true, false, false, false, false, true, true, false, false, false, false, false, false, false, false, false, false, false, false, false, false, false, false, false, false, false] rfl rfl (any_of HT_.out (by kernel_rfl)) (fun _ _ _ h => h) (Or.inl ⟨by rfl, ?_⟩) ?_ ?_
                          rotate_left
                          · intro w'
                            go_simp
                            with_reducible rfl
                          rotate_left
                          · simp only [Act.put, List.setIfInBounds_toArray, List.set_cons_zero, List.set_cons_succ, i64_w, i32_w]
                            rfl
                          refine pure_ (i := 11) (N := some 33) (v := ?_) (a' := ?_) #[true, true, true, true, true, false, false, false, false, true, true, true, false, false, false, false, false, false, false, false, false, false, false, false, false, false, false, false, false, false] rfl rfl (any_of HT_.out (by kernel_rfl)) (fun _ _ _ h => h) (Or.inl ⟨by rfl, ?_⟩) ?_ ?_
                          rotate_left
                          · intro w'
                            go_simp
                            with_reducible rfl
                          rotate_left
                          · simp only [Act.put, List.setIfInBounds_toArray, List.set_cons_zero, List.set_cons_succ, i64_w, i32_w]
                            rfl
                          refine pure_ (i := 12) (N := some 34) (v := ?_) (a' := ?_) #[true, true, true, true, true, false, false, false, false, true, true, true, true, false, false, false, false, false, false, false, false, false, false, false, false, false, false, false, false, false] rfl rfl (any_of HT_.out (by kernel_rfl)) (fun _ _ _ h => h) (Or.inl ⟨by rfl, ?_⟩) ?_ ?_
                          rotate_left
                          · intro w'
                            go_simp
                            with_reducible rfl
                          rotate_left
                          · simp only [Act.put, List.setIfInBounds_toArray, List.set_cons_zero, List.set_cons_succ, i64_w, i32_w]
                            rfl
                          refine pure_ (i := 18) (N := some 40) (v := ?_) (a' := ?_) #[true, true, true, true, true, false, false, false, false, true, true, true, true, false, false, false, false, false, true, false, false, false, false, false, false, false, false, false, false, false] rfl rfl (any_of HT_.out (by kernel_rfl)) (fun _ _ _ h => h) (Or.inl ⟨by rfl, ?_⟩) ?_ ?_
                          rotate_left
                          · intro w'
                            go_simp
                            with_reducible rfl
                          rotate_left
                          · simp only [Act.put, List.setIfInBounds_toArray, List.set_cons_zero, List.set_cons_succ, i64_w, i32_w]
                            rfl
                          refine pure_ (i := 19) (N := some 41) (v := ?_) (a' := ?_) #[true, true, true, true, true, false, false, false, false, true, true, true, true, false, false, false, false, false, true, true, false, false, false, false, false, false, false, false, false, false] rfl rfl (any_of HT_.out (by kernel_rfl)) (fun _ _ _ h => h) (Or.inl ⟨by rfl, ?_⟩) ?_ ?_
                          rotate_left
                          · intro w'
                            go_simp
                            with_reducible rfl
                          rotate_left
                          · simp only [Act.put, List.setIfInBounds_toArray, List.set_cons_zero, List.set_cons_succ, i64_w, i32_w]
                            rfl
                          refine pure_ (i := 20) (N := some 42) (v := ?_) (a' := ?_) #[true, true, true, true, true, false, false, false, false, true, true, true, true, false, false, false, false, false, true, true, true, false, false, false, false, false, false, false, false, false] rfl rfl (any_of HT_.out (by kernel_rfl)) (fun _ _ _ h => h) (Or.inl ⟨by rfl, ?_⟩) ?_ ?_
                          rotate_left
                          · intro w'
                            go_simp
                            with_reducible rfl
                          rotate_left
                          · simp only [Act.put, List.setIfInBounds_toArray, List.set_cons_zero, List.set_cons_succ, i64_w, i32_w]
                            rfl
                          refine pure_ (i := 21) (N := some 43) (v := ?_) (a' := ?_) #[true, true, true, true, true, false, false, false, false, true, true, true, true, false, false, false, false, false, true, true, true, true, false, false, false, false, false, false, false, false] rfl rfl (any_of HT_.out (by kernel_rfl)) (fun _ _ _ h => h) (Or.inl ⟨by rfl, ?_⟩) ?_ ?_
                          rotate_left
                          · intro w'
                            go_simp
                            with_reducible rfl
                          rotate_left
                          · simp only [Act.put, List.setIfInBounds_toArray, List.set_cons_zero, List.set_cons_succ, i64_w, i32_w]
                            rfl
                          refine pure_ (i := 24) (N := some 46) (v := ?_) (a' := ?_) #[true, true, true, true, true, false, false, false, false, true, true, true, true, false, false, false, false, false, true, true, true, true, false, false, true, false, false, false, false, false] rfl rfl (any_of HT_.out (by kernel_rfl)) (fun _ _ _ h => h) (Or.inl ⟨by rfl, ?_⟩) ?_ ?_
                          rotate_left
                          · intro w'
                            go_simp
                            with_reducible rfl
                          rotate_left
                          · simp only [Act.put, List.setIfInBounds_toArray, List.set_cons_zero, List.set_cons_succ, i64_w, i32_w]
                            rfl
                          refine pure_ (i := 25) (N := some 47) (v := ?_) (a' := ?_) #[true, true, true, true, true, false, false, false, false, true, true, true, true, false, false, false, false, false, true, true, true, true, false, false, true, true, false, false, false, false] rfl rfl (any_of HT_.out (by kernel_rfl)) (fun _ _ _ h => h) (Or.inl ⟨by rfl, ?_⟩) ?_ ?_
                          rotate_left
                          · intro w'
                            go_simp
                            with_reducible rfl
                          rotate_left
                          · simp only [Act.put, List.setIfInBounds_toArray, List.set_cons_zero, List.set_cons_succ, i64_w, i32_w]
                            rfl
                          refine take_ (i := 5) (N := some 27) (v := ?_) (a' := ?_) #[true, true, true, true, true, true, false, false, false, true, true, true, true, false, false, false, false, false, true, true, true, true, false, false, true, true, false, false, false, false] rfl rfl (take_ofW HT_.out HW_.out (by kernel_rfl)) (fun _ _ _ h => h) (Or.inl ⟨by rfl, ?_⟩) hHeld ?_ ?_
                          rotate_left
                          · rintro w' ⟨s0, s1, s2, s3, s4⟩
                            go_simp
                            with_reducible rfl
                          rotate_left
                          · simp only [Act.put, List.setIfInBounds_toArray, List.set_cons_zero, List.set_cons_succ, i64_w, i32_w]
                            rfl
                          refine pure_ (i := 6) (N := some 28) (v := ?_) (a' := ?_) #[true, true, true, true, true, true, true, false, false, true, true, true, true, false, false, false, false, false, true, true, true, true, false, false, true, true, false, false, false, false] rfl rfl (any_of HT_.out (by kernel_rfl)) (fun _ _ _ h => h) (Or.inl ⟨by rfl, ?_⟩) ?_ ?_
                          rotate_left
                          · intro w'
                            go_simp
                            with_reducible rfl
                          rotate_left
                          · simp only [Act.put, List.setIfInBounds_toArray, List.set_cons_zero, List.set_cons_succ, i64_w, i32_w]
                            rfl
                          refine pure_ (i := 7) (N := some 29) (v := ?_) (a' := ?_) #[true, true, true, true, true, true, true, true, false, true, true, true, true, false, false, false, false, false, true, true, true, true, false, false, true, true, false, false, false, false] rfl rfl (any_of HT_.out (by kernel_rfl)) (fun _ _ _ h => h) (Or.inl ⟨by rfl, ?_⟩) ?_ ?_
                          rotate_left
                          · intro w'
                            go_simp
                            with_reducible rfl
                          rotate_left
                          · simp only [Act.put, List.setIfInBounds_toArray, List.set_cons_zero, List.set_cons_succ, i64_w, i32_w]
                            rfl
                          refine take_ (i := 8) (N := some 30) (v := ?_) (a' := ?_) #[true, true, true, true, true, true, true, true, true, true, true, true, true, false, false, false, false, false, true, true, true, true, false, false, true, true, false, false, false, false] rfl rfl (take_ofW HT_.out HW_.out (by kernel_rfl)) (fun _ _ _ h => h) (Or.inl ⟨by rfl, ?_⟩) hHeld ?_ ?_
                          rotate_left
                          · rintro w' ⟨s0, s1, s2, s3, s4⟩
                            go_simp
                            with_reducible rfl
                          rotate_left
                          · simp only [Act.put, List.setIfInBounds_toArray, List.set_cons_zero, List.set_cons_succ, i64_w, i32_w]
                            rfl
                          refine take_ (i := 13) (N := some 35) (v := ?_) (a' := ?_) #[true, true, true, true, true, true, true, true, true, true, true, true, true, true, false, false, false, false, true, true, true, true, false, false, true, true, false, false, false, false] rfl rfl (take_ofW HT_.out HW_.out (by kernel_rfl)) (fun _ _ _ h => h) (Or.inl ⟨by rfl, ?_⟩) hHeld ?_ ?_
                          rotate_left
                          · rintro w' ⟨s0, s1, s2, s3, s4⟩
                            go_simp
                            with_reducible rfl
                          rotate_left
                          · simp only [Act.put, List.setIfInBounds_toArray, List.set_cons_zero, List.set_cons_succ, i64_w, i32_w]
                            rfl
                          refine pure_ (i := 14) (N := some 36) (v := ?_) (a' := ?_) #[true, true, true, true, true, true, true, true, true, true, true, true, true, true, true, false, false, false, true, true, true, true, false, false, true, true, false, false, false, false] rfl rfl (any_of HT_.out (by kernel_rfl)) (fun _ _ _ h => h) (Or.inl ⟨by rfl, ?_⟩) ?_ ?_
                          rotate_left
                          · intro w'
                            go_simp
                            with_reducible rfl
                          rotate_left
                          · simp only [Act.put, List.setIfInBounds_toArray, List.set_cons_zero, List.set_cons_succ, i64_w, i32_w]
                            rfl
                          refine pure_ (i := 15) (N := some 37) (v := ?_) (a' := ?_) #[true, true, true, true, true, true, true, true, true, true, true, true, true, true, true, true, false, false, true, true, true, true, false, false, true, true, false, false, false, false] rfl rfl (any_of HT_.out (by kernel_rfl)) (fun _ _ _ h => h) (Or.inl ⟨by rfl, ?_⟩) ?_ ?_
                          rotate_left
                          · intro w'
                            go_simp
                            with_reducible rfl
                          rotate_left
                          · simp only [Act.put, List.setIfInBounds_toArray, List.set_cons_zero, List.set_cons_succ, i64_w, i32_w]
                            rfl
                          refine pure_ (i := 16) (N := some 38) (v := ?_) (a' := ?_) #[true, true, true, true, true, true, true, true, true, true, true, true, true, true, true, true, true, false, true, true, true, true, false, false, true, true, false, false, false, false] rfl rfl (any_of HT_.out (by kernel_rfl)) (fun _ _ _ h => h) (Or.inl ⟨by rfl, ?_⟩) ?_ ?_
                          rotate_left
                          · intro w'
                            go_simp
                            with_reducible rfl
                          rotate_left
                          · simp only [Act.put, List.setIfInBounds_toArray, List.set_cons_zero, List.set_cons_succ, i64_w, i32_w]
                            rfl
                          refine take_ (i := 17) (N := some 39) (v := ?_) (a' := ?_) #[true, true, true, true, true, true, true, true, true, true, true, true, true, true, true, true, true, true, true, true, true, true, false, false, true, true, false, false, false, false] rfl rfl (take_ofW HT_.out HW_.out (by kernel_rfl)) (fun _ _ _ h => h) (Or.inl ⟨by rfl, ?_⟩) hHeld ?_ ?_
                          rotate_left
                          · rintro w' ⟨s0, s1, s2, s3, s4⟩
                            go_simp
                            with_reducible rfl
                          rotate_left
                          · simp only [Act.put, List.setIfInBounds_toArray, List.set_cons_zero, List.set_cons_succ, i64_w, i32_w]
                            rfl
                          refine take_ (i := 22) (N := some 44) (v := ?_) (a' := ?_) #[true, true, true, true, true, true, true, true, true, true, true, true, true, true, true, true, true, true, true, true, true, true, true, false, true, true, false, false, false, false] rfl rfl (take_ofW HT_.out HW_.out (by kernel_rfl)) (fun _ _ _ h => h) (Or.inl ⟨by rfl, ?_⟩) hHeld ?_ ?_
                          rotate_left
                          · rintro w' ⟨s0, s1, s2, s3, s4⟩
                            go_simp
                            with_reducible rfl
                          rotate_left
                          · simp only [Act.put, List.setIfInBounds_toArray, List.set_cons_zero, List.set_cons_succ, i64_w, i32_w]
                            rfl
                          refine pure_ (i := 23) (N := some 45) (v := ?_) (a' := ?_) #[true, true, true, true, true, true, true, true, true, true, true, true, true, true, true, true, true, true, true, true, true, true, true, true, true, true, false, false, false, false] rfl rfl (any_of HT_.out (by kernel_rfl)) (fun _ _ _ h => h) (Or.inl ⟨by rfl, ?_⟩) ?_ ?_
                          rotate_left
                          · intro w'
                            go_simp
                            with_reducible rfl
                          rotate_left
                          · simp only [Act.put, List.setIfInBounds_toArray, List.set_cons_zero, List.set_cons_succ, i64_w, i32_w]
                            rfl
                          refine pure_ (i := 26) (N := some 48) (v := ?_) (a' := ?_) #[true, true, true, true, true, true, true, true, true, true, true, true, true, true, true, true, true, true, true, true, true, true, true, true, true, true, true, false, false, false] rfl rfl (any_of HT_.out (by kernel_rfl)) (fun _ _ _ h => h) (Or.inl ⟨by rfl, ?_⟩) ?_ ?_
                          rotate_left
                          · intro w'
                            go_simp
                            with_reducible rfl
                          rotate_left
                          · simp only [Act.put, List.setIfInBounds_toArray, List.set_cons_zero, List.set_cons_succ, i64_w, i32_w]
                            rfl
                          refine pure_ (i := 27) (N := some 49) (v := ?_) (a' := ?_) #[true, true, true, true, true, true, true, true, true, true, true, true, true, true, true, true, true, true, true, true, true, true, true, true, true, true, true, true, false, false] rfl rfl (any_of HT_.out (by kernel_rfl)) (fun _ _ _ h => h) (Or.inl ⟨by rfl, ?_⟩) ?_ ?_
                          rotate_left
                          · intro w'
                            go_simp
                            with_reducible rfl
                          rotate_left
                          · simp only [Act.put, List.setIfInBounds_toArray, List.set_cons_zero, List.set_cons_succ, i64_w, i32_w]
                            rfl
                          refine one_ (i := 28) (N := some 50) #[true, true, true, true, true, true, true, true, true, true, true, true, true, true, true, true, true, true, true, true, true, true, true, true, true, true, true, true, true, false] rfl rfl (one_of HT_.out (by kernel_rfl)) (by decide) (fun K hK => ?_)
                          refine goes_ Try.func94 (by kernel_rfl) rfl #[.slice Ao25 x7_1.length co25, .agg #[.string (rdOf ByteArray.empty y120 (ji11)), .string (rdOf ByteArray.empty y123 (ji14)), .int .i64 (Int.tmod (wrap64 (rd l0 (ji17))) (ji19))]] (by rfl) rfl rfl (by (try simp only [List.map_toArray, List.map_cons, List.map_nil]); first | done | (simp only [hji11, hji14, hji17, hji19]; rfl) | rfl | (simp only [List.length_drop, List.length_take]; rfl)) ?_
                          with_reducible refine (heliastref13_Put.calls k1 _ _ x7_1 (rdOf ByteArray.empty y120 (ji11)) (rdOf ByteArray.empty y123 (ji14)) (Int.tmod (wrap64 (rd l0 (ji17))) (ji19)) t131 _ ?side1 ?side2 A21.out).mono ?_
                          (case side1 => repeat (first | exact (Kd.R_reads' HO_7.out).2.2 | (with_reducible refine Kd.C_alloc ?_ _) | (with_reducible refine Kd.C_drewN ?_ _) | (with_reducible refine Kd.C_drew ?_)))
                          (case side2 => exact (Kd.R_reads' HO_7.out).2.1)
                          rintro e w26 ⟨v132, rfl, ho0, hb⟩
                          have HS1_ := (hb.cell (World.block_lt_of_cell? _ _ (hHeld.2.1))).trans (hHeld.2.1)
                          have HS3_ := (hb.cell (World.block_lt_of_cell? _ _ (hHeld.2.2.2.1))).trans (hHeld.2.2.2.1)
                          refine ⟨_, rfl, ?_⟩
                          have n0_ := Aside0.mk (Kd.R_below (by (with_reducible repeat (first | apply Kd.R_alloc | apply Kd.R_drewN | apply Kd.R_drew)); exact HO_5.out) hb)
                          have n1_ := Aside0.mk (Kd.R_below (by (with_reducible repeat (first | apply Kd.R_alloc | apply Kd.R_drewN | apply Kd.R_drew)); exact HO_6.out) hb)
                          have n2_ := Aside0.mk (Kd.R_elder' (by (with_reducible repeat (first | apply Kd.R_alloc | apply Kd.R_drewN | apply Kd.R_drew)); exact HO_7.out) (Kd.R_base ho0) hb)
                          have n3_ := Aside0.mk (Kd.R_lower (Kd.R_new' ho0 (Kd.R_lt (by (with_reducible repeat (first | apply Kd.R_alloc | apply Kd.R_drewN | apply Kd.R_drew)); exact HO_7.out))) (below_size (by repeat (first | (with_reducible first | exact HB.out | apply below_alloc | apply pw_below_drewN | apply below_drew1) | exact HB.out))))
                          have n4_ := Aside0.mk (below_step (by repeat (first | (with_reducible first | exact HB.out | apply below_alloc | apply pw_below_drewN | apply below_drew1) | exact HB.out)) hb)
                          clear HO_5
                          clear HO_6
                          clear HO_7
                          clear HB
                          have HO_5 := n0_
                          have HO_6 := n1_
                          have HO_7 := n2_
                          have HO133 := n3_
                          have HB := n4_
                          clear n0_ n1_ n2_ n3_ n4_
                          (try clear hb)
                          (try clear hb2)
                          (try clear hk)
                          (try clear hi)
                          (try clear ho0)
                          refine hK.out _ _ ⟨((HB.out.cell (World.block_lt_of_cell? w _ hw126_0)).trans hw126_0), HS1_, ((HB.out.cell (World.block_lt_of_cell? w _ hw128_0)).trans hw128_0), HS3_, ((HB.out.cell (World.block_lt_of_cell? w _ hw130_0)).trans hw130_0)⟩ (fun hHeld => ?_)
                          clear hK K
                          refine norm_ (a' := ?_) ?_ ?_
                          rotate_left
                          · show Act.put _ (some 50) _ = _
                            simp only [Act.put, List.setIfInBounds_toArray, List.set_cons_zero, List.set_cons_succ, i64_w, i32_w]
                            rfl
                          refine pure_ (i := 29) (N := some 7) (v := ?_) (a' := ?_) #[true, true, true, true, true, true, true, true, true, true, true, true, true, true, true, true, true, true, true, true, true, true, true, true, true, true, true, true, true, true] rfl rfl (any_of HT_.out (by kernel_rfl)) (fun _ _ _ h => h) (Or.inl ⟨by rfl, ?_⟩) ?_ ?_
                          rotate_left
                          · intro w'
                            go_simp
                            with_reducible rfl
                          rotate_left
                          · simp only [Act.put, List.setIfInBounds_toArray, List.set_cons_zero, List.set_cons_succ, i64_w, i32_w]
                            rfl
                          refine done_ (done_of HT_.out (by kernel_rfl)) ?_
                          try go_wp2
                          go_roundg k1
                          case measure => have := HK1.out; omega
                          case rel => exact ⟨(t131), (wrap64 (x8_1 + 2)), (by first | rfl | (simp; done) | (simp [*]; done)), H', ⟨by have := HK1.out; omega⟩, ⟨by (with_reducible repeat (first | apply Kd.R_alloc | apply Kd.R_drewN | apply Kd.R_drew)); exact HO_5.out⟩, ⟨by (with_reducible repeat (first | apply Kd.R_alloc | apply Kd.R_drewN | apply Kd.R_drew)); exact HO_6.out⟩, ⟨by (with_reducible repeat (first | apply Kd.R_alloc | apply Kd.R_drewN | apply Kd.R_drew)); exact Kd.R_mono HO133.out (fun _ hk => trivial)⟩, ⟨by repeat (first | (with_reducible first | exact HB.out | apply below_alloc | apply pw_below_drewN | apply below_drew1) | exact HB.out)⟩⟩
                      · rw [if_neg c18] at H
                        exact absurd H (by simp)
                    · rw [if_neg c16] at H
                      exact absurd H (by simp)
                  · rw [if_neg c15] at H
                    exact absurd H (by simp)
                · rw [if_neg c13] at H
                  exact absurd H (by simp)
              · rw [if_neg c12] at H
                exact absurd H (by simp)
            · rw [if_neg c10] at H
              exact absurd H (by simp)
          · rw [if_neg c9] at H
            exact absurd H (by simp)
        · rw [if_neg c8] at H
          have c8b0 : decide (x8_1 < 40) = false := decide_eq_false c8
          clear c8
          obtain rfl := Option.some.inj H
          go_wp2
          go_ret
          exact ⟨_, by first | rfl | (simp [errW_none, errW_some] <;> rfl) | (simp [*, errW_none, errW_some] <;> rfl), by (with_reducible repeat (first | apply Kd.R_alloc | apply Kd.R_drewN | apply Kd.R_drew)); exact HO_7.out, by repeat (first | (with_reducible first | exact HB.out | apply below_alloc | apply pw_below_drewN | apply below_drew1) | exact HB.out)⟩
      · rw [if_neg c7] at H
        have c7b0 : decide ((wrap64 (x8_1 + 1)) < (l0.length : Int)) = false := decide_eq_false c7
        clear c7
        obtain rfl := Option.some.inj H
        go_wp2
        go_ret
        exact ⟨_, by first | rfl | (simp [errW_none, errW_some] <;> rfl) | (simp [*, errW_none, errW_some] <;> rfl), by (with_reducible repeat (first | apply Kd.R_alloc | apply Kd.R_drewN | apply Kd.R_drew)); exact HO_7.out, by repeat (first | (with_reducible first | exact HB.out | apply below_alloc | apply pw_below_drewN | apply below_drew1) | exact HB.out)⟩

/-! ### heliastref13_Over: function 70 -/
def heliastref13_Over.l0 : Nat → List (S69) → List (S69) → Int → Option ((List (S69)))
  | 0, _, _, _ => none
  | k + 1, x1, x5, x6 => if x6 < (x1.length : Int) then (if 0 ≤ x6 then ((heliastref13_Put.f k x5 ((rd_T69 x1 x6).f0) ((rd_T69 x1 x6).f1) ((rd_T69 x1 x6).f2)).bind fun t135 => (heliastref13_Over.l0 k x1 t135 (wrap64 (x6 + 1)))) else (none)) else (some x5)
def heliastref13_Over.f (k : Nat) (l0 : List (S69)) (l1 : List (S69)) : Option ((List (S69))) := heliastref13_Over.l0 k l1 l0 0
theorem heliastref13_Over.mono_l : ∀ k, (∀ y0 y1 y2, LeO (heliastref13_Over.l0 k y0 y1 y2) (heliastref13_Over.l0 (k + 1) y0 y1 y2))
  | 0 => fun _ _ _ r h => by simp [heliastref13_Over.l0] at h
  | k + 1 => by
    have ih0 := heliastref13_Over.mono_l k
    · intro y0 y1 y2
      unfold heliastref13_Over.l0
      repeat' first
      | (with_reducible exact ih0 _ _ _)
      | (with_reducible exact heliastref13_Put.mono _ _ _ _ _)
      | (with_reducible exact LeO.refl _)
      | (with_reducible exact LeO.none _)
      | (with_reducible refine LeO.ite ?_ ?_)
      | (with_reducible refine LeO.bind ?_ (fun _ => ?_))
      | exact ih0 _ _ _
      | exact heliastref13_Put.mono _ _ _ _ _
      | exact LeO.none _
      | refine LeO.ite ?_ ?_
      | refine LeO.bind ?_ (fun _ => ?_)
theorem heliastref13_Over.mono : ∀ a0 a1 k, LeO (heliastref13_Over.f k a0 a1) (heliastref13_Over.f (k + 1) a0 a1) := by
  intro a0 a1 k
  have ih0 := heliastref13_Over.mono_l k
  unfold heliastref13_Over.f
  repeat' first
      | (with_reducible exact ih0 _ _ _)
      | (with_reducible exact heliastref13_Put.mono _ _ _ _ _)
      | (with_reducible exact LeO.refl _)
      | (with_reducible exact LeO.none _)
      | (with_reducible refine LeO.ite ?_ ?_)
      | (with_reducible refine LeO.bind ?_ (fun _ => ?_))
      | exact ih0 _ _ _
      | exact heliastref13_Put.mono _ _ _ _ _
      | exact LeO.none _
      | refine LeO.ite ?_ ?_
      | refine LeO.bind ?_ (fun _ => ?_)
set_option maxHeartbeats 8000000 in
set_option maxRecDepth 100000 in
theorem heliastref13_Over.calls (k : Nat) (P0_ : Nat → Prop) (A0 : Option Addr) (c0 : Nat) (l0 : List (S69)) (A1 : Option Addr) (c1 : Nat) (l1 : List (S69)) (r : List (S69)) (w : World) (hs0 : Kd.V k69 69 w w.heap.size (fun k_ => P0_ k_) (.slice A0 l0.length c0) l0) (hr1 : Kd.C k69 w A1 l1.length l1) (hc1 : l1.length ≤ c1) (h : heliastref13_Over.f k l0 l1 = some r) :
    Calls Try.prog 70 #[.slice A0 l0.length c0, .slice A1 l1.length c1] w fun e w' => ∃ v0_ : Value, e = .returned (v0_) ∧ Kd.V k69 69 w' w.heap.size (fun k_ => (P0_ k_ ∨ w.heap.size ≤ k_)) v0_ r ∧ Below w.heap.size w w' := by
  have hu69 := Try.underlying69
  have HO0 := Aside0.mk (show Kd.V k69 69 w w.heap.size (fun k_ => (P0_ k_ ∨ w.heap.size ≤ k_)) (.slice A0 l0.length c0) l0 from Kd.V_mono hs0 (fun k_ hk => .inl hk))
  have HR1 := Aside0.mk hr1
  have HC1 := Aside0.mk hc1
  clear hr1 hc1
  have HB := Aside0.mk (Below.refl w.heap.size w)
  have H : (heliastref13_Over.l0 k l1 l0 0) = some r := h
  clear h
  have H' := Aside0.mk H
  clear H
  go_enter Try.func70, Try.ntmps70
  go_wp2
  go_loopg [5, 6] k (fun kq v5 v6 w' => ∃ (x5_1 : List (S69)) (x6_1 : Int), v6 = .int .i64 x6_1 ∧ Aside0 (heliastref13_Over.l0 kq l1 x5_1 x6_1 = some r) ∧ Aside0 (kq ≤ k) ∧ Aside0 (Kd.V k69 69 w' w.heap.size (fun k_ => (P0_ k_ ∨ w.heap.size ≤ k_)) v5 x5_1) ∧ Aside0 (Below w.heap.size w w'))
  case atStart => exact ⟨(l0), (0), (by first | rfl | (simp; done) | (simp [*]; done)), H', ⟨Nat.le_refl _⟩, ⟨by (with_reducible repeat (first | apply Kd.V_alloc | apply Kd.V_drewN | apply Kd.V_drew)); exact HO0.out⟩, ⟨by repeat (first | (with_reducible first | exact HB.out | apply below_alloc | apply pw_below_drewN | apply below_drew1) | exact HB.out)⟩⟩
  case round =>
    clear H'
    try clear c1
    try clear p2
    obtain ⟨x5_1, x6_1, rfl, HA, HK1, HO_5, HB⟩ := hrel
    cases gk with
    | zero => exact absurd HA.out (by simp [heliastref13_Over.l0])
    | succ k1 =>
      have H := HA.out
      clear HA
      simp only [heliastref13_Over.l0] at H
      by_cases c3 : x6_1 < (l1.length : Int)
      · rw [if_pos c3] at H
        have c3b0 : decide (x6_1 < (l1.length : Int)) = true := decide_eq_true c3
        clear c3
        by_cases c4 : 0 ≤ x6_1
        · rw [if_pos c4] at H
          have c4b0 : decide (0 ≤ x6_1) = true := decide_eq_true c4
          clear c4
          replace H := Option.bind_eq_some_iff.mp H
          obtain ⟨t135, A50, H⟩ := H
          replace H : (heliastref13_Over.l0 k1 l1 t135 (wrap64 (x6_1 + 1))) = some r := H
          have A5 := Aside0.mk A50
          clear A50
          have H' := Aside0.mk H
          clear H
          have p134 : 0 ≤ (x6_1 : Int) := of_decide_eq_true (by first | (with_reducible assumption) | assumption)
          have q134 : x6_1 < (l1.length : Int) := of_decide_eq_true (by first | (with_reducible assumption) | assumption)
          obtain ⟨ad134, e134, hx134_0, hx134_1, hx134_2⟩ := at_T69 HR1.out x6_1 p134 q134
          cases e134
          replace hx134_0 := (HB.out.cell (World.block_lt_of_cell? w _ hx134_0)).trans hx134_0
          replace hx134_1 := (HB.out.cell (World.block_lt_of_cell? w _ hx134_1)).trans hx134_1
          replace hx134_2 := (HB.out.cell (World.block_lt_of_cell? w _ hx134_2)).trans hx134_2
          replace p134 := eq_true p134
          replace q134 := eq_true q134
          obtain ⟨Ao6, co6, eo6⟩ := Kd.V_slice HO_5.out
          subst eo6
          go_wp2_with (first | ((with_reducible refine gate_callee (f := 94) rfl ?_); refine goesL_ (some 19) rfl rfl Try.func94 (by kernel_rfl) rfl #[.slice Ao6 x5_1.length co6, .agg #[.string ((rd_T69 l1 x6_1).f0), .string ((rd_T69 l1 x6_1).f1), .int .i64 ((rd_T69 l1 x6_1).f2)]] rfl (by (try simp only [List.map_toArray, List.map_cons, List.map_nil]); first | done | rfl | (simp only [List.length_drop, List.length_take]; rfl)) ?_; (with_reducible refine (heliastref13_Put.calls k1 _ _ x5_1 ((rd_T69 l1 x6_1).f0) ((rd_T69 l1 x6_1).f1) ((rd_T69 l1 x6_1).f2) t135 _ ?side1 ?side2 A5.out).mono ?_); (case side1 => repeat (first | exact (Kd.V_reads' HO_5.out).2.2 | (with_reducible refine Kd.C_alloc ?_ _) | (with_reducible refine Kd.C_drewN ?_ _) | (with_reducible refine Kd.C_drew ?_))); (case side2 => exact (Kd.V_reads' HO_5.out).2.1); rintro e w7 ⟨v136, rfl, ho0, hb⟩; refine ⟨_, rfl, ?_⟩; have n0_ := Aside0.mk (Kd.V_elder' (by (with_reducible repeat (first | apply Kd.V_alloc | apply Kd.V_drewN | apply Kd.V_drew)); exact HO_5.out) (Kd.R_base ho0) hb); have n1_ := Aside0.mk (Kd.R_lower (Kd.R_newM (M := fun k_ => (w.heap.size ≤ k_)) ho0 (below_size (by repeat (first | (with_reducible first | exact HB.out | apply below_alloc | apply pw_below_drewN | apply below_drew1) | exact HB.out))) (fun k_ h_ => h_)) (below_size (by repeat (first | (with_reducible first | exact HB.out | apply below_alloc | apply pw_below_drewN | apply below_drew1) | exact HB.out)))); have n2_ := Aside0.mk (below_step (by repeat (first | (with_reducible first | exact HB.out | apply below_alloc | apply pw_below_drewN | apply below_drew1) | exact HB.out)) hb); clear HO_5; clear HB; have HO_5 := n0_; have HO137 := n1_; have HB := n2_; clear n0_ n1_ n2_; (try clear hb); (try clear hb2); (try clear hk); (try clear hi); (try clear ho0)))
          go_roundg k1
          case measure => have := HK1.out; omega
          case rel => exact ⟨(t135), (wrap64 (x6_1 + 1)), (by first | rfl | (simp; done) | (simp [*]; done)), H', ⟨by have := HK1.out; omega⟩, ⟨Kd.V_mono (Kd.R_V (by (with_reducible repeat (first | apply Kd.R_alloc | apply Kd.R_drewN | apply Kd.R_drew)); exact Kd.R_mono HO137.out (fun _ hk => hk.1))) (fun k_ hk => by first | exact ⟨(.inr (hk.1)), hk.2⟩ | exact (.inr (hk)))⟩, ⟨by repeat (first | (with_reducible first | exact HB.out | apply below_alloc | apply pw_below_drewN | apply below_drew1) | exact HB.out)⟩⟩
        · rw [if_neg c4] at H
          exact absurd H (by simp)
      · rw [if_neg c3] at H
        have c3b0 : decide (x6_1 < (l1.length : Int)) = false := decide_eq_false c3
        clear c3
        obtain rfl := Option.some.inj H
        go_wp2
        go_ret
        exact ⟨_, by first | rfl | (simp [errW_none, errW_some] <;> rfl) | (simp [*, errW_none, errW_some] <;> rfl), by (with_reducible repeat (first | apply Kd.V_alloc | apply Kd.V_drewN | apply Kd.V_drew)); exact HO_5.out, by repeat (first | (with_reducible first | exact HB.out | apply below_alloc | apply pw_below_drewN | apply below_drew1) | exact HB.out)⟩

/-! ### heliastlaw16_States: function 29 -/
mutual
def heliastlaw16_States.j0 : Nat → List Int → List Int → Int → List (List (S69)) → Int → Option ((List (List (S69))))
  | 0, _, _, _, _, _ => none
  | k + 1, x0, x1, x2, x7, x8 => heliastlaw16_States.l0 k x0 x1 x2 x7 x8 0
def heliastlaw16_States.l0 : Nat → List Int → List Int → Int → List (List (S69)) → Int → Int → Option ((List (List (S69))))
  | 0, _, _, _, _, _, _ => none
  | k + 1, x0, x1, x2, x7, x8, x9 => if x9 < x8 then (if 0 ≤ (mn (x1.length : Int) (wrap64 (1 + (wrap64 (3 * x9))))) then (if (mn (x1.length : Int) (wrap64 (1 + (wrap64 (3 * x9))))) ≤ (mn (x1.length : Int) (wrap64 ((mn (x1.length : Int) (wrap64 (1 + (wrap64 (3 * x9))))) + 6))) then (if (mn (x1.length : Int) (wrap64 ((mn (x1.length : Int) (wrap64 (1 + (wrap64 (3 * x9))))) + 6))) ≤ (x1.length : Int) then ((heliastlaw13_State.f k ((x1.take ((mn (x1.length : Int) (wrap64 ((mn (x1.length : Int) (wrap64 (1 + (wrap64 (3 * x9))))) + 6))) : Int).toNat).drop ((mn (x1.length : Int) (wrap64 (1 + (wrap64 (3 * x9))))) : Int).toNat) x2).bind fun t140 => ((heliastlaw13_State.f k x0 x2).bind fun t143 => ((heliastref13_Over.f k t143 t140).bind fun t146 => (if x7.length < 5864062014805 then (heliastlaw16_States.l0 k x0 x1 x2 (x7 ++ [t146]) x8 (wrap64 (x9 + 1))) else (none))))) else (none)) else (none)) else (none)) else (some x7)
end
def heliastlaw16_States.f (k : Nat) (l0 : List Int) (l1 : List Int) (a2 : Int) : Option ((List (List (S69)))) := if (l1.length : Int) > 0 then (if 0 < (l1.length : Int) then (heliastlaw16_States.j0 k l0 l1 a2 ([] : List (List (S69))) (wrap64 (Int.tmod (rd l1 0) 5))) else (none)) else (heliastlaw16_States.j0 k l0 l1 a2 ([] : List (List (S69))) 2)
theorem heliastlaw16_States.mono_l : ∀ k, (∀ y0 y1 y2 y3 y4, LeO (heliastlaw16_States.j0 k y0 y1 y2 y3 y4) (heliastlaw16_States.j0 (k + 1) y0 y1 y2 y3 y4)) ∧ (∀ y0 y1 y2 y3 y4 y5, LeO (heliastlaw16_States.l0 k y0 y1 y2 y3 y4 y5) (heliastlaw16_States.l0 (k + 1) y0 y1 y2 y3 y4 y5))
  | 0 => ⟨fun _ _ _ _ _ r h => by simp [heliastlaw16_States.j0] at h, fun _ _ _ _ _ _ r h => by simp [heliastlaw16_States.l0] at h⟩
  | k + 1 => by
    obtain ⟨ih0, ih1⟩ := heliastlaw16_States.mono_l k
    refine ⟨?_, ?_⟩
    · intro y0 y1 y2 y3 y4
      unfold heliastlaw16_States.j0
      repeat' first
      | (with_reducible exact ih0 _ _ _ _ _)
      | (with_reducible exact ih1 _ _ _ _ _ _)
      | (with_reducible exact heliastlaw13_State.mono _ _ _)
      | (with_reducible exact heliastref13_Over.mono _ _ _)
      | (with_reducible exact LeO.refl _)
      | (with_reducible exact LeO.none _)
      | (with_reducible refine LeO.ite ?_ ?_)
      | (with_reducible refine LeO.bind ?_ (fun _ => ?_))
      | exact ih0 _ _ _ _ _
      | exact ih1 _ _ _ _ _ _
      | exact heliastlaw13_State.mono _ _ _
      | exact heliastref13_Over.mono _ _ _
      | exact LeO.none _
      | refine LeO.ite ?_ ?_
      | refine LeO.bind ?_ (fun _ => ?_)
    · intro y0 y1 y2 y3 y4 y5
      unfold heliastlaw16_States.l0
      repeat' first
      | (with_reducible exact ih0 _ _ _ _ _)
      | (with_reducible exact ih1 _ _ _ _ _ _)
      | (with_reducible exact heliastlaw13_State.mono _ _ _)
      | (with_reducible exact heliastref13_Over.mono _ _ _)
      | (with_reducible exact LeO.refl _)
      | (with_reducible exact LeO.none _)
      | (with_reducible refine LeO.ite ?_ ?_)
      | (with_reducible refine LeO.bind ?_ (fun _ => ?_))
      | exact ih0 _ _ _ _ _
      | exact ih1 _ _ _ _ _ _
      | exact heliastlaw13_State.mono _ _ _
      | exact heliastref13_Over.mono _ _ _
      | exact LeO.none _
      | refine LeO.ite ?_ ?_
      | refine LeO.bind ?_ (fun _ => ?_)
theorem heliastlaw16_States.mono : ∀ a0 a1 a2 k, LeO (heliastlaw16_States.f k a0 a1 a2) (heliastlaw16_States.f (k + 1) a0 a1 a2) := by
  intro a0 a1 a2 k
  obtain ⟨ih0, ih1⟩ := heliastlaw16_States.mono_l k
  unfold heliastlaw16_States.f
  repeat' first
      | (with_reducible exact ih0 _ _ _ _ _)
      | (with_reducible exact ih1 _ _ _ _ _ _)
      | (with_reducible exact heliastlaw13_State.mono _ _ _)
      | (with_reducible exact heliastref13_Over.mono _ _ _)
      | (with_reducible exact LeO.refl _)
      | (with_reducible exact LeO.none _)
      | (with_reducible refine LeO.ite ?_ ?_)
      | (with_reducible refine LeO.bind ?_ (fun _ => ?_))
      | exact ih0 _ _ _ _ _
      | exact ih1 _ _ _ _ _ _
      | exact heliastlaw13_State.mono _ _ _
      | exact heliastref13_Over.mono _ _ _
      | exact LeO.none _
      | refine LeO.ite ?_ ?_
      | refine LeO.bind ?_ (fun _ => ?_)
set_option maxHeartbeats 8000000 in
set_option maxRecDepth 100000 in
theorem heliastlaw16_States.calls (k : Nat) (A0 : Option Addr) (c0 : Nat) (l0 : List Int) (A1 : Option Addr) (c1 : Nat) (l1 : List Int) (a2 : Int) (r : List (List (S69))) (w : World) (hr0 : Kd.C (Kd.int .u8) w A0 l0.length l0) (hc0 : l0.length ≤ c0) (hr1 : Kd.C (Kd.int .u8) w A1 l1.length l1) (hc1 : l1.length ≤ c1) (h : heliastlaw16_States.f k l0 l1 a2 = some r) :
    Calls Try.prog 29 #[.slice A0 l0.length c0, .slice A1 l1.length c1, .int .i64 a2] w fun e w' => ∃ v0_ : Value, e = .returned (v0_) ∧ Kd.N (Kd.slice 69 k69) 63 w' w.heap.size (fun k_ => (w.heap.size ≤ k_)) v0_ r ∧ Below w.heap.size w w' := by
  have HR0 := Aside0.mk hr0
  have HC0 := Aside0.mk hc0
  clear hr0 hc0
  have HR1 := Aside0.mk hr1
  have HC1 := Aside0.mk hc1
  clear hr1 hc1
  have HB := Aside0.mk (Below.refl w.heap.size w)
  have H : (if (l1.length : Int) > 0 then (if 0 < (l1.length : Int) then (heliastlaw16_States.j0 k l0 l1 a2 ([] : List (List (S69))) (wrap64 (Int.tmod (rd l1 0) 5))) else (none)) else (heliastlaw16_States.j0 k l0 l1 a2 ([] : List (List (S69))) 2)) = some r := h
  clear h
  have HC4 := Aside0.mk H
  clear H
  go_enter Try.func29, Try.ntmps29
  go_upto_if 14 with (fail)
  go_cut [8] (fun v8 wc => ∃ (kq : Nat) (x8_3 : Int), v8 = .int .i64 x8_3 ∧ Aside0 (heliastlaw16_States.j0 kq l0 l1 a2 ([] : List (List (S69))) x8_3 = some r) ∧ Aside0 (kq ≤ k) ∧ Aside0 (Kd.N (Kd.slice 69 k69) 63 wc w.heap.size (fun k_ => (w.heap.size ≤ k_)) (.slice none 0 0) ([] : List (List (S69)))) ∧ Aside0 (Below w.heap.size w wc))
  case first =>
    have H := HC4.out
    clear HC4
    by_cases c5 : (l1.length : Int) > 0
    · rw [if_pos c5] at H
      have c5b0 : decide (0 < (l1.length : Int)) = true := decide_eq_true c5
      have c5b1 : decide (0 < l1.length) = true := decide_eq_true (by omega)
      clear c5
      (first | rw [c5b0] | (simp only [i64_w, i32_w]; rw [c5b0]) | rw [c5b1] | skip)
      by_cases c6 : 0 < (l1.length : Int)
      · rw [if_pos c6] at H
        have c6b0 : decide (0 < (l1.length : Int)) = true := decide_eq_true c6
        have c6b1 : decide (0 < l1.length) = true := decide_eq_true (by omega)
        clear c6
        have H' := Aside0.mk H
        clear H
        have p138 : 0 ≤ (0 : Int) := (by omega)
        have q138 : 0 < (l1.length : Int) := of_decide_eq_true (by first | (with_reducible assumption) | assumption)
        obtain ⟨ad138, e138, hx138_0⟩ := Kd.at_int HR1.out 0 p138 q138
        cases e138
        have qi138 : (0 < l1.length) = True := eq_true (by omega)
        (try rw [show ((0 : Int)).toNat = 0 from rfl] at hx138_0)
        (try rw [Addr.add_zero'] at hx138_0)
        replace hx138_0 := (HB.out.cell (World.block_lt_of_cell? w _ hx138_0)).trans hx138_0
        replace p138 := eq_true p138
        replace q138 := eq_true q138
        go_wp2
        go_meet
        case rel => exact ⟨_, (wrap64 (Int.tmod (rd l1 0) 5)), (by first | rfl | (simp; done) | (simp [*]; done)), H', ⟨by first | omega | exact Nat.le_refl _⟩, ⟨by first | exact Kd.S_nil _ _ _ _ _ | exact Kd.N_nil _ _ _ _ _ | exact Kd.V_nil _ _ _ _ _ | exact Kd.Q_nil _ _ _ _ _ | exact Kd.R_nil _ _ _ _ _⟩, ⟨by repeat (first | (with_reducible first | exact HB.out | apply below_alloc | apply pw_below_drewN | apply below_drew1) | exact HB.out)⟩⟩
      · rw [if_neg c6] at H
        exact absurd H (by simp)
    · rw [if_neg c5] at H
      have c5b0 : decide (0 < (l1.length : Int)) = false := decide_eq_false c5
      have c5b1 : decide (0 < l1.length) = false := decide_eq_false (by omega)
      clear c5
      (first | rw [c5b0] | (simp only [i64_w, i32_w]; rw [c5b0]) | rw [c5b1] | skip)
      have H' := Aside0.mk H
      clear H
      go_wp2
      go_meet
      case rel => exact ⟨_, (2), (by first | rfl | (simp; done) | (simp [*]; done)), H', ⟨by first | omega | exact Nat.le_refl _⟩, ⟨by first | exact Kd.S_nil _ _ _ _ _ | exact Kd.N_nil _ _ _ _ _ | exact Kd.V_nil _ _ _ _ _ | exact Kd.Q_nil _ _ _ _ _ | exact Kd.R_nil _ _ _ _ _⟩, ⟨by repeat (first | (with_reducible first | exact HB.out | apply below_alloc | apply pw_below_drewN | apply below_drew1) | exact HB.out)⟩⟩
  case rest =>
    clear HC4
    try clear c1
    try clear p1
    try clear q1
    try clear hx1
    try clear qi1
    try clear c2
    try clear p2
    try clear c5
    try clear c5b0
    try clear c5b1
    try clear c6
    try clear c6b0
    try clear c6b1
    try clear p6
    try clear hx138_0
    try clear p138
    try clear q138
    obtain ⟨kq, x8_3, rfl, HA, HJ3, HO_7, HB⟩ := hcut
    cases kq with
    | zero => exact absurd HA.out (by simp [heliastlaw16_States.j0])
    | succ kj3 =>
      have H := HA.out
      clear HA
      simp only [heliastlaw16_States.j0] at H
      have H' := Aside0.mk H
      clear H
      go_wp2
      go_loopg [7, 9] kj3 (fun kq v7 v9 w' => ∃ (x7_2 : List (List (S69))) (x9_2 : Int), v9 = .int .i64 x9_2 ∧ Aside0 (heliastlaw16_States.l0 kq l0 l1 a2 x7_2 x8_3 x9_2 = some r) ∧ Aside0 (kq ≤ kj3) ∧ Aside0 (Kd.N (Kd.slice 69 k69) 63 w' w.heap.size (fun k_ => (w.heap.size ≤ k_)) v7 x7_2) ∧ Aside0 (Below w.heap.size w w'))
      case atStart => exact ⟨(([] : List (List (S69)))), (0), (by first | rfl | (simp; done) | (simp [*]; done)), H', ⟨Nat.le_refl _⟩, ⟨by (with_reducible repeat (first | apply Kd.N_alloc | apply Kd.N_drewN | apply Kd.N_drew)); exact HO_7.out⟩, ⟨by repeat (first | (with_reducible first | exact HB.out | apply below_alloc | apply pw_below_drewN | apply below_drew1) | exact HB.out)⟩⟩
      case round =>
        clear H'
        try clear c1
        try clear p1
        try clear q1
        try clear hx1
        try clear qi1
        try clear c2
        try clear p2
        try clear c5
        try clear c5b0
        try clear c5b1
        try clear c6
        try clear c6b0
        try clear c6b1
        try clear p6
        try clear hx138_0
        try clear p1
        try clear p138
        try clear p2
        try clear p6
        try clear q1
        try clear q138
        obtain ⟨x7_2, x9_2, rfl, HA, HK2, HO_7, HB⟩ := hrel
        cases gk with
        | zero => exact absurd HA.out (by simp [heliastlaw16_States.l0])
        | succ k2 =>
          have H := HA.out
          clear HA
          simp only [heliastlaw16_States.l0] at H
          by_cases c7 : x9_2 < x8_3
          · rw [if_pos c7] at H
            have c7b0 : decide (x9_2 < x8_3) = true := decide_eq_true c7
            clear c7
            obtain ⟨ji8, hji8⟩ : ∃ j_ : Int, (mn (l1.length : Int) (wrap64 (1 + (wrap64 (3 * x9_2))))) = j_ := ⟨_, rfl⟩
            replace H : (if 0 ≤ (ji8) then (if (ji8) ≤ (mn (l1.length : Int) (wrap64 ((ji8) + 6))) then (if (mn (l1.length : Int) (wrap64 ((ji8) + 6))) ≤ (l1.length : Int) then ((heliastlaw13_State.f k2 ((l1.take ((mn (l1.length : Int) (wrap64 ((ji8) + 6))) : Int).toNat).drop ((ji8) : Int).toNat) a2).bind fun t140 => ((heliastlaw13_State.f k2 l0 a2).bind fun t143 => ((heliastref13_Over.f k2 t143 t140).bind fun t146 => (if x7_2.length < 5864062014805 then (heliastlaw16_States.l0 k2 l0 l1 a2 (x7_2 ++ [t146]) x8_3 (wrap64 (x9_2 + 1))) else (none))))) else (none)) else (none)) else (none)) = some r := by first | (rw [hji8] at H; exact H) | (simp only [hji8] at H ⊢; exact H)
            have hji8_ : (if (wrap64 (1 + (wrap64 (3 * x9_2)))) < (l1.length : Int) then (wrap64 (1 + (wrap64 (3 * x9_2)))) else (l1.length : Int)) = ji8 := hji8
            obtain ⟨ji9, hji9⟩ : ∃ j_ : Int, (mn (l1.length : Int) (wrap64 ((ji8) + 6))) = j_ := ⟨_, rfl⟩
            replace H : (if 0 ≤ (ji8) then (if (ji8) ≤ (ji9) then (if (ji9) ≤ (l1.length : Int) then ((heliastlaw13_State.f k2 ((l1.take ((ji9) : Int).toNat).drop ((ji8) : Int).toNat) a2).bind fun t140 => ((heliastlaw13_State.f k2 l0 a2).bind fun t143 => ((heliastref13_Over.f k2 t143 t140).bind fun t146 => (if x7_2.length < 5864062014805 then (heliastlaw16_States.l0 k2 l0 l1 a2 (x7_2 ++ [t146]) x8_3 (wrap64 (x9_2 + 1))) else (none))))) else (none)) else (none)) else (none)) = some r := by first | (rw [hji9] at H; exact H) | (simp only [hji9] at H ⊢; exact H)
            have hji9_ : (if (wrap64 ((ji8) + 6)) < (l1.length : Int) then (wrap64 ((ji8) + 6)) else (l1.length : Int)) = ji9 := hji9
            by_cases c10 : 0 ≤ (ji8)
            · rw [if_pos c10] at H
              have c10b0 := eq_true c10
              have c10b1 : decide (0 ≤ (ji8)) = true := decide_eq_true c10
              clear c10
              by_cases c11 : (ji8) ≤ (ji9)
              · rw [if_pos c11] at H
                have c11b0 := eq_true c11
                have c11b1 : decide ((ji8) ≤ (ji9)) = true := decide_eq_true c11
                clear c11
                by_cases c12 : (ji9) ≤ (l1.length : Int)
                · rw [if_pos c12] at H
                  have c12b0 := eq_true c12
                  have c12b1 : decide ((ji9) ≤ (l1.length : Int)) = true := decide_eq_true c12
                  clear c12
                  replace H := Option.bind_eq_some_iff.mp H
                  obtain ⟨t140, A130, H⟩ := H
                  replace H : ((heliastlaw13_State.f k2 l0 a2).bind fun t143 => ((heliastref13_Over.f k2 t143 t140).bind fun t146 => (if x7_2.length < 5864062014805 then (heliastlaw16_States.l0 k2 l0 l1 a2 (x7_2 ++ [t146]) x8_3 (wrap64 (x9_2 + 1))) else (none)))) = some r := H
                  have A13 := Aside0.mk A130
                  clear A130
                  replace H := Option.bind_eq_some_iff.mp H
                  obtain ⟨t143, A140, H⟩ := H
                  replace H : ((heliastref13_Over.f k2 t143 t140).bind fun t146 => (if x7_2.length < 5864062014805 then (heliastlaw16_States.l0 k2 l0 l1 a2 (x7_2 ++ [t146]) x8_3 (wrap64 (x9_2 + 1))) else (none))) = some r := H
                  have A14 := Aside0.mk A140
                  clear A140
                  replace H := Option.bind_eq_some_iff.mp H
                  obtain ⟨t146, A150, H⟩ := H
                  replace H : (if x7_2.length < 5864062014805 then (heliastlaw16_States.l0 k2 l0 l1 a2 (x7_2 ++ [t146]) x8_3 (wrap64 (x9_2 + 1))) else (none)) = some r := H
                  have A15 := Aside0.mk A150
                  clear A150
                  by_cases c16 : x7_2.length < 5864062014805
                  · rw [if_pos c16] at H
                    have LMc16 := Aside0.mk c16
                    clear c16
                    obtain ⟨y149, hy149⟩ : ∃ y_ : List (List (S69)), y_ = (x7_2 ++ [t146]) := ⟨_, rfl⟩
                    replace H : (heliastlaw16_States.l0 k2 l0 l1 a2 y149 x8_3 (wrap64 (x9_2 + 1))) = some r := by first | (rw [hy149]; with_reducible exact H) | (have H2_ := (Option.bind_some _ _).symm.trans H; rw [hy149]; with_reducible exact H2_) | (have H2_ := (Option.bind_some _ _).symm.trans H; with_reducible exact H2_) | with_reducible exact H | (rw [hy149]; exact H) | exact H
                    have Ny149 := Aside0.mk hy149
                    clear hy149
                    have H' := Aside0.mk H
                    clear H
                    obtain ⟨i017, hi017, _, hsz17, _⟩ := info_parts info5
                    obtain ⟨A17, hcut17, hA17, hC17⟩ := print_mid_of (P := Try.prog) (Value.int .u8) 0 35 5 .i64 .i64 Try.underlying35 hi017 hsz17 A1 c1 l1 (ji8) (ji9) (of_decide_eq_true (by first | (with_reducible assumption) | assumption)) (by first | omega | exact of_decide_eq_true (by first | (with_reducible assumption) | assumption)) (of_decide_eq_true (by first | (with_reducible assumption) | assumption)) HC1.out
                    have HR139 := Aside0.mk (Kd.C_of_reads (h1 := fun _ => rfl) (hA17 _ (Kd.reads_of_C HR1.out)))
                    have HC139 := Aside0.mk hC17
                    clear hA17 hC17 hi017 hsz17
                    go_wp2_with (first | ((with_reducible refine gate_callee (f := 48) rfl ?_); refine goesL_ (some 40) rfl rfl Try.func48 (by kernel_rfl) rfl #[.slice A17 ((l1.take ((ji9) : Int).toNat).drop ((ji8) : Int).toNat).length (c1 - (ji8).toNat), .int .i64 a2] rfl (by (try simp only [List.map_toArray, List.map_cons, List.map_nil]); first | done | (rw [show ((l1.take ((ji9) : Int).toNat).drop ((ji8) : Int).toNat).length = ((ji9).toNat - (ji8).toNat) from (by rw [List.length_drop, List.length_take]; have h_ : ((ji9) : Int) ≤ (l1.length : Int) := of_decide_eq_true (by first | (with_reducible assumption) | assumption); omega)] <;> rfl) | (simp only [hji8, hji9]; rfl) | rfl | (simp only [List.length_drop, List.length_take]; rfl)) ?_; (with_reducible refine (heliastlaw13_State.calls k2 _ _ ((l1.take ((ji9) : Int).toNat).drop ((ji8) : Int).toNat) a2 t140 _ ?side1 ?side2 A13.out).mono ?_); (case side1 => repeat (first | exact (Kd.C_below HR139.out HB.out) | (with_reducible refine Kd.C_alloc ?_ _) | (with_reducible refine Kd.C_drewN ?_ _) | (with_reducible refine Kd.C_drew ?_))); (case side2 => exact HC139.out); rintro e w18 ⟨v141, rfl, ho0, hb⟩; refine ⟨_, rfl, ?_⟩; have n0_ := Aside0.mk (Kd.N_elder' (by (with_reducible repeat (first | apply Kd.N_alloc | apply Kd.N_drewN | apply Kd.N_drew)); exact HO_7.out) (Kd.R_base ho0) hb); have n1_ := Aside0.mk (Kd.R_lower (Kd.R_newM (M := fun k_ => (w.heap.size ≤ k_)) ho0 (below_size (by repeat (first | (with_reducible first | exact HB.out | apply below_alloc | apply pw_below_drewN | apply below_drew1) | exact HB.out))) (fun k_ h_ => h_)) (below_size (by repeat (first | (with_reducible first | exact HB.out | apply below_alloc | apply pw_below_drewN | apply below_drew1) | exact HB.out)))); have n2_ := Aside0.mk (below_step (by repeat (first | (with_reducible first | exact HB.out | apply below_alloc | apply pw_below_drewN | apply below_drew1) | exact HB.out)) hb); clear HO_7; clear HB; have HO_7 := n0_; have HO142 := n1_; have HB := n2_; clear n0_ n1_ n2_; (try clear hb); (try clear hb2); (try clear hk); (try clear hi); (try clear ho0)) | ((with_reducible refine gate_callee (f := 48) rfl ?_); refine goesL_ (some 44) rfl rfl Try.func48 (by kernel_rfl) rfl #[.slice A0 l0.length c0, .int .i64 a2] rfl (by (try simp only [List.map_toArray, List.map_cons, List.map_nil]); first | done | rfl | (simp only [List.length_drop, List.length_take]; rfl)) ?_; (with_reducible refine (heliastlaw13_State.calls k2 _ _ l0 a2 t143 _ ?side1 ?side2 A14.out).mono ?_); (case side1 => repeat (first | exact (Kd.C_below HR0.out HB.out) | (with_reducible refine Kd.C_alloc ?_ _) | (with_reducible refine Kd.C_drewN ?_ _) | (with_reducible refine Kd.C_drew ?_))); (case side2 => exact HC0.out); rintro e w19 ⟨v144, rfl, ho0, hb⟩; refine ⟨_, rfl, ?_⟩; have n0_ := Aside0.mk (Kd.N_elder' (by (with_reducible repeat (first | apply Kd.N_alloc | apply Kd.N_drewN | apply Kd.N_drew)); exact HO_7.out) (Kd.R_base ho0) hb); have n1_ := Aside0.mk (Kd.R_elder' (by (with_reducible repeat (first | apply Kd.R_alloc | apply Kd.R_drewN | apply Kd.R_drew)); exact HO142.out) (Kd.R_base ho0) hb); have n2_ := Aside0.mk (Kd.R_lower (Kd.R_new' (Kd.R_newM (M := fun k_ => (w.heap.size ≤ k_)) ho0 (below_size (by repeat (first | (with_reducible first | exact HB.out | apply below_alloc | apply pw_below_drewN | apply below_drew1) | exact HB.out))) (fun k_ h_ => h_)) (Kd.R_lt (by (with_reducible repeat (first | apply Kd.R_alloc | apply Kd.R_drewN | apply Kd.R_drew)); exact HO142.out))) (below_size (by repeat (first | (with_reducible first | exact HB.out | apply below_alloc | apply pw_below_drewN | apply below_drew1) | exact HB.out)))); have n3_ := Aside0.mk (below_step (by repeat (first | (with_reducible first | exact HB.out | apply below_alloc | apply pw_below_drewN | apply below_drew1) | exact HB.out)) hb); clear HO_7; clear HO142; clear HB; have HO_7 := n0_; have HO142 := n1_; have HO145 := n2_; have HB := n3_; clear n0_ n1_ n2_ n3_; (try clear hb); (try clear hb2); (try clear hk); (try clear hi); (try clear ho0); obtain ⟨Ao20, co20, eo20⟩ := Kd.R_slice HO145.out; subst eo20; obtain ⟨Ao21, co21, eo21⟩ := Kd.R_slice HO142.out; subst eo21) | ((with_reducible refine gate_callee (f := 70) rfl ?_); refine goesL_ (some 46) rfl rfl Try.func70 (by kernel_rfl) rfl #[.slice Ao20 t143.length co20, .slice Ao21 t140.length co21] rfl (by (try simp only [List.map_toArray, List.map_cons, List.map_nil]); first | done | rfl | (simp only [List.length_drop, List.length_take]; rfl)) ?_; (with_reducible refine (heliastref13_Over.calls k2 (fun k_ => some k_ = (.slice Ao20 t143.length co20 : Value).ownBlock) _ _ t143 _ _ t140 t146 _ ?side1 ?side2 ?side3 A15.out).mono ?_); (case side1 => exact Kd.R_V (Kd.R_tight rfl (Kd.R_apart' (HO145.out) (Kd.N_typed HO_7.out) (by decide)))); (case side2 => repeat (first | exact (Kd.R_reads' HO142.out).2.2 | (with_reducible refine Kd.C_alloc ?_ _) | (with_reducible refine Kd.C_drewN ?_ _) | (with_reducible refine Kd.C_drew ?_))); (case side3 => exact (Kd.R_reads' HO142.out).2.1); rintro e w22 ⟨v147, rfl, ho0, hb⟩; refine ⟨_, rfl, ?_⟩; have n0_ := Aside0.mk (Kd.N_below (by (with_reducible repeat (first | apply Kd.N_alloc | apply Kd.N_drewN | apply Kd.N_drew)); exact HO_7.out) hb); have n1_ := Aside0.mk (Kd.R_below (by (with_reducible repeat (first | apply Kd.R_alloc | apply Kd.R_drewN | apply Kd.R_drew)); exact HO142.out) hb); have n2_ := Aside0.mk (Kd.R_below (by (with_reducible repeat (first | apply Kd.R_alloc | apply Kd.R_drewN | apply Kd.R_drew)); exact HO145.out) hb); have n3_ := Aside0.mk (Kd.V_lower (Kd.V_mono (ok' := fun k_ => (w.heap.size ≤ k_) ∧ some k_ ≠ (u7 : Value).ownBlock ∧ some k_ ≠ (.slice Ao21 t140.length co21 : Value).ownBlock) ho0 (fun k_ hk_ => ⟨Or.elim hk_ (fun hs_ => ((Kd.R_apart' (HO145.out) (Kd.N_typed HO_7.out) (by decide)).1 k_ hs_.symm).1.1.1) (fun hn_ => (Nat.le_trans (below_size (by repeat (first | (with_reducible first | exact HB.out | apply below_alloc | apply pw_below_drewN | apply below_drew1) | exact HB.out))) hn_)), Or.elim hk_ (fun hs_ => ((Kd.R_apart' (HO145.out) (Kd.N_typed HO_7.out) (by decide)).1 k_ hs_.symm).2) (fun hn_ => (Kd.fresh' (Kd.N_lt (by (with_reducible repeat (first | apply Kd.N_alloc | apply Kd.N_drewN | apply Kd.N_drew)); exact HO_7.out)) k_ hn_)), Or.elim hk_ (fun hs_ => ((Kd.R_apart' (HO145.out) (Kd.N_typed HO_7.out) (by decide)).1 k_ hs_.symm).1.2) (fun hn_ => (Kd.fresh' (Kd.R_lt (by (with_reducible repeat (first | apply Kd.R_alloc | apply Kd.R_drewN | apply Kd.R_drew)); exact HO142.out)) k_ hn_))⟩)) (below_size (by repeat (first | (with_reducible first | exact HB.out | apply below_alloc | apply pw_below_drewN | apply below_drew1) | exact HB.out)))); have n4_ := Aside0.mk (below_step (by repeat (first | (with_reducible first | exact HB.out | apply below_alloc | apply pw_below_drewN | apply below_drew1) | exact HB.out)) hb); clear HO_7; clear HO142; clear HO145; clear HB; have HO_7 := n0_; have HO142 := n1_; have HO145 := n2_; have HO148 := n3_; have HB := n4_; clear n0_ n1_ n2_ n3_ n4_; (try clear hb); (try clear hb2); (try clear hk); (try clear hi); (try clear ho0); obtain ⟨Ao24, co24, eo24⟩ := Kd.V_slice HO148.out; subst eo24) | ((with_reducible refine gate_builtin (b := .append) (xs := #[.tmp 41, .tmp 47]) rfl ?_); at_builtin; refine Kd.N_append (Kd.slice 69 k69) (w0 := w) w.heap.size rfl (.tmp 41) (.tmp 47) 61 63 (.slice none 0 0) 24 rfl Try.underlying61 info63 rfl (by decide) (by omega) u7 x7_2 t146 [.slice Ao24 t146.length co24] (fun k_ => (w.heap.size ≤ k_) ∧ some k_ ≠ (.slice Ao21 t140.length co21 : Value).ownBlock) (fun k_ => ((fun k_ => (w.heap.size ≤ k_) ∧ some k_ ≠ (.slice Ao21 t140.length co21 : Value).ownBlock)) k_ ∧ some k_ ≠ (u7 : Value).ownBlock) rfl rfl ?aP (fun _ hk => hk) ?aF ?aO ?aB ?aS ?aL ?_; (case aP => exact (Kd.FK_slice_mk (Kd.V_reads' (Kd.V_mono (ok' := (fun k_ => ((fun k_ => (w.heap.size ≤ k_) ∧ some k_ ≠ (.slice Ao21 t140.length co21 : Value).ownBlock)) k_ ∧ some k_ ≠ (u7 : Value).ownBlock)) (HO148.out) (fun k_ hk => ⟨⟨hk.1, hk.2.2⟩, hk.2.1⟩))).2.1 (Kd.V_F (Kd.V_mono (ok' := (fun k_ => ((fun k_ => (w.heap.size ≤ k_) ∧ some k_ ≠ (.slice Ao21 t140.length co21 : Value).ownBlock)) k_ ∧ some k_ ≠ (u7 : Value).ownBlock)) (HO148.out) (fun k_ hk => ⟨⟨hk.1, hk.2.2⟩, hk.2.1⟩))))); (case aB => exact (by repeat (first | (with_reducible first | exact HB.out | apply below_alloc | apply pw_below_drewN | apply below_drew1) | exact HB.out))); (case aF => exact (fun k_ hk => ⟨(Nat.le_trans (below_size (by repeat (first | (with_reducible first | exact HB.out | apply below_alloc | apply pw_below_drewN | apply below_drew1) | exact HB.out))) hk), Kd.fresh' (Kd.R_lt (by (with_reducible repeat (first | apply Kd.R_alloc | apply Kd.R_drewN | apply Kd.R_drew)); exact HO142.out)) k_ hk⟩)); (case aO => exact (by (with_reducible repeat (first | apply Kd.N_alloc | apply Kd.N_drewN | apply Kd.N_drew)); exact Kd.N_mono HO_7.out (fun _ hk => ⟨hk.1.1, hk.1.2⟩))); (case aS => exact (below_size (by repeat (first | (with_reducible first | exact HB.out | apply below_alloc | apply pw_below_drewN | apply below_drew1) | exact HB.out)))); (case aL => have := LMc16.out; omega); intro v150 w23 ho hb hg hat; rw [← Ny149.out] at ho; have n0_ := Aside0.mk (Kd.R_over' (by (with_reducible repeat (first | apply Kd.R_alloc | apply Kd.R_drewN | apply Kd.R_drew)); exact HO142.out) (Kd.N_typed (by (with_reducible repeat (first | apply Kd.N_alloc | apply Kd.N_drewN | apply Kd.N_drew)); exact HO_7.out)) (by decide) hg); have n1_ := Aside0.mk (Kd.R_over' (by (with_reducible repeat (first | apply Kd.R_alloc | apply Kd.R_drewN | apply Kd.R_drew)); exact HO145.out) (Kd.N_typed (by (with_reducible repeat (first | apply Kd.N_alloc | apply Kd.N_drewN | apply Kd.N_drew)); exact HO_7.out)) (by decide) hg); have n2_ := Aside0.mk (Kd.V_afterv (ok := (fun k_ => (w.heap.size ≤ k_) ∧ some k_ ≠ (.slice Ao21 t140.length co21 : Value).ownBlock)) (by (with_reducible repeat (first | apply Kd.V_alloc | apply Kd.V_drewN | apply Kd.V_drew)); exact Kd.V_mono HO148.out (fun _ hk => ⟨⟨hk.1, hk.2.2⟩, hk.2.1⟩)) hg hat); have n3_ := Aside0.mk (hb); have n4_ := Aside0.mk (ho); clear HO142; clear HO145; clear HO148; clear HB; clear HO_7; have HO142 := n0_; have HO145 := n1_; have HO148 := n2_; have HB := n3_; have HO151 := n4_; clear n0_ n1_ n2_ n3_ n4_; clear ho hb hg hat))
                    go_roundg k2
                    case measure => have := HJ3.out; have := HK2.out; omega
                    case rel => exact ⟨(y149), (wrap64 (x9_2 + 1)), (by first | rfl | (simp; done) | (simp [*]; done)), H', ⟨by have := HJ3.out; have := HK2.out; omega⟩, ⟨by (with_reducible repeat (first | apply Kd.N_alloc | apply Kd.N_drewN | apply Kd.N_drew)); exact Kd.N_mono HO151.out (fun _ hk => hk.1)⟩, ⟨by repeat (first | (with_reducible first | exact HB.out | apply below_alloc | apply pw_below_drewN | apply below_drew1) | exact HB.out)⟩⟩
                  · rw [if_neg c16] at H
                    exact absurd H (by simp)
                · rw [if_neg c12] at H
                  exact absurd H (by simp)
              · rw [if_neg c11] at H
                exact absurd H (by simp)
            · rw [if_neg c10] at H
              exact absurd H (by simp)
          · rw [if_neg c7] at H
            have c7b0 : decide (x9_2 < x8_3) = false := decide_eq_false c7
            clear c7
            obtain rfl := Option.some.inj H
            go_wp2
            go_ret
            exact ⟨_, by first | rfl | (simp [errW_none, errW_some] <;> rfl) | (simp [*, errW_none, errW_some] <;> rfl), by (with_reducible repeat (first | apply Kd.N_alloc | apply Kd.N_drewN | apply Kd.N_drew)); exact HO_7.out, by repeat (first | (with_reducible first | exact HB.out | apply below_alloc | apply pw_below_drewN | apply below_drew1) | exact HB.out)⟩

end Go.Proofs.Ytmmalieacakcbaa.S

-- Written by heprint.py (this session's, over the kit's print.py): not trusted, Lean checks it.
import Derived.Test.YtmmalieacakcbaaHb0
import Derived.Test.YtmmalieacakcbaaHb1
import Derived.Test.YtmmalieacakcbaaHb2
import Derived.Test.YtmmalieacakcbaaHb3
import Derived.Test.YtmmalieacakcbaaHb4
import Derived.Test.YtmmalieacakcbaaHb5
import Derived.Test.YtmmalieacakcbaaHb7
import Derived.Test.YtmmalieacakcbaaHb9
namespace Go.Proofs.Ytmmalieacakcbaa.S
open Go.RowKit Go.Proofs.YtmmalieacakcbaaW.PrintWords Go.Proofs.YtmmalieacakcbaaW.PrintLast Go.Proofs.YtmmalieacakcbaaW.PrintMore
attribute [local go_sem] max2_int min2_int max_two min_two max_three min_three max_four min_four   -- for this text's walks alone
set_option linter.unusedVariables false
set_option linter.unusedSimpArgs false

/-! ### heliastlaw12_GraphAsks: function 14 -/
def heliastlaw12_GraphAsks.j0 : Nat → List (List Int) → List Int → List Int → Int → List Int → List Int → Int → Bool → Option (Bool)
  | 0, _, _, _, _, _, _, _, _ => none
  | k + 1, x0, x1, x2, x3, x4, x5, x6, x29 => if x29 = true then ((heliastlaw12_known.f k).bind fun t280 => (some t280)) else ((heliastlaw12_Graph.f k x4).bind fun t281 => ((graph_Right.f k x0).bind fun t284 => ((heliastref12_Right.f k x0).bind fun t285 => (if (t284 == t285) = true then ((graph_Right.f k t281).bind fun t286 => (if t286 = true then ((heliastlaw12_asks.f k t281 x1 x2 x3).bind fun t287 => (if t287 = true then ((heliastlaw12_Some.f k x5).bind fun t288 => ((heliastlaw12_Some.f k x4).bind fun t291 => ((heliastlaw12_asks.f k t281 t288 t291 (wrap64 (Int.tmod x6 26))).bind fun t294 => (if t294 = true then ((heliastref12_Right.f k x0).bind fun t295 => (if t295 = true then ((heliastlaw12_asks.f k x0 x1 x2 x3).bind fun t296 => (some t296)) else (some true))) else (some false))))) else (some false))) else (some false))) else (some false)))))
def heliastlaw12_GraphAsks.f (k : Nat) (l0 : List (List Int)) (l1 : List Int) (l2 : List Int) (a3 : Int) (l4 : List Int) (l5 : List Int) (a6 : Int) : Option (Bool) := (heliastlaw12_heavy.f k l0).bind fun t278 => (if t278 = true then (heliastlaw12_GraphAsks.j0 k l0 l1 l2 a3 l4 l5 a6 true) else (if (wrap64 ((l1.length : Int) + (l2.length : Int))) > 200 then (heliastlaw12_GraphAsks.j0 k l0 l1 l2 a3 l4 l5 a6 true) else ((heliastlaw12_known.f k).bind fun t279 => (heliastlaw12_GraphAsks.j0 k l0 l1 l2 a3 l4 l5 a6 (!t279)))))
theorem heliastlaw12_GraphAsks.mono_l : ∀ k, (∀ y0 y1 y2 y3 y4 y5 y6 y7, LeO (heliastlaw12_GraphAsks.j0 k y0 y1 y2 y3 y4 y5 y6 y7) (heliastlaw12_GraphAsks.j0 (k + 1) y0 y1 y2 y3 y4 y5 y6 y7))
  | 0 => fun _ _ _ _ _ _ _ _ r h => by simp [heliastlaw12_GraphAsks.j0] at h
  | k + 1 => by
    have ih0 := heliastlaw12_GraphAsks.mono_l k
    · intro y0 y1 y2 y3 y4 y5 y6 y7
      unfold heliastlaw12_GraphAsks.j0
      repeat' first
      | (with_reducible exact ih0 _ _ _ _ _ _ _ _)
      | (with_reducible exact graph_Right.mono _ _)
      | (with_reducible exact heliastlaw12_Graph.mono _ _)
      | (with_reducible exact heliastlaw12_Some.mono _ _)
      | (with_reducible exact heliastlaw12_asks.mono _ _ _ _ _)
      | (with_reducible exact heliastlaw12_heavy.mono _ _)
      | (with_reducible exact heliastlaw12_known.mono _)
      | (with_reducible exact heliastref12_Right.mono _ _)
      | (with_reducible exact LeO.refl _)
      | (with_reducible exact LeO.none _)
      | (with_reducible refine LeO.ite ?_ ?_)
      | (with_reducible refine LeO.bind ?_ (fun _ => ?_))
      | exact ih0 _ _ _ _ _ _ _ _
      | exact graph_Right.mono _ _
      | exact heliastlaw12_Graph.mono _ _
      | exact heliastlaw12_Some.mono _ _
      | exact heliastlaw12_asks.mono _ _ _ _ _
      | exact heliastlaw12_heavy.mono _ _
      | exact heliastlaw12_known.mono _
      | exact heliastref12_Right.mono _ _
      | exact LeO.none _
      | refine LeO.ite ?_ ?_
      | refine LeO.bind ?_ (fun _ => ?_)
theorem heliastlaw12_GraphAsks.mono : ∀ a0 a1 a2 a3 a4 a5 a6 k, LeO (heliastlaw12_GraphAsks.f k a0 a1 a2 a3 a4 a5 a6) (heliastlaw12_GraphAsks.f (k + 1) a0 a1 a2 a3 a4 a5 a6) := by
  intro a0 a1 a2 a3 a4 a5 a6 k
  have ih0 := heliastlaw12_GraphAsks.mono_l k
  unfold heliastlaw12_GraphAsks.f
  repeat' first
      | (with_reducible exact ih0 _ _ _ _ _ _ _ _)
      | (with_reducible exact graph_Right.mono _ _)
      | (with_reducible exact heliastlaw12_Graph.mono _ _)
      | (with_reducible exact heliastlaw12_Some.mono _ _)
      | (with_reducible exact heliastlaw12_asks.mono _ _ _ _ _)
      | (with_reducible exact heliastlaw12_heavy.mono _ _)
      | (with_reducible exact heliastlaw12_known.mono _)
      | (with_reducible exact heliastref12_Right.mono _ _)
      | (with_reducible exact LeO.refl _)
      | (with_reducible exact LeO.none _)
      | (with_reducible refine LeO.ite ?_ ?_)
      | (with_reducible refine LeO.bind ?_ (fun _ => ?_))
      | exact ih0 _ _ _ _ _ _ _ _
      | exact graph_Right.mono _ _
      | exact heliastlaw12_Graph.mono _ _
      | exact heliastlaw12_Some.mono _ _
      | exact heliastlaw12_asks.mono _ _ _ _ _
      | exact heliastlaw12_heavy.mono _ _
      | exact heliastlaw12_known.mono _
      | exact heliastref12_Right.mono _ _
      | exact LeO.none _
      | refine LeO.ite ?_ ?_
      | refine LeO.bind ?_ (fun _ => ?_)
set_option maxHeartbeats 8000000 in
set_option maxRecDepth 100000 in
theorem heliastlaw12_GraphAsks.calls (k : Nat) (A0 : Option Addr) (c0 : Nat) (l0 : List (List Int)) (A1 : Option Addr) (c1 : Nat) (l1 : List Int) (A2 : Option Addr) (c2 : Nat) (l2 : List Int) (a3 : Int) (A4 : Option Addr) (c4 : Nat) (l4 : List Int) (A5 : Option Addr) (c5 : Nat) (l5 : List Int) (a6 : Int) (r : Bool) (w : World) (hr0 : Kd.C (Kd.slice 3 (Kd.int .i64)) w A0 l0.length l0) (hc0 : l0.length ≤ c0) (hr1 : Kd.C (Kd.int .i64) w A1 l1.length l1) (hc1 : l1.length ≤ c1) (hr2 : Kd.C (Kd.int .i64) w A2 l2.length l2) (hc2 : l2.length ≤ c2) (hr4 : Kd.C (Kd.int .u8) w A4 l4.length l4) (hc4 : l4.length ≤ c4) (hr5 : Kd.C (Kd.int .u8) w A5 l5.length l5) (hc5 : l5.length ≤ c5) (h : heliastlaw12_GraphAsks.f k l0 l1 l2 a3 l4 l5 a6 = some r) (hlaw : r = true) :
    Calls Try.prog 14 #[.slice A0 l0.length c0, .slice A1 l1.length c1, .slice A2 l2.length c2, .int .i64 a3, .slice A4 l4.length c4, .slice A5 l5.length c5, .int .u8 a6] w fun e w' => e = .returned (.bool r) ∧ Below w.heap.size w w' := by
  have HLAW := Aside0.mk hlaw
  clear hlaw
  have HR0 := Aside0.mk hr0
  have HC0 := Aside0.mk hc0
  clear hr0 hc0
  have HR1 := Aside0.mk hr1
  have HC1 := Aside0.mk hc1
  clear hr1 hc1
  have HR2 := Aside0.mk hr2
  have HC2 := Aside0.mk hc2
  clear hr2 hc2
  have HR4 := Aside0.mk hr4
  have HC4 := Aside0.mk hc4
  clear hr4 hc4
  have HR5 := Aside0.mk hr5
  have HC5 := Aside0.mk hc5
  clear hr5 hc5
  have HB := Aside0.mk (Below.refl w.heap.size w)
  have H : ((heliastlaw12_heavy.f k l0).bind fun t278 => (if t278 = true then (heliastlaw12_GraphAsks.j0 k l0 l1 l2 a3 l4 l5 a6 true) else (if (wrap64 ((l1.length : Int) + (l2.length : Int))) > 200 then (heliastlaw12_GraphAsks.j0 k l0 l1 l2 a3 l4 l5 a6 true) else ((heliastlaw12_known.f k).bind fun t279 => (heliastlaw12_GraphAsks.j0 k l0 l1 l2 a3 l4 l5 a6 (!t279)))))) = some r := h
  clear h
  have HC8 := Aside0.mk H
  clear H
  go_enter Try.func14, Try.ntmps14
  go_upto_region 1 with (fail)
  go_cut [29] (fun v29 wc => ∃ (kq : Nat) (x29_7 : Bool), v29 = .bool x29_7 ∧ Aside0 (heliastlaw12_GraphAsks.j0 kq l0 l1 l2 a3 l4 l5 a6 x29_7 = some r) ∧ Aside0 (kq ≤ k) ∧ Aside0 (Below w.heap.size w wc))
  case first =>
    have H := HC8.out
    clear HC8
    replace H := Option.bind_eq_some_iff.mp H
    obtain ⟨t278, A90, H⟩ := H
    replace H : (if t278 = true then (heliastlaw12_GraphAsks.j0 k l0 l1 l2 a3 l4 l5 a6 true) else (if (wrap64 ((l1.length : Int) + (l2.length : Int))) > 200 then (heliastlaw12_GraphAsks.j0 k l0 l1 l2 a3 l4 l5 a6 true) else ((heliastlaw12_known.f k).bind fun t279 => (heliastlaw12_GraphAsks.j0 k l0 l1 l2 a3 l4 l5 a6 (!t279))))) = some r := H
    have A9 := Aside0.mk A90
    clear A90
    by_cases c10 : t278 = true
    · subst c10
      have H1 : (heliastlaw12_GraphAsks.j0 k l0 l1 l2 a3 l4 l5 a6 true) = some r := by rw [if_pos rfl] at H; exact H
      clear H
      have H := H1
      clear H1
      have H' := Aside0.mk H
      clear H
      go_wp2_with (first | ((with_reducible refine gate_callee (f := 51) rfl ?_); refine goesL_ (some 17) rfl rfl Try.func51 (by kernel_rfl) rfl #[.slice A0 l0.length c0] rfl (by (try simp only [List.map_toArray, List.map_cons, List.map_nil]); first | done | rfl | (simp only [List.length_drop, List.length_take]; rfl)) ?_; (with_reducible refine (heliastlaw12_heavy.calls k _ _ l0 true _ ?side1 ?side2 A9.out).mono ?_); (case side1 => repeat (first | exact (Kd.C_below HR0.out HB.out) | (with_reducible refine Kd.C_alloc ?_ _) | (with_reducible refine Kd.C_drewN ?_ _) | (with_reducible refine Kd.C_drew ?_))); (case side2 => exact HC0.out); rintro e w' ⟨rfl, ⟨nd, rfl⟩⟩; refine ⟨_, rfl, ?_⟩))
      go_meet
      case rel => exact ⟨_, (true), (by first | rfl | (simp; done) | (simp [*]; done)), H', ⟨by first | omega | exact Nat.le_refl _⟩, ⟨by repeat (first | (with_reducible first | exact HB.out | apply below_alloc | apply pw_below_drewN | apply below_drew1) | exact HB.out)⟩⟩
    · replace c10 := Bool.eq_false_iff.mpr c10
      subst c10
      have H1 : (if (wrap64 ((l1.length : Int) + (l2.length : Int))) > 200 then (heliastlaw12_GraphAsks.j0 k l0 l1 l2 a3 l4 l5 a6 true) else ((heliastlaw12_known.f k).bind fun t279 => (heliastlaw12_GraphAsks.j0 k l0 l1 l2 a3 l4 l5 a6 (!t279)))) = some r := by rw [if_neg (show ¬ (false = true) by decide)] at H; exact H
      clear H
      have H := H1
      clear H1
      by_cases c11 : (wrap64 ((l1.length : Int) + (l2.length : Int))) > 200
      · rw [if_pos c11] at H
        have c11b0 : decide (200 < (wrap64 ((l1.length : Int) + (l2.length : Int)))) = true := decide_eq_true c11
        clear c11
        (first | rw [c11b0] | (simp only [i64_w, i32_w]; rw [c11b0]) | skip)
        have H' := Aside0.mk H
        clear H
        go_wp2_with (first | ((with_reducible refine gate_callee (f := 51) rfl ?_); refine goesL_ (some 17) rfl rfl Try.func51 (by kernel_rfl) rfl #[.slice A0 l0.length c0] rfl (by (try simp only [List.map_toArray, List.map_cons, List.map_nil]); first | done | rfl | (simp only [List.length_drop, List.length_take]; rfl)) ?_; (with_reducible refine (heliastlaw12_heavy.calls k _ _ l0 false _ ?side1 ?side2 A9.out).mono ?_); (case side1 => repeat (first | exact (Kd.C_below HR0.out HB.out) | (with_reducible refine Kd.C_alloc ?_ _) | (with_reducible refine Kd.C_drewN ?_ _) | (with_reducible refine Kd.C_drew ?_))); (case side2 => exact HC0.out); rintro e w' ⟨rfl, ⟨nd, rfl⟩⟩; refine ⟨_, rfl, ?_⟩))
        go_meet
        case rel => exact ⟨_, (true), (by first | rfl | (simp; done) | (simp [*]; done)), H', ⟨by first | omega | exact Nat.le_refl _⟩, ⟨by repeat (first | (with_reducible first | exact HB.out | apply below_alloc | apply pw_below_drewN | apply below_drew1) | exact HB.out)⟩⟩
      · rw [if_neg c11] at H
        have c11b0 : decide (200 < (wrap64 ((l1.length : Int) + (l2.length : Int)))) = false := decide_eq_false c11
        clear c11
        (first | rw [c11b0] | (simp only [i64_w, i32_w]; rw [c11b0]) | skip)
        replace H := Option.bind_eq_some_iff.mp H
        obtain ⟨t279, A120, H⟩ := H
        replace H : (heliastlaw12_GraphAsks.j0 k l0 l1 l2 a3 l4 l5 a6 (!t279)) = some r := H
        have A12 := Aside0.mk A120
        clear A120
        have HKT_ := Aside0.mk (show t279 = true from by
          cases t279 with
          | true => rfl
          | false =>
            exfalso
            have H2 : (heliastlaw12_GraphAsks.j0 k l0 l1 l2 a3 l4 l5 a6 (!false)) = some r := H
            cases k with
            | zero => simp [heliastlaw12_GraphAsks.j0] at H2
            | succ k_ =>
              simp only [heliastlaw12_GraphAsks.j0, Bool.not_false, if_true] at H2
              obtain ⟨u_, hu_, hu2_⟩ := Option.bind_eq_some_iff.mp H2
              obtain rfl := Option.some.inj hu2_
              have hm_ := heliastlaw12_known.mono k_ true (by rw [hu_]; exact congrArg some HLAW.out)
              rw [A12.out] at hm_
              cases hm_)
        have H' := Aside0.mk H
        clear H
        go_wp2_with (first | ((with_reducible refine gate_callee (f := 51) rfl ?_); refine goesL_ (some 17) rfl rfl Try.func51 (by kernel_rfl) rfl #[.slice A0 l0.length c0] rfl (by (try simp only [List.map_toArray, List.map_cons, List.map_nil]); first | done | rfl | (simp only [List.length_drop, List.length_take]; rfl)) ?_; (with_reducible refine (heliastlaw12_heavy.calls k _ _ l0 false _ ?side1 ?side2 A9.out).mono ?_); (case side1 => repeat (first | exact (Kd.C_below HR0.out HB.out) | (with_reducible refine Kd.C_alloc ?_ _) | (with_reducible refine Kd.C_drewN ?_ _) | (with_reducible refine Kd.C_drew ?_))); (case side2 => exact HC0.out); rintro e w' ⟨rfl, ⟨nd, rfl⟩⟩; refine ⟨_, rfl, ?_⟩) | (go_at_call 47; (with_reducible refine (heliastlaw12_known.calls k  t279 _ A12.out (by first | rfl | exact HLAW.out | exact HKT_.out)).mono ?_); rintro e w13 ⟨rfl, hb⟩; have n0_ := Aside0.mk (below_step (by repeat (first | (with_reducible first | exact HB.out | apply below_alloc | apply pw_below_drewN | apply below_drew1) | exact HB.out)) hb); clear HB; have HB := n0_; clear n0_; (try clear hb); (try clear hb2); (try clear hk); (try clear hi)))
        go_meet
        case rel => exact ⟨_, (!t279), (by first | rfl | (simp; done) | (simp [*]; done)), H', ⟨by first | omega | exact Nat.le_refl _⟩, ⟨by repeat (first | (with_reducible first | exact HB.out | apply below_alloc | apply pw_below_drewN | apply below_drew1) | exact HB.out)⟩⟩
  case rest =>
    clear HC8
    try clear c1
    try clear c2
    try clear p2
    try clear c4
    try clear c5
    try clear p6
    try clear c10
    try clear c11
    try clear c11b0
    obtain ⟨kq, x29_7, rfl, HA, HJ7, HB⟩ := hcut
    cases kq with
    | zero => exact absurd HA.out (by simp [heliastlaw12_GraphAsks.j0])
    | succ kj7 =>
      have H := HA.out
      clear HA
      simp only [heliastlaw12_GraphAsks.j0] at H
      by_cases c14 : x29_7 = true
      · subst c14
        have H1 : ((heliastlaw12_known.f kj7).bind fun t280 => (some t280)) = some r := by rw [if_pos rfl] at H; exact H
        clear H
        have H := H1
        clear H1
        replace H := Option.bind_eq_some_iff.mp H
        obtain ⟨t280, A150, H⟩ := H
        replace H : (some t280) = some r := H
        have A15 := Aside0.mk A150
        clear A150
        obtain rfl := Option.some.inj H
        go_wp2_with (first | ((with_reducible refine gate_callee (f := 47) rfl ?_); refine goesL_ (some 30) rfl rfl Try.func47 (by kernel_rfl) rfl #[] rfl (by (try simp only [List.map_toArray, List.map_cons, List.map_nil]); first | done | rfl | (simp only [List.length_drop, List.length_take]; rfl)) ?_; (with_reducible refine (heliastlaw12_known.calls kj7  t280 _ A15.out (by first | rfl | exact HLAW.out | exact HKT_.out)).mono ?_); rintro e w16 ⟨rfl, hb⟩; refine ⟨_, rfl, ?_⟩; have n0_ := Aside0.mk (below_step (by repeat (first | (with_reducible first | exact HB.out | apply below_alloc | apply pw_below_drewN | apply below_drew1) | exact HB.out)) hb); clear HB; have HB := n0_; clear n0_; (try clear hb); (try clear hb2); (try clear hk); (try clear hi)))
        go_ret
        exact ⟨by first | rfl | (simp [errW_none, errW_some] <;> rfl) | (simp [*, errW_none, errW_some] <;> rfl), by repeat (first | (with_reducible first | exact HB.out | apply below_alloc | apply pw_below_drewN | apply below_drew1) | exact HB.out)⟩
      · replace c14 := Bool.eq_false_iff.mpr c14
        subst c14
        have H1 : ((heliastlaw12_Graph.f kj7 l4).bind fun t281 => ((graph_Right.f kj7 l0).bind fun t284 => ((heliastref12_Right.f kj7 l0).bind fun t285 => (if (t284 == t285) = true then ((graph_Right.f kj7 t281).bind fun t286 => (if t286 = true then ((heliastlaw12_asks.f kj7 t281 l1 l2 a3).bind fun t287 => (if t287 = true then ((heliastlaw12_Some.f kj7 l5).bind fun t288 => ((heliastlaw12_Some.f kj7 l4).bind fun t291 => ((heliastlaw12_asks.f kj7 t281 t288 t291 (wrap64 (Int.tmod a6 26))).bind fun t294 => (if t294 = true then ((heliastref12_Right.f kj7 l0).bind fun t295 => (if t295 = true then ((heliastlaw12_asks.f kj7 l0 l1 l2 a3).bind fun t296 => (some t296)) else (some true))) else (some false))))) else (some false))) else (some false))) else (some false))))) = some r := by rw [if_neg (show ¬ (false = true) by decide)] at H; exact H
        clear H
        have H := H1
        clear H1
        replace H := Option.bind_eq_some_iff.mp H
        obtain ⟨t281, A170, H⟩ := H
        replace H : ((graph_Right.f kj7 l0).bind fun t284 => ((heliastref12_Right.f kj7 l0).bind fun t285 => (if (t284 == t285) = true then ((graph_Right.f kj7 t281).bind fun t286 => (if t286 = true then ((heliastlaw12_asks.f kj7 t281 l1 l2 a3).bind fun t287 => (if t287 = true then ((heliastlaw12_Some.f kj7 l5).bind fun t288 => ((heliastlaw12_Some.f kj7 l4).bind fun t291 => ((heliastlaw12_asks.f kj7 t281 t288 t291 (wrap64 (Int.tmod a6 26))).bind fun t294 => (if t294 = true then ((heliastref12_Right.f kj7 l0).bind fun t295 => (if t295 = true then ((heliastlaw12_asks.f kj7 l0 l1 l2 a3).bind fun t296 => (some t296)) else (some true))) else (some false))))) else (some false))) else (some false))) else (some false)))) = some r := H
        have A17 := Aside0.mk A170
        clear A170
        replace H := Option.bind_eq_some_iff.mp H
        obtain ⟨t284, A180, H⟩ := H
        replace H : ((heliastref12_Right.f kj7 l0).bind fun t285 => (if (t284 == t285) = true then ((graph_Right.f kj7 t281).bind fun t286 => (if t286 = true then ((heliastlaw12_asks.f kj7 t281 l1 l2 a3).bind fun t287 => (if t287 = true then ((heliastlaw12_Some.f kj7 l5).bind fun t288 => ((heliastlaw12_Some.f kj7 l4).bind fun t291 => ((heliastlaw12_asks.f kj7 t281 t288 t291 (wrap64 (Int.tmod a6 26))).bind fun t294 => (if t294 = true then ((heliastref12_Right.f kj7 l0).bind fun t295 => (if t295 = true then ((heliastlaw12_asks.f kj7 l0 l1 l2 a3).bind fun t296 => (some t296)) else (some true))) else (some false))))) else (some false))) else (some false))) else (some false))) = some r := H
        have A18 := Aside0.mk A180
        clear A180
        replace H := Option.bind_eq_some_iff.mp H
        obtain ⟨t285, A190, H⟩ := H
        replace H : (if (t284 == t285) = true then ((graph_Right.f kj7 t281).bind fun t286 => (if t286 = true then ((heliastlaw12_asks.f kj7 t281 l1 l2 a3).bind fun t287 => (if t287 = true then ((heliastlaw12_Some.f kj7 l5).bind fun t288 => ((heliastlaw12_Some.f kj7 l4).bind fun t291 => ((heliastlaw12_asks.f kj7 t281 t288 t291 (wrap64 (Int.tmod a6 26))).bind fun t294 => (if t294 = true then ((heliastref12_Right.f kj7 l0).bind fun t295 => (if t295 = true then ((heliastlaw12_asks.f kj7 l0 l1 l2 a3).bind fun t296 => (some t296)) else (some true))) else (some false))))) else (some false))) else (some false))) else (some false)) = some r := H
        have A19 := Aside0.mk A190
        clear A190
        by_cases c20 : (t284 == t285) = true
        · rw [if_pos c20] at H
          have c20b0 : (t284 == t285) = true := c20
          (try (have c20b1 : decide (t284 = t285) = true := by simpa using c20))
          (try (have c20b2 : (t284 == t285) = true := by simpa using c20))
          clear c20
          replace H := Option.bind_eq_some_iff.mp H
          obtain ⟨t286, A210, H⟩ := H
          replace H : (if t286 = true then ((heliastlaw12_asks.f kj7 t281 l1 l2 a3).bind fun t287 => (if t287 = true then ((heliastlaw12_Some.f kj7 l5).bind fun t288 => ((heliastlaw12_Some.f kj7 l4).bind fun t291 => ((heliastlaw12_asks.f kj7 t281 t288 t291 (wrap64 (Int.tmod a6 26))).bind fun t294 => (if t294 = true then ((heliastref12_Right.f kj7 l0).bind fun t295 => (if t295 = true then ((heliastlaw12_asks.f kj7 l0 l1 l2 a3).bind fun t296 => (some t296)) else (some true))) else (some false))))) else (some false))) else (some false)) = some r := H
          have A21 := Aside0.mk A210
          clear A210
          by_cases c22 : t286 = true
          · subst c22
            have H1 : ((heliastlaw12_asks.f kj7 t281 l1 l2 a3).bind fun t287 => (if t287 = true then ((heliastlaw12_Some.f kj7 l5).bind fun t288 => ((heliastlaw12_Some.f kj7 l4).bind fun t291 => ((heliastlaw12_asks.f kj7 t281 t288 t291 (wrap64 (Int.tmod a6 26))).bind fun t294 => (if t294 = true then ((heliastref12_Right.f kj7 l0).bind fun t295 => (if t295 = true then ((heliastlaw12_asks.f kj7 l0 l1 l2 a3).bind fun t296 => (some t296)) else (some true))) else (some false))))) else (some false))) = some r := by rw [if_pos rfl] at H; exact H
            clear H
            have H := H1
            clear H1
            replace H := Option.bind_eq_some_iff.mp H
            obtain ⟨t287, A230, H⟩ := H
            replace H : (if t287 = true then ((heliastlaw12_Some.f kj7 l5).bind fun t288 => ((heliastlaw12_Some.f kj7 l4).bind fun t291 => ((heliastlaw12_asks.f kj7 t281 t288 t291 (wrap64 (Int.tmod a6 26))).bind fun t294 => (if t294 = true then ((heliastref12_Right.f kj7 l0).bind fun t295 => (if t295 = true then ((heliastlaw12_asks.f kj7 l0 l1 l2 a3).bind fun t296 => (some t296)) else (some true))) else (some false))))) else (some false)) = some r := H
            have A23 := Aside0.mk A230
            clear A230
            by_cases c24 : t287 = true
            · subst c24
              have H1 : ((heliastlaw12_Some.f kj7 l5).bind fun t288 => ((heliastlaw12_Some.f kj7 l4).bind fun t291 => ((heliastlaw12_asks.f kj7 t281 t288 t291 (wrap64 (Int.tmod a6 26))).bind fun t294 => (if t294 = true then ((heliastref12_Right.f kj7 l0).bind fun t295 => (if t295 = true then ((heliastlaw12_asks.f kj7 l0 l1 l2 a3).bind fun t296 => (some t296)) else (some true))) else (some false))))) = some r := by rw [if_pos rfl] at H; exact H
              clear H
              have H := H1
              clear H1
              replace H := Option.bind_eq_some_iff.mp H
              obtain ⟨t288, A250, H⟩ := H
              replace H : ((heliastlaw12_Some.f kj7 l4).bind fun t291 => ((heliastlaw12_asks.f kj7 t281 t288 t291 (wrap64 (Int.tmod a6 26))).bind fun t294 => (if t294 = true then ((heliastref12_Right.f kj7 l0).bind fun t295 => (if t295 = true then ((heliastlaw12_asks.f kj7 l0 l1 l2 a3).bind fun t296 => (some t296)) else (some true))) else (some false)))) = some r := H
              have A25 := Aside0.mk A250
              clear A250
              replace H := Option.bind_eq_some_iff.mp H
              obtain ⟨t291, A260, H⟩ := H
              replace H : ((heliastlaw12_asks.f kj7 t281 t288 t291 (wrap64 (Int.tmod a6 26))).bind fun t294 => (if t294 = true then ((heliastref12_Right.f kj7 l0).bind fun t295 => (if t295 = true then ((heliastlaw12_asks.f kj7 l0 l1 l2 a3).bind fun t296 => (some t296)) else (some true))) else (some false))) = some r := H
              have A26 := Aside0.mk A260
              clear A260
              replace H := Option.bind_eq_some_iff.mp H
              obtain ⟨t294, A270, H⟩ := H
              replace H : (if t294 = true then ((heliastref12_Right.f kj7 l0).bind fun t295 => (if t295 = true then ((heliastlaw12_asks.f kj7 l0 l1 l2 a3).bind fun t296 => (some t296)) else (some true))) else (some false)) = some r := H
              have A27 := Aside0.mk A270
              clear A270
              by_cases c28 : t294 = true
              · subst c28
                have H1 : ((heliastref12_Right.f kj7 l0).bind fun t295 => (if t295 = true then ((heliastlaw12_asks.f kj7 l0 l1 l2 a3).bind fun t296 => (some t296)) else (some true))) = some r := by rw [if_pos rfl] at H; exact H
                clear H
                have H := H1
                clear H1
                replace H := Option.bind_eq_some_iff.mp H
                obtain ⟨t295, A290, H⟩ := H
                replace H : (if t295 = true then ((heliastlaw12_asks.f kj7 l0 l1 l2 a3).bind fun t296 => (some t296)) else (some true)) = some r := H
                have A29 := Aside0.mk A290
                clear A290
                by_cases c30 : t295 = true
                · subst c30
                  have H1 : ((heliastlaw12_asks.f kj7 l0 l1 l2 a3).bind fun t296 => (some t296)) = some r := by rw [if_pos rfl] at H; exact H
                  clear H
                  have H := H1
                  clear H1
                  replace H := Option.bind_eq_some_iff.mp H
                  obtain ⟨t296, A310, H⟩ := H
                  replace H : (some t296) = some r := H
                  have A31 := Aside0.mk A310
                  clear A310
                  obtain rfl := Option.some.inj H
                  have tok1_ : True := trivial
                  have tok2_ : True := trivial
                  have tok3_ : True := trivial
                  have tok4_ : True := trivial
                  have tok5_ : True := trivial
                  go_wp2_with (first | ((with_reducible refine gate_callee (f := 37) rfl ?_); refine goesL_ (some 32) rfl rfl Try.func37 (by kernel_rfl) rfl #[.slice A4 l4.length c4] rfl (by (try simp only [List.map_toArray, List.map_cons, List.map_nil]); first | done | rfl | (simp only [List.length_drop, List.length_take]; rfl)) ?_; (with_reducible refine (heliastlaw12_Graph.calls kj7 _ _ l4 t281 _ ?side1 ?side2 A17.out).mono ?_); (case side1 => repeat (first | exact (Kd.C_below HR4.out HB.out) | (with_reducible refine Kd.C_alloc ?_ _) | (with_reducible refine Kd.C_drewN ?_ _) | (with_reducible refine Kd.C_drew ?_))); (case side2 => exact HC4.out); rintro e w32 ⟨v282, rfl, ho0, hb⟩; refine ⟨_, rfl, ?_⟩; have n0_ := Aside0.mk (Kd.S_lower ho0 (below_size (by repeat (first | (with_reducible first | exact HB.out | apply below_alloc | apply pw_below_drewN | apply below_drew1) | exact HB.out)))); have n1_ := Aside0.mk (below_step (by repeat (first | (with_reducible first | exact HB.out | apply below_alloc | apply pw_below_drewN | apply below_drew1) | exact HB.out)) hb); clear HB; have HO283 := n0_; have HB := n1_; clear n0_ n1_; (try clear hb); (try clear hb2); (try clear hk); (try clear hi); (try clear ho0)) | ((with_reducible refine gate_callee (f := 52) rfl ?_); refine goesL_ (some 34) rfl rfl Try.func52 (by kernel_rfl) rfl #[.slice A0 l0.length c0] rfl (by (try simp only [List.map_toArray, List.map_cons, List.map_nil]); first | done | rfl | (simp only [List.length_drop, List.length_take]; rfl)) ?_; (with_reducible refine (graph_Right.calls kj7 _ _ l0 t284 _ ?side1 ?side2 A18.out).mono ?_); (case side1 => repeat (first | exact (Kd.C_below HR0.out HB.out) | (with_reducible refine Kd.C_alloc ?_ _) | (with_reducible refine Kd.C_drewN ?_ _) | (with_reducible refine Kd.C_drew ?_))); (case side2 => exact HC0.out); rintro e w' ⟨rfl, ⟨nd, rfl⟩⟩; refine ⟨_, rfl, ?_⟩) | ((with_reducible refine gate_callee (f := 53) rfl ?_); refine goesL_ (some 36) rfl rfl Try.func53 (by kernel_rfl) rfl #[.slice A0 l0.length c0] rfl (by (try simp only [List.map_toArray, List.map_cons, List.map_nil]); first | done | rfl | (simp only [List.length_drop, List.length_take]; rfl)) ?_; (with_reducible refine (heliastref12_Right.calls kj7 _ _ l0 t285 _ ?side1 ?side2 A19.out).mono ?_); (case side1 => repeat (first | exact (Kd.C_below HR0.out (by repeat (first | (with_reducible first | exact HB.out | apply below_alloc | apply pw_below_drewN | apply below_drew1) | exact HB.out))) | (with_reducible refine Kd.C_alloc ?_ _) | (with_reducible refine Kd.C_drewN ?_ _) | (with_reducible refine Kd.C_drew ?_))); (case side2 => exact HC0.out); rintro e w' ⟨rfl, ⟨nd, rfl⟩⟩; refine ⟨_, rfl, ?_⟩; obtain ⟨Ao33, co33, eo33⟩ := Kd.S_slice HO283.out; subst eo33) | (go_at_call 52; (with_reducible refine (graph_Right.calls kj7 _ _ t281 true _ ?side1 ?side2 A21.out).mono ?_); (case side1 => repeat (first | exact (Kd.S_reads' HO283.out).2.2 | (with_reducible refine Kd.C_alloc ?_ _) | (with_reducible refine Kd.C_drewN ?_ _) | (with_reducible refine Kd.C_drew ?_))); (case side2 => exact (Kd.S_reads' HO283.out).2.1); rintro e w' ⟨rfl, ⟨nd, rfl⟩⟩) | (go_at_call 54; clear tok1_; (with_reducible refine (heliastlaw12_asks.calls kj7 _ _ t281 _ _ l1 _ _ l2 a3 true _ ?side1 ?side2 ?side3 ?side4 ?side5 ?side6 A23.out (by first | rfl | exact HLAW.out | exact HKT_.out)).mono ?_); (case side1 => repeat (first | exact (Kd.S_reads' HO283.out).2.2 | (with_reducible refine Kd.C_alloc ?_ _) | (with_reducible refine Kd.C_drewN ?_ _) | (with_reducible refine Kd.C_drew ?_))); (case side2 => exact (Kd.S_reads' HO283.out).2.1); (case side3 => repeat (first | exact (Kd.C_below HR1.out (by repeat (first | (with_reducible first | exact HB.out | apply below_alloc | apply pw_below_drewN | apply below_drew1) | exact HB.out))) | (with_reducible refine Kd.C_alloc ?_ _) | (with_reducible refine Kd.C_drewN ?_ _) | (with_reducible refine Kd.C_drew ?_))); (case side4 => exact HC1.out); (case side5 => repeat (first | exact (Kd.C_below HR2.out (by repeat (first | (with_reducible first | exact HB.out | apply below_alloc | apply pw_below_drewN | apply below_drew1) | exact HB.out))) | (with_reducible refine Kd.C_alloc ?_ _) | (with_reducible refine Kd.C_drewN ?_ _) | (with_reducible refine Kd.C_drew ?_))); (case side6 => exact HC2.out); rintro e w34 ⟨rfl, hb⟩; have n0_ := Aside0.mk (Kd.S_below (by (with_reducible repeat (first | apply Kd.S_alloc | apply Kd.S_drewN | apply Kd.S_drew)); exact HO283.out) hb); have n1_ := Aside0.mk (below_step (by repeat (first | (with_reducible first | exact HB.out | apply below_alloc | apply pw_below_drewN | apply below_drew1) | exact HB.out)) hb); clear HO283; clear HB; have HO283 := n0_; have HB := n1_; clear n0_ n1_; (try clear hb); (try clear hb2); (try clear hk); (try clear hi)) | (go_at_call 45; clear tok2_; (with_reducible refine (heliastlaw12_Some.calls kj7 _ _ l5 t288 _ ?side1 ?side2 A25.out).mono ?_); (case side1 => repeat (first | exact (Kd.C_below HR5.out HB.out) | (with_reducible refine Kd.C_alloc ?_ _) | (with_reducible refine Kd.C_drewN ?_ _) | (with_reducible refine Kd.C_drew ?_))); (case side2 => exact HC5.out); rintro e w35 ⟨v289, rfl, ho0, hb⟩; have n0_ := Aside0.mk (Kd.S_elder' (by (with_reducible repeat (first | apply Kd.S_alloc | apply Kd.S_drewN | apply Kd.S_drew)); exact HO283.out) (Kd.R_base ho0) hb); have n1_ := Aside0.mk (Kd.R_lower ho0 (below_size (by repeat (first | (with_reducible first | exact HB.out | apply below_alloc | apply pw_below_drewN | apply below_drew1) | exact HB.out)))); have n2_ := Aside0.mk (below_step (by repeat (first | (with_reducible first | exact HB.out | apply below_alloc | apply pw_below_drewN | apply below_drew1) | exact HB.out)) hb); clear HO283; clear HB; have HO283 := n0_; have HO290 := n1_; have HB := n2_; clear n0_ n1_ n2_; (try clear hb); (try clear hb2); (try clear hk); (try clear hi); (try clear ho0)) | (go_at_call 45; clear tok3_; (with_reducible refine (heliastlaw12_Some.calls kj7 _ _ l4 t291 _ ?side1 ?side2 A26.out).mono ?_); (case side1 => repeat (first | exact (Kd.C_below HR4.out HB.out) | (with_reducible refine Kd.C_alloc ?_ _) | (with_reducible refine Kd.C_drewN ?_ _) | (with_reducible refine Kd.C_drew ?_))); (case side2 => exact HC4.out); rintro e w36 ⟨v292, rfl, ho0, hb⟩; have n0_ := Aside0.mk (Kd.S_elder' (by (with_reducible repeat (first | apply Kd.S_alloc | apply Kd.S_drewN | apply Kd.S_drew)); exact HO283.out) (Kd.R_base ho0) hb); have n1_ := Aside0.mk (Kd.R_elder' (by (with_reducible repeat (first | apply Kd.R_alloc | apply Kd.R_drewN | apply Kd.R_drew)); exact HO290.out) (Kd.R_base ho0) hb); have n2_ := Aside0.mk (Kd.R_lower (Kd.R_new' ho0 (Kd.R_lt (by (with_reducible repeat (first | apply Kd.R_alloc | apply Kd.R_drewN | apply Kd.R_drew)); exact HO290.out))) (below_size (by repeat (first | (with_reducible first | exact HB.out | apply below_alloc | apply pw_below_drewN | apply below_drew1) | exact HB.out)))); have n3_ := Aside0.mk (below_step (by repeat (first | (with_reducible first | exact HB.out | apply below_alloc | apply pw_below_drewN | apply below_drew1) | exact HB.out)) hb); clear HO283; clear HO290; clear HB; have HO283 := n0_; have HO290 := n1_; have HO293 := n2_; have HB := n3_; clear n0_ n1_ n2_ n3_; (try clear hb); (try clear hb2); (try clear hk); (try clear hi); (try clear ho0); obtain ⟨Ao37, co37, eo37⟩ := Kd.R_slice HO290.out; subst eo37; obtain ⟨Ao38, co38, eo38⟩ := Kd.R_slice HO293.out; subst eo38) | (go_at_call 54; clear tok4_; (with_reducible refine (heliastlaw12_asks.calls kj7 _ _ t281 _ _ t288 _ _ t291 (wrap64 (Int.tmod a6 26)) true _ ?side1 ?side2 ?side3 ?side4 ?side5 ?side6 A27.out (by first | rfl | exact HLAW.out | exact HKT_.out)).mono ?_); (case side1 => repeat (first | exact (Kd.S_reads' HO283.out).2.2 | (with_reducible refine Kd.C_alloc ?_ _) | (with_reducible refine Kd.C_drewN ?_ _) | (with_reducible refine Kd.C_drew ?_))); (case side2 => exact (Kd.S_reads' HO283.out).2.1); (case side3 => repeat (first | exact (Kd.R_reads' HO290.out).2.2 | (with_reducible refine Kd.C_alloc ?_ _) | (with_reducible refine Kd.C_drewN ?_ _) | (with_reducible refine Kd.C_drew ?_))); (case side4 => exact (Kd.R_reads' HO290.out).2.1); (case side5 => repeat (first | exact (Kd.R_reads' HO293.out).2.2 | (with_reducible refine Kd.C_alloc ?_ _) | (with_reducible refine Kd.C_drewN ?_ _) | (with_reducible refine Kd.C_drew ?_))); (case side6 => exact (Kd.R_reads' HO293.out).2.1); rintro e w39 ⟨rfl, hb⟩; have n0_ := Aside0.mk (Kd.S_below (by (with_reducible repeat (first | apply Kd.S_alloc | apply Kd.S_drewN | apply Kd.S_drew)); exact HO283.out) hb); have n1_ := Aside0.mk (Kd.R_below (by (with_reducible repeat (first | apply Kd.R_alloc | apply Kd.R_drewN | apply Kd.R_drew)); exact HO290.out) hb); have n2_ := Aside0.mk (Kd.R_below (by (with_reducible repeat (first | apply Kd.R_alloc | apply Kd.R_drewN | apply Kd.R_drew)); exact HO293.out) hb); have n3_ := Aside0.mk (below_step (by repeat (first | (with_reducible first | exact HB.out | apply below_alloc | apply pw_below_drewN | apply below_drew1) | exact HB.out)) hb); clear HO283; clear HO290; clear HO293; clear HB; have HO283 := n0_; have HO290 := n1_; have HO293 := n2_; have HB := n3_; clear n0_ n1_ n2_ n3_; (try clear hb); (try clear hb2); (try clear hk); (try clear hi)) | (go_at_call 53; (with_reducible refine (heliastref12_Right.calls kj7 _ _ l0 true _ ?side1 ?side2 A29.out).mono ?_); (case side1 => repeat (first | exact (Kd.C_below HR0.out HB.out) | (with_reducible refine Kd.C_alloc ?_ _) | (with_reducible refine Kd.C_drewN ?_ _) | (with_reducible refine Kd.C_drew ?_))); (case side2 => exact HC0.out); rintro e w' ⟨rfl, ⟨nd, rfl⟩⟩) | (go_at_call 54; clear tok5_; (with_reducible refine (heliastlaw12_asks.calls kj7 _ _ l0 _ _ l1 _ _ l2 a3 t296 _ ?side1 ?side2 ?side3 ?side4 ?side5 ?side6 A31.out (by first | rfl | exact HLAW.out | exact HKT_.out)).mono ?_); (case side1 => repeat (first | exact (Kd.C_below HR0.out (by repeat (first | (with_reducible first | exact HB.out | apply below_alloc | apply pw_below_drewN | apply below_drew1) | exact HB.out))) | (with_reducible refine Kd.C_alloc ?_ _) | (with_reducible refine Kd.C_drewN ?_ _) | (with_reducible refine Kd.C_drew ?_))); (case side2 => exact HC0.out); (case side3 => repeat (first | exact (Kd.C_below HR1.out (by repeat (first | (with_reducible first | exact HB.out | apply below_alloc | apply pw_below_drewN | apply below_drew1) | exact HB.out))) | (with_reducible refine Kd.C_alloc ?_ _) | (with_reducible refine Kd.C_drewN ?_ _) | (with_reducible refine Kd.C_drew ?_))); (case side4 => exact HC1.out); (case side5 => repeat (first | exact (Kd.C_below HR2.out (by repeat (first | (with_reducible first | exact HB.out | apply below_alloc | apply pw_below_drewN | apply below_drew1) | exact HB.out))) | (with_reducible refine Kd.C_alloc ?_ _) | (with_reducible refine Kd.C_drewN ?_ _) | (with_reducible refine Kd.C_drew ?_))); (case side6 => exact HC2.out); rintro e w40 ⟨rfl, hb⟩; have n0_ := Aside0.mk (Kd.S_below (by (with_reducible repeat (first | apply Kd.S_alloc | apply Kd.S_drewN | apply Kd.S_drew)); exact HO283.out) hb); have n1_ := Aside0.mk (Kd.R_below (by (with_reducible repeat (first | apply Kd.R_alloc | apply Kd.R_drewN | apply Kd.R_drew)); exact HO290.out) hb); have n2_ := Aside0.mk (Kd.R_below (by (with_reducible repeat (first | apply Kd.R_alloc | apply Kd.R_drewN | apply Kd.R_drew)); exact HO293.out) hb); have n3_ := Aside0.mk (below_step (by repeat (first | (with_reducible first | exact HB.out | apply below_alloc | apply pw_below_drewN | apply below_drew1) | exact HB.out)) hb); clear HO283; clear HO290; clear HO293; clear HB; have HO283 := n0_; have HO290 := n1_; have HO293 := n2_; have HB := n3_; clear n0_ n1_ n2_ n3_; (try clear hb); (try clear hb2); (try clear hk); (try clear hi)))
                  go_ret
                  exact ⟨by first | rfl | (simp [errW_none, errW_some] <;> rfl) | (simp [*, errW_none, errW_some] <;> rfl), by repeat (first | (with_reducible first | exact HB.out | apply below_alloc | apply pw_below_drewN | apply below_drew1) | exact HB.out)⟩
                · replace c30 := Bool.eq_false_iff.mpr c30
                  subst c30
                  have H1 : (some true) = some r := by rw [if_neg (show ¬ (false = true) by decide)] at H; exact H
                  clear H
                  have H := H1
                  clear H1
                  obtain rfl := Option.some.inj H
                  have tok6_ : True := trivial
                  have tok7_ : True := trivial
                  have tok8_ : True := trivial
                  have tok9_ : True := trivial
                  go_wp2_with (first | ((with_reducible refine gate_callee (f := 37) rfl ?_); refine goesL_ (some 32) rfl rfl Try.func37 (by kernel_rfl) rfl #[.slice A4 l4.length c4] rfl (by (try simp only [List.map_toArray, List.map_cons, List.map_nil]); first | done | rfl | (simp only [List.length_drop, List.length_take]; rfl)) ?_; (with_reducible refine (heliastlaw12_Graph.calls kj7 _ _ l4 t281 _ ?side1 ?side2 A17.out).mono ?_); (case side1 => repeat (first | exact (Kd.C_below HR4.out HB.out) | (with_reducible refine Kd.C_alloc ?_ _) | (with_reducible refine Kd.C_drewN ?_ _) | (with_reducible refine Kd.C_drew ?_))); (case side2 => exact HC4.out); rintro e w41 ⟨v282, rfl, ho0, hb⟩; refine ⟨_, rfl, ?_⟩; have n0_ := Aside0.mk (Kd.S_lower ho0 (below_size (by repeat (first | (with_reducible first | exact HB.out | apply below_alloc | apply pw_below_drewN | apply below_drew1) | exact HB.out)))); have n1_ := Aside0.mk (below_step (by repeat (first | (with_reducible first | exact HB.out | apply below_alloc | apply pw_below_drewN | apply below_drew1) | exact HB.out)) hb); clear HB; have HO283 := n0_; have HB := n1_; clear n0_ n1_; (try clear hb); (try clear hb2); (try clear hk); (try clear hi); (try clear ho0)) | ((with_reducible refine gate_callee (f := 52) rfl ?_); refine goesL_ (some 34) rfl rfl Try.func52 (by kernel_rfl) rfl #[.slice A0 l0.length c0] rfl (by (try simp only [List.map_toArray, List.map_cons, List.map_nil]); first | done | rfl | (simp only [List.length_drop, List.length_take]; rfl)) ?_; (with_reducible refine (graph_Right.calls kj7 _ _ l0 t284 _ ?side1 ?side2 A18.out).mono ?_); (case side1 => repeat (first | exact (Kd.C_below HR0.out HB.out) | (with_reducible refine Kd.C_alloc ?_ _) | (with_reducible refine Kd.C_drewN ?_ _) | (with_reducible refine Kd.C_drew ?_))); (case side2 => exact HC0.out); rintro e w' ⟨rfl, ⟨nd, rfl⟩⟩; refine ⟨_, rfl, ?_⟩) | ((with_reducible refine gate_callee (f := 53) rfl ?_); refine goesL_ (some 36) rfl rfl Try.func53 (by kernel_rfl) rfl #[.slice A0 l0.length c0] rfl (by (try simp only [List.map_toArray, List.map_cons, List.map_nil]); first | done | rfl | (simp only [List.length_drop, List.length_take]; rfl)) ?_; (with_reducible refine (heliastref12_Right.calls kj7 _ _ l0 t285 _ ?side1 ?side2 A19.out).mono ?_); (case side1 => repeat (first | exact (Kd.C_below HR0.out (by repeat (first | (with_reducible first | exact HB.out | apply below_alloc | apply pw_below_drewN | apply below_drew1) | exact HB.out))) | (with_reducible refine Kd.C_alloc ?_ _) | (with_reducible refine Kd.C_drewN ?_ _) | (with_reducible refine Kd.C_drew ?_))); (case side2 => exact HC0.out); rintro e w' ⟨rfl, ⟨nd, rfl⟩⟩; refine ⟨_, rfl, ?_⟩; obtain ⟨Ao42, co42, eo42⟩ := Kd.S_slice HO283.out; subst eo42) | (go_at_call 52; (with_reducible refine (graph_Right.calls kj7 _ _ t281 true _ ?side1 ?side2 A21.out).mono ?_); (case side1 => repeat (first | exact (Kd.S_reads' HO283.out).2.2 | (with_reducible refine Kd.C_alloc ?_ _) | (with_reducible refine Kd.C_drewN ?_ _) | (with_reducible refine Kd.C_drew ?_))); (case side2 => exact (Kd.S_reads' HO283.out).2.1); rintro e w' ⟨rfl, ⟨nd, rfl⟩⟩) | (go_at_call 54; clear tok6_; (with_reducible refine (heliastlaw12_asks.calls kj7 _ _ t281 _ _ l1 _ _ l2 a3 true _ ?side1 ?side2 ?side3 ?side4 ?side5 ?side6 A23.out (by first | rfl | exact HLAW.out | exact HKT_.out)).mono ?_); (case side1 => repeat (first | exact (Kd.S_reads' HO283.out).2.2 | (with_reducible refine Kd.C_alloc ?_ _) | (with_reducible refine Kd.C_drewN ?_ _) | (with_reducible refine Kd.C_drew ?_))); (case side2 => exact (Kd.S_reads' HO283.out).2.1); (case side3 => repeat (first | exact (Kd.C_below HR1.out (by repeat (first | (with_reducible first | exact HB.out | apply below_alloc | apply pw_below_drewN | apply below_drew1) | exact HB.out))) | (with_reducible refine Kd.C_alloc ?_ _) | (with_reducible refine Kd.C_drewN ?_ _) | (with_reducible refine Kd.C_drew ?_))); (case side4 => exact HC1.out); (case side5 => repeat (first | exact (Kd.C_below HR2.out (by repeat (first | (with_reducible first | exact HB.out | apply below_alloc | apply pw_below_drewN | apply below_drew1) | exact HB.out))) | (with_reducible refine Kd.C_alloc ?_ _) | (with_reducible refine Kd.C_drewN ?_ _) | (with_reducible refine Kd.C_drew ?_))); (case side6 => exact HC2.out); rintro e w43 ⟨rfl, hb⟩; have n0_ := Aside0.mk (Kd.S_below (by (with_reducible repeat (first | apply Kd.S_alloc | apply Kd.S_drewN | apply Kd.S_drew)); exact HO283.out) hb); have n1_ := Aside0.mk (below_step (by repeat (first | (with_reducible first | exact HB.out | apply below_alloc | apply pw_below_drewN | apply below_drew1) | exact HB.out)) hb); clear HO283; clear HB; have HO283 := n0_; have HB := n1_; clear n0_ n1_; (try clear hb); (try clear hb2); (try clear hk); (try clear hi)) | (go_at_call 45; clear tok7_; (with_reducible refine (heliastlaw12_Some.calls kj7 _ _ l5 t288 _ ?side1 ?side2 A25.out).mono ?_); (case side1 => repeat (first | exact (Kd.C_below HR5.out HB.out) | (with_reducible refine Kd.C_alloc ?_ _) | (with_reducible refine Kd.C_drewN ?_ _) | (with_reducible refine Kd.C_drew ?_))); (case side2 => exact HC5.out); rintro e w44 ⟨v289, rfl, ho0, hb⟩; have n0_ := Aside0.mk (Kd.S_elder' (by (with_reducible repeat (first | apply Kd.S_alloc | apply Kd.S_drewN | apply Kd.S_drew)); exact HO283.out) (Kd.R_base ho0) hb); have n1_ := Aside0.mk (Kd.R_lower ho0 (below_size (by repeat (first | (with_reducible first | exact HB.out | apply below_alloc | apply pw_below_drewN | apply below_drew1) | exact HB.out)))); have n2_ := Aside0.mk (below_step (by repeat (first | (with_reducible first | exact HB.out | apply below_alloc | apply pw_below_drewN | apply below_drew1) | exact HB.out)) hb); clear HO283; clear HB; have HO283 := n0_; have HO290 := n1_; have HB := n2_; clear n0_ n1_ n2_; (try clear hb); (try clear hb2); (try clear hk); (try clear hi); (try clear ho0)) | (go_at_call 45; clear tok8_; (with_reducible refine (heliastlaw12_Some.calls kj7 _ _ l4 t291 _ ?side1 ?side2 A26.out).mono ?_); (case side1 => repeat (first | exact (Kd.C_below HR4.out HB.out) | (with_reducible refine Kd.C_alloc ?_ _) | (with_reducible refine Kd.C_drewN ?_ _) | (with_reducible refine Kd.C_drew ?_))); (case side2 => exact HC4.out); rintro e w45 ⟨v292, rfl, ho0, hb⟩; have n0_ := Aside0.mk (Kd.S_elder' (by (with_reducible repeat (first | apply Kd.S_alloc | apply Kd.S_drewN | apply Kd.S_drew)); exact HO283.out) (Kd.R_base ho0) hb); have n1_ := Aside0.mk (Kd.R_elder' (by (with_reducible repeat (first | apply Kd.R_alloc | apply Kd.R_drewN | apply Kd.R_drew)); exact HO290.out) (Kd.R_base ho0) hb); have n2_ := Aside0.mk (Kd.R_lower (Kd.R_new' ho0 (Kd.R_lt (by (with_reducible repeat (first | apply Kd.R_alloc | apply Kd.R_drewN | apply Kd.R_drew)); exact HO290.out))) (below_size (by repeat (first | (with_reducible first | exact HB.out | apply below_alloc | apply pw_below_drewN | apply below_drew1) | exact HB.out)))); have n3_ := Aside0.mk (below_step (by repeat (first | (with_reducible first | exact HB.out | apply below_alloc | apply pw_below_drewN | apply below_drew1) | exact HB.out)) hb); clear HO283; clear HO290; clear HB; have HO283 := n0_; have HO290 := n1_; have HO293 := n2_; have HB := n3_; clear n0_ n1_ n2_ n3_; (try clear hb); (try clear hb2); (try clear hk); (try clear hi); (try clear ho0); obtain ⟨Ao46, co46, eo46⟩ := Kd.R_slice HO290.out; subst eo46; obtain ⟨Ao47, co47, eo47⟩ := Kd.R_slice HO293.out; subst eo47) | (go_at_call 54; clear tok9_; (with_reducible refine (heliastlaw12_asks.calls kj7 _ _ t281 _ _ t288 _ _ t291 (wrap64 (Int.tmod a6 26)) true _ ?side1 ?side2 ?side3 ?side4 ?side5 ?side6 A27.out (by first | rfl | exact HLAW.out | exact HKT_.out)).mono ?_); (case side1 => repeat (first | exact (Kd.S_reads' HO283.out).2.2 | (with_reducible refine Kd.C_alloc ?_ _) | (with_reducible refine Kd.C_drewN ?_ _) | (with_reducible refine Kd.C_drew ?_))); (case side2 => exact (Kd.S_reads' HO283.out).2.1); (case side3 => repeat (first | exact (Kd.R_reads' HO290.out).2.2 | (with_reducible refine Kd.C_alloc ?_ _) | (with_reducible refine Kd.C_drewN ?_ _) | (with_reducible refine Kd.C_drew ?_))); (case side4 => exact (Kd.R_reads' HO290.out).2.1); (case side5 => repeat (first | exact (Kd.R_reads' HO293.out).2.2 | (with_reducible refine Kd.C_alloc ?_ _) | (with_reducible refine Kd.C_drewN ?_ _) | (with_reducible refine Kd.C_drew ?_))); (case side6 => exact (Kd.R_reads' HO293.out).2.1); rintro e w48 ⟨rfl, hb⟩; have n0_ := Aside0.mk (Kd.S_below (by (with_reducible repeat (first | apply Kd.S_alloc | apply Kd.S_drewN | apply Kd.S_drew)); exact HO283.out) hb); have n1_ := Aside0.mk (Kd.R_below (by (with_reducible repeat (first | apply Kd.R_alloc | apply Kd.R_drewN | apply Kd.R_drew)); exact HO290.out) hb); have n2_ := Aside0.mk (Kd.R_below (by (with_reducible repeat (first | apply Kd.R_alloc | apply Kd.R_drewN | apply Kd.R_drew)); exact HO293.out) hb); have n3_ := Aside0.mk (below_step (by repeat (first | (with_reducible first | exact HB.out | apply below_alloc | apply pw_below_drewN | apply below_drew1) | exact HB.out)) hb); clear HO283; clear HO290; clear HO293; clear HB; have HO283 := n0_; have HO290 := n1_; have HO293 := n2_; have HB := n3_; clear n0_ n1_ n2_ n3_; (try clear hb); (try clear hb2); (try clear hk); (try clear hi)) | (go_at_call 53; (with_reducible refine (heliastref12_Right.calls kj7 _ _ l0 false _ ?side1 ?side2 A29.out).mono ?_); (case side1 => repeat (first | exact (Kd.C_below HR0.out HB.out) | (with_reducible refine Kd.C_alloc ?_ _) | (with_reducible refine Kd.C_drewN ?_ _) | (with_reducible refine Kd.C_drew ?_))); (case side2 => exact HC0.out); rintro e w' ⟨rfl, ⟨nd, rfl⟩⟩))
                  go_ret
                  exact ⟨by first | rfl | (simp [errW_none, errW_some] <;> rfl) | (simp [*, errW_none, errW_some] <;> rfl), by repeat (first | (with_reducible first | exact HB.out | apply below_alloc | apply pw_below_drewN | apply below_drew1) | exact HB.out)⟩
              · replace c28 := Bool.eq_false_iff.mpr c28
                subst c28
                have H1 : (some false) = some r := by rw [if_neg (show ¬ (false = true) by decide)] at H; exact H
                clear H
                have H := H1
                clear H1
                exact absurd ((Option.some.inj H).trans HLAW.out) (by decide)
            · replace c24 := Bool.eq_false_iff.mpr c24
              subst c24
              have H1 : (some false) = some r := by rw [if_neg (show ¬ (false = true) by decide)] at H; exact H
              clear H
              have H := H1
              clear H1
              exact absurd ((Option.some.inj H).trans HLAW.out) (by decide)
          · replace c22 := Bool.eq_false_iff.mpr c22
            subst c22
            have H1 : (some false) = some r := by rw [if_neg (show ¬ (false = true) by decide)] at H; exact H
            clear H
            have H := H1
            clear H1
            exact absurd ((Option.some.inj H).trans HLAW.out) (by decide)
        · rw [if_neg c20] at H
          have c20b0 : (t284 == t285) = false := by simpa using c20
          (try (have c20b1 : decide (t284 = t285) = false := by simpa using c20))
          (try (have c20b2 : (t284 == t285) = false := by simpa using c20))
          (try (have c20b3 : ¬ (t284 = t285) := by simpa using c20))
          clear c20
          exact absurd ((Option.some.inj H).trans HLAW.out) (by decide)

/-! ### pure Gr0 -/
-- PURE needs heliast/heliastlaw12.Graph needs heliast/heliastlaw12.known needs heliast/heliastref12.Same
open Go.Proofs.He
theorem rd_get {l : List Int} {i : Nat} (h : i < l.length) : rd l (i : Int) = l[i] := by simp [rd, h]
theorem g12_row (g : List (List Int)) (i : Nat) : rd_L1 g (i : Int) = g.getD i [] := by unfold rd_L1; rw [Int.toNat_natCast]
theorem g12_Same_l0 (a b : List Int) (hl : a.length = b.length) (hb : b.length < 4611686018427387904) (d : Nat) : ∀ (i k : Nat), i + d = a.length → d + 1 ≤ k → heliastref12_Same.l0 k a b (i : Int) = some (decide (a.drop i = b.drop i)) := by
  induction d with
  | zero =>
    intro i k hd hk
    obtain ⟨k, rfl⟩ : ∃ m, k = m + 1 := ⟨k - 1, by omega⟩
    simp only [heliastref12_Same.l0]
    rw [if_neg (by omega), List.drop_eq_nil_of_le (by omega), List.drop_eq_nil_of_le (by omega)]; rfl
  | succ d ih =>
    intro i k hd hk
    obtain ⟨k, rfl⟩ : ∃ m, k = m + 1 := ⟨k - 1, by omega⟩
    have hi : i < a.length := by omega
    have hj : i < b.length := by omega
    have hw : wrap64 ((i : Int) + 1) = ((i + 1 : Nat) : Int) := by rw [wrap_sm (by omega) (by omega)]; rfl
    have hd2 : (a.drop i = b.drop i) ↔ (a[i] = b[i] ∧ a.drop (i + 1) = b.drop (i + 1)) := by
      rw [List.drop_eq_getElem_cons hi, List.drop_eq_getElem_cons hj, List.cons.injEq]
    simp only [heliastref12_Same.l0]
    rw [if_pos (by omega), if_pos (by omega), if_pos (by omega), rd_get hi, rd_get hj, decide_eq_decide.2 hd2]
    by_cases he : a[i] = b[i]
    · rw [if_pos he, hw, ih (i + 1) k (by omega) (by omega)]
      simp only [he, true_and]
    · rw [if_neg he, decide_eq_false (fun h => he h.1)]
theorem g12_Same (a b : List Int) (hb : b.length < 4611686018427387904) (k : Nat) (hk : b.length + 1 ≤ k) : heliastref12_Same.f k a b = some (decide (a = b)) := by
  unfold heliastref12_Same.f
  by_cases hl : a.length = b.length
  · have h := g12_Same_l0 a b hl hb a.length 0 k (by omega) (by omega)
    rw [if_pos (by omega), show (0 : Int) = ((0 : Nat) : Int) from rfl, h]
    rfl
  · rw [if_neg (by omega)]
    have : a ≠ b := fun e => hl (by rw [e])
    simp [this]
/-! Graph -/
def g12_sel (c : List Int) (i j : Int) : Bool := decide ((Int.tmod (wrap64 ((wrap64 ((wrap64 (rd c i)) + (wrap64 (j * 7)))) + (wrap64 (rd c (Int.tmod (wrap64 (i + j)) (c.length : Int)))))) 5) = 0) || (decide (j = wrap64 (i - 1)) && decide ((Int.tmod (rd c i) 3) = 0))
theorem g12_Graph_l1 (c : List Int) (G : List (List Int)) (i : Nat) (hi : i < c.length) (hi2 : i < 24) (hG : G.length < 5864062014805) (d : Nat) : ∀ (j : Nat) (L : List Int) (K k : Nat), K = k + d + 1 → j + d = i → L.length ≤ j →
    heliastlaw12_Graph.l1 K c G (i : Int) L (j : Int) = heliastlaw12_Graph.l0 k c (G ++ [L ++ (seg j d).filter (g12_sel c i)]) (((i + 1 : Nat) : Int)) := by
  induction d with
  | zero =>
    intro j L K k hK hd hL
    subst hK
    have hw : wrap64 ((i : Int) + 1) = ((i + 1 : Nat) : Int) := by rw [wrap_sm (by omega) (by omega)]; rfl
    simp only [heliastlaw12_Graph.l1]
    rw [if_neg (by omega), if_pos hG, hw, seg_zero]
    simp
  | succ d ih =>
    intro j L K0 k hK hd hL
    obtain ⟨K, rfl⟩ : ∃ m, K0 = m + 1 := ⟨K0 - 1, by omega⟩
    have hw : wrap64 ((j : Int) + 1) = ((j + 1 : Nat) : Int) := by rw [wrap_sm (by omega) (by omega)]; rfl
    have hw2 : wrap64 ((i : Int) + j) = ((i + j : Nat) : Int) := by rw [wrap_sm (by omega) (by omega)]; rfl
    have hc0 : 0 < (c.length : Int) := by omega
    have hm0 : 0 ≤ Int.tmod ((i + j : Nat) : Int) (c.length : Int) := Int.tmod_nonneg _ (by omega)
    have hm1 : Int.tmod ((i + j : Nat) : Int) (c.length : Int) < (c.length : Int) := Int.tmod_lt_of_pos _ hc0
    simp only [heliastlaw12_Graph.l1]
    rw [if_pos (by omega), if_pos (by omega), if_pos (by omega), if_neg (by omega), hw2, if_pos hm0, if_pos hm1, hw, seg_succ]
    by_cases h1 : (Int.tmod (wrap64 ((wrap64 ((wrap64 (rd c i)) + (wrap64 ((j : Int) * 7)))) + (wrap64 (rd c (Int.tmod ((i + j : Nat) : Int) (c.length : Int)))))) 5) = 0
    · have hs : g12_sel c i j = true := by unfold g12_sel; rw [hw2, decide_eq_true h1]; rfl
      rw [if_pos h1, if_pos (by omega), ih (j + 1) (L ++ [(j : Int)]) K k (by omega) (by omega) (by simp; omega), List.filter_cons_of_pos hs]
      simp
    · rw [if_neg h1]
      by_cases h2 : (j : Int) = wrap64 ((i : Int) - 1)
      · rw [if_pos h2]
        by_cases h3 : (Int.tmod (rd c i) 3) = 0
        · have hs : g12_sel c i j = true := by unfold g12_sel; rw [hw2, decide_eq_false h1, decide_eq_true h2, decide_eq_true h3]; rfl
          rw [if_pos h3, if_pos (by omega), ih (j + 1) (L ++ [(j : Int)]) K k (by omega) (by omega) (by simp; omega), List.filter_cons_of_pos hs]
          simp
        · have hs : ¬ g12_sel c i j = true := by unfold g12_sel; rw [hw2, decide_eq_false h1, decide_eq_true h2, decide_eq_false h3]; simp
          rw [if_neg h3, ih (j + 1) L K k (by omega) (by omega) (by omega), List.filter_cons_of_neg hs]
      · have hs : ¬ g12_sel c i j = true := by unfold g12_sel; rw [hw2, decide_eq_false h1, decide_eq_false h2]; simp
        rw [if_neg h2, ih (j + 1) L K k (by omega) (by omega) (by omega), List.filter_cons_of_neg hs]
def g12_rows (c : List Int) (i d : Nat) : List (List Int) := (List.range' i d).map fun n => (seg 0 n).filter (g12_sel c n)
theorem g12_Graph_l0 (c : List Int) (m : Nat) (hm : m = min c.length 24) (d : Nat) : ∀ (i : Nat) (G : List (List Int)) (k : Nat), i + d = m → G.length = i → 30 * d + 3 ≤ k → heliastlaw12_Graph.l0 k c G (i : Int) = some (G ++ g12_rows c i d) := by
  induction d with
  | zero =>
    intro i G k hd hG hk
    obtain ⟨k, rfl⟩ : ∃ q, k = q + 2 := ⟨k - 2, by omega⟩
    simp only [heliastlaw12_Graph.l0, heliastlaw12_Graph.j1]
    by_cases h : (i : Int) < (c.length : Int)
    · rw [if_pos h, decide_eq_false (by omega)]; simp [g12_rows]
    · rw [if_neg h]; simp [g12_rows]
  | succ d ih =>
    intro i G k hd hG hk
    obtain ⟨k, rfl⟩ : ∃ q, k = (q + i + 1) + 2 := ⟨k - i - 3, by omega⟩
    have h1 := g12_Graph_l1 c G i (by omega) (by omega) (by omega) i 0 [] (k + i + 1) k rfl (by omega) (by simp)
    simp only [heliastlaw12_Graph.l0, heliastlaw12_Graph.j1]
    rw [if_pos (by omega), decide_eq_true (by omega), if_pos rfl, show (0 : Int) = ((0 : Nat) : Int) from rfl, h1, List.nil_append, ih (i + 1) _ k (by omega) (by simp; omega) (by omega)]
    unfold g12_rows
    rw [List.range'_succ, List.map_cons, List.append_assoc, List.singleton_append]
def g12_graph (c : List Int) : List (List Int) := g12_rows c 0 (min c.length 24)
theorem g12_Graph (c : List Int) (k : Nat) (hk : 1000 ≤ k) : heliastlaw12_Graph.f k c = some (g12_graph c) := by
  unfold heliastlaw12_Graph.f
  rw [show (0 : Int) = ((0 : Nat) : Int) from rfl, g12_Graph_l0 c (min c.length 24) rfl (min c.length 24) 0 [] k (by omega) rfl (by omega)]
  rfl
theorem g12_graph_length (c : List Int) : (g12_graph c).length = min c.length 24 := by simp [g12_graph, g12_rows]
theorem g12_graph_good (c : List Int) : BackG (g12_graph c) := by
  have key : ∀ n, n < (g12_graph c).length → (g12_graph c).getD n [] = (seg 0 n).filter (g12_sel c n) := by
    intro n hn
    rw [g12_graph_length] at hn
    unfold g12_graph g12_rows
    rw [List.getD_eq_getElem?_getD, List.getElem?_map, List.getElem?_range' hn]
    simp
  refine ⟨fun n hn => ?_, fun n hn x hx => ?_⟩
  · rw [key n hn]; exact (seg_rises 0 n).filter _
  · rw [key n hn] at hx
    have := mem_seg.1 (List.mem_filter.1 hx).1
    omega
theorem g12_graph_small (c : List Int) : (g12_graph c).length ≤ 24 := by rw [g12_graph_length]; omega
set_option maxRecDepth 100000 in
theorem g12_known_30 : heliastlaw12_known.f 30 = some true := by decide +kernel
theorem g12_known (k : Nat) (hk : 30 ≤ k) : heliastlaw12_known.f k = some true := by
  obtain ⟨d, rfl⟩ : ∃ d, k = 30 + d := ⟨k - 30, by omega⟩
  exact more_rounds heliastlaw12_known.mono 30 d true g12_known_30
theorem g12_Reach (g : List (List Int)) (l : List Int) (hg : g.length ≤ 24) : graph_Reach.f g l = some (rchL g l) := by unfold graph_Reach.f; rw [if_pos (by omega)]
theorem g12_Order (g : List (List Int)) (l r : List Int) (hg : g.length ≤ 24) : graph_Order.f g l r = some (ordL g l r) := by unfold graph_Order.f; rw [if_pos (by omega)]
theorem pickL_length (g : List (List Int)) (p : Int → Bool) : (pickL g p).length ≤ g.length := by
  unfold pickL; exact Nat.le_trans (List.length_filter_le _ _) (by simp)

/-! ### pure Gr1 -/
-- PURE needs heliast/heliastlaw12.Graph needs heliast/heliastlaw12.known needs heliast/heliastref12.Same needs heliast/heliastref12.Set
open Go.Proofs.He
theorem g12_Has_l0 (l : List Int) (x : Int) (hl : l.length < 4611686018427387904) (d : Nat) : ∀ (i k : Nat), i + d = l.length → d + 1 ≤ k → heliastref12_Has.l0 k l x (i : Int) = some (decide (x ∈ l.drop i)) := by
  induction d with
  | zero =>
    intro i k hd hk
    obtain ⟨k, rfl⟩ : ∃ m, k = m + 1 := ⟨k - 1, by omega⟩
    simp only [heliastref12_Has.l0]
    rw [if_neg (by omega), List.drop_eq_nil_of_le (by omega)]; simp
  | succ d ih =>
    intro i k hd hk
    obtain ⟨k, rfl⟩ : ∃ m, k = m + 1 := ⟨k - 1, by omega⟩
    have hi : i < l.length := by omega
    have hw : wrap64 ((i : Int) + 1) = ((i + 1 : Nat) : Int) := by rw [wrap_sm (by omega) (by omega)]; rfl
    simp only [heliastref12_Has.l0]
    rw [if_pos (by omega), if_pos (by omega), rd_get hi, List.drop_eq_getElem_cons hi]
    by_cases he : l[i] = x
    · rw [if_pos he]; simp [he]
    · rw [if_neg he, hw, ih (i + 1) k (by omega) (by omega)]
      have hx : x ≠ l[i] := fun e => he e.symm
      refine congrArg some (decide_eq_decide.2 ?_)
      rw [List.mem_cons]
      exact ⟨fun h => .inr h, fun h => h.resolve_left hx⟩
theorem g12_Has (l : List Int) (x : Int) (hl : l.length < 4611686018427387904) (k : Nat) (hk : l.length + 1 ≤ k) : heliastref12_Has.f k l x = some (decide (x ∈ l)) := by
  unfold heliastref12_Has.f
  rw [show (0 : Int) = ((0 : Nat) : Int) from rfl, g12_Has_l0 l x hl l.length 0 k (by omega) hk]; rfl
theorem g12_Set_l0 (g : List (List Int)) (l : List Int) (hg : g.length < 17592186044416) (hl : l.length < 4611686018427387904) (d : Nat) : ∀ (i : Nat) (out : List Int) (k : Nat), i + d = g.length → out.length ≤ i → d + l.length + 2 ≤ k →
    heliastref12_Set.l0 k g l out (i : Int) = some (out ++ (seg i d).filter (fun x => decide (x ∈ l))) := by
  induction d with
  | zero =>
    intro i out k hd ho hk
    obtain ⟨k, rfl⟩ : ∃ m, k = m + 1 := ⟨k - 1, by omega⟩
    simp only [heliastref12_Set.l0]
    rw [if_neg (by omega), seg_zero]; simp
  | succ d ih =>
    intro i out k hd ho hk
    obtain ⟨k, rfl⟩ : ∃ m, k = m + 1 := ⟨k - 1, by omega⟩
    have hw : wrap64 ((i : Int) + 1) = ((i + 1 : Nat) : Int) := by rw [wrap_sm (by omega) (by omega)]; rfl
    simp only [heliastref12_Set.l0]
    rw [if_pos (by omega), g12_Has l i hl k (by omega), Option.bind_some, hw, seg_succ]
    by_cases h : (i : Int) ∈ l
    · rw [if_pos (by simpa using h), if_pos (by omega), ih (i + 1) _ k (by omega) (by simp; omega) (by omega), List.filter_cons_of_pos (by simpa using h)]; simp
    · rw [if_neg (by simpa using h), ih (i + 1) _ k (by omega) (by omega) (by omega), List.filter_cons_of_neg (by simpa using h)]
theorem g12_Set (g : List (List Int)) (l : List Int) (hg : g.length < 17592186044416) (hl : l.length < 4611686018427387904) (k : Nat) (hk : g.length + l.length + 2 ≤ k) : heliastref12_Set.f k g l = some (setL g l) := by
  unfold heliastref12_Set.f setL
  rw [show (0 : Int) = ((0 : Nat) : Int) from rfl, g12_Set_l0 g l hg hl g.length 0 [] k (by omega) (by simp) hk, pickL_seg]; rfl

/-! ### pure Gr4 -/
-- PURE needs heliast/heliastlaw12.Graph needs heliast/heliastlaw12.known needs heliast/heliastref12.Set needs heliast/heliastlaw12.Some
open Go.Proofs.He
theorem g12_Some_l0 (c : List Int) (d : Nat) : ∀ (i : Nat) (L : List Int) (k : Nat), i + d = min c.length 20 → L.length = i → d + 2 ≤ k → ∃ L', heliastlaw12_Some.l0 k c L (i : Int) = some L' ∧ L'.length ≤ 20 := by
  induction d with
  | zero =>
    intro i L k hd hL hk
    obtain ⟨k, rfl⟩ : ∃ m, k = m + 1 := ⟨k - 1, by omega⟩
    refine ⟨L, ?_, by omega⟩
    simp only [heliastlaw12_Some.l0]
    by_cases h : (i : Int) < (c.length : Int)
    · rw [if_pos h, if_neg (by omega)]
    · rw [if_neg h]
  | succ d ih =>
    intro i L k hd hL hk
    obtain ⟨k, rfl⟩ : ∃ m, k = m + 1 := ⟨k - 1, by omega⟩
    have hw : wrap64 ((i : Int) + 1) = ((i + 1 : Nat) : Int) := by rw [wrap_sm (by omega) (by omega)]; rfl
    simp only [heliastlaw12_Some.l0]
    rw [if_pos (by omega), if_pos (by omega), if_pos (by omega), if_pos (by omega), hw]
    exact ih (i + 1) _ k (by omega) (by simp; omega) (by omega)
theorem g12_Some (c : List Int) : ∃ L, L.length ≤ 20 ∧ ∀ k, 30 ≤ k → heliastlaw12_Some.f k c = some L := by
  obtain ⟨L, h, hl⟩ := g12_Some_l0 c (min c.length 20) 0 [] 30 (by omega) rfl (by omega)
  refine ⟨L, hl, fun k hk => ?_⟩
  obtain ⟨d, rfl⟩ : ∃ d, k = 30 + d := ⟨k - 30, by omega⟩
  exact more_rounds (heliastlaw12_Some.mono c) 30 d L h
theorem set_of {g : List (List Int)} {l : List Int} {p : Int → Bool} (h : ∀ x : Int, 0 ≤ x → x < g.length → (x ∈ l ↔ p x = true)) : setL g l = pickL g p := by
  refine rises_eq (pickL_rises g _) (pickL_rises g _) (fun x => ?_)
  rw [mem_setL, mem_pickL]
  constructor
  · rintro ⟨hv, hx⟩; exact ⟨hv, (h x hv.1 hv.2).1 hx⟩
  · rintro ⟨hv, hx⟩; exact ⟨hv, (h x hv.1 hv.2).2 hx⟩

end Go.Proofs.Ytmmalieacakcbaa.S

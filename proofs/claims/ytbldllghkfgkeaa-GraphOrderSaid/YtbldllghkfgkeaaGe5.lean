-- Written by heprint.py (this session's, over the kit's print.py): not trusted, Lean checks it.
import Derived.Test.YtbldllghkfgkeaaGe0
import Derived.Test.YtbldllghkfgkeaaGe1
import Derived.Test.YtbldllghkfgkeaaGe2
import Derived.Test.YtbldllghkfgkeaaGe3
import Derived.Test.YtbldllghkfgkeaaGe4
namespace Go.Proofs.Ytbldllghkfgkeaa.S
open Go.RowKit Go.Proofs.YtbldllghkfgkeaaW.PrintWords Go.Proofs.YtbldllghkfgkeaaW.PrintLast Go.Proofs.YtbldllghkfgkeaaW.PrintMore
attribute [local go_sem] max2_int min2_int max_two min_two max_three min_three max_four min_four   -- for this text's walks alone
set_option linter.unusedVariables false
set_option linter.unusedSimpArgs false

/-! ### heliastlaw12_GraphOrder: function 10 -/
mutual
def heliastlaw12_GraphOrder.j1 : Nat → List (List Int) → List Int → List Int → Option (Bool)
  | 0, _, _, _ => none
  | k + 1, x7, x8, x9 => (graph_Order.f x7 x8 x9).bind fun t168 => ((heliastref12_Set.f k x7 x8).bind fun t171 => (if (t168.length : Int) = (t171.length : Int) then (heliastlaw12_GraphOrder.l1 k x7 t168 t171 0) else (some false)))
def heliastlaw12_GraphOrder.l1 : Nat → List (List Int) → List Int → List Int → Int → Option (Bool)
  | 0, _, _, _, _ => none
  | k + 1, x7, x11, x12, x13 => if x13 < (x11.length : Int) then (if 0 ≤ x13 then ((graph_Past.f x7 (rd x11 x13)).bind fun t176 => (heliastlaw12_GraphOrder.l2 k x7 x11 x12 x13 t176 (wrap64 (x13 + 1)))) else (none)) else ((heliastlaw12_known.f k).bind fun t174 => (some t174))
def heliastlaw12_GraphOrder.l2 : Nat → List (List Int) → List Int → List Int → Int → List Int → Int → Option (Bool)
  | 0, _, _, _, _, _, _ => none
  | k + 1, x7, x11, x12, x13, x14, x15 => if x15 < (x11.length : Int) then (if 0 ≤ x15 then ((heliastref12_Has.f k x14 (rd x11 x15)).bind fun t180 => (if t180 = true then (some false) else (if 0 ≤ x13 then (if x13 < (x11.length : Int) then (if (rd x11 x13) = (rd x11 x15) then (some false) else (heliastlaw12_GraphOrder.l2 k x7 x11 x12 x13 x14 (wrap64 (x15 + 1)))) else (none)) else (none)))) else (none)) else (if 0 ≤ x13 then (if x13 < (x11.length : Int) then ((heliastref12_Has.f k x12 (rd x11 x13)).bind fun t184 => (if t184 = true then (heliastlaw12_GraphOrder.l1 k x7 x11 x12 (wrap64 (x13 + 1))) else (some false))) else (none)) else (none))
def heliastlaw12_GraphOrder.l0 : Nat → List Int → List (List Int) → List Int → List Int → Int → Option (Bool)
  | 0, _, _, _, _, _ => none
  | k + 1, x2, x7, x8, x9, x10 => if x10 < (x2.length : Int) then (if x10 < 30 then (if 0 ≤ x10 then (if x9.length < 17592186044416 then (heliastlaw12_GraphOrder.l0 k x2 x7 x8 (x9 ++ [wrap64 (Int.tmod (rd x2 x10) 7)]) (wrap64 (x10 + 1))) else (none)) else (none)) else (heliastlaw12_GraphOrder.j1 k x7 x8 x9)) else (heliastlaw12_GraphOrder.j1 k x7 x8 x9)
end
def heliastlaw12_GraphOrder.f (k : Nat) (l0 : List Int) (l1 : List Int) (l2 : List Int) : Option (Bool) := (heliastlaw12_Graph.f k l0).bind fun t158 => ((heliastlaw12_Some.f k l1).bind fun t161 => (heliastlaw12_GraphOrder.l0 k l2 t158 t161 ([] : List Int) 0))
theorem heliastlaw12_GraphOrder.mono_l : ∀ k, (∀ y0 y1 y2, LeO (heliastlaw12_GraphOrder.j1 k y0 y1 y2) (heliastlaw12_GraphOrder.j1 (k + 1) y0 y1 y2)) ∧ (∀ y0 y1 y2 y3, LeO (heliastlaw12_GraphOrder.l1 k y0 y1 y2 y3) (heliastlaw12_GraphOrder.l1 (k + 1) y0 y1 y2 y3)) ∧ (∀ y0 y1 y2 y3 y4 y5, LeO (heliastlaw12_GraphOrder.l2 k y0 y1 y2 y3 y4 y5) (heliastlaw12_GraphOrder.l2 (k + 1) y0 y1 y2 y3 y4 y5)) ∧ (∀ y0 y1 y2 y3 y4, LeO (heliastlaw12_GraphOrder.l0 k y0 y1 y2 y3 y4) (heliastlaw12_GraphOrder.l0 (k + 1) y0 y1 y2 y3 y4))
  | 0 => ⟨fun _ _ _ r h => by simp [heliastlaw12_GraphOrder.j1] at h, fun _ _ _ _ r h => by simp [heliastlaw12_GraphOrder.l1] at h, fun _ _ _ _ _ _ r h => by simp [heliastlaw12_GraphOrder.l2] at h, fun _ _ _ _ _ r h => by simp [heliastlaw12_GraphOrder.l0] at h⟩
  | k + 1 => by
    obtain ⟨ih0, ih1, ih2, ih3⟩ := heliastlaw12_GraphOrder.mono_l k
    refine ⟨?_, ?_, ?_, ?_⟩
    · intro y0 y1 y2
      unfold heliastlaw12_GraphOrder.j1
      repeat' first
      | (with_reducible exact ih0 _ _ _)
      | (with_reducible exact ih1 _ _ _ _)
      | (with_reducible exact ih2 _ _ _ _ _ _)
      | (with_reducible exact ih3 _ _ _ _ _)
      | (with_reducible exact heliastlaw12_Graph.mono _ _)
      | (with_reducible exact heliastlaw12_Some.mono _ _)
      | (with_reducible exact heliastlaw12_known.mono _)
      | (with_reducible exact heliastref12_Has.mono _ _ _)
      | (with_reducible exact heliastref12_Set.mono _ _ _)
      | (with_reducible exact LeO.refl _)
      | (with_reducible exact LeO.none _)
      | (with_reducible refine LeO.ite ?_ ?_)
      | (with_reducible refine LeO.bind ?_ (fun _ => ?_))
      | exact ih0 _ _ _
      | exact ih1 _ _ _ _
      | exact ih2 _ _ _ _ _ _
      | exact ih3 _ _ _ _ _
      | exact heliastlaw12_Graph.mono _ _
      | exact heliastlaw12_Some.mono _ _
      | exact heliastlaw12_known.mono _
      | exact heliastref12_Has.mono _ _ _
      | exact heliastref12_Set.mono _ _ _
      | exact LeO.none _
      | refine LeO.ite ?_ ?_
      | refine LeO.bind ?_ (fun _ => ?_)
    · intro y0 y1 y2 y3
      unfold heliastlaw12_GraphOrder.l1
      repeat' first
      | (with_reducible exact ih0 _ _ _)
      | (with_reducible exact ih1 _ _ _ _)
      | (with_reducible exact ih2 _ _ _ _ _ _)
      | (with_reducible exact ih3 _ _ _ _ _)
      | (with_reducible exact heliastlaw12_Graph.mono _ _)
      | (with_reducible exact heliastlaw12_Some.mono _ _)
      | (with_reducible exact heliastlaw12_known.mono _)
      | (with_reducible exact heliastref12_Has.mono _ _ _)
      | (with_reducible exact heliastref12_Set.mono _ _ _)
      | (with_reducible exact LeO.refl _)
      | (with_reducible exact LeO.none _)
      | (with_reducible refine LeO.ite ?_ ?_)
      | (with_reducible refine LeO.bind ?_ (fun _ => ?_))
      | exact ih0 _ _ _
      | exact ih1 _ _ _ _
      | exact ih2 _ _ _ _ _ _
      | exact ih3 _ _ _ _ _
      | exact heliastlaw12_Graph.mono _ _
      | exact heliastlaw12_Some.mono _ _
      | exact heliastlaw12_known.mono _
      | exact heliastref12_Has.mono _ _ _
      | exact heliastref12_Set.mono _ _ _
      | exact LeO.none _
      | refine LeO.ite ?_ ?_
      | refine LeO.bind ?_ (fun _ => ?_)
    · intro y0 y1 y2 y3 y4 y5
      unfold heliastlaw12_GraphOrder.l2
      repeat' first
      | (with_reducible exact ih0 _ _ _)
      | (with_reducible exact ih1 _ _ _ _)
      | (with_reducible exact ih2 _ _ _ _ _ _)
      | (with_reducible exact ih3 _ _ _ _ _)
      | (with_reducible exact heliastlaw12_Graph.mono _ _)
      | (with_reducible exact heliastlaw12_Some.mono _ _)
      | (with_reducible exact heliastlaw12_known.mono _)
      | (with_reducible exact heliastref12_Has.mono _ _ _)
      | (with_reducible exact heliastref12_Set.mono _ _ _)
      | (with_reducible exact LeO.refl _)
      | (with_reducible exact LeO.none _)
      | (with_reducible refine LeO.ite ?_ ?_)
      | (with_reducible refine LeO.bind ?_ (fun _ => ?_))
      | exact ih0 _ _ _
      | exact ih1 _ _ _ _
      | exact ih2 _ _ _ _ _ _
      | exact ih3 _ _ _ _ _
      | exact heliastlaw12_Graph.mono _ _
      | exact heliastlaw12_Some.mono _ _
      | exact heliastlaw12_known.mono _
      | exact heliastref12_Has.mono _ _ _
      | exact heliastref12_Set.mono _ _ _
      | exact LeO.none _
      | refine LeO.ite ?_ ?_
      | refine LeO.bind ?_ (fun _ => ?_)
    · intro y0 y1 y2 y3 y4
      unfold heliastlaw12_GraphOrder.l0
      repeat' first
      | (with_reducible exact ih0 _ _ _)
      | (with_reducible exact ih1 _ _ _ _)
      | (with_reducible exact ih2 _ _ _ _ _ _)
      | (with_reducible exact ih3 _ _ _ _ _)
      | (with_reducible exact heliastlaw12_Graph.mono _ _)
      | (with_reducible exact heliastlaw12_Some.mono _ _)
      | (with_reducible exact heliastlaw12_known.mono _)
      | (with_reducible exact heliastref12_Has.mono _ _ _)
      | (with_reducible exact heliastref12_Set.mono _ _ _)
      | (with_reducible exact LeO.refl _)
      | (with_reducible exact LeO.none _)
      | (with_reducible refine LeO.ite ?_ ?_)
      | (with_reducible refine LeO.bind ?_ (fun _ => ?_))
      | exact ih0 _ _ _
      | exact ih1 _ _ _ _
      | exact ih2 _ _ _ _ _ _
      | exact ih3 _ _ _ _ _
      | exact heliastlaw12_Graph.mono _ _
      | exact heliastlaw12_Some.mono _ _
      | exact heliastlaw12_known.mono _
      | exact heliastref12_Has.mono _ _ _
      | exact heliastref12_Set.mono _ _ _
      | exact LeO.none _
      | refine LeO.ite ?_ ?_
      | refine LeO.bind ?_ (fun _ => ?_)
theorem heliastlaw12_GraphOrder.mono : ∀ a0 a1 a2 k, LeO (heliastlaw12_GraphOrder.f k a0 a1 a2) (heliastlaw12_GraphOrder.f (k + 1) a0 a1 a2) := by
  intro a0 a1 a2 k
  obtain ⟨ih0, ih1, ih2, ih3⟩ := heliastlaw12_GraphOrder.mono_l k
  unfold heliastlaw12_GraphOrder.f
  repeat' first
      | (with_reducible exact ih0 _ _ _)
      | (with_reducible exact ih1 _ _ _ _)
      | (with_reducible exact ih2 _ _ _ _ _ _)
      | (with_reducible exact ih3 _ _ _ _ _)
      | (with_reducible exact heliastlaw12_Graph.mono _ _)
      | (with_reducible exact heliastlaw12_Some.mono _ _)
      | (with_reducible exact heliastlaw12_known.mono _)
      | (with_reducible exact heliastref12_Has.mono _ _ _)
      | (with_reducible exact heliastref12_Set.mono _ _ _)
      | (with_reducible exact LeO.refl _)
      | (with_reducible exact LeO.none _)
      | (with_reducible refine LeO.ite ?_ ?_)
      | (with_reducible refine LeO.bind ?_ (fun _ => ?_))
      | exact ih0 _ _ _
      | exact ih1 _ _ _ _
      | exact ih2 _ _ _ _ _ _
      | exact ih3 _ _ _ _ _
      | exact heliastlaw12_Graph.mono _ _
      | exact heliastlaw12_Some.mono _ _
      | exact heliastlaw12_known.mono _
      | exact heliastref12_Has.mono _ _ _
      | exact heliastref12_Set.mono _ _ _
      | exact LeO.none _
      | refine LeO.ite ?_ ?_
      | refine LeO.bind ?_ (fun _ => ?_)
set_option maxHeartbeats 8000000 in
set_option maxRecDepth 100000 in
theorem heliastlaw12_GraphOrder.calls (k : Nat) (A0 : Option Addr) (c0 : Nat) (l0 : List Int) (A1 : Option Addr) (c1 : Nat) (l1 : List Int) (A2 : Option Addr) (c2 : Nat) (l2 : List Int) (r : Bool) (w : World) (hr0 : Kd.C (Kd.int .u8) w A0 l0.length l0) (hc0 : l0.length ≤ c0) (hr1 : Kd.C (Kd.int .u8) w A1 l1.length l1) (hc1 : l1.length ≤ c1) (hr2 : Kd.C (Kd.int .u8) w A2 l2.length l2) (hc2 : l2.length ≤ c2) (h : heliastlaw12_GraphOrder.f k l0 l1 l2 = some r) (hlaw : r = true) :
    Calls Try.prog 10 #[.slice A0 l0.length c0, .slice A1 l1.length c1, .slice A2 l2.length c2] w fun e w' => e = .returned (.bool r) ∧ Below w.heap.size w w' := by
  have HLAW := Aside0.mk hlaw
  clear hlaw
  have HR0 := Aside0.mk hr0
  have HC0 := Aside0.mk hc0
  clear hr0 hc0
  have HR1 := Aside0.mk hr1
  have HC1 := Aside0.mk hc1
  clear hr1 hc1
  have HR2 := Aside0.mk hr2
  have HC2 := Aside0.mk hc2
  clear hr2 hc2
  have HB := Aside0.mk (Below.refl w.heap.size w)
  have H : ((heliastlaw12_Graph.f k l0).bind fun t158 => ((heliastlaw12_Some.f k l1).bind fun t161 => (heliastlaw12_GraphOrder.l0 k l2 t158 t161 ([] : List Int) 0))) = some r := h
  clear h
  replace H := Option.bind_eq_some_iff.mp H
  obtain ⟨t158, A40, H⟩ := H
  replace H : ((heliastlaw12_Some.f k l1).bind fun t161 => (heliastlaw12_GraphOrder.l0 k l2 t158 t161 ([] : List Int) 0)) = some r := H
  have A4 := Aside0.mk A40
  clear A40
  replace H := Option.bind_eq_some_iff.mp H
  obtain ⟨t161, A50, H⟩ := H
  replace H : (heliastlaw12_GraphOrder.l0 k l2 t158 t161 ([] : List Int) 0) = some r := H
  have A5 := Aside0.mk A50
  clear A50
  have HC6 := Aside0.mk H
  clear H
  go_enter Try.func10, Try.ntmps10
  go_upto_block 0 with (first | (go_at_call 32; (with_reducible refine (heliastlaw12_Graph.calls k _ _ l0 t158 _ ?side1 ?side2 A4.out).mono ?_); (case side1 => repeat (first | exact HR0.out | (with_reducible refine Kd.C_alloc ?_ _) | (with_reducible refine Kd.C_drewN ?_ _) | (with_reducible refine Kd.C_drew ?_))); (case side2 => exact HC0.out); rintro e w7 ⟨v159, rfl, ho0, hb⟩; have n0_ := Aside0.mk (Kd.S_lower ho0 (below_size (by repeat (first | (with_reducible first | exact HB.out | apply below_alloc | apply pw_below_drewN | apply below_drew1) | exact HB.out)))); have n1_ := Aside0.mk (below_step (by repeat (first | (with_reducible first | exact HB.out | apply below_alloc | apply pw_below_drewN | apply below_drew1) | exact HB.out)) hb); clear HB; have HO160 := n0_; have HB := n1_; clear n0_ n1_; (try clear hb); (try clear hb2); (try clear hk); (try clear hi); (try clear ho0)) | (go_at_call 38; (with_reducible refine (heliastlaw12_Some.calls k _ _ l1 t161 _ ?side1 ?side2 A5.out).mono ?_); (case side1 => repeat (first | exact (Kd.C_below HR1.out HB.out) | (with_reducible refine Kd.C_alloc ?_ _) | (with_reducible refine Kd.C_drewN ?_ _) | (with_reducible refine Kd.C_drew ?_))); (case side2 => exact HC1.out); rintro e w8 ⟨v162, rfl, ho0, hb⟩; have n0_ := Aside0.mk (Kd.S_elder' (by (with_reducible repeat (first | apply Kd.S_alloc | apply Kd.S_drewN | apply Kd.S_drew)); exact HO160.out) (Kd.R_base ho0) hb); have n1_ := Aside0.mk (Kd.R_lower ho0 (below_size (by repeat (first | (with_reducible first | exact HB.out | apply below_alloc | apply pw_below_drewN | apply below_drew1) | exact HB.out)))); have n2_ := Aside0.mk (below_step (by repeat (first | (with_reducible first | exact HB.out | apply below_alloc | apply pw_below_drewN | apply below_drew1) | exact HB.out)) hb); clear HO160; clear HB; have HO160 := n0_; have HO163 := n1_; have HB := n2_; clear n0_ n1_ n2_; (try clear hb); (try clear hb2); (try clear hk); (try clear hi); (try clear ho0)))
  repeat (go_quiet (first | (go_at_call 32; (with_reducible refine (heliastlaw12_Graph.calls k _ _ l0 t158 _ ?side1 ?side2 A4.out).mono ?_); (case side1 => repeat (first | exact HR0.out | (with_reducible refine Kd.C_alloc ?_ _) | (with_reducible refine Kd.C_drewN ?_ _) | (with_reducible refine Kd.C_drew ?_))); (case side2 => exact HC0.out); rintro e w7 ⟨v159, rfl, ho0, hb⟩; have n0_ := Aside0.mk (Kd.S_lower ho0 (below_size (by repeat (first | (with_reducible first | exact HB.out | apply below_alloc | apply pw_below_drewN | apply below_drew1) | exact HB.out)))); have n1_ := Aside0.mk (below_step (by repeat (first | (with_reducible first | exact HB.out | apply below_alloc | apply pw_below_drewN | apply below_drew1) | exact HB.out)) hb); clear HB; have HO160 := n0_; have HB := n1_; clear n0_ n1_; (try clear hb); (try clear hb2); (try clear hk); (try clear hi); (try clear ho0)) | (go_at_call 38; (with_reducible refine (heliastlaw12_Some.calls k _ _ l1 t161 _ ?side1 ?side2 A5.out).mono ?_); (case side1 => repeat (first | exact (Kd.C_below HR1.out HB.out) | (with_reducible refine Kd.C_alloc ?_ _) | (with_reducible refine Kd.C_drewN ?_ _) | (with_reducible refine Kd.C_drew ?_))); (case side2 => exact HC1.out); rintro e w8 ⟨v162, rfl, ho0, hb⟩; have n0_ := Aside0.mk (Kd.S_elder' (by (with_reducible repeat (first | apply Kd.S_alloc | apply Kd.S_drewN | apply Kd.S_drew)); exact HO160.out) (Kd.R_base ho0) hb); have n1_ := Aside0.mk (Kd.R_lower ho0 (below_size (by repeat (first | (with_reducible first | exact HB.out | apply below_alloc | apply pw_below_drewN | apply below_drew1) | exact HB.out)))); have n2_ := Aside0.mk (below_step (by repeat (first | (with_reducible first | exact HB.out | apply below_alloc | apply pw_below_drewN | apply below_drew1) | exact HB.out)) hb); clear HO160; clear HB; have HO160 := n0_; have HO163 := n1_; have HB := n2_; clear n0_ n1_ n2_; (try clear hb); (try clear hb2); (try clear hk); (try clear hi); (try clear ho0))); go_upto_block 0 with (first | (go_at_call 32; (with_reducible refine (heliastlaw12_Graph.calls k _ _ l0 t158 _ ?side1 ?side2 A4.out).mono ?_); (case side1 => repeat (first | exact HR0.out | (with_reducible refine Kd.C_alloc ?_ _) | (with_reducible refine Kd.C_drewN ?_ _) | (with_reducible refine Kd.C_drew ?_))); (case side2 => exact HC0.out); rintro e w7 ⟨v159, rfl, ho0, hb⟩; have n0_ := Aside0.mk (Kd.S_lower ho0 (below_size (by repeat (first | (with_reducible first | exact HB.out | apply below_alloc | apply pw_below_drewN | apply below_drew1) | exact HB.out)))); have n1_ := Aside0.mk (below_step (by repeat (first | (with_reducible first | exact HB.out | apply below_alloc | apply pw_below_drewN | apply below_drew1) | exact HB.out)) hb); clear HB; have HO160 := n0_; have HB := n1_; clear n0_ n1_; (try clear hb); (try clear hb2); (try clear hk); (try clear hi); (try clear ho0)) | (go_at_call 38; (with_reducible refine (heliastlaw12_Some.calls k _ _ l1 t161 _ ?side1 ?side2 A5.out).mono ?_); (case side1 => repeat (first | exact (Kd.C_below HR1.out HB.out) | (with_reducible refine Kd.C_alloc ?_ _) | (with_reducible refine Kd.C_drewN ?_ _) | (with_reducible refine Kd.C_drew ?_))); (case side2 => exact HC1.out); rintro e w8 ⟨v162, rfl, ho0, hb⟩; have n0_ := Aside0.mk (Kd.S_elder' (by (with_reducible repeat (first | apply Kd.S_alloc | apply Kd.S_drewN | apply Kd.S_drew)); exact HO160.out) (Kd.R_base ho0) hb); have n1_ := Aside0.mk (Kd.R_lower ho0 (below_size (by repeat (first | (with_reducible first | exact HB.out | apply below_alloc | apply pw_below_drewN | apply below_drew1) | exact HB.out)))); have n2_ := Aside0.mk (below_step (by repeat (first | (with_reducible first | exact HB.out | apply below_alloc | apply pw_below_drewN | apply below_drew1) | exact HB.out)) hb); clear HO160; clear HB; have HO160 := n0_; have HO163 := n1_; have HB := n2_; clear n0_ n1_ n2_; (try clear hb); (try clear hb2); (try clear hk); (try clear hi); (try clear ho0))))
  (try simp only [Act.put, List.setIfInBounds_toArray, List.set_cons_zero, List.set_cons_succ])
  go_cut [9] (fun v9 wc => ∃ (kq : Nat) (x9_5 : List Int), Aside0 (heliastlaw12_GraphOrder.j1 kq t158 t161 x9_5 = some r) ∧ Aside0 (kq ≤ k) ∧ Aside0 (Kd.S (Kd.slice 3 (Kd.int .i64)) 51 wc w.heap.size (fun k_ => some k_ ≠ (v162 : Value).ownBlock ∧ some k_ ≠ (v9 : Value).ownBlock) v159 t158) ∧ Aside0 (Kd.R (Kd.int .i64) 3 wc w.heap.size (fun k_ => some k_ ≠ (v9 : Value).ownBlock) v162 t161) ∧ Aside0 (Kd.R (Kd.int .i64) 3 wc w.heap.size (fun k_ => some k_ ≠ (v162 : Value).ownBlock) v9 x9_5) ∧ Aside0 (Below w.heap.size w wc))
  case first =>
    have H := HC6.out
    clear HC6
    have H' := Aside0.mk H
    clear H
    go_wp2
    repeat (go_quiet (fail); try go_wp2)
    go_loopg [9, 10] k (fun kq v9 v10 w' => ∃ (x9_1 : List Int) (x10_1 : Int), v10 = .int .i64 x10_1 ∧ Aside0 (heliastlaw12_GraphOrder.l0 kq l2 t158 t161 x9_1 x10_1 = some r) ∧ Aside0 (kq ≤ k) ∧ Aside0 (Kd.S (Kd.slice 3 (Kd.int .i64)) 51 w' w.heap.size (fun k_ => some k_ ≠ (v162 : Value).ownBlock ∧ some k_ ≠ (v9 : Value).ownBlock) v159 t158) ∧ Aside0 (Kd.R (Kd.int .i64) 3 w' w.heap.size (fun k_ => some k_ ≠ (v9 : Value).ownBlock) v162 t161) ∧ Aside0 (Kd.R (Kd.int .i64) 3 w' w.heap.size (fun k_ => some k_ ≠ (v162 : Value).ownBlock) v9 x9_1) ∧ Aside0 (Below w.heap.size w w'))
    case atStart => exact ⟨(([] : List Int)), (0), (by first | rfl | (simp; done) | (simp [*]; done)), H', ⟨Nat.le_refl _⟩, ⟨by (with_reducible repeat (first | apply Kd.S_alloc | apply Kd.S_drewN | apply Kd.S_drew)); exact Kd.S_mono HO160.out (fun _ hk => ⟨hk.2, (by simp [Value.ownBlock])⟩)⟩, ⟨by (with_reducible repeat (first | apply Kd.R_alloc | apply Kd.R_drewN | apply Kd.R_drew)); exact Kd.R_mono HO163.out (fun _ hk => (by simp [Value.ownBlock]))⟩, ⟨by first | exact Kd.R_nil _ _ _ _ _ | exact Kd.N_nil _ _ _ _ _ | exact Kd.V_nil _ _ _ _ _ | exact Kd.Q_nil _ _ _ _ _ | exact Kd.S_nil _ _ _ _ _⟩, ⟨by repeat (first | (with_reducible first | exact HB.out | apply below_alloc | apply pw_below_drewN | apply below_drew1) | exact HB.out)⟩⟩
    case round =>
      clear H'
      try clear c1
      try clear c2
      try clear p2
      obtain ⟨x9_1, x10_1, rfl, HA, HK1, HO_7, HO_8, HO_9, HB⟩ := hrel
      cases gk with
      | zero => exact absurd HA.out (by simp [heliastlaw12_GraphOrder.l0])
      | succ k1 =>
        have H := HA.out
        clear HA
        simp only [heliastlaw12_GraphOrder.l0] at H
        by_cases c9 : x10_1 < (l2.length : Int)
        · rw [if_pos c9] at H
          have c9b0 : decide (x10_1 < (l2.length : Int)) = true := decide_eq_true c9
          clear c9
          (first | rw [c9b0] | (simp only [i64_w, i32_w]; rw [c9b0]) | skip)
          by_cases c10 : x10_1 < 30
          · rw [if_pos c10] at H
            have c10b0 : decide (x10_1 < 30) = true := decide_eq_true c10
            clear c10
            by_cases c11 : 0 ≤ x10_1
            · rw [if_pos c11] at H
              have c11b0 : decide (0 ≤ x10_1) = true := decide_eq_true c11
              clear c11
              by_cases c12 : x9_1.length < 17592186044416
              · rw [if_pos c12] at H
                have LMc12 := Aside0.mk c12
                clear c12
                obtain ⟨y165, hy165⟩ : ∃ y_ : List Int, y_ = (x9_1 ++ [wrap64 (Int.tmod (rd l2 x10_1) 7)]) := ⟨_, rfl⟩
                replace H : (heliastlaw12_GraphOrder.l0 k1 l2 t158 t161 y165 (wrap64 (x10_1 + 1))) = some r := by first | (rw [hy165]; with_reducible exact H) | (have H2_ := (Option.bind_some _ _).symm.trans H; rw [hy165]; with_reducible exact H2_) | (have H2_ := (Option.bind_some _ _).symm.trans H; with_reducible exact H2_) | with_reducible exact H | (rw [hy165]; exact H) | exact H
                have Ny165 := Aside0.mk hy165
                clear hy165
                have H' := Aside0.mk H
                clear H
                have p164 : 0 ≤ (x10_1 : Int) := of_decide_eq_true (by first | (with_reducible assumption) | assumption)
                have q164 : x10_1 < (l2.length : Int) := of_decide_eq_true (by first | (with_reducible assumption) | assumption)
                obtain ⟨ad164, e164, hx164_0⟩ := Kd.at_int HR2.out x10_1 p164 q164
                cases e164
                replace hx164_0 := (HB.out.cell (World.block_lt_of_cell? w _ hx164_0)).trans hx164_0
                replace p164 := eq_true p164
                replace q164 := eq_true q164
                go_wp2_with (first | ((with_reducible refine gate_builtin (b := .append) (xs := #[.tmp 30, .tmp 37]) rfl ?_); at_builtin; refine Kd.R_append (Kd.int .i64) (w0 := w) w.heap.size rfl (.tmp 30) (.tmp 37) 51 3 (.int .i64 0) 8 rfl Try.underlying51 info3 rfl (by decide) (by omega) u9 x9_1 (wrap64 (Int.tmod (rd l2 x10_1) 7)) [.int .i64 (wrap64 (Int.tmod (rd l2 x10_1) 7))] (fun k_ => some k_ ≠ (v162 : Value).ownBlock) (fun _ => False) rfl rfl ?aP (fun _ hk => hk.elim) ?aF ?aO ?aB ?aS ?aL ?_; (case aP => exact rfl); (case aB => exact (by repeat (first | (with_reducible first | exact HB.out | apply below_alloc | apply pw_below_drewN | apply below_drew1) | exact HB.out))); (case aF => exact (fun k_ hk => Kd.fresh' (Kd.R_lt (by (with_reducible repeat (first | apply Kd.R_alloc | apply Kd.R_drewN | apply Kd.R_drew)); exact HO_8.out)) k_ hk)); (case aO => exact (by (with_reducible repeat (first | apply Kd.R_alloc | apply Kd.R_drewN | apply Kd.R_drew)); exact HO_9.out)); (case aS => exact (below_size (by repeat (first | (with_reducible first | exact HB.out | apply below_alloc | apply pw_below_drewN | apply below_drew1) | exact HB.out)))); (case aL => have := LMc12.out; omega); intro v166 w13 ho hb hg hat; rw [← Ny165.out] at ho; have n0_ := Aside0.mk (Kd.S_after (ok := (fun k_ => some k_ ≠ (v162 : Value).ownBlock)) (by (with_reducible repeat (first | apply Kd.S_alloc | apply Kd.S_drewN | apply Kd.S_drew)); exact HO_7.out) hg hat); have n1_ := Aside0.mk (Kd.R_after (ok := (fun _ => True)) (by (with_reducible repeat (first | apply Kd.R_alloc | apply Kd.R_drewN | apply Kd.R_drew)); exact Kd.R_mono HO_8.out (fun _ hk => ⟨trivial, hk⟩)) hg hat); have n2_ := Aside0.mk (hb); have n3_ := Aside0.mk (ho); clear HO_7; clear HO_8; clear HB; clear HO_9; have HO_7 := n0_; have HO_8 := n1_; have HB := n2_; have HO167 := n3_; clear n0_ n1_ n2_ n3_; clear ho hb hg hat))
                repeat (go_quiet (first | ((with_reducible refine gate_builtin (b := .append) (xs := #[.tmp 30, .tmp 37]) rfl ?_); at_builtin; refine Kd.R_append (Kd.int .i64) (w0 := w) w.heap.size rfl (.tmp 30) (.tmp 37) 51 3 (.int .i64 0) 8 rfl Try.underlying51 info3 rfl (by decide) (by omega) u9 x9_1 (wrap64 (Int.tmod (rd l2 x10_1) 7)) [.int .i64 (wrap64 (Int.tmod (rd l2 x10_1) 7))] (fun k_ => some k_ ≠ (v162 : Value).ownBlock) (fun _ => False) rfl rfl ?aP (fun _ hk => hk.elim) ?aF ?aO ?aB ?aS ?aL ?_; (case aP => exact rfl); (case aB => exact (by repeat (first | (with_reducible first | exact HB.out | apply below_alloc | apply pw_below_drewN | apply below_drew1) | exact HB.out))); (case aF => exact (fun k_ hk => Kd.fresh' (Kd.R_lt (by (with_reducible repeat (first | apply Kd.R_alloc | apply Kd.R_drewN | apply Kd.R_drew)); exact HO_8.out)) k_ hk)); (case aO => exact (by (with_reducible repeat (first | apply Kd.R_alloc | apply Kd.R_drewN | apply Kd.R_drew)); exact HO_9.out)); (case aS => exact (below_size (by repeat (first | (with_reducible first | exact HB.out | apply below_alloc | apply pw_below_drewN | apply below_drew1) | exact HB.out)))); (case aL => have := LMc12.out; omega); intro v166 w13 ho hb hg hat; rw [← Ny165.out] at ho; have n0_ := Aside0.mk (Kd.S_after (ok := (fun k_ => some k_ ≠ (v162 : Value).ownBlock)) (by (with_reducible repeat (first | apply Kd.S_alloc | apply Kd.S_drewN | apply Kd.S_drew)); exact HO_7.out) hg hat); have n1_ := Aside0.mk (Kd.R_after (ok := (fun _ => True)) (by (with_reducible repeat (first | apply Kd.R_alloc | apply Kd.R_drewN | apply Kd.R_drew)); exact Kd.R_mono HO_8.out (fun _ hk => ⟨trivial, hk⟩)) hg hat); have n2_ := Aside0.mk (hb); have n3_ := Aside0.mk (ho); clear HO_7; clear HO_8; clear HB; clear HO_9; have HO_7 := n0_; have HO_8 := n1_; have HB := n2_; have HO167 := n3_; clear n0_ n1_ n2_ n3_; clear ho hb hg hat)); try go_wp2_with (first | ((with_reducible refine gate_builtin (b := .append) (xs := #[.tmp 30, .tmp 37]) rfl ?_); at_builtin; refine Kd.R_append (Kd.int .i64) (w0 := w) w.heap.size rfl (.tmp 30) (.tmp 37) 51 3 (.int .i64 0) 8 rfl Try.underlying51 info3 rfl (by decide) (by omega) u9 x9_1 (wrap64 (Int.tmod (rd l2 x10_1) 7)) [.int .i64 (wrap64 (Int.tmod (rd l2 x10_1) 7))] (fun k_ => some k_ ≠ (v162 : Value).ownBlock) (fun _ => False) rfl rfl ?aP (fun _ hk => hk.elim) ?aF ?aO ?aB ?aS ?aL ?_; (case aP => exact rfl); (case aB => exact (by repeat (first | (with_reducible first | exact HB.out | apply below_alloc | apply pw_below_drewN | apply below_drew1) | exact HB.out))); (case aF => exact (fun k_ hk => Kd.fresh' (Kd.R_lt (by (with_reducible repeat (first | apply Kd.R_alloc | apply Kd.R_drewN | apply Kd.R_drew)); exact HO_8.out)) k_ hk)); (case aO => exact (by (with_reducible repeat (first | apply Kd.R_alloc | apply Kd.R_drewN | apply Kd.R_drew)); exact HO_9.out)); (case aS => exact (below_size (by repeat (first | (with_reducible first | exact HB.out | apply below_alloc | apply pw_below_drewN | apply below_drew1) | exact HB.out)))); (case aL => have := LMc12.out; omega); intro v166 w13 ho hb hg hat; rw [← Ny165.out] at ho; have n0_ := Aside0.mk (Kd.S_after (ok := (fun k_ => some k_ ≠ (v162 : Value).ownBlock)) (by (with_reducible repeat (first | apply Kd.S_alloc | apply Kd.S_drewN | apply Kd.S_drew)); exact HO_7.out) hg hat); have n1_ := Aside0.mk (Kd.R_after (ok := (fun _ => True)) (by (with_reducible repeat (first | apply Kd.R_alloc | apply Kd.R_drewN | apply Kd.R_drew)); exact Kd.R_mono HO_8.out (fun _ hk => ⟨trivial, hk⟩)) hg hat); have n2_ := Aside0.mk (hb); have n3_ := Aside0.mk (ho); clear HO_7; clear HO_8; clear HB; clear HO_9; have HO_7 := n0_; have HO_8 := n1_; have HB := n2_; have HO167 := n3_; clear n0_ n1_ n2_ n3_; clear ho hb hg hat)))
                go_roundg k1
                case measure => have := HK1.out; omega
                case rel => exact ⟨(y165), (wrap64 (x10_1 + 1)), (by first | rfl | (simp; done) | (simp [*]; done)), H', ⟨by have := HK1.out; omega⟩, ⟨by (with_reducible repeat (first | apply Kd.S_alloc | apply Kd.S_drewN | apply Kd.S_drew)); exact HO_7.out⟩, ⟨by (with_reducible repeat (first | apply Kd.R_alloc | apply Kd.R_drewN | apply Kd.R_drew)); exact Kd.R_mono HO_8.out (fun _ hk => hk.2)⟩, ⟨by (with_reducible repeat (first | apply Kd.R_alloc | apply Kd.R_drewN | apply Kd.R_drew)); exact HO167.out⟩, ⟨by repeat (first | (with_reducible first | exact HB.out | apply below_alloc | apply pw_below_drewN | apply below_drew1) | exact HB.out)⟩⟩
              · rw [if_neg c12] at H
                exact absurd H (by simp)
            · rw [if_neg c11] at H
              exact absurd H (by simp)
          · rw [if_neg c10] at H
            have c10b0 : decide (x10_1 < 30) = false := decide_eq_false c10
            clear c10
            have H' := Aside0.mk H
            clear H
            go_wp2
            repeat (go_quiet (fail); try go_wp2)
            go_meet
            case rel => exact ⟨_, (x9_1), H', ⟨by have := HK1.out; first | omega | exact Nat.le_refl _⟩, ⟨by (with_reducible repeat (first | apply Kd.S_alloc | apply Kd.S_drewN | apply Kd.S_drew)); exact HO_7.out⟩, ⟨by (with_reducible repeat (first | apply Kd.R_alloc | apply Kd.R_drewN | apply Kd.R_drew)); exact HO_8.out⟩, ⟨by (with_reducible repeat (first | apply Kd.R_alloc | apply Kd.R_drewN | apply Kd.R_drew)); exact HO_9.out⟩, ⟨by repeat (first | (with_reducible first | exact HB.out | apply below_alloc | apply pw_below_drewN | apply below_drew1) | exact HB.out)⟩⟩
        · rw [if_neg c9] at H
          have c9b0 : decide (x10_1 < (l2.length : Int)) = false := decide_eq_false c9
          clear c9
          (first | rw [c9b0] | (simp only [i64_w, i32_w]; rw [c9b0]) | skip)
          have H' := Aside0.mk H
          clear H
          go_wp2
          repeat (go_quiet (fail); try go_wp2)
          go_meet
          case rel => exact ⟨_, (x9_1), H', ⟨by have := HK1.out; first | omega | exact Nat.le_refl _⟩, ⟨by (with_reducible repeat (first | apply Kd.S_alloc | apply Kd.S_drewN | apply Kd.S_drew)); exact HO_7.out⟩, ⟨by (with_reducible repeat (first | apply Kd.R_alloc | apply Kd.R_drewN | apply Kd.R_drew)); exact HO_8.out⟩, ⟨by (with_reducible repeat (first | apply Kd.R_alloc | apply Kd.R_drewN | apply Kd.R_drew)); exact HO_9.out⟩, ⟨by repeat (first | (with_reducible first | exact HB.out | apply below_alloc | apply pw_below_drewN | apply below_drew1) | exact HB.out)⟩⟩
  case rest =>
    clear HC6
    try clear c1
    try clear p1
    try clear q1
    try clear hx1
    try clear c2
    try clear p2
    try clear p6
    try clear c9
    try clear c9b0
    try clear c10
    try clear c10b0
    try clear c11
    try clear c11b0
    try clear c12
    try clear hx164_0
    try clear p164
    try clear p2
    try clear q164
    obtain ⟨kq, x9_5, HA, HJ5, HO_7, HO_8, HO_9, HB⟩ := hcut
    cases kq with
    | zero => exact absurd HA.out (by simp [heliastlaw12_GraphOrder.j1])
    | succ kj5 =>
      have H := HA.out
      clear HA
      simp only [heliastlaw12_GraphOrder.j1] at H
      replace H := Option.bind_eq_some_iff.mp H
      obtain ⟨t168, A140, H⟩ := H
      replace H : ((heliastref12_Set.f kj5 t158 t161).bind fun t171 => (if (t168.length : Int) = (t171.length : Int) then (heliastlaw12_GraphOrder.l1 kj5 t158 t168 t171 0) else (some false))) = some r := H
      have A14 := Aside0.mk A140
      clear A140
      replace H := Option.bind_eq_some_iff.mp H
      obtain ⟨t171, A150, H⟩ := H
      replace H : (if (t168.length : Int) = (t171.length : Int) then (heliastlaw12_GraphOrder.l1 kj5 t158 t168 t171 0) else (some false)) = some r := H
      have A15 := Aside0.mk A150
      clear A150
      by_cases c16 : (t168.length : Int) = (t171.length : Int)
      · rw [if_pos c16] at H
        have c16b0 : ((t168.length : Int) == (t171.length : Int)) = true := beq_iff_eq.mpr c16
        have c16b1 : ((t168.length : Int) != (t171.length : Int)) = false := bne_eq_false_iff_eq.mpr c16
        have c16b2 : (t168.length == t171.length) = true := by first | simpa using c16 | (simp at c16 ⊢; omega)
        clear c16
        have H' := Aside0.mk H
        clear H
        obtain ⟨Ao17, co17, eo17⟩ := Kd.S_slice HO_7.out
        subst eo17
        obtain ⟨Ao18, co18, eo18⟩ := Kd.R_slice HO_8.out
        subst eo18
        obtain ⟨Ao19, co19, eo19⟩ := Kd.R_slice HO_9.out
        subst eo19
        go_wp2_with (first | (go_at_call 37; (with_reducible refine (graph_Order.calls _ _ t158 _ _ t161 _ _ x9_5 t168 _ ?side1 ?side2 ?side3 ?side4 ?side5 ?side6 A14.out).mono ?_); (case side1 => repeat (first | exact (Kd.S_reads' HO_7.out).2.2 | (with_reducible refine Kd.C_alloc ?_ _) | (with_reducible refine Kd.C_drewN ?_ _) | (with_reducible refine Kd.C_drew ?_))); (case side2 => exact (Kd.S_reads' HO_7.out).2.1); (case side3 => repeat (first | exact (Kd.R_reads' HO_8.out).2.2 | (with_reducible refine Kd.C_alloc ?_ _) | (with_reducible refine Kd.C_drewN ?_ _) | (with_reducible refine Kd.C_drew ?_))); (case side4 => exact (Kd.R_reads' HO_8.out).2.1); (case side5 => repeat (first | exact (Kd.R_reads' HO_9.out).2.2 | (with_reducible refine Kd.C_alloc ?_ _) | (with_reducible refine Kd.C_drewN ?_ _) | (with_reducible refine Kd.C_drew ?_))); (case side6 => exact (Kd.R_reads' HO_9.out).2.1); rintro e w20 ⟨v169, rfl, ho0, hb⟩; have n0_ := Aside0.mk (Kd.S_elder' (by (with_reducible repeat (first | apply Kd.S_alloc | apply Kd.S_drewN | apply Kd.S_drew)); exact HO_7.out) (Kd.R_base ho0) hb); have n1_ := Aside0.mk (Kd.R_elder' (by (with_reducible repeat (first | apply Kd.R_alloc | apply Kd.R_drewN | apply Kd.R_drew)); exact HO_8.out) (Kd.R_base ho0) hb); have n2_ := Aside0.mk (Kd.R_elder' (by (with_reducible repeat (first | apply Kd.R_alloc | apply Kd.R_drewN | apply Kd.R_drew)); exact HO_9.out) (Kd.R_base ho0) hb); have n3_ := Aside0.mk (Kd.R_lower (Kd.R_new' (Kd.R_new' ho0 (Kd.R_lt (by (with_reducible repeat (first | apply Kd.R_alloc | apply Kd.R_drewN | apply Kd.R_drew)); exact HO_8.out))) (Kd.R_lt (by (with_reducible repeat (first | apply Kd.R_alloc | apply Kd.R_drewN | apply Kd.R_drew)); exact HO_9.out))) (below_size (by repeat (first | (with_reducible first | exact HB.out | apply below_alloc | apply pw_below_drewN | apply below_drew1) | exact HB.out)))); have n4_ := Aside0.mk (below_step (by repeat (first | (with_reducible first | exact HB.out | apply below_alloc | apply pw_below_drewN | apply below_drew1) | exact HB.out)) hb); clear HO_7; clear HO_8; clear HO_9; clear HB; have HO_7 := n0_; have HO_8 := n1_; have HO_9 := n2_; have HO170 := n3_; have HB := n4_; clear n0_ n1_ n2_ n3_ n4_; (try clear hb); (try clear hb2); (try clear hk); (try clear hi); (try clear ho0)) | (go_at_call 35; (with_reducible refine (heliastref12_Set.calls kj5 _ _ t158 _ _ t161 t171 _ ?side1 ?side2 ?side3 ?side4 A15.out).mono ?_); (case side1 => repeat (first | exact (Kd.S_reads' HO_7.out).2.2 | (with_reducible refine Kd.C_alloc ?_ _) | (with_reducible refine Kd.C_drewN ?_ _) | (with_reducible refine Kd.C_drew ?_))); (case side2 => exact (Kd.S_reads' HO_7.out).2.1); (case side3 => repeat (first | exact (Kd.R_reads' HO_8.out).2.2 | (with_reducible refine Kd.C_alloc ?_ _) | (with_reducible refine Kd.C_drewN ?_ _) | (with_reducible refine Kd.C_drew ?_))); (case side4 => exact (Kd.R_reads' HO_8.out).2.1); rintro e w21 ⟨v172, rfl, ho0, hb⟩; have n0_ := Aside0.mk (Kd.S_elder' (by (with_reducible repeat (first | apply Kd.S_alloc | apply Kd.S_drewN | apply Kd.S_drew)); exact HO_7.out) (Kd.R_base ho0) hb); have n1_ := Aside0.mk (Kd.R_elder' (by (with_reducible repeat (first | apply Kd.R_alloc | apply Kd.R_drewN | apply Kd.R_drew)); exact HO_8.out) (Kd.R_base ho0) hb); have n2_ := Aside0.mk (Kd.R_elder' (by (with_reducible repeat (first | apply Kd.R_alloc | apply Kd.R_drewN | apply Kd.R_drew)); exact HO_9.out) (Kd.R_base ho0) hb); have n3_ := Aside0.mk (Kd.R_elder' (by (with_reducible repeat (first | apply Kd.R_alloc | apply Kd.R_drewN | apply Kd.R_drew)); exact HO170.out) (Kd.R_base ho0) hb); have n4_ := Aside0.mk (Kd.R_lower (Kd.R_new' (Kd.R_new' (Kd.R_new' ho0 (Kd.R_lt (by (with_reducible repeat (first | apply Kd.R_alloc | apply Kd.R_drewN | apply Kd.R_drew)); exact HO_8.out))) (Kd.R_lt (by (with_reducible repeat (first | apply Kd.R_alloc | apply Kd.R_drewN | apply Kd.R_drew)); exact HO_9.out))) (Kd.R_lt (by (with_reducible repeat (first | apply Kd.R_alloc | apply Kd.R_drewN | apply Kd.R_drew)); exact HO170.out))) (below_size (by repeat (first | (with_reducible first | exact HB.out | apply below_alloc | apply pw_below_drewN | apply below_drew1) | exact HB.out)))); have n5_ := Aside0.mk (below_step (by repeat (first | (with_reducible first | exact HB.out | apply below_alloc | apply pw_below_drewN | apply below_drew1) | exact HB.out)) hb); clear HO_7; clear HO_8; clear HO_9; clear HO170; clear HB; have HO_7 := n0_; have HO_8 := n1_; have HO_9 := n2_; have HO170 := n3_; have HO173 := n4_; have HB := n5_; clear n0_ n1_ n2_ n3_ n4_ n5_; (try clear hb); (try clear hb2); (try clear hk); (try clear hi); (try clear ho0); obtain ⟨Ao22, co22, eo22⟩ := Kd.R_slice HO170.out; subst eo22; obtain ⟨Ao23, co23, eo23⟩ := Kd.R_slice HO173.out; subst eo23))
        repeat (go_quiet (first | (go_at_call 37; (with_reducible refine (graph_Order.calls _ _ t158 _ _ t161 _ _ x9_5 t168 _ ?side1 ?side2 ?side3 ?side4 ?side5 ?side6 A14.out).mono ?_); (case side1 => repeat (first | exact (Kd.S_reads' HO_7.out).2.2 | (with_reducible refine Kd.C_alloc ?_ _) | (with_reducible refine Kd.C_drewN ?_ _) | (with_reducible refine Kd.C_drew ?_))); (case side2 => exact (Kd.S_reads' HO_7.out).2.1); (case side3 => repeat (first | exact (Kd.R_reads' HO_8.out).2.2 | (with_reducible refine Kd.C_alloc ?_ _) | (with_reducible refine Kd.C_drewN ?_ _) | (with_reducible refine Kd.C_drew ?_))); (case side4 => exact (Kd.R_reads' HO_8.out).2.1); (case side5 => repeat (first | exact (Kd.R_reads' HO_9.out).2.2 | (with_reducible refine Kd.C_alloc ?_ _) | (with_reducible refine Kd.C_drewN ?_ _) | (with_reducible refine Kd.C_drew ?_))); (case side6 => exact (Kd.R_reads' HO_9.out).2.1); rintro e w20 ⟨v169, rfl, ho0, hb⟩; have n0_ := Aside0.mk (Kd.S_elder' (by (with_reducible repeat (first | apply Kd.S_alloc | apply Kd.S_drewN | apply Kd.S_drew)); exact HO_7.out) (Kd.R_base ho0) hb); have n1_ := Aside0.mk (Kd.R_elder' (by (with_reducible repeat (first | apply Kd.R_alloc | apply Kd.R_drewN | apply Kd.R_drew)); exact HO_8.out) (Kd.R_base ho0) hb); have n2_ := Aside0.mk (Kd.R_elder' (by (with_reducible repeat (first | apply Kd.R_alloc | apply Kd.R_drewN | apply Kd.R_drew)); exact HO_9.out) (Kd.R_base ho0) hb); have n3_ := Aside0.mk (Kd.R_lower (Kd.R_new' (Kd.R_new' ho0 (Kd.R_lt (by (with_reducible repeat (first | apply Kd.R_alloc | apply Kd.R_drewN | apply Kd.R_drew)); exact HO_8.out))) (Kd.R_lt (by (with_reducible repeat (first | apply Kd.R_alloc | apply Kd.R_drewN | apply Kd.R_drew)); exact HO_9.out))) (below_size (by repeat (first | (with_reducible first | exact HB.out | apply below_alloc | apply pw_below_drewN | apply below_drew1) | exact HB.out)))); have n4_ := Aside0.mk (below_step (by repeat (first | (with_reducible first | exact HB.out | apply below_alloc | apply pw_below_drewN | apply below_drew1) | exact HB.out)) hb); clear HO_7; clear HO_8; clear HO_9; clear HB; have HO_7 := n0_; have HO_8 := n1_; have HO_9 := n2_; have HO170 := n3_; have HB := n4_; clear n0_ n1_ n2_ n3_ n4_; (try clear hb); (try clear hb2); (try clear hk); (try clear hi); (try clear ho0)) | (go_at_call 35; (with_reducible refine (heliastref12_Set.calls kj5 _ _ t158 _ _ t161 t171 _ ?side1 ?side2 ?side3 ?side4 A15.out).mono ?_); (case side1 => repeat (first | exact (Kd.S_reads' HO_7.out).2.2 | (with_reducible refine Kd.C_alloc ?_ _) | (with_reducible refine Kd.C_drewN ?_ _) | (with_reducible refine Kd.C_drew ?_))); (case side2 => exact (Kd.S_reads' HO_7.out).2.1); (case side3 => repeat (first | exact (Kd.R_reads' HO_8.out).2.2 | (with_reducible refine Kd.C_alloc ?_ _) | (with_reducible refine Kd.C_drewN ?_ _) | (with_reducible refine Kd.C_drew ?_))); (case side4 => exact (Kd.R_reads' HO_8.out).2.1); rintro e w21 ⟨v172, rfl, ho0, hb⟩; have n0_ := Aside0.mk (Kd.S_elder' (by (with_reducible repeat (first | apply Kd.S_alloc | apply Kd.S_drewN | apply Kd.S_drew)); exact HO_7.out) (Kd.R_base ho0) hb); have n1_ := Aside0.mk (Kd.R_elder' (by (with_reducible repeat (first | apply Kd.R_alloc | apply Kd.R_drewN | apply Kd.R_drew)); exact HO_8.out) (Kd.R_base ho0) hb); have n2_ := Aside0.mk (Kd.R_elder' (by (with_reducible repeat (first | apply Kd.R_alloc | apply Kd.R_drewN | apply Kd.R_drew)); exact HO_9.out) (Kd.R_base ho0) hb); have n3_ := Aside0.mk (Kd.R_elder' (by (with_reducible repeat (first | apply Kd.R_alloc | apply Kd.R_drewN | apply Kd.R_drew)); exact HO170.out) (Kd.R_base ho0) hb); have n4_ := Aside0.mk (Kd.R_lower (Kd.R_new' (Kd.R_new' (Kd.R_new' ho0 (Kd.R_lt (by (with_reducible repeat (first | apply Kd.R_alloc | apply Kd.R_drewN | apply Kd.R_drew)); exact HO_8.out))) (Kd.R_lt (by (with_reducible repeat (first | apply Kd.R_alloc | apply Kd.R_drewN | apply Kd.R_drew)); exact HO_9.out))) (Kd.R_lt (by (with_reducible repeat (first | apply Kd.R_alloc | apply Kd.R_drewN | apply Kd.R_drew)); exact HO170.out))) (below_size (by repeat (first | (with_reducible first | exact HB.out | apply below_alloc | apply pw_below_drewN | apply below_drew1) | exact HB.out)))); have n5_ := Aside0.mk (below_step (by repeat (first | (with_reducible first | exact HB.out | apply below_alloc | apply pw_below_drewN | apply below_drew1) | exact HB.out)) hb); clear HO_7; clear HO_8; clear HO_9; clear HO170; clear HB; have HO_7 := n0_; have HO_8 := n1_; have HO_9 := n2_; have HO170 := n3_; have HO173 := n4_; have HB := n5_; clear n0_ n1_ n2_ n3_ n4_ n5_; (try clear hb); (try clear hb2); (try clear hk); (try clear hi); (try clear ho0); obtain ⟨Ao22, co22, eo22⟩ := Kd.R_slice HO170.out; subst eo22; obtain ⟨Ao23, co23, eo23⟩ := Kd.R_slice HO173.out; subst eo23)); try go_wp2_with (first | (go_at_call 37; (with_reducible refine (graph_Order.calls _ _ t158 _ _ t161 _ _ x9_5 t168 _ ?side1 ?side2 ?side3 ?side4 ?side5 ?side6 A14.out).mono ?_); (case side1 => repeat (first | exact (Kd.S_reads' HO_7.out).2.2 | (with_reducible refine Kd.C_alloc ?_ _) | (with_reducible refine Kd.C_drewN ?_ _) | (with_reducible refine Kd.C_drew ?_))); (case side2 => exact (Kd.S_reads' HO_7.out).2.1); (case side3 => repeat (first | exact (Kd.R_reads' HO_8.out).2.2 | (with_reducible refine Kd.C_alloc ?_ _) | (with_reducible refine Kd.C_drewN ?_ _) | (with_reducible refine Kd.C_drew ?_))); (case side4 => exact (Kd.R_reads' HO_8.out).2.1); (case side5 => repeat (first | exact (Kd.R_reads' HO_9.out).2.2 | (with_reducible refine Kd.C_alloc ?_ _) | (with_reducible refine Kd.C_drewN ?_ _) | (with_reducible refine Kd.C_drew ?_))); (case side6 => exact (Kd.R_reads' HO_9.out).2.1); rintro e w20 ⟨v169, rfl, ho0, hb⟩; have n0_ := Aside0.mk (Kd.S_elder' (by (with_reducible repeat (first | apply Kd.S_alloc | apply Kd.S_drewN | apply Kd.S_drew)); exact HO_7.out) (Kd.R_base ho0) hb); have n1_ := Aside0.mk (Kd.R_elder' (by (with_reducible repeat (first | apply Kd.R_alloc | apply Kd.R_drewN | apply Kd.R_drew)); exact HO_8.out) (Kd.R_base ho0) hb); have n2_ := Aside0.mk (Kd.R_elder' (by (with_reducible repeat (first | apply Kd.R_alloc | apply Kd.R_drewN | apply Kd.R_drew)); exact HO_9.out) (Kd.R_base ho0) hb); have n3_ := Aside0.mk (Kd.R_lower (Kd.R_new' (Kd.R_new' ho0 (Kd.R_lt (by (with_reducible repeat (first | apply Kd.R_alloc | apply Kd.R_drewN | apply Kd.R_drew)); exact HO_8.out))) (Kd.R_lt (by (with_reducible repeat (first | apply Kd.R_alloc | apply Kd.R_drewN | apply Kd.R_drew)); exact HO_9.out))) (below_size (by repeat (first | (with_reducible first | exact HB.out | apply below_alloc | apply pw_below_drewN | apply below_drew1) | exact HB.out)))); have n4_ := Aside0.mk (below_step (by repeat (first | (with_reducible first | exact HB.out | apply below_alloc | apply pw_below_drewN | apply below_drew1) | exact HB.out)) hb); clear HO_7; clear HO_8; clear HO_9; clear HB; have HO_7 := n0_; have HO_8 := n1_; have HO_9 := n2_; have HO170 := n3_; have HB := n4_; clear n0_ n1_ n2_ n3_ n4_; (try clear hb); (try clear hb2); (try clear hk); (try clear hi); (try clear ho0)) | (go_at_call 35; (with_reducible refine (heliastref12_Set.calls kj5 _ _ t158 _ _ t161 t171 _ ?side1 ?side2 ?side3 ?side4 A15.out).mono ?_); (case side1 => repeat (first | exact (Kd.S_reads' HO_7.out).2.2 | (with_reducible refine Kd.C_alloc ?_ _) | (with_reducible refine Kd.C_drewN ?_ _) | (with_reducible refine Kd.C_drew ?_))); (case side2 => exact (Kd.S_reads' HO_7.out).2.1); (case side3 => repeat (first | exact (Kd.R_reads' HO_8.out).2.2 | (with_reducible refine Kd.C_alloc ?_ _) | (with_reducible refine Kd.C_drewN ?_ _) | (with_reducible refine Kd.C_drew ?_))); (case side4 => exact (Kd.R_reads' HO_8.out).2.1); rintro e w21 ⟨v172, rfl, ho0, hb⟩; have n0_ := Aside0.mk (Kd.S_elder' (by (with_reducible repeat (first | apply Kd.S_alloc | apply Kd.S_drewN | apply Kd.S_drew)); exact HO_7.out) (Kd.R_base ho0) hb); have n1_ := Aside0.mk (Kd.R_elder' (by (with_reducible repeat (first | apply Kd.R_alloc | apply Kd.R_drewN | apply Kd.R_drew)); exact HO_8.out) (Kd.R_base ho0) hb); have n2_ := Aside0.mk (Kd.R_elder' (by (with_reducible repeat (first | apply Kd.R_alloc | apply Kd.R_drewN | apply Kd.R_drew)); exact HO_9.out) (Kd.R_base ho0) hb); have n3_ := Aside0.mk (Kd.R_elder' (by (with_reducible repeat (first | apply Kd.R_alloc | apply Kd.R_drewN | apply Kd.R_drew)); exact HO170.out) (Kd.R_base ho0) hb); have n4_ := Aside0.mk (Kd.R_lower (Kd.R_new' (Kd.R_new' (Kd.R_new' ho0 (Kd.R_lt (by (with_reducible repeat (first | apply Kd.R_alloc | apply Kd.R_drewN | apply Kd.R_drew)); exact HO_8.out))) (Kd.R_lt (by (with_reducible repeat (first | apply Kd.R_alloc | apply Kd.R_drewN | apply Kd.R_drew)); exact HO_9.out))) (Kd.R_lt (by (with_reducible repeat (first | apply Kd.R_alloc | apply Kd.R_drewN | apply Kd.R_drew)); exact HO170.out))) (below_size (by repeat (first | (with_reducible first | exact HB.out | apply below_alloc | apply pw_below_drewN | apply below_drew1) | exact HB.out)))); have n5_ := Aside0.mk (below_step (by repeat (first | (with_reducible first | exact HB.out | apply below_alloc | apply pw_below_drewN | apply below_drew1) | exact HB.out)) hb); clear HO_7; clear HO_8; clear HO_9; clear HO170; clear HB; have HO_7 := n0_; have HO_8 := n1_; have HO_9 := n2_; have HO170 := n3_; have HO173 := n4_; have HB := n5_; clear n0_ n1_ n2_ n3_ n4_ n5_; (try clear hb); (try clear hb2); (try clear hk); (try clear hi); (try clear ho0); obtain ⟨Ao22, co22, eo22⟩ := Kd.R_slice HO170.out; subst eo22; obtain ⟨Ao23, co23, eo23⟩ := Kd.R_slice HO173.out; subst eo23)))
        go_loopg [13] kj5 (fun kq v13 w' => ∃ (x13_2 : Int), v13 = .int .i64 x13_2 ∧ Aside0 (heliastlaw12_GraphOrder.l1 kq t158 t168 t171 x13_2 = some r) ∧ Aside0 (kq ≤ kj5) ∧ Aside0 (Kd.S (Kd.slice 3 (Kd.int .i64)) 51 w' w.heap.size (fun k_ => some k_ ≠ ((.slice Ao22 t168.length co22) : Value).ownBlock ∧ some k_ ≠ ((.slice Ao23 t171.length co23) : Value).ownBlock) (.slice Ao17 t158.length co17) t158) ∧ Aside0 (Kd.R (Kd.int .i64) 3 w' w.heap.size (fun k_ => some k_ ≠ ((.slice Ao23 t171.length co23) : Value).ownBlock) (.slice Ao22 t168.length co22) t168) ∧ Aside0 (Kd.R (Kd.int .i64) 3 w' w.heap.size (fun k_ => some k_ ≠ ((.slice Ao22 t168.length co22) : Value).ownBlock) (.slice Ao23 t171.length co23) t171) ∧ Aside0 (Below w.heap.size w w'))
        case atStart => exact ⟨(0), (by first | rfl | (simp; done) | (simp [*]; done)), H', ⟨Nat.le_refl _⟩, ⟨by (with_reducible repeat (first | apply Kd.S_alloc | apply Kd.S_drewN | apply Kd.S_drew)); exact Kd.S_mono HO_7.out (fun _ hk => ⟨hk.1.2, hk.2⟩)⟩, ⟨by (with_reducible repeat (first | apply Kd.R_alloc | apply Kd.R_drewN | apply Kd.R_drew)); exact Kd.R_mono HO170.out (fun _ hk => hk.2)⟩, ⟨by (with_reducible repeat (first | apply Kd.R_alloc | apply Kd.R_drewN | apply Kd.R_drew)); exact Kd.R_mono HO173.out (fun _ hk => hk.2)⟩, ⟨by repeat (first | (with_reducible first | exact HB.out | apply below_alloc | apply pw_below_drewN | apply below_drew1) | exact HB.out)⟩⟩
        case round =>
          clear H'
          try clear c1
          try clear p1
          try clear q1
          try clear hx1
          try clear c2
          try clear p2
          try clear p6
          try clear c9
          try clear c9b0
          try clear c10
          try clear c10b0
          try clear c11
          try clear c11b0
          try clear c12
          try clear c16
          try clear c16b0
          try clear c16b1
          try clear c16b2
          try clear p16
          try clear q16
          try clear hx16
          try clear hx164_0
          try clear p1
          try clear p164
          try clear p2
          try clear p6
          try clear q1
          try clear q164
          obtain ⟨x13_2, rfl, HA, HK2, HO_7, HO_11, HO_12, HB⟩ := hrel
          cases gk with
          | zero => exact absurd HA.out (by simp [heliastlaw12_GraphOrder.l1])
          | succ k2 =>
            have H := HA.out
            clear HA
            simp only [heliastlaw12_GraphOrder.l1] at H
            by_cases c24 : x13_2 < (t168.length : Int)
            · rw [if_pos c24] at H
              have c24b0 : decide (x13_2 < (t168.length : Int)) = true := decide_eq_true c24
              clear c24
              by_cases c25 : 0 ≤ x13_2
              · rw [if_pos c25] at H
                have c25b0 : decide (0 ≤ x13_2) = true := decide_eq_true c25
                clear c25
                replace H := Option.bind_eq_some_iff.mp H
                obtain ⟨t176, A260, H⟩ := H
                replace H : (heliastlaw12_GraphOrder.l2 k2 t158 t168 t171 x13_2 t176 (wrap64 (x13_2 + 1))) = some r := H
                have A26 := Aside0.mk A260
                clear A260
                have H' := Aside0.mk H
                clear H
                have p175 : 0 ≤ (x13_2 : Int) := of_decide_eq_true (by first | (with_reducible assumption) | assumption)
                have q175 : x13_2 < (t168.length : Int) := of_decide_eq_true (by first | (with_reducible assumption) | assumption)
                obtain ⟨ad175, e175, hx175_0⟩ := Kd.at_int (Kd.R_reads' HO_11.out).2.2 x13_2 p175 q175
                cases e175
                replace p175 := eq_true p175
                replace q175 := eq_true q175
                go_wp2_with (first | (go_at_call 40; (with_reducible refine (graph_Past.calls _ _ t158 (rd t168 x13_2) t176 _ ?side1 ?side2 A26.out).mono ?_); (case side1 => repeat (first | exact (Kd.S_reads' HO_7.out).2.2 | (with_reducible refine Kd.C_alloc ?_ _) | (with_reducible refine Kd.C_drewN ?_ _) | (with_reducible refine Kd.C_drew ?_))); (case side2 => exact (Kd.S_reads' HO_7.out).2.1); rintro e w27 ⟨v177, rfl, ho0, hb⟩; have n0_ := Aside0.mk (Kd.S_elder' (by (with_reducible repeat (first | apply Kd.S_alloc | apply Kd.S_drewN | apply Kd.S_drew)); exact HO_7.out) (Kd.R_base ho0) hb); have n1_ := Aside0.mk (Kd.R_elder' (by (with_reducible repeat (first | apply Kd.R_alloc | apply Kd.R_drewN | apply Kd.R_drew)); exact HO_11.out) (Kd.R_base ho0) hb); have n2_ := Aside0.mk (Kd.R_elder' (by (with_reducible repeat (first | apply Kd.R_alloc | apply Kd.R_drewN | apply Kd.R_drew)); exact HO_12.out) (Kd.R_base ho0) hb); have n3_ := Aside0.mk (Kd.R_lower (Kd.R_new' (Kd.R_new' ho0 (Kd.R_lt (by (with_reducible repeat (first | apply Kd.R_alloc | apply Kd.R_drewN | apply Kd.R_drew)); exact HO_11.out))) (Kd.R_lt (by (with_reducible repeat (first | apply Kd.R_alloc | apply Kd.R_drewN | apply Kd.R_drew)); exact HO_12.out))) (below_size (by repeat (first | (with_reducible first | exact HB.out | apply below_alloc | apply pw_below_drewN | apply below_drew1) | exact HB.out)))); have n4_ := Aside0.mk (below_step (by repeat (first | (with_reducible first | exact HB.out | apply below_alloc | apply pw_below_drewN | apply below_drew1) | exact HB.out)) hb); clear HO_7; clear HO_11; clear HO_12; clear HB; have HO_7 := n0_; have HO_11 := n1_; have HO_12 := n2_; have HO178 := n3_; have HB := n4_; clear n0_ n1_ n2_ n3_ n4_; (try clear hb); (try clear hb2); (try clear hk); (try clear hi); (try clear ho0)))
                repeat (go_quiet (first | (go_at_call 40; (with_reducible refine (graph_Past.calls _ _ t158 (rd t168 x13_2) t176 _ ?side1 ?side2 A26.out).mono ?_); (case side1 => repeat (first | exact (Kd.S_reads' HO_7.out).2.2 | (with_reducible refine Kd.C_alloc ?_ _) | (with_reducible refine Kd.C_drewN ?_ _) | (with_reducible refine Kd.C_drew ?_))); (case side2 => exact (Kd.S_reads' HO_7.out).2.1); rintro e w27 ⟨v177, rfl, ho0, hb⟩; have n0_ := Aside0.mk (Kd.S_elder' (by (with_reducible repeat (first | apply Kd.S_alloc | apply Kd.S_drewN | apply Kd.S_drew)); exact HO_7.out) (Kd.R_base ho0) hb); have n1_ := Aside0.mk (Kd.R_elder' (by (with_reducible repeat (first | apply Kd.R_alloc | apply Kd.R_drewN | apply Kd.R_drew)); exact HO_11.out) (Kd.R_base ho0) hb); have n2_ := Aside0.mk (Kd.R_elder' (by (with_reducible repeat (first | apply Kd.R_alloc | apply Kd.R_drewN | apply Kd.R_drew)); exact HO_12.out) (Kd.R_base ho0) hb); have n3_ := Aside0.mk (Kd.R_lower (Kd.R_new' (Kd.R_new' ho0 (Kd.R_lt (by (with_reducible repeat (first | apply Kd.R_alloc | apply Kd.R_drewN | apply Kd.R_drew)); exact HO_11.out))) (Kd.R_lt (by (with_reducible repeat (first | apply Kd.R_alloc | apply Kd.R_drewN | apply Kd.R_drew)); exact HO_12.out))) (below_size (by repeat (first | (with_reducible first | exact HB.out | apply below_alloc | apply pw_below_drewN | apply below_drew1) | exact HB.out)))); have n4_ := Aside0.mk (below_step (by repeat (first | (with_reducible first | exact HB.out | apply below_alloc | apply pw_below_drewN | apply below_drew1) | exact HB.out)) hb); clear HO_7; clear HO_11; clear HO_12; clear HB; have HO_7 := n0_; have HO_11 := n1_; have HO_12 := n2_; have HO178 := n3_; have HB := n4_; clear n0_ n1_ n2_ n3_ n4_; (try clear hb); (try clear hb2); (try clear hk); (try clear hi); (try clear ho0))); try go_wp2_with (first | (go_at_call 40; (with_reducible refine (graph_Past.calls _ _ t158 (rd t168 x13_2) t176 _ ?side1 ?side2 A26.out).mono ?_); (case side1 => repeat (first | exact (Kd.S_reads' HO_7.out).2.2 | (with_reducible refine Kd.C_alloc ?_ _) | (with_reducible refine Kd.C_drewN ?_ _) | (with_reducible refine Kd.C_drew ?_))); (case side2 => exact (Kd.S_reads' HO_7.out).2.1); rintro e w27 ⟨v177, rfl, ho0, hb⟩; have n0_ := Aside0.mk (Kd.S_elder' (by (with_reducible repeat (first | apply Kd.S_alloc | apply Kd.S_drewN | apply Kd.S_drew)); exact HO_7.out) (Kd.R_base ho0) hb); have n1_ := Aside0.mk (Kd.R_elder' (by (with_reducible repeat (first | apply Kd.R_alloc | apply Kd.R_drewN | apply Kd.R_drew)); exact HO_11.out) (Kd.R_base ho0) hb); have n2_ := Aside0.mk (Kd.R_elder' (by (with_reducible repeat (first | apply Kd.R_alloc | apply Kd.R_drewN | apply Kd.R_drew)); exact HO_12.out) (Kd.R_base ho0) hb); have n3_ := Aside0.mk (Kd.R_lower (Kd.R_new' (Kd.R_new' ho0 (Kd.R_lt (by (with_reducible repeat (first | apply Kd.R_alloc | apply Kd.R_drewN | apply Kd.R_drew)); exact HO_11.out))) (Kd.R_lt (by (with_reducible repeat (first | apply Kd.R_alloc | apply Kd.R_drewN | apply Kd.R_drew)); exact HO_12.out))) (below_size (by repeat (first | (with_reducible first | exact HB.out | apply below_alloc | apply pw_below_drewN | apply below_drew1) | exact HB.out)))); have n4_ := Aside0.mk (below_step (by repeat (first | (with_reducible first | exact HB.out | apply below_alloc | apply pw_below_drewN | apply below_drew1) | exact HB.out)) hb); clear HO_7; clear HO_11; clear HO_12; clear HB; have HO_7 := n0_; have HO_11 := n1_; have HO_12 := n2_; have HO178 := n3_; have HB := n4_; clear n0_ n1_ n2_ n3_ n4_; (try clear hb); (try clear hb2); (try clear hk); (try clear hi); (try clear ho0))))
                go_loopg [15] k2 (fun kq v15 w' => ∃ (x15_3 : Int), v15 = .int .i64 x15_3 ∧ Aside0 (heliastlaw12_GraphOrder.l2 kq t158 t168 t171 x13_2 t176 x15_3 = some r) ∧ Aside0 (kq ≤ k2) ∧ Aside0 (Kd.S (Kd.slice 3 (Kd.int .i64)) 51 w' w.heap.size (fun k_ => some k_ ≠ ((.slice (some ad175) t168.length co22) : Value).ownBlock ∧ some k_ ≠ ((.slice Ao23 t171.length co23) : Value).ownBlock ∧ some k_ ≠ (v177 : Value).ownBlock) (.slice Ao17 t158.length co17) t158) ∧ Aside0 (Kd.R (Kd.int .i64) 3 w' w.heap.size (fun k_ => some k_ ≠ ((.slice Ao23 t171.length co23) : Value).ownBlock ∧ some k_ ≠ (v177 : Value).ownBlock) (.slice (some ad175) t168.length co22) t168) ∧ Aside0 (Kd.R (Kd.int .i64) 3 w' w.heap.size (fun k_ => some k_ ≠ ((.slice (some ad175) t168.length co22) : Value).ownBlock ∧ some k_ ≠ (v177 : Value).ownBlock) (.slice Ao23 t171.length co23) t171) ∧ Aside0 (Kd.R (Kd.int .i64) 3 w' w.heap.size (fun k_ => some k_ ≠ ((.slice (some ad175) t168.length co22) : Value).ownBlock ∧ some k_ ≠ ((.slice Ao23 t171.length co23) : Value).ownBlock) v177 t176) ∧ Aside0 (Below w.heap.size w w'))
                case atStart => exact ⟨(wrap64 (x13_2 + 1)), (by first | rfl | (simp; done) | (simp [*]; done)), H', ⟨Nat.le_refl _⟩, ⟨by (with_reducible repeat (first | apply Kd.S_alloc | apply Kd.S_drewN | apply Kd.S_drew)); exact Kd.S_mono HO_7.out (fun _ hk => ⟨hk.1.1, ⟨hk.1.2, hk.2⟩⟩)⟩, ⟨by (with_reducible repeat (first | apply Kd.R_alloc | apply Kd.R_drewN | apply Kd.R_drew)); exact HO_11.out⟩, ⟨by (with_reducible repeat (first | apply Kd.R_alloc | apply Kd.R_drewN | apply Kd.R_drew)); exact HO_12.out⟩, ⟨by (with_reducible repeat (first | apply Kd.R_alloc | apply Kd.R_drewN | apply Kd.R_drew)); exact Kd.R_mono HO178.out (fun _ hk => ⟨hk.1.2, hk.2⟩)⟩, ⟨by repeat (first | (with_reducible first | exact HB.out | apply below_alloc | apply pw_below_drewN | apply below_drew1) | exact HB.out)⟩⟩
                case round =>
                  clear H'
                  try clear c1
                  try clear p1
                  try clear q1
                  try clear hx1
                  try clear c2
                  try clear p2
                  try clear p6
                  try clear c9
                  try clear c9b0
                  try clear c10
                  try clear c10b0
                  try clear c11
                  try clear c11b0
                  try clear c12
                  try clear c16
                  try clear c16b0
                  try clear c16b1
                  try clear c16b2
                  try clear p16
                  try clear q16
                  try clear hx16
                  try clear p17
                  try clear q17
                  try clear hx17
                  try clear c24
                  try clear c24b0
                  try clear c25
                  try clear c25b0
                  try clear hx164_0
                  try clear hx175_0
                  try clear p1
                  try clear p16
                  try clear p164
                  try clear p175
                  try clear p2
                  try clear p6
                  try clear q1
                  try clear q16
                  try clear q164
                  try clear q175
                  obtain ⟨x15_3, rfl, HA, HK3, HO_7, HO_11, HO_12, HO_14, HB⟩ := hrel
                  cases gk with
                  | zero => exact absurd HA.out (by simp [heliastlaw12_GraphOrder.l2])
                  | succ k3 =>
                    have H := HA.out
                    clear HA
                    simp only [heliastlaw12_GraphOrder.l2] at H
                    by_cases c28 : x15_3 < (t168.length : Int)
                    · rw [if_pos c28] at H
                      have c28b0 : decide (x15_3 < (t168.length : Int)) = true := decide_eq_true c28
                      clear c28
                      by_cases c29 : 0 ≤ x15_3
                      · rw [if_pos c29] at H
                        have c29b0 : decide (0 ≤ x15_3) = true := decide_eq_true c29
                        clear c29
                        replace H := Option.bind_eq_some_iff.mp H
                        obtain ⟨t180, A300, H⟩ := H
                        replace H : (if t180 = true then (some false) else (if 0 ≤ x13_2 then (if x13_2 < (t168.length : Int) then (if (rd t168 x13_2) = (rd t168 x15_3) then (some false) else (heliastlaw12_GraphOrder.l2 k3 t158 t168 t171 x13_2 t176 (wrap64 (x15_3 + 1)))) else (none)) else (none))) = some r := H
                        have A30 := Aside0.mk A300
                        clear A300
                        by_cases c31 : t180 = true
                        · subst c31
                          have H1 : (some false) = some r := by rw [if_pos rfl] at H; exact H
                          clear H
                          have H := H1
                          clear H1
                          exact absurd ((Option.some.inj H).trans HLAW.out) (by decide)
                        · replace c31 := Bool.eq_false_iff.mpr c31
                          subst c31
                          have H1 : (if 0 ≤ x13_2 then (if x13_2 < (t168.length : Int) then (if (rd t168 x13_2) = (rd t168 x15_3) then (some false) else (heliastlaw12_GraphOrder.l2 k3 t158 t168 t171 x13_2 t176 (wrap64 (x15_3 + 1)))) else (none)) else (none)) = some r := by rw [if_neg (show ¬ (false = true) by decide)] at H; exact H
                          clear H
                          have H := H1
                          clear H1
                          by_cases c32 : 0 ≤ x13_2
                          · rw [if_pos c32] at H
                            have c32b0 : decide (0 ≤ x13_2) = true := decide_eq_true c32
                            clear c32
                            by_cases c33 : x13_2 < (t168.length : Int)
                            · rw [if_pos c33] at H
                              have c33b0 : decide (x13_2 < (t168.length : Int)) = true := decide_eq_true c33
                              clear c33
                              by_cases c34 : (rd t168 x13_2) = (rd t168 x15_3)
                              · rw [if_pos c34] at H
                                have c34b0 : ((rd t168 x13_2) == (rd t168 x15_3)) = true := beq_iff_eq.mpr c34
                                have c34b1 : ((rd t168 x13_2) != (rd t168 x15_3)) = false := bne_eq_false_iff_eq.mpr c34
                                clear c34
                                exact absurd ((Option.some.inj H).trans HLAW.out) (by decide)
                              · rw [if_neg c34] at H
                                have c34b0 : ((rd t168 x13_2) == (rd t168 x15_3)) = false := beq_eq_false_iff_ne.mpr c34
                                have c34b1 : ((rd t168 x13_2) != (rd t168 x15_3)) = true := bne_iff_ne.mpr c34
                                have H' := Aside0.mk H
                                clear H
                                have p179 : 0 ≤ (x15_3 : Int) := of_decide_eq_true (by first | (with_reducible assumption) | assumption)
                                have q179 : x15_3 < (t168.length : Int) := of_decide_eq_true (by first | (with_reducible assumption) | assumption)
                                obtain ⟨ad179, e179, hx179_0⟩ := Kd.at_int (Kd.R_reads' HO_11.out).2.2 x15_3 p179 q179
                                obtain rfl : ad175 = ad179 := (by injection e179)
                                replace p179 := eq_true p179
                                replace q179 := eq_true q179
                                obtain ⟨Ao35, co35, eo35⟩ := Kd.R_slice HO_14.out
                                subst eo35
                                have p181 : 0 ≤ (x13_2 : Int) := of_decide_eq_true (by first | (with_reducible assumption) | assumption)
                                have q181 : x13_2 < (t168.length : Int) := of_decide_eq_true (by first | (with_reducible assumption) | assumption)
                                obtain ⟨ad181, e181, hx181_0⟩ := Kd.at_int (Kd.R_reads' HO_11.out).2.2 x13_2 p181 q181
                                obtain rfl : ad175 = ad181 := (by injection e181)
                                replace p181 := eq_true p181
                                replace q181 := eq_true q181
                                have p182 : 0 ≤ (x15_3 : Int) := of_decide_eq_true (by first | (with_reducible assumption) | assumption)
                                have q182 : x15_3 < (t168.length : Int) := of_decide_eq_true (by first | (with_reducible assumption) | assumption)
                                obtain ⟨ad182, e182, hx182_0⟩ := Kd.at_int (Kd.R_reads' HO_11.out).2.2 x15_3 p182 q182
                                obtain rfl : ad175 = ad182 := (by injection e182)
                                replace p182 := eq_true p182
                                replace q182 := eq_true q182
                                go_wp2_with (first | (go_at_call 31; (with_reducible refine (heliastref12_Has.calls k3 _ _ t176 (rd t168 x15_3) false _ ?side1 ?side2 A30.out).mono ?_); (case side1 => repeat (first | exact (Kd.R_reads' HO_14.out).2.2 | (with_reducible refine Kd.C_alloc ?_ _) | (with_reducible refine Kd.C_drewN ?_ _) | (with_reducible refine Kd.C_drew ?_))); (case side2 => exact (Kd.R_reads' HO_14.out).2.1); rintro e w' ⟨rfl, ⟨nd, rfl⟩⟩; (try first | exact ⟨rfl, _, World.drewN_drewN _ _ _⟩ | exact ⟨rfl, _, Eq.trans (World.drewN_drewN _ _ _) (congrArg (World.drewN _) (Nat.add_assoc _ _ _))⟩)))
                                repeat (go_quiet (first | (go_at_call 31; (with_reducible refine (heliastref12_Has.calls k3 _ _ t176 (rd t168 x15_3) false _ ?side1 ?side2 A30.out).mono ?_); (case side1 => repeat (first | exact (Kd.R_reads' HO_14.out).2.2 | (with_reducible refine Kd.C_alloc ?_ _) | (with_reducible refine Kd.C_drewN ?_ _) | (with_reducible refine Kd.C_drew ?_))); (case side2 => exact (Kd.R_reads' HO_14.out).2.1); rintro e w' ⟨rfl, ⟨nd, rfl⟩⟩; (try first | exact ⟨rfl, _, World.drewN_drewN _ _ _⟩ | exact ⟨rfl, _, Eq.trans (World.drewN_drewN _ _ _) (congrArg (World.drewN _) (Nat.add_assoc _ _ _))⟩))); try go_wp2_with (first | (go_at_call 31; (with_reducible refine (heliastref12_Has.calls k3 _ _ t176 (rd t168 x15_3) false _ ?side1 ?side2 A30.out).mono ?_); (case side1 => repeat (first | exact (Kd.R_reads' HO_14.out).2.2 | (with_reducible refine Kd.C_alloc ?_ _) | (with_reducible refine Kd.C_drewN ?_ _) | (with_reducible refine Kd.C_drew ?_))); (case side2 => exact (Kd.R_reads' HO_14.out).2.1); rintro e w' ⟨rfl, ⟨nd, rfl⟩⟩; (try first | exact ⟨rfl, _, World.drewN_drewN _ _ _⟩ | exact ⟨rfl, _, Eq.trans (World.drewN_drewN _ _ _) (congrArg (World.drewN _) (Nat.add_assoc _ _ _))⟩))))
                                go_roundg k3
                                case measure => have := HJ5.out; have := HK2.out; have := HK3.out; omega
                                case rel => exact ⟨(wrap64 (x15_3 + 1)), (by first | rfl | (simp; done) | (simp [*]; done)), H', ⟨by have := HJ5.out; have := HK2.out; have := HK3.out; omega⟩, ⟨by (with_reducible repeat (first | apply Kd.S_alloc | apply Kd.S_drewN | apply Kd.S_drew)); exact HO_7.out⟩, ⟨by (with_reducible repeat (first | apply Kd.R_alloc | apply Kd.R_drewN | apply Kd.R_drew)); exact HO_11.out⟩, ⟨by (with_reducible repeat (first | apply Kd.R_alloc | apply Kd.R_drewN | apply Kd.R_drew)); exact HO_12.out⟩, ⟨by (with_reducible repeat (first | apply Kd.R_alloc | apply Kd.R_drewN | apply Kd.R_drew)); exact HO_14.out⟩, ⟨by repeat (first | (with_reducible first | exact HB.out | apply below_alloc | apply pw_below_drewN | apply below_drew1) | exact HB.out)⟩⟩
                            · rw [if_neg c33] at H
                              exact absurd H (by simp)
                          · rw [if_neg c32] at H
                            exact absurd H (by simp)
                      · rw [if_neg c29] at H
                        exact absurd H (by simp)
                    · rw [if_neg c28] at H
                      have c28b0 : decide (x15_3 < (t168.length : Int)) = false := decide_eq_false c28
                      clear c28
                      by_cases c36 : 0 ≤ x13_2
                      · rw [if_pos c36] at H
                        have c36b0 : decide (0 ≤ x13_2) = true := decide_eq_true c36
                        clear c36
                        by_cases c37 : x13_2 < (t168.length : Int)
                        · rw [if_pos c37] at H
                          have c37b0 : decide (x13_2 < (t168.length : Int)) = true := decide_eq_true c37
                          clear c37
                          replace H := Option.bind_eq_some_iff.mp H
                          obtain ⟨t184, A380, H⟩ := H
                          replace H : (if t184 = true then (heliastlaw12_GraphOrder.l1 k3 t158 t168 t171 (wrap64 (x13_2 + 1))) else (some false)) = some r := H
                          have A38 := Aside0.mk A380
                          clear A380
                          by_cases c39 : t184 = true
                          · subst c39
                            have H1 : (heliastlaw12_GraphOrder.l1 k3 t158 t168 t171 (wrap64 (x13_2 + 1))) = some r := by rw [if_pos rfl] at H; exact H
                            clear H
                            have H := H1
                            clear H1
                            have H' := Aside0.mk H
                            clear H
                            have p183 : 0 ≤ (x13_2 : Int) := of_decide_eq_true (by first | (with_reducible assumption) | assumption)
                            have q183 : x13_2 < (t168.length : Int) := of_decide_eq_true (by first | (with_reducible assumption) | assumption)
                            obtain ⟨ad183, e183, hx183_0⟩ := Kd.at_int (Kd.R_reads' HO_11.out).2.2 x13_2 p183 q183
                            obtain rfl : ad175 = ad183 := (by injection e183)
                            replace p183 := eq_true p183
                            replace q183 := eq_true q183
                            go_wp2_with (first | (go_at_call 31; (with_reducible refine (heliastref12_Has.calls k3 _ _ t171 (rd t168 x13_2) true _ ?side1 ?side2 A38.out).mono ?_); (case side1 => repeat (first | exact (Kd.R_reads' HO_12.out).2.2 | (with_reducible refine Kd.C_alloc ?_ _) | (with_reducible refine Kd.C_drewN ?_ _) | (with_reducible refine Kd.C_drew ?_))); (case side2 => exact (Kd.R_reads' HO_12.out).2.1); rintro e w' ⟨rfl, ⟨nd, rfl⟩⟩; (try first | exact ⟨rfl, _, World.drewN_drewN _ _ _⟩ | exact ⟨rfl, _, Eq.trans (World.drewN_drewN _ _ _) (congrArg (World.drewN _) (Nat.add_assoc _ _ _))⟩)))
                            repeat (go_quiet (first | (go_at_call 31; (with_reducible refine (heliastref12_Has.calls k3 _ _ t171 (rd t168 x13_2) true _ ?side1 ?side2 A38.out).mono ?_); (case side1 => repeat (first | exact (Kd.R_reads' HO_12.out).2.2 | (with_reducible refine Kd.C_alloc ?_ _) | (with_reducible refine Kd.C_drewN ?_ _) | (with_reducible refine Kd.C_drew ?_))); (case side2 => exact (Kd.R_reads' HO_12.out).2.1); rintro e w' ⟨rfl, ⟨nd, rfl⟩⟩; (try first | exact ⟨rfl, _, World.drewN_drewN _ _ _⟩ | exact ⟨rfl, _, Eq.trans (World.drewN_drewN _ _ _) (congrArg (World.drewN _) (Nat.add_assoc _ _ _))⟩))); try go_wp2_with (first | (go_at_call 31; (with_reducible refine (heliastref12_Has.calls k3 _ _ t171 (rd t168 x13_2) true _ ?side1 ?side2 A38.out).mono ?_); (case side1 => repeat (first | exact (Kd.R_reads' HO_12.out).2.2 | (with_reducible refine Kd.C_alloc ?_ _) | (with_reducible refine Kd.C_drewN ?_ _) | (with_reducible refine Kd.C_drew ?_))); (case side2 => exact (Kd.R_reads' HO_12.out).2.1); rintro e w' ⟨rfl, ⟨nd, rfl⟩⟩; (try first | exact ⟨rfl, _, World.drewN_drewN _ _ _⟩ | exact ⟨rfl, _, Eq.trans (World.drewN_drewN _ _ _) (congrArg (World.drewN _) (Nat.add_assoc _ _ _))⟩))))
                            go_roundg k3
                            case measure => have := HJ5.out; have := HK2.out; have := HK3.out; omega
                            case rel => exact ⟨(wrap64 (x13_2 + 1)), (by first | rfl | (simp; done) | (simp [*]; done)), H', ⟨by have := HJ5.out; have := HK2.out; have := HK3.out; omega⟩, ⟨by (with_reducible repeat (first | apply Kd.S_alloc | apply Kd.S_drewN | apply Kd.S_drew)); exact Kd.S_mono HO_7.out (fun _ hk => ⟨hk.1, hk.2.1⟩)⟩, ⟨by (with_reducible repeat (first | apply Kd.R_alloc | apply Kd.R_drewN | apply Kd.R_drew)); exact Kd.R_mono HO_11.out (fun _ hk => hk.1)⟩, ⟨by (with_reducible repeat (first | apply Kd.R_alloc | apply Kd.R_drewN | apply Kd.R_drew)); exact Kd.R_mono HO_12.out (fun _ hk => hk.1)⟩, ⟨by repeat (first | (with_reducible first | exact HB.out | apply below_alloc | apply pw_below_drewN | apply below_drew1) | exact HB.out)⟩⟩
                          · replace c39 := Bool.eq_false_iff.mpr c39
                            subst c39
                            have H1 : (some false) = some r := by rw [if_neg (show ¬ (false = true) by decide)] at H; exact H
                            clear H
                            have H := H1
                            clear H1
                            exact absurd ((Option.some.inj H).trans HLAW.out) (by decide)
                        · rw [if_neg c37] at H
                          exact absurd H (by simp)
                      · rw [if_neg c36] at H
                        exact absurd H (by simp)
              · rw [if_neg c25] at H
                exact absurd H (by simp)
            · rw [if_neg c24] at H
              have c24b0 : decide (x13_2 < (t168.length : Int)) = false := decide_eq_false c24
              clear c24
              replace H := Option.bind_eq_some_iff.mp H
              obtain ⟨t174, A400, H⟩ := H
              replace H : (some t174) = some r := H
              have A40 := Aside0.mk A400
              clear A400
              obtain rfl := Option.some.inj H
              go_wp2_with (first | (go_at_call 33; (with_reducible refine (heliastlaw12_known.calls k2  t174 _ A40.out (by first | rfl | exact HLAW.out)).mono ?_); rintro e w41 ⟨rfl, hb⟩; have n0_ := Aside0.mk (Kd.S_below (by (with_reducible repeat (first | apply Kd.S_alloc | apply Kd.S_drewN | apply Kd.S_drew)); exact HO_7.out) hb); have n1_ := Aside0.mk (Kd.R_below (by (with_reducible repeat (first | apply Kd.R_alloc | apply Kd.R_drewN | apply Kd.R_drew)); exact HO_11.out) hb); have n2_ := Aside0.mk (Kd.R_below (by (with_reducible repeat (first | apply Kd.R_alloc | apply Kd.R_drewN | apply Kd.R_drew)); exact HO_12.out) hb); have n3_ := Aside0.mk (below_step (by repeat (first | (with_reducible first | exact HB.out | apply below_alloc | apply pw_below_drewN | apply below_drew1) | exact HB.out)) hb); clear HO_7; clear HO_11; clear HO_12; clear HB; have HO_7 := n0_; have HO_11 := n1_; have HO_12 := n2_; have HB := n3_; clear n0_ n1_ n2_ n3_; (try clear hb); (try clear hb2); (try clear hk); (try clear hi)))
              repeat (go_quiet (first | (go_at_call 33; (with_reducible refine (heliastlaw12_known.calls k2  t174 _ A40.out (by first | rfl | exact HLAW.out)).mono ?_); rintro e w41 ⟨rfl, hb⟩; have n0_ := Aside0.mk (Kd.S_below (by (with_reducible repeat (first | apply Kd.S_alloc | apply Kd.S_drewN | apply Kd.S_drew)); exact HO_7.out) hb); have n1_ := Aside0.mk (Kd.R_below (by (with_reducible repeat (first | apply Kd.R_alloc | apply Kd.R_drewN | apply Kd.R_drew)); exact HO_11.out) hb); have n2_ := Aside0.mk (Kd.R_below (by (with_reducible repeat (first | apply Kd.R_alloc | apply Kd.R_drewN | apply Kd.R_drew)); exact HO_12.out) hb); have n3_ := Aside0.mk (below_step (by repeat (first | (with_reducible first | exact HB.out | apply below_alloc | apply pw_below_drewN | apply below_drew1) | exact HB.out)) hb); clear HO_7; clear HO_11; clear HO_12; clear HB; have HO_7 := n0_; have HO_11 := n1_; have HO_12 := n2_; have HB := n3_; clear n0_ n1_ n2_ n3_; (try clear hb); (try clear hb2); (try clear hk); (try clear hi))); try go_wp2_with (first | (go_at_call 33; (with_reducible refine (heliastlaw12_known.calls k2  t174 _ A40.out (by first | rfl | exact HLAW.out)).mono ?_); rintro e w41 ⟨rfl, hb⟩; have n0_ := Aside0.mk (Kd.S_below (by (with_reducible repeat (first | apply Kd.S_alloc | apply Kd.S_drewN | apply Kd.S_drew)); exact HO_7.out) hb); have n1_ := Aside0.mk (Kd.R_below (by (with_reducible repeat (first | apply Kd.R_alloc | apply Kd.R_drewN | apply Kd.R_drew)); exact HO_11.out) hb); have n2_ := Aside0.mk (Kd.R_below (by (with_reducible repeat (first | apply Kd.R_alloc | apply Kd.R_drewN | apply Kd.R_drew)); exact HO_12.out) hb); have n3_ := Aside0.mk (below_step (by repeat (first | (with_reducible first | exact HB.out | apply below_alloc | apply pw_below_drewN | apply below_drew1) | exact HB.out)) hb); clear HO_7; clear HO_11; clear HO_12; clear HB; have HO_7 := n0_; have HO_11 := n1_; have HO_12 := n2_; have HB := n3_; clear n0_ n1_ n2_ n3_; (try clear hb); (try clear hb2); (try clear hk); (try clear hi))))
              go_ret
              exact ⟨by first | rfl | (simp [errW_none, errW_some] <;> rfl) | (simp [*, errW_none, errW_some] <;> rfl), by repeat (first | (with_reducible first | exact HB.out | apply below_alloc | apply pw_below_drewN | apply below_drew1) | exact HB.out)⟩
      · rw [if_neg c16] at H
        have c16b0 : ((t168.length : Int) == (t171.length : Int)) = false := beq_eq_false_iff_ne.mpr c16
        have c16b1 : ((t168.length : Int) != (t171.length : Int)) = true := bne_iff_ne.mpr c16
        have c16b2 : (t168.length == t171.length) = false := by first | simpa using c16 | (simp at c16 ⊢; omega)
        exact absurd ((Option.some.inj H).trans HLAW.out) (by decide)

/-- THE ONE PURE STATEMENT of heliastlaw12_GraphOrder: yours. -/
def heliastlaw12_GraphOrder.Pure : Prop := ∀ (l0 : List Int) (l1 : List Int) (l2 : List Int), l0.length ≤ maxLen → l0.length * 1 ≤ 140737488351232 → (∀ x ∈ l0, (Lit.int .u8 x).wf = true) → l1.length ≤ maxLen → l1.length * 1 ≤ 140737488351232 → (∀ x ∈ l1, (Lit.int .u8 x).wf = true) → l2.length ≤ maxLen → l2.length * 1 ≤ 140737488351232 → (∀ x ∈ l2, (Lit.int .u8 x).wf = true) → ∃ k, heliastlaw12_GraphOrder.f k l0 l1 l2 = some true
theorem heliastlaw12_GraphOrder.walk (P : heliastlaw12_GraphOrder.Pure) (a0 : Option Addr) (len0 cap0 : Nat) (z0 : List Int) (a1 : Option Addr) (len1 cap1 : Nat) (z1 : List Int) (a2 : Option Addr) (len2 cap2 : Nat) (z2 : List Int) (w : World) (w0 : (a0 = none ∧ len0 = 0 ∧ cap0 = 0 ∧ z0 = []) ∨ ∃ x, a0 = some x ∧ len0 ≤ cap0 ∧ cap0 ≤ maxLen ∧ z0.length = cap0 ∧ (∀ i, i < z0.length → w.cell? (x.add i) = some (.int .u8 (z0.getD i 0))) ∧ ∀ n ∈ z0, (Lit.int .u8 n).wf = true) (y0 : len0 * 1 ≤ 140737488351232) (w1 : (a1 = none ∧ len1 = 0 ∧ cap1 = 0 ∧ z1 = []) ∨ ∃ x, a1 = some x ∧ len1 ≤ cap1 ∧ cap1 ≤ maxLen ∧ z1.length = cap1 ∧ (∀ i, i < z1.length → w.cell? (x.add i) = some (.int .u8 (z1.getD i 0))) ∧ ∀ n ∈ z1, (Lit.int .u8 n).wf = true) (y1 : len1 * 1 ≤ 140737488351232) (w2 : (a2 = none ∧ len2 = 0 ∧ cap2 = 0 ∧ z2 = []) ∨ ∃ x, a2 = some x ∧ len2 ≤ cap2 ∧ cap2 ≤ maxLen ∧ z2.length = cap2 ∧ (∀ i, i < z2.length → w.cell? (x.add i) = some (.int .u8 (z2.getD i 0))) ∧ ∀ n ∈ z2, (Lit.int .u8 n).wf = true) (y2 : len2 * 1 ≤ 140737488351232) :
    Calls Try.prog 10 #[.slice a0 len0 cap0, .slice a1 len1 cap1, .slice a2 len2 cap2] w fun e w' => e = .returned (.bool true) ∧ Below w.heap.size w w' := by
  obtain ⟨l0, rfl, hr0, hm0, hw0, hc0⟩ := ReadsInt.ofRowC w0
  obtain ⟨l1, rfl, hr1, hm1, hw1, hc1⟩ := ReadsInt.ofRowC w1
  obtain ⟨l2, rfl, hr2, hm2, hw2, hc2⟩ := ReadsInt.ofRowC w2
  obtain ⟨k, h⟩ := P l0 l1 l2 hm0 y0 hw0 hm1 y1 hw1 hm2 y2 hw2
  refine (heliastlaw12_GraphOrder.calls k _ _ l0 _ _ l1 _ _ l2 true w (Kd.C_of_reads (d := (0 : Int)) (h1 := fun _ => rfl) hr0) hc0 (Kd.C_of_reads (d := (0 : Int)) (h1 := fun _ => rfl) hr1) hc1 (Kd.C_of_reads (d := (0 : Int)) (h1 := fun _ => rfl) hr2) hc2 h rfl).mono ?_
  rintro e w' ⟨rfl, hd⟩
  exact ⟨rfl, hd⟩

/-! ### pure Gr0 -/
-- PURE needs heliast/heliastlaw12.Graph needs heliast/heliastlaw12.known needs heliast/heliastref12.Same
open Go.Proofs.He
theorem rd_get {l : List Int} {i : Nat} (h : i < l.length) : rd l (i : Int) = l[i] := by simp [rd, h]
theorem g12_row (g : List (List Int)) (i : Nat) : rd_L1 g (i : Int) = g.getD i [] := by unfold rd_L1; rw [Int.toNat_natCast]
theorem g12_Same_l0 (a b : List Int) (hl : a.length = b.length) (hb : b.length < 4611686018427387904) (d : Nat) : ∀ (i k : Nat), i + d = a.length → d + 1 ≤ k → heliastref12_Same.l0 k a b (i : Int) = some (decide (a.drop i = b.drop i)) := by
  induction d with
  | zero =>
    intro i k hd hk
    obtain ⟨k, rfl⟩ : ∃ m, k = m + 1 := ⟨k - 1, by omega⟩
    simp only [heliastref12_Same.l0]
    rw [if_neg (by omega), List.drop_eq_nil_of_le (by omega), List.drop_eq_nil_of_le (by omega)]; rfl
  | succ d ih =>
    intro i k hd hk
    obtain ⟨k, rfl⟩ : ∃ m, k = m + 1 := ⟨k - 1, by omega⟩
    have hi : i < a.length := by omega
    have hj : i < b.length := by omega
    have hw : wrap64 ((i : Int) + 1) = ((i + 1 : Nat) : Int) := by rw [wrap_sm (by omega) (by omega)]; rfl
    have hd2 : (a.drop i = b.drop i) ↔ (a[i] = b[i] ∧ a.drop (i + 1) = b.drop (i + 1)) := by
      rw [List.drop_eq_getElem_cons hi, List.drop_eq_getElem_cons hj, List.cons.injEq]
    simp only [heliastref12_Same.l0]
    rw [if_pos (by omega), if_pos (by omega), if_pos (by omega), rd_get hi, rd_get hj, decide_eq_decide.2 hd2]
    by_cases he : a[i] = b[i]
    · rw [if_pos he, hw, ih (i + 1) k (by omega) (by omega)]
      simp only [he, true_and]
    · rw [if_neg he, decide_eq_false (fun h => he h.1)]
theorem g12_Same (a b : List Int) (hb : b.length < 4611686018427387904) (k : Nat) (hk : b.length + 1 ≤ k) : heliastref12_Same.f k a b = some (decide (a = b)) := by
  unfold heliastref12_Same.f
  by_cases hl : a.length = b.length
  · have h := g12_Same_l0 a b hl hb a.length 0 k (by omega) (by omega)
    rw [if_pos (by omega), show (0 : Int) = ((0 : Nat) : Int) from rfl, h]
    rfl
  · rw [if_neg (by omega)]
    have : a ≠ b := fun e => hl (by rw [e])
    simp [this]
/-! Graph -/
def g12_sel (c : List Int) (i j : Int) : Bool := decide ((Int.tmod (wrap64 ((wrap64 ((wrap64 (rd c i)) + (wrap64 (j * 7)))) + (wrap64 (rd c (Int.tmod (wrap64 (i + j)) (c.length : Int)))))) 5) = 0) || (decide (j = wrap64 (i - 1)) && decide ((Int.tmod (rd c i) 3) = 0))
theorem g12_Graph_l1 (c : List Int) (G : List (List Int)) (i : Nat) (hi : i < c.length) (hi2 : i < 24) (hG : G.length < 5864062014805) (d : Nat) : ∀ (j : Nat) (L : List Int) (K k : Nat), K = k + d + 1 → j + d = i → L.length ≤ j →
    heliastlaw12_Graph.l1 K c G (i : Int) L (j : Int) = heliastlaw12_Graph.l0 k c (G ++ [L ++ (seg j d).filter (g12_sel c i)]) (((i + 1 : Nat) : Int)) := by
  induction d with
  | zero =>
    intro j L K k hK hd hL
    subst hK
    have hw : wrap64 ((i : Int) + 1) = ((i + 1 : Nat) : Int) := by rw [wrap_sm (by omega) (by omega)]; rfl
    simp only [heliastlaw12_Graph.l1]
    rw [if_neg (by omega), if_pos hG, hw, seg_zero]
    simp
  | succ d ih =>
    intro j L K0 k hK hd hL
    obtain ⟨K, rfl⟩ : ∃ m, K0 = m + 1 := ⟨K0 - 1, by omega⟩
    have hw : wrap64 ((j : Int) + 1) = ((j + 1 : Nat) : Int) := by rw [wrap_sm (by omega) (by omega)]; rfl
    have hw2 : wrap64 ((i : Int) + j) = ((i + j : Nat) : Int) := by rw [wrap_sm (by omega) (by omega)]; rfl
    have hc0 : 0 < (c.length : Int) := by omega
    have hm0 : 0 ≤ Int.tmod ((i + j : Nat) : Int) (c.length : Int) := Int.tmod_nonneg _ (by omega)
    have hm1 : Int.tmod ((i + j : Nat) : Int) (c.length : Int) < (c.length : Int) := Int.tmod_lt_of_pos _ hc0
    simp only [heliastlaw12_Graph.l1]
    rw [if_pos (by omega), if_pos (by omega), if_pos (by omega), if_neg (by omega), hw2, if_pos hm0, if_pos hm1, hw, seg_succ]
    by_cases h1 : (Int.tmod (wrap64 ((wrap64 ((wrap64 (rd c i)) + (wrap64 ((j : Int) * 7)))) + (wrap64 (rd c (Int.tmod ((i + j : Nat) : Int) (c.length : Int)))))) 5) = 0
    · have hs : g12_sel c i j = true := by unfold g12_sel; rw [hw2, decide_eq_true h1]; rfl
      rw [if_pos h1, if_pos (by omega), ih (j + 1) (L ++ [(j : Int)]) K k (by omega) (by omega) (by simp; omega), List.filter_cons_of_pos hs]
      simp
    · rw [if_neg h1]
      by_cases h2 : (j : Int) = wrap64 ((i : Int) - 1)
      · rw [if_pos h2]
        by_cases h3 : (Int.tmod (rd c i) 3) = 0
        · have hs : g12_sel c i j = true := by unfold g12_sel; rw [hw2, decide_eq_false h1, decide_eq_true h2, decide_eq_true h3]; rfl
          rw [if_pos h3, if_pos (by omega), ih (j + 1) (L ++ [(j : Int)]) K k (by omega) (by omega) (by simp; omega), List.filter_cons_of_pos hs]
          simp
        · have hs : ¬ g12_sel c i j = true := by unfold g12_sel; rw [hw2, decide_eq_false h1, decide_eq_true h2, decide_eq_false h3]; simp
          rw [if_neg h3, ih (j + 1) L K k (by omega) (by omega) (by omega), List.filter_cons_of_neg hs]
      · have hs : ¬ g12_sel c i j = true := by unfold g12_sel; rw [hw2, decide_eq_false h1, decide_eq_false h2]; simp
        rw [if_neg h2, ih (j + 1) L K k (by omega) (by omega) (by omega), List.filter_cons_of_neg hs]
def g12_rows (c : List Int) (i d : Nat) : List (List Int) := (List.range' i d).map fun n => (seg 0 n).filter (g12_sel c n)
theorem g12_Graph_l0 (c : List Int) (m : Nat) (hm : m = min c.length 24) (d : Nat) : ∀ (i : Nat) (G : List (List Int)) (k : Nat), i + d = m → G.length = i → 30 * d + 3 ≤ k → heliastlaw12_Graph.l0 k c G (i : Int) = some (G ++ g12_rows c i d) := by
  induction d with
  | zero =>
    intro i G k hd hG hk
    obtain ⟨k, rfl⟩ : ∃ q, k = q + 2 := ⟨k - 2, by omega⟩
    simp only [heliastlaw12_Graph.l0, heliastlaw12_Graph.j1]
    by_cases h : (i : Int) < (c.length : Int)
    · rw [if_pos h, decide_eq_false (by omega)]; simp [g12_rows]
    · rw [if_neg h]; simp [g12_rows]
  | succ d ih =>
    intro i G k hd hG hk
    obtain ⟨k, rfl⟩ : ∃ q, k = (q + i + 1) + 2 := ⟨k - i - 3, by omega⟩
    have h1 := g12_Graph_l1 c G i (by omega) (by omega) (by omega) i 0 [] (k + i + 1) k rfl (by omega) (by simp)
    simp only [heliastlaw12_Graph.l0, heliastlaw12_Graph.j1]
    rw [if_pos (by omega), decide_eq_true (by omega), if_pos rfl, show (0 : Int) = ((0 : Nat) : Int) from rfl, h1, List.nil_append, ih (i + 1) _ k (by omega) (by simp; omega) (by omega)]
    unfold g12_rows
    rw [List.range'_succ, List.map_cons, List.append_assoc, List.singleton_append]
def g12_graph (c : List Int) : List (List Int) := g12_rows c 0 (min c.length 24)
theorem g12_Graph (c : List Int) (k : Nat) (hk : 1000 ≤ k) : heliastlaw12_Graph.f k c = some (g12_graph c) := by
  unfold heliastlaw12_Graph.f
  rw [show (0 : Int) = ((0 : Nat) : Int) from rfl, g12_Graph_l0 c (min c.length 24) rfl (min c.length 24) 0 [] k (by omega) rfl (by omega)]
  rfl
theorem g12_graph_length (c : List Int) : (g12_graph c).length = min c.length 24 := by simp [g12_graph, g12_rows]
theorem g12_graph_good (c : List Int) : BackG (g12_graph c) := by
  have key : ∀ n, n < (g12_graph c).length → (g12_graph c).getD n [] = (seg 0 n).filter (g12_sel c n) := by
    intro n hn
    rw [g12_graph_length] at hn
    unfold g12_graph g12_rows
    rw [List.getD_eq_getElem?_getD, List.getElem?_map, List.getElem?_range' hn]
    simp
  refine ⟨fun n hn => ?_, fun n hn x hx => ?_⟩
  · rw [key n hn]; exact (seg_rises 0 n).filter _
  · rw [key n hn] at hx
    have := mem_seg.1 (List.mem_filter.1 hx).1
    omega
theorem g12_graph_small (c : List Int) : (g12_graph c).length ≤ 24 := by rw [g12_graph_length]; omega
set_option maxRecDepth 100000 in
theorem g12_known_30 : heliastlaw12_known.f 30 = some true := by decide +kernel
theorem g12_known (k : Nat) (hk : 30 ≤ k) : heliastlaw12_known.f k = some true := by
  obtain ⟨d, rfl⟩ : ∃ d, k = 30 + d := ⟨k - 30, by omega⟩
  exact more_rounds heliastlaw12_known.mono 30 d true g12_known_30
theorem g12_Reach (g : List (List Int)) (l : List Int) (hg : g.length ≤ 24) : graph_Reach.f g l = some (rchL g l) := by unfold graph_Reach.f; rw [if_pos (by omega)]
theorem g12_Order (g : List (List Int)) (l r : List Int) (hg : g.length ≤ 24) : graph_Order.f g l r = some (ordL g l r) := by unfold graph_Order.f; rw [if_pos (by omega)]
theorem pickL_length (g : List (List Int)) (p : Int → Bool) : (pickL g p).length ≤ g.length := by
  unfold pickL; exact Nat.le_trans (List.length_filter_le _ _) (by simp)

/-! ### pure Gr1 -/
-- PURE needs heliast/heliastlaw12.Graph needs heliast/heliastlaw12.known needs heliast/heliastref12.Same needs heliast/heliastref12.Set
open Go.Proofs.He
theorem g12_Has_l0 (l : List Int) (x : Int) (hl : l.length < 4611686018427387904) (d : Nat) : ∀ (i k : Nat), i + d = l.length → d + 1 ≤ k → heliastref12_Has.l0 k l x (i : Int) = some (decide (x ∈ l.drop i)) := by
  induction d with
  | zero =>
    intro i k hd hk
    obtain ⟨k, rfl⟩ : ∃ m, k = m + 1 := ⟨k - 1, by omega⟩
    simp only [heliastref12_Has.l0]
    rw [if_neg (by omega), List.drop_eq_nil_of_le (by omega)]; simp
  | succ d ih =>
    intro i k hd hk
    obtain ⟨k, rfl⟩ : ∃ m, k = m + 1 := ⟨k - 1, by omega⟩
    have hi : i < l.length := by omega
    have hw : wrap64 ((i : Int) + 1) = ((i + 1 : Nat) : Int) := by rw [wrap_sm (by omega) (by omega)]; rfl
    simp only [heliastref12_Has.l0]
    rw [if_pos (by omega), if_pos (by omega), rd_get hi, List.drop_eq_getElem_cons hi]
    by_cases he : l[i] = x
    · rw [if_pos he]; simp [he]
    · rw [if_neg he, hw, ih (i + 1) k (by omega) (by omega)]
      have hx : x ≠ l[i] := fun e => he e.symm
      refine congrArg some (decide_eq_decide.2 ?_)
      rw [List.mem_cons]
      exact ⟨fun h => .inr h, fun h => h.resolve_left hx⟩
theorem g12_Has (l : List Int) (x : Int) (hl : l.length < 4611686018427387904) (k : Nat) (hk : l.length + 1 ≤ k) : heliastref12_Has.f k l x = some (decide (x ∈ l)) := by
  unfold heliastref12_Has.f
  rw [show (0 : Int) = ((0 : Nat) : Int) from rfl, g12_Has_l0 l x hl l.length 0 k (by omega) hk]; rfl
theorem g12_Set_l0 (g : List (List Int)) (l : List Int) (hg : g.length < 17592186044416) (hl : l.length < 4611686018427387904) (d : Nat) : ∀ (i : Nat) (out : List Int) (k : Nat), i + d = g.length → out.length ≤ i → d + l.length + 2 ≤ k →
    heliastref12_Set.l0 k g l out (i : Int) = some (out ++ (seg i d).filter (fun x => decide (x ∈ l))) := by
  induction d with
  | zero =>
    intro i out k hd ho hk
    obtain ⟨k, rfl⟩ : ∃ m, k = m + 1 := ⟨k - 1, by omega⟩
    simp only [heliastref12_Set.l0]
    rw [if_neg (by omega), seg_zero]; simp
  | succ d ih =>
    intro i out k hd ho hk
    obtain ⟨k, rfl⟩ : ∃ m, k = m + 1 := ⟨k - 1, by omega⟩
    have hw : wrap64 ((i : Int) + 1) = ((i + 1 : Nat) : Int) := by rw [wrap_sm (by omega) (by omega)]; rfl
    simp only [heliastref12_Set.l0]
    rw [if_pos (by omega), g12_Has l i hl k (by omega), Option.bind_some, hw, seg_succ]
    by_cases h : (i : Int) ∈ l
    · rw [if_pos (by simpa using h), if_pos (by omega), ih (i + 1) _ k (by omega) (by simp; omega) (by omega), List.filter_cons_of_pos (by simpa using h)]; simp
    · rw [if_neg (by simpa using h), ih (i + 1) _ k (by omega) (by omega) (by omega), List.filter_cons_of_neg (by simpa using h)]
theorem g12_Set (g : List (List Int)) (l : List Int) (hg : g.length < 17592186044416) (hl : l.length < 4611686018427387904) (k : Nat) (hk : g.length + l.length + 2 ≤ k) : heliastref12_Set.f k g l = some (setL g l) := by
  unfold heliastref12_Set.f setL
  rw [show (0 : Int) = ((0 : Nat) : Int) from rfl, g12_Set_l0 g l hg hl g.length 0 [] k (by omega) (by simp) hk, pickL_seg]; rfl

/-! ### pure Gr4 -/
-- PURE needs heliast/heliastlaw12.Graph needs heliast/heliastlaw12.known needs heliast/heliastref12.Set needs heliast/heliastlaw12.Some
open Go.Proofs.He
theorem g12_Some_l0 (c : List Int) (d : Nat) : ∀ (i : Nat) (L : List Int) (k : Nat), i + d = min c.length 20 → L.length = i → d + 2 ≤ k → ∃ L', heliastlaw12_Some.l0 k c L (i : Int) = some L' ∧ L'.length ≤ 20 := by
  induction d with
  | zero =>
    intro i L k hd hL hk
    obtain ⟨k, rfl⟩ : ∃ m, k = m + 1 := ⟨k - 1, by omega⟩
    refine ⟨L, ?_, by omega⟩
    simp only [heliastlaw12_Some.l0]
    by_cases h : (i : Int) < (c.length : Int)
    · rw [if_pos h, if_neg (by omega)]
    · rw [if_neg h]
  | succ d ih =>
    intro i L k hd hL hk
    obtain ⟨k, rfl⟩ : ∃ m, k = m + 1 := ⟨k - 1, by omega⟩
    have hw : wrap64 ((i : Int) + 1) = ((i + 1 : Nat) : Int) := by rw [wrap_sm (by omega) (by omega)]; rfl
    simp only [heliastlaw12_Some.l0]
    rw [if_pos (by omega), if_pos (by omega), if_pos (by omega), if_pos (by omega), hw]
    exact ih (i + 1) _ k (by omega) (by simp; omega) (by omega)
theorem g12_Some (c : List Int) : ∃ L, L.length ≤ 20 ∧ ∀ k, 30 ≤ k → heliastlaw12_Some.f k c = some L := by
  obtain ⟨L, h, hl⟩ := g12_Some_l0 c (min c.length 20) 0 [] 30 (by omega) rfl (by omega)
  refine ⟨L, hl, fun k hk => ?_⟩
  obtain ⟨d, rfl⟩ : ∃ d, k = 30 + d := ⟨k - 30, by omega⟩
  exact more_rounds (heliastlaw12_Some.mono c) 30 d L h
theorem set_of {g : List (List Int)} {l : List Int} {p : Int → Bool} (h : ∀ x : Int, 0 ≤ x → x < g.length → (x ∈ l ↔ p x = true)) : setL g l = pickL g p := by
  refine rises_eq (pickL_rises g _) (pickL_rises g _) (fun x => ?_)
  rw [mem_setL, mem_pickL]
  constructor
  · rintro ⟨hv, hx⟩; exact ⟨hv, (h x hv.1 hv.2).1 hx⟩
  · rintro ⟨hv, hx⟩; exact ⟨hv, (h x hv.1 hv.2).2 hx⟩

/-! ### pure Gr7 -/
-- PURE needs heliast/heliastlaw12.GraphOrder
open Go.Proofs.He
theorem g12_PastO (g : List (List Int)) (n : Int) (hg : g.length ≤ 24) : graph_Past.f g n = some (pastL g n) := by
  unfold graph_Past.f pastL
  by_cases h0 : n < 0
  · rw [if_pos h0, if_pos h0]
  · by_cases h1 : n ≥ g.length
    · rw [if_neg h0, if_pos h1, if_neg h0, if_pos h1]
    · rw [if_neg h0, if_neg h1, if_neg h0, if_neg h1, if_pos (by omega), if_pos (by omega), g12_Reach g _ hg]; rfl
theorem pastL_lenO (g : List (List Int)) (n : Int) : (pastL g n).length ≤ g.length := by
  unfold pastL
  split
  · simp
  · split
    · simp
    · exact pickL_length g _
theorem GraphOrder_l2 (g : List (List Int)) (o set P : List Int) (hP : P.length ≤ 24) (hol : o.length ≤ 24) (hsl : set.length ≤ 24) (i : Nat) (hi : i < o.length) (hno : ∀ j (hj : j < o.length), i < j → o[j] ∉ P ∧ o[i] ≠ o[j]) (hs : o[i] ∈ set)
    (R : Option Bool) (dd : Nat) (hR : ∀ k, dd ≤ k → heliastlaw12_GraphOrder.l1 k g o set ((i + 1 : Nat) : Int) = R) (d : Nat) : ∀ (j : Nat) (k : Nat), i < j → j + d = o.length → d + dd + 100 ≤ k →
    heliastlaw12_GraphOrder.l2 k g o set (i : Int) P (j : Int) = R := by
  have hwi : wrap64 ((i : Int) + 1) = ((i + 1 : Nat) : Int) := by rw [wrap_sm (by omega) (by omega)]; rfl
  have f3 : (0 : Int) ≤ (i : Int) := by omega
  have f4 : (i : Int) < (o.length : Int) := by omega
  induction d with
  | zero =>
    intro j k hij hd hk
    obtain ⟨k, rfl⟩ : ∃ m, k = m + 1 := ⟨k - 1, by omega⟩
    have f1 : ¬ (j : Int) < (o.length : Int) := by omega
    have f5 := g12_Has set o[i] (Nat.lt_of_le_of_lt hsl (by decide)) k (by omega)
    have f6 := hR k (by omega)
    simp only [heliastlaw12_GraphOrder.l2]
    rw [if_neg f1, if_pos f3, if_pos f4, rd_get hi, f5, Option.bind_some, decide_eq_true hs, if_pos rfl, hwi]
    exact f6
  | succ d ih =>
    intro j k hij hd hk
    obtain ⟨k, rfl⟩ : ∃ m, k = m + 1 := ⟨k - 1, by omega⟩
    have hj : j < o.length := by omega
    have hw : wrap64 ((j : Int) + 1) = ((j + 1 : Nat) : Int) := by rw [wrap_sm (by omega) (by omega)]; rfl
    have f1 : (j : Int) < (o.length : Int) := by omega
    have f2 : (0 : Int) ≤ (j : Int) := by omega
    have f5 := g12_Has P o[j] (Nat.lt_of_le_of_lt hP (by decide)) k (by omega)
    have f6 := ih (j + 1) k (by omega) (by omega) (by omega)
    have f7 := hno j hj hij
    simp only [heliastlaw12_GraphOrder.l2]
    rw [if_pos f1, if_pos f2, rd_get hj, f5, Option.bind_some, decide_eq_false f7.1, if_neg (by decide), if_pos f3, if_pos f4, rd_get hi, if_neg f7.2, hw]
    exact f6
theorem GraphOrder_l1 (g : List (List Int)) (hg : g.length ≤ 24) (o set : List Int) (hol : o.length ≤ 24) (hsl : set.length ≤ 24) (hv : ∀ x ∈ o, 0 ≤ x ∧ x < g.length) (hp : o.Pairwise (fun a b => ¬ Rch g (g.getD a.toNat []) b ∧ a ≠ b)) (hs : ∀ x ∈ o, x ∈ set) (d : Nat) : ∀ (i : Nat) (k : Nat), i + d = o.length → 200 * d + 100 ≤ k →
    heliastlaw12_GraphOrder.l1 k g o set (i : Int) = some true := by
  induction d with
  | zero =>
    intro i k hd hk
    obtain ⟨k, rfl⟩ : ∃ m, k = m + 1 := ⟨k - 1, by omega⟩
    simp only [heliastlaw12_GraphOrder.l1]
    rw [if_neg (by omega), g12_known k (by omega)]; rfl
  | succ d ih =>
    intro i k hd hk
    obtain ⟨k, rfl⟩ : ∃ m, k = m + 1 := ⟨k - 1, by omega⟩
    have hi : i < o.length := by omega
    have hw : wrap64 ((i : Int) + 1) = ((i + 1 : Nat) : Int) := by rw [wrap_sm (by omega) (by omega)]; rfl
    simp only [heliastlaw12_GraphOrder.l1]
    rw [if_pos (by omega), if_pos (by omega), rd_get hi, g12_PastO g _ hg, Option.bind_some, hw]
    have hvi := hv _ (List.getElem_mem hi)
    have h2 := GraphOrder_l2 g o set (pastL g o[i]) (Nat.le_trans (pastL_lenO g o[i]) hg) hol hsl i hi (fun j hj hij => by
      have hpp := List.pairwise_iff_getElem.1 hp i j hi hj hij
      exact ⟨by rw [pastL_eq hvi.1 hvi.2, mem_rchL]; exact hpp.1, hpp.2⟩) (hs _ (List.getElem_mem hi)) (some true) (200 * d + 100) (fun k hk => ih (i + 1) k (by omega) hk) (o.length - (i + 1)) (i + 1) k (by omega) (by omega) (by omega)
    exact h2
theorem GraphOrder_j1 (g : List (List Int)) (hG : BackG g) (hg : g.length ≤ 24) (l rank : List Int) (hl : l.length ≤ 20) (k : Nat) (hk : 6000 ≤ k) : heliastlaw12_GraphOrder.j1 k g l rank = some true := by
  obtain ⟨k, rfl⟩ : ∃ m, k = m + 1 := ⟨k - 1, by omega⟩
  have hsl := pickL_length g (fun x => decide (x ∈ l))
  have hsl' : (setL g l).length ≤ 24 := Nat.le_trans hsl hg
  obtain ⟨h1, h2, h3⟩ := ordGo_perm hG rank (setL g l).length (setL g l) (rises_nodup (pickL_rises g _)) (fun x hx => (mem_setL.1 hx).1) (Nat.le_refl _)
  simp only [heliastlaw12_GraphOrder.j1]
  rw [g12_Order g l rank hg, Option.bind_some, g12_Set g l (by omega) (by omega) k (by omega), Option.bind_some]
  have ho : ordL g l rank = ordGo g rank (setL g l).length (setL g l) := rfl
  rw [← ho] at h1 h2 h3
  rw [if_pos (by rw [h2])]
  exact GraphOrder_l1 g hg _ _ (by omega) hsl' (fun x hx => (mem_setL.1 ((h1 x).1 hx)).1) h3 (fun x hx => (h1 x).1 hx) (ordL g l rank).length 0 k (by omega) (by omega)
theorem GraphOrder_l0 (c : List Int) (g : List (List Int)) (hG : BackG g) (hg : g.length ≤ 24) (l : List Int) (hl : l.length ≤ 20) (d : Nat) : ∀ (i : Nat) (rank : List Int) (k : Nat), i + d = min c.length 30 → rank.length = i → d + 6001 ≤ k → heliastlaw12_GraphOrder.l0 k c g l rank (i : Int) = some true := by
  induction d with
  | zero =>
    intro i rank k hd hr hk
    obtain ⟨k, rfl⟩ : ∃ m, k = m + 1 := ⟨k - 1, by omega⟩
    simp only [heliastlaw12_GraphOrder.l0]
    by_cases h : (i : Int) < (c.length : Int)
    · rw [if_pos h, if_neg (by omega)]; exact GraphOrder_j1 g hG hg l rank hl k (by omega)
    · rw [if_neg h]; exact GraphOrder_j1 g hG hg l rank hl k (by omega)
  | succ d ih =>
    intro i rank k hd hr hk
    obtain ⟨k, rfl⟩ : ∃ m, k = m + 1 := ⟨k - 1, by omega⟩
    have hw : wrap64 ((i : Int) + 1) = ((i + 1 : Nat) : Int) := by rw [wrap_sm (by omega) (by omega)]; rfl
    simp only [heliastlaw12_GraphOrder.l0]
    rw [if_pos (by omega), if_pos (by omega), if_pos (by omega), if_pos (by omega), hw]
    exact ih (i + 1) _ k (by omega) (by simp; omega) (by omega)
theorem GraphOrder_pure : heliastlaw12_GraphOrder.Pure := by
  intro c l1 l2 _ _ _ _ _ _ _ _ _
  refine ⟨7000, ?_⟩
  unfold heliastlaw12_GraphOrder.f
  obtain ⟨a, ha, hA⟩ := g12_Some l1
  rw [g12_Graph c 7000 (by omega), Option.bind_some, hA 7000 (by omega), Option.bind_some]
  exact GraphOrder_l0 l2 _ (g12_graph_good c) (g12_graph_small c) a ha (min l2.length 30) 0 [] 7000 (by omega) rfl (by omega)

end Go.Proofs.Ytbldllghkfgkeaa.S

-- Written by heprint.py (this session's, over the kit's print.py): not trusted, Lean checks it.
import Derived.Test.YtbldllghkfgkeaaPc0
import Derived.Test.YtbldllghkfgkeaaPc2
import Derived.Test.YtbldllghkfgkeaaPc3
import Derived.Test.YtbldllghkfgkeaaPc4
import Derived.Test.YtbldllghkfgkeaaPc5
import Derived.Test.YtbldllghkfgkeaaPc6
import Derived.Test.YtbldllghkfgkeaaPc9
namespace Go.Proofs.Ytbldllghkfgkeaa.S
open Go.RowKit Go.Proofs.YtbldllghkfgkeaaW.PrintWords Go.Proofs.YtbldllghkfgkeaaW.PrintLast Go.Proofs.YtbldllghkfgkeaaW.PrintMore
attribute [local go_sem] max2_int min2_int max_two min_two max_three min_three max_four min_four   -- for this text's walks alone
set_option linter.unusedVariables false
set_option linter.unusedSimpArgs false

/-! ### heliastlaw13_puts: function 48 -/
def heliastlaw13_puts.f (k : Nat) (l0 : List (S74)) (a1_0 : ByteArray) (a1_1 : ByteArray) (a1_2 : Int) : Option (Bool) := (state_Put.f l0 a1_0 a1_1 a1_2).bind fun t209 => ((heliastref13_Put.f k l0 a1_0 a1_1 a1_2).bind fun t212 => ((heliastref13_Same.f k t209 t212).bind fun t215 => (some t215)))
theorem heliastlaw13_puts.mono : ∀ a0 a1 a2 a3 k, LeO (heliastlaw13_puts.f k a0 a1 a2 a3) (heliastlaw13_puts.f (k + 1) a0 a1 a2 a3) := by
  intro a0 a1 a2 a3 k
  unfold heliastlaw13_puts.f
  repeat' first
      | (with_reducible exact heliastref13_Put.mono _ _ _ _ _)
      | (with_reducible exact heliastref13_Same.mono _ _ _)
      | (with_reducible exact LeO.refl _)
      | (with_reducible exact LeO.none _)
      | (with_reducible refine LeO.ite ?_ ?_)
      | (with_reducible refine LeO.bind ?_ (fun _ => ?_))
      | exact heliastref13_Put.mono _ _ _ _ _
      | exact heliastref13_Same.mono _ _ _
      | exact LeO.none _
      | refine LeO.ite ?_ ?_
      | refine LeO.bind ?_ (fun _ => ?_)
def heliastlaw13_puts.T1 : Bool × List (List Nat × List Nat) := (true, [([], []), ([], []), ([0, 1], [0, 1]), ([], []), ([], []), ([3, 4, 2], [3, 4]), ([2, 5, 5], [2, 5]), ([6, 6, 0, 1, 2, 3, 4, 5, 6], [6])])
def heliastlaw13_puts.B1 : List Nat := [0, 0, 3, 0, 0, 31, 63, 127]
theorem heliastlaw13_puts.tab1 : rtab .any (opsOf Try.f48 1) = heliastlaw13_puts.T1 := by kernel_rfl
theorem heliastlaw13_puts.bits1 : waitsOk heliastlaw13_puts.T1.2 heliastlaw13_puts.B1 = true := by kernel_rfl
set_option maxHeartbeats 8000000 in
set_option maxRecDepth 100000 in
theorem heliastlaw13_puts.calls (k : Nat) (A0 : Option Addr) (c0 : Nat) (l0 : List (S74)) (a1_0 : ByteArray) (a1_1 : ByteArray) (a1_2 : Int) (r : Bool) (w : World) (hr0 : Kd.C k74 w A0 l0.length l0) (hc0 : l0.length ≤ c0) (h : heliastlaw13_puts.f k l0 a1_0 a1_1 a1_2 = some r) (hlaw : r = true) :
    Calls Try.prog 48 #[.slice A0 l0.length c0, .agg #[.string a1_0, .string a1_1, .int .i64 a1_2]] w fun e w' => e = .returned (.bool r) ∧ Below w.heap.size w w' := by
  have hu74 := Try.underlying74
  have HLAW := Aside0.mk hlaw
  clear hlaw
  have HR0 := Aside0.mk hr0
  have HC0 := Aside0.mk hc0
  clear hr0 hc0
  have HB := Aside0.mk (Below.refl w.heap.size w)
  have H : ((state_Put.f l0 a1_0 a1_1 a1_2).bind fun t209 => ((heliastref13_Put.f k l0 a1_0 a1_1 a1_2).bind fun t212 => ((heliastref13_Same.f k t209 t212).bind fun t215 => (some t215)))) = some r := h
  clear h
  replace H := Option.bind_eq_some_iff.mp H
  obtain ⟨t209, A30, H⟩ := H
  replace H : ((heliastref13_Put.f k l0 a1_0 a1_1 a1_2).bind fun t212 => ((heliastref13_Same.f k t209 t212).bind fun t215 => (some t215))) = some r := H
  have A3 := Aside0.mk A30
  clear A30
  replace H := Option.bind_eq_some_iff.mp H
  obtain ⟨t212, A40, H⟩ := H
  replace H : ((heliastref13_Same.f k t209 t212).bind fun t215 => (some t215)) = some r := H
  have A4 := Aside0.mk A40
  clear A40
  replace H := Option.bind_eq_some_iff.mp H
  obtain ⟨t215, A50, H⟩ := H
  replace H : (some t215) = some r := H
  have A5 := Aside0.mk A50
  clear A50
  obtain rfl := Option.some.inj H
  go_enter Try.func48, Try.ntmps48
  try go_wp2_with (first | ((with_reducible refine gate_dst (N := 3) rfl ?_); refine box_event ?hg (N := 3) ?hd (cs := #[.string a1_0, .string a1_1, .int .i64 a1_2]) (t := 74) ?hr ?_; (case hd => rfl); (case hg => rfl); (case hr => first | (go_simp; done) | (go_simp; rfl)); intro gb208 hg w6 hbox hb; have n0_ := Aside0.mk (below_step (by repeat (first | (with_reducible first | exact HB.out | apply below_alloc | apply pw_below_drewN | apply below_drew1) | exact HB.out)) hb); have n1_ := Aside0.mk (hbox); have n2_ := Aside0.mk ((by rw [hg]; exact (below_size (by repeat (first | (with_reducible first | exact HB.out | apply below_alloc | apply pw_below_drewN | apply below_drew1) | exact HB.out))) : w.heap.size ≤ gb208)); have n3_ := Aside0.mk ((by rw [hg]; exact (below_size (by repeat (first | (with_reducible first | exact HB.out | apply below_alloc | apply pw_below_drewN | apply below_drew1) | exact HB.out))) : w.heap.size ≤ gb208)); clear HB; have HB := n0_; have BK208 := n1_; have GW208 := n2_; have GE208 := n3_; clear n0_ n1_ n2_ n3_; clear hb hbox hg))
  have n0_ := Aside0.mk (blk_drew BK208.out)
  have n1_ := Aside0.mk (below_drew1 HB.out)
  clear BK208
  clear HB
  have BK208 := n0_
  have HB := n1_
  clear n0_ n1_
  refine start_ (n := 8) (S := fun w' => w'.cell? ⟨gb208, 0, none⟩ = some (.string a1_0) ∧ w'.cell? ⟨gb208, 1, none⟩ = some (.string a1_1) ∧ w'.cell? ⟨gb208, 2, none⟩ = some (.int .i64 a1_2)) (ds := []) #[false, false, false, false, false, false, false, false] (by kernel_rfl) rfl rfl ⟨(blk_cell BK208.out 0).trans rfl, (blk_cell BK208.out 1).trans rfl, (blk_cell BK208.out 2).trans rfl⟩ (fun hHeld => ?_); refine with_tabW heliastlaw13_puts.tab1 heliastlaw13_puts.bits1 (fun HT_ HW_ => ?_)
  generalize w6.drew = w7 at BK208 HB hHeld ⊢
  refine pure_ (i := 0) (N := some 5) (v := ?_) (a' := ?_) #[true, false, false, false, false, false, false, false] rfl rfl (any_of HT_.out (by kernel_rfl)) (fun _ _ _ h => h) (Or.inl ⟨by rfl, ?_⟩) ?_ ?_
  rotate_left
  · intro w'
    go_simp
    with_reducible rfl
  rotate_left
  · simp only [Act.put, List.setIfInBounds_toArray, List.set_cons_zero, List.set_cons_succ, i64_w, i32_w]
    rfl
  refine pure_ (i := 3) (N := some 8) (v := ?_) (a' := ?_) #[true, false, false, true, false, false, false, false] rfl rfl (any_of HT_.out (by kernel_rfl)) (fun _ _ _ h => h) (Or.inl ⟨by rfl, ?_⟩) ?_ ?_
  rotate_left
  · intro w'
    go_simp
    with_reducible rfl
  rotate_left
  · simp only [Act.put, List.setIfInBounds_toArray, List.set_cons_zero, List.set_cons_succ, i64_w, i32_w]
    rfl
  refine take_ (i := 1) (N := some 6) (v := ?_) (a' := ?_) #[true, true, false, true, false, false, false, false] rfl rfl (take_ofW HT_.out HW_.out (by kernel_rfl)) (fun _ _ _ h => h) (Or.inl ⟨by rfl, ?_⟩) hHeld ?_ ?_
  rotate_left
  · rintro w' ⟨s0, s1, s2⟩
    go_simp
    with_reducible rfl
  rotate_left
  · simp only [Act.put, List.setIfInBounds_toArray, List.set_cons_zero, List.set_cons_succ, i64_w, i32_w]
    rfl
  refine take_ (i := 4) (N := some 9) (v := ?_) (a' := ?_) #[true, true, false, true, true, false, false, false] rfl rfl (take_ofW HT_.out HW_.out (by kernel_rfl)) (fun _ _ _ h => h) (Or.inl ⟨by rfl, ?_⟩) hHeld ?_ ?_
  rotate_left
  · rintro w' ⟨s0, s1, s2⟩
    go_simp
    with_reducible rfl
  rotate_left
  · simp only [Act.put, List.setIfInBounds_toArray, List.set_cons_zero, List.set_cons_succ, i64_w, i32_w]
    rfl
  refine one_ (i := 2) (N := some 7) #[true, true, true, true, true, false, false, false] rfl rfl (one_of HT_.out (by kernel_rfl)) (by decide) (fun K hK => ?_)
  refine goes_ Try.func79 (by kernel_rfl) rfl #[.slice A0 l0.length c0, .agg #[.string a1_0, .string a1_1, .int .i64 a1_2]] (by rfl) rfl rfl (by (try simp only [List.map_toArray, List.map_cons, List.map_nil]); first | done | rfl | (simp only [List.length_drop, List.length_take]; rfl)) ?_
  with_reducible refine (state_Put.calls _ _ l0 a1_0 a1_1 a1_2 t209 _ ?side1 ?side2 A3.out).mono ?_
  (case side1 => repeat (first | exact (Kd.C_below HR0.out HB.out) | (with_reducible refine Kd.C_alloc ?_ _) | (with_reducible refine Kd.C_drewN ?_ _) | (with_reducible refine Kd.C_drew ?_)))
  (case side2 => exact HC0.out)
  rintro e w8 ⟨v210, rfl, ho0, hb⟩
  refine ⟨_, rfl, ?_⟩
  have n0_ := Aside0.mk (Kd.R_lower (Kd.R_newB ho0 (g := gb208) (o := .cells #[.string a1_0, .string a1_1, .int .i64 a1_2] 74 (0, 0)) (by (with_reducible repeat (first | refine blk_drewN ?_ _ | refine blk_drew ?_ | refine blk_alloc ?_ _)); exact BK208.out)) (below_size (by repeat (first | (with_reducible first | exact HB.out | apply below_alloc | apply pw_below_drewN | apply below_drew1 | refine below_set ?_ GE208.out) | exact HB.out))))
  have n1_ := Aside0.mk (blk_below (g := gb208) (o := .cells #[.string a1_0, .string a1_1, .int .i64 a1_2] 74 (0, 0)) (by (with_reducible repeat (first | refine blk_drewN ?_ _ | refine blk_drew ?_ | refine blk_alloc ?_ _)); exact BK208.out) hb)
  have n2_ := Aside0.mk (below_step (by repeat (first | (with_reducible first | exact HB.out | apply below_alloc | apply pw_below_drewN | apply below_drew1 | refine below_set ?_ GE208.out) | exact HB.out)) hb)
  clear BK208
  clear HB
  have HO211 := n0_
  have BK208 := n1_
  have HB := n2_
  clear n0_ n1_ n2_
  (try clear hb)
  (try clear hb2)
  (try clear hk)
  (try clear hi)
  (try clear ho0)
  refine hK.out _ _ ⟨(blk_cell BK208.out 0).trans rfl, (blk_cell BK208.out 1).trans rfl, (blk_cell BK208.out 2).trans rfl⟩ (fun hHeld => ?_)
  clear hK K
  refine norm_ (a' := ?_) ?_ ?_
  rotate_left
  · show Act.put _ (some 7) _ = _
    simp only [Act.put, List.setIfInBounds_toArray, List.set_cons_zero, List.set_cons_succ, i64_w, i32_w]
    rfl
  refine one_ (i := 5) (N := some 10) #[true, true, true, true, true, true, false, false] rfl rfl (one_of HT_.out (by kernel_rfl)) (by decide) (fun K hK => ?_)
  refine goes_ Try.func81 (by kernel_rfl) rfl #[.slice A0 l0.length c0, .agg #[.string a1_0, .string a1_1, .int .i64 a1_2]] (by rfl) rfl rfl (by (try simp only [List.map_toArray, List.map_cons, List.map_nil]); first | done | rfl | (simp only [List.length_drop, List.length_take]; rfl)) ?_
  with_reducible refine (heliastref13_Put.calls k _ _ l0 a1_0 a1_1 a1_2 t212 _ ?side1 ?side2 A4.out).mono ?_
  (case side1 => repeat (first | exact (Kd.C_below HR0.out HB.out) | (with_reducible refine Kd.C_alloc ?_ _) | (with_reducible refine Kd.C_drewN ?_ _) | (with_reducible refine Kd.C_drew ?_)))
  (case side2 => exact HC0.out)
  rintro e w9 ⟨v213, rfl, ho0, hb⟩
  refine ⟨_, rfl, ?_⟩
  have n0_ := Aside0.mk (Kd.R_elder' (by (with_reducible repeat (first | apply Kd.R_alloc | apply Kd.R_drewN | apply Kd.R_drew)); exact HO211.out) (Kd.R_base ho0) hb)
  have n1_ := Aside0.mk (Kd.R_lower (Kd.R_newB (Kd.R_new' ho0 (Kd.R_lt (by (with_reducible repeat (first | apply Kd.R_alloc | apply Kd.R_drewN | apply Kd.R_drew)); exact HO211.out))) (g := gb208) (o := .cells #[.string a1_0, .string a1_1, .int .i64 a1_2] 74 (0, 0)) (by (with_reducible repeat (first | refine blk_drewN ?_ _ | refine blk_drew ?_ | refine blk_alloc ?_ _)); exact BK208.out)) (below_size (by repeat (first | (with_reducible first | exact HB.out | apply below_alloc | apply pw_below_drewN | apply below_drew1 | refine below_set ?_ GE208.out) | exact HB.out))))
  have n2_ := Aside0.mk (blk_below (g := gb208) (o := .cells #[.string a1_0, .string a1_1, .int .i64 a1_2] 74 (0, 0)) (by (with_reducible repeat (first | refine blk_drewN ?_ _ | refine blk_drew ?_ | refine blk_alloc ?_ _)); exact BK208.out) hb)
  have n3_ := Aside0.mk (below_step (by repeat (first | (with_reducible first | exact HB.out | apply below_alloc | apply pw_below_drewN | apply below_drew1 | refine below_set ?_ GE208.out) | exact HB.out)) hb)
  clear HO211
  clear BK208
  clear HB
  have HO211 := n0_
  have HO214 := n1_
  have BK208 := n2_
  have HB := n3_
  clear n0_ n1_ n2_ n3_
  (try clear hb)
  (try clear hb2)
  (try clear hk)
  (try clear hi)
  (try clear ho0)
  obtain ⟨Ao10, co10, eo10⟩ := Kd.R_slice HO211.out
  (first | subst eo10 | (injection eo10 with f1_ f2_ f3_; have f4_ := f1_.symm; have f5_ := f3_.symm; clear f1_ f2_ f3_; subst f4_; subst f5_))
  obtain ⟨Ao11, co11, eo11⟩ := Kd.R_slice HO214.out
  (first | subst eo11 | (injection eo11 with f1_ f2_ f3_; have f4_ := f1_.symm; have f5_ := f3_.symm; clear f1_ f2_ f3_; subst f4_; subst f5_))
  refine hK.out _ _ ⟨(blk_cell BK208.out 0).trans rfl, (blk_cell BK208.out 1).trans rfl, (blk_cell BK208.out 2).trans rfl⟩ (fun hHeld => ?_)
  clear hK K
  refine norm_ (a' := ?_) ?_ ?_
  rotate_left
  · show Act.put _ (some 10) _ = _
    simp only [Act.put, List.setIfInBounds_toArray, List.set_cons_zero, List.set_cons_succ, i64_w, i32_w]
    rfl
  refine one_ (i := 6) (N := some 11) #[true, true, true, true, true, true, true, false] rfl rfl (one_of HT_.out (by kernel_rfl)) (by decide) (fun K hK => ?_)
  refine goes_ Try.func49 (by kernel_rfl) rfl #[.slice Ao10 t209.length co10, .slice Ao11 t212.length co11] (by rfl) rfl rfl (by (try simp only [List.map_toArray, List.map_cons, List.map_nil]); first | done | rfl | (simp only [List.length_drop, List.length_take]; rfl)) ?_
  with_reducible refine (heliastref13_Same.calls k _ _ t209 _ _ t212 t215 _ ?side1 ?side2 ?side3 ?side4 A5.out).mono ?_
  (case side1 => repeat (first | exact (Kd.R_reads' HO211.out).2.2 | (with_reducible refine Kd.C_alloc ?_ _) | (with_reducible refine Kd.C_drewN ?_ _) | (with_reducible refine Kd.C_drew ?_)))
  (case side2 => exact (Kd.R_reads' HO211.out).2.1)
  (case side3 => repeat (first | exact (Kd.R_reads' HO214.out).2.2 | (with_reducible refine Kd.C_alloc ?_ _) | (with_reducible refine Kd.C_drewN ?_ _) | (with_reducible refine Kd.C_drew ?_)))
  (case side4 => exact (Kd.R_reads' HO214.out).2.1)
  rintro e w' ⟨rfl, ⟨nd, rfl⟩⟩
  refine ⟨_, rfl, ?_⟩
  refine hK.out _ _ ⟨(blk_cell BK208.out 0).trans rfl, (blk_cell BK208.out 1).trans rfl, (blk_cell BK208.out 2).trans rfl⟩ (fun hHeld => ?_)
  clear hK K
  refine norm_ (a' := ?_) ?_ ?_
  rotate_left
  · show Act.put _ (some 11) _ = _
    simp only [Act.put, List.setIfInBounds_toArray, List.set_cons_zero, List.set_cons_succ, i64_w, i32_w]
    rfl
  refine pure_ (i := 7) (N := some 4) (v := ?_) (a' := ?_) #[true, true, true, true, true, true, true, true] rfl rfl (any_of HT_.out (by kernel_rfl)) (fun _ _ _ h => h) (Or.inl ⟨by rfl, ?_⟩) ?_ ?_
  rotate_left
  · intro w'
    go_simp
    with_reducible rfl
  rotate_left
  · simp only [Act.put, List.setIfInBounds_toArray, List.set_cons_zero, List.set_cons_succ, i64_w, i32_w]
    rfl
  refine done_ (done_of HT_.out (by kernel_rfl)) ?_
  try go_wp2
  go_ret
  exact ⟨by first | rfl | (simp [errW_none, errW_some] <;> rfl) | (simp [*, errW_none, errW_some] <;> rfl), by repeat (first | (with_reducible first | exact HB.out | apply below_alloc | apply pw_below_drewN | apply below_drew1 | refine below_set ?_ GE208.out) | exact HB.out)⟩

/-! ### state_Over: function 50 -/
def state_Over.l0 : Nat → List (S74) → List (S74) → Int → Int → Option ((List (S74)))
  | 0, _, _, _, _ => none
  | k + 1, x5, x10, x11, x12 => if x12 < x11 then (if 0 ≤ x12 then (if x12 < (x10.length : Int) then ((state_Put.f x5 ((rd_T74 x10 x12).f0) ((rd_T74 x10 x12).f1) ((rd_T74 x10 x12).f2)).bind fun t221 => (state_Over.l0 k t221 x10 x11 (wrap64 (x12 + 1)))) else (none)) else (none)) else (some x5)
def state_Over.f (k : Nat) (l0 : List (S74)) (l1 : List (S74)) : Option ((List (S74))) := (slices_Clone_Entry.f l0).bind fun t216 => (state_Over.l0 k t216 l1 (l1.length : Int) 0)
theorem state_Over.mono_l : ∀ k, (∀ y0 y1 y2 y3, LeO (state_Over.l0 k y0 y1 y2 y3) (state_Over.l0 (k + 1) y0 y1 y2 y3))
  | 0 => fun _ _ _ _ r h => by simp [state_Over.l0] at h
  | k + 1 => by
    have ih0 := state_Over.mono_l k
    · intro y0 y1 y2 y3
      unfold state_Over.l0
      repeat' first
      | (with_reducible exact ih0 _ _ _ _)
      | (with_reducible exact LeO.refl _)
      | (with_reducible exact LeO.none _)
      | (with_reducible refine LeO.ite ?_ ?_)
      | (with_reducible refine LeO.bind ?_ (fun _ => ?_))
      | exact ih0 _ _ _ _
      | exact LeO.none _
      | refine LeO.ite ?_ ?_
      | refine LeO.bind ?_ (fun _ => ?_)
theorem state_Over.mono : ∀ a0 a1 k, LeO (state_Over.f k a0 a1) (state_Over.f (k + 1) a0 a1) := by
  intro a0 a1 k
  have ih0 := state_Over.mono_l k
  unfold state_Over.f
  repeat' first
      | (with_reducible exact ih0 _ _ _ _)
      | (with_reducible exact LeO.refl _)
      | (with_reducible exact LeO.none _)
      | (with_reducible refine LeO.ite ?_ ?_)
      | (with_reducible refine LeO.bind ?_ (fun _ => ?_))
      | exact ih0 _ _ _ _
      | exact LeO.none _
      | refine LeO.ite ?_ ?_
      | refine LeO.bind ?_ (fun _ => ?_)
set_option maxHeartbeats 8000000 in
set_option maxRecDepth 100000 in
theorem state_Over.calls (k : Nat) (A0 : Option Addr) (c0 : Nat) (l0 : List (S74)) (A1 : Option Addr) (c1 : Nat) (l1 : List (S74)) (r : List (S74)) (w : World) (hr0 : Kd.C k74 w A0 l0.length l0) (hc0 : l0.length ≤ c0) (hr1 : Kd.C k74 w A1 l1.length l1) (hc1 : l1.length ≤ c1) (h : state_Over.f k l0 l1 = some r) :
    Calls Try.prog 50 #[.slice A0 l0.length c0, .slice A1 l1.length c1] w fun e w' => ∃ v0_ : Value, e = .returned (v0_) ∧ Kd.R k74 74 w' w.heap.size (fun _ => True) v0_ r ∧ Below w.heap.size w w' := by
  have hu74 := Try.underlying74
  have HR0 := Aside0.mk hr0
  have HC0 := Aside0.mk hc0
  clear hr0 hc0
  have HR1 := Aside0.mk hr1
  have HC1 := Aside0.mk hc1
  clear hr1 hc1
  have HB := Aside0.mk (Below.refl w.heap.size w)
  have H : ((slices_Clone_Entry.f l0).bind fun t216 => (state_Over.l0 k t216 l1 (l1.length : Int) 0)) = some r := h
  clear h
  replace H := Option.bind_eq_some_iff.mp H
  obtain ⟨t216, A30, H⟩ := H
  replace H : (state_Over.l0 k t216 l1 (l1.length : Int) 0) = some r := H
  have A3 := Aside0.mk A30
  clear A30
  have H' := Aside0.mk H
  clear H
  go_enter Try.func50, Try.ntmps50
  go_wp2_with (first | ((with_reducible refine gate_callee (f := 86) rfl ?_); refine goesL_ (some 9) rfl rfl Try.func86 (by kernel_rfl) rfl #[.slice A0 l0.length c0] rfl (by (try simp only [List.map_toArray, List.map_cons, List.map_nil]); first | done | rfl | (simp only [List.length_drop, List.length_take]; rfl)) ?_; (with_reducible refine (slices_Clone_Entry.calls _ _ l0 t216 _ ?side1 ?side2 A3.out).mono ?_); (case side1 => repeat (first | exact HR0.out | (with_reducible refine Kd.C_alloc ?_ _) | (with_reducible refine Kd.C_drewN ?_ _) | (with_reducible refine Kd.C_drew ?_))); (case side2 => exact HC0.out); rintro e w4 ⟨v217, rfl, ho0, hb⟩; refine ⟨_, rfl, ?_⟩; have n0_ := Aside0.mk (Kd.R_lower ho0 (below_size (by repeat (first | (with_reducible first | exact HB.out | apply below_alloc | apply pw_below_drewN | apply below_drew1) | exact HB.out)))); have n1_ := Aside0.mk (below_step (by repeat (first | (with_reducible first | exact HB.out | apply below_alloc | apply pw_below_drewN | apply below_drew1) | exact HB.out)) hb); clear HB; have HO218 := n0_; have HB := n1_; clear n0_ n1_; (try clear hb); (try clear hb2); (try clear hk); (try clear hi); (try clear ho0)))
  go_loopg [5, 12] k (fun kq v5 v12 w' => ∃ (x5_1 : List (S74)) (x12_1 : Int), v12 = .int .i64 x12_1 ∧ Aside0 (state_Over.l0 kq x5_1 l1 (l1.length : Int) x12_1 = some r) ∧ Aside0 (kq ≤ k) ∧ Aside0 (Kd.R k74 74 w' w.heap.size (fun _ => True) v5 x5_1) ∧ Aside0 (Below w.heap.size w w'))
  case atStart => exact ⟨(t216), (0), (by first | rfl | (simp; done) | (simp [*]; done)), H', ⟨Nat.le_refl _⟩, ⟨by (with_reducible repeat (first | apply Kd.R_alloc | apply Kd.R_drewN | apply Kd.R_drew)); exact HO218.out⟩, ⟨by repeat (first | (with_reducible first | exact HB.out | apply below_alloc | apply pw_below_drewN | apply below_drew1) | exact HB.out)⟩⟩
  case round =>
    clear H'
    try clear c1
    try clear p2
    obtain ⟨x5_1, x12_1, rfl, HA, HK1, HO_5, HB⟩ := hrel
    cases gk with
    | zero => exact absurd HA.out (by simp [state_Over.l0])
    | succ k1 =>
      have H := HA.out
      clear HA
      simp only [state_Over.l0] at H
      by_cases c5 : x12_1 < (l1.length : Int)
      · rw [if_pos c5] at H
        have c5b0 : decide (x12_1 < (l1.length : Int)) = true := decide_eq_true c5
        clear c5
        by_cases c6 : 0 ≤ x12_1
        · rw [if_pos c6] at H
          have c6b0 : decide (0 ≤ x12_1) = true := decide_eq_true c6
          clear c6
          by_cases c7 : x12_1 < (l1.length : Int)
          · rw [if_pos c7] at H
            have c7b0 : decide (x12_1 < (l1.length : Int)) = true := decide_eq_true c7
            clear c7
            replace H := Option.bind_eq_some_iff.mp H
            obtain ⟨t221, A80, H⟩ := H
            replace H : (state_Over.l0 k1 t221 l1 (l1.length : Int) (wrap64 (x12_1 + 1))) = some r := H
            have A8 := Aside0.mk A80
            clear A80
            have H' := Aside0.mk H
            clear H
            have p219 : 0 ≤ (x12_1 : Int) := of_decide_eq_true (by first | (with_reducible assumption) | assumption)
            have q219 : x12_1 < (l1.length : Int) := of_decide_eq_true (by first | (with_reducible assumption) | assumption)
            obtain ⟨ad219, e219, hx219_0, hx219_1, hx219_2⟩ := at_T74 HR1.out x12_1 p219 q219
            cases e219
            replace hx219_0 := (HB.out.cell (World.block_lt_of_cell? w _ hx219_0)).trans hx219_0
            replace hx219_1 := (HB.out.cell (World.block_lt_of_cell? w _ hx219_1)).trans hx219_1
            replace hx219_2 := (HB.out.cell (World.block_lt_of_cell? w _ hx219_2)).trans hx219_2
            replace p219 := eq_true p219
            replace q219 := eq_true q219
            go_wp2_with (first | ((with_reducible refine gate_dst (N := 7) rfl ?_); refine box_event ?hg (N := 7) ?hd (cs := #[.string (⟨#[]⟩ : ByteArray), .string (⟨#[]⟩ : ByteArray), .int .i64 0]) (t := 74) ?hr ?_; (case hd => rfl); (case hg => rfl); (case hr => first | (go_simp; done) | (go_simp; rfl)); intro gb220 hg w9 hbox hb; have n0_ := Aside0.mk (Kd.R_below (Kd.R_elderB (by (with_reducible repeat (first | apply Kd.R_alloc | apply Kd.R_drewN | apply Kd.R_drew)); exact HO_5.out) gb220 (Nat.le_of_eq hg.symm)) hb); have n1_ := Aside0.mk (below_step (by repeat (first | (with_reducible first | exact HB.out | apply below_alloc | apply pw_below_drewN | apply below_drew1) | exact HB.out)) hb); have n2_ := Aside0.mk (hbox); have n3_ := Aside0.mk ((by rw [hg]; exact (below_size (by repeat (first | (with_reducible first | exact HB.out | apply below_alloc | apply pw_below_drewN | apply below_drew1) | exact HB.out))) : w.heap.size ≤ gb220)); have n4_ := Aside0.mk ((by rw [hg]; exact (below_size (by repeat (first | (with_reducible first | exact HB.out | apply below_alloc | apply pw_below_drewN | apply below_drew1) | exact HB.out))) : w.heap.size ≤ gb220)); clear HO_5; clear HB; have HO_5 := n0_; have HB := n1_; have BK220 := n2_; have GW220 := n3_; have GE220 := n4_; clear n0_ n1_ n2_ n3_ n4_; clear hb hbox hg; have hcz10_0 : w9.cell? ⟨gb220, 0, none⟩ = some (.string (⟨#[]⟩ : ByteArray)) := (blk_cell BK220.out 0).trans rfl; have hcz10_1 : w9.cell? ⟨gb220, 1, none⟩ = some (.string (⟨#[]⟩ : ByteArray)) := (blk_cell BK220.out 1).trans rfl; have hcz10_2 : w9.cell? ⟨gb220, 2, none⟩ = some (.int .i64 0) := (blk_cell BK220.out 2).trans rfl; have hfz10_0 := blk_frozen BK220.out 0; have hfz10_1 := blk_frozen BK220.out 1; have hfz10_2 := blk_frozen BK220.out 2; obtain ⟨Ao11, co11, eo11⟩ := Kd.R_slice HO_5.out; subst eo11) | ((with_reducible refine gate_callee (f := 79) rfl ?_); refine goesL_ (some 18) rfl rfl Try.func79 (by kernel_rfl) rfl #[.slice Ao11 x5_1.length co11, .agg #[.string ((rd_T74 l1 x12_1).f0), .string ((rd_T74 l1 x12_1).f1), .int .i64 ((rd_T74 l1 x12_1).f2)]] rfl (by (try simp only [List.map_toArray, List.map_cons, List.map_nil]); first | done | rfl | (simp only [List.length_drop, List.length_take]; rfl)) ?_; (with_reducible refine (state_Put.calls _ _ x5_1 ((rd_T74 l1 x12_1).f0) ((rd_T74 l1 x12_1).f1) ((rd_T74 l1 x12_1).f2) t221 _ ?side1 ?side2 A8.out).mono ?_); (case side1 => refine (Kd.R_reads' (e := 74) (base := w.heap.size) (ok := fun k_ => (True ∧ k_ ≠ gb220)) (n := x5_1.length) (c := co11) ?_).2.2; exact (by (with_reducible repeat (first | apply Kd.R_alloc | apply Kd.R_drewN | apply Kd.R_drew)); exact (Kd.R_mono (Kd.R_far (p := ⟨gb220, 2, none⟩) (Kd.R_far (p := ⟨gb220, 1, none⟩) (Kd.R_far (p := ⟨gb220, 0, none⟩) (Kd.R_mono HO_5.out (fun k_ hk => (⟨hk, hk.2⟩ : _ ∧ k_ ≠ gb220))) (fun _ hk => hk.2) (.string ((rd_T74 l1 x12_1).f0))) (fun _ hk => hk.2) (.string ((rd_T74 l1 x12_1).f1))) (fun _ hk => hk.2) (.int .i64 ((rd_T74 l1 x12_1).f2))) (fun _ h_ => h_.1)))); (case side2 => exact (Kd.R_reads' HO_5.out).2.1); rintro e w12 ⟨v222, rfl, ho0, hb⟩; refine ⟨_, rfl, ?_⟩; have n0_ := Aside0.mk (Kd.R_elder' (by (with_reducible repeat (first | apply Kd.R_alloc | apply Kd.R_drewN | apply Kd.R_drew)); exact (Kd.R_mono (Kd.R_far (p := ⟨gb220, 2, none⟩) (Kd.R_far (p := ⟨gb220, 1, none⟩) (Kd.R_far (p := ⟨gb220, 0, none⟩) (Kd.R_mono HO_5.out (fun k_ hk => (⟨hk, hk.2⟩ : _ ∧ k_ ≠ gb220))) (fun _ hk => hk.2) (.string ((rd_T74 l1 x12_1).f0))) (fun _ hk => hk.2) (.string ((rd_T74 l1 x12_1).f1))) (fun _ hk => hk.2) (.int .i64 ((rd_T74 l1 x12_1).f2))) (fun _ h_ => h_.1))) (Kd.R_base ho0) hb); have n1_ := Aside0.mk (Kd.R_lower (Kd.R_newB (Kd.R_new' ho0 (Kd.R_lt (by (with_reducible repeat (first | apply Kd.R_alloc | apply Kd.R_drewN | apply Kd.R_drew)); exact (Kd.R_mono (Kd.R_far (p := ⟨gb220, 2, none⟩) (Kd.R_far (p := ⟨gb220, 1, none⟩) (Kd.R_far (p := ⟨gb220, 0, none⟩) (Kd.R_mono HO_5.out (fun k_ hk => (⟨hk, hk.2⟩ : _ ∧ k_ ≠ gb220))) (fun _ hk => hk.2) (.string ((rd_T74 l1 x12_1).f0))) (fun _ hk => hk.2) (.string ((rd_T74 l1 x12_1).f1))) (fun _ hk => hk.2) (.int .i64 ((rd_T74 l1 x12_1).f2))) (fun _ h_ => h_.1))))) (g := gb220) (o := .cells #[.string ((rd_T74 l1 x12_1).f0), .string ((rd_T74 l1 x12_1).f1), .int .i64 ((rd_T74 l1 x12_1).f2)] 74 (0, 0)) (by (with_reducible repeat (first | refine blk_drewN ?_ _ | refine blk_drew ?_ | refine blk_alloc ?_ _)); refine blk_put (cs := #[.string ((rd_T74 l1 x12_1).f0), .string ((rd_T74 l1 x12_1).f1), .int .i64 0]) ?_ 2 _ rfl; (with_reducible repeat (first | refine blk_drewN ?_ _ | refine blk_drew ?_ | refine blk_alloc ?_ _)); refine blk_put (cs := #[.string ((rd_T74 l1 x12_1).f0), .string (⟨#[]⟩ : ByteArray), .int .i64 0]) ?_ 1 _ rfl; (with_reducible repeat (first | refine blk_drewN ?_ _ | refine blk_drew ?_ | refine blk_alloc ?_ _)); refine blk_put (cs := #[.string (⟨#[]⟩ : ByteArray), .string (⟨#[]⟩ : ByteArray), .int .i64 0]) ?_ 0 _ rfl; (with_reducible repeat (first | refine blk_drewN ?_ _ | refine blk_drew ?_ | refine blk_alloc ?_ _)); exact BK220.out)) (below_size (by repeat (first | (with_reducible first | exact HB.out | apply below_alloc | apply pw_below_drewN | apply below_drew1 | refine below_set ?_ GE220.out) | exact HB.out)))); have n2_ := Aside0.mk (blk_below (g := gb220) (o := .cells #[.string ((rd_T74 l1 x12_1).f0), .string ((rd_T74 l1 x12_1).f1), .int .i64 ((rd_T74 l1 x12_1).f2)] 74 (0, 0)) (by (with_reducible repeat (first | refine blk_drewN ?_ _ | refine blk_drew ?_ | refine blk_alloc ?_ _)); refine blk_put (cs := #[.string ((rd_T74 l1 x12_1).f0), .string ((rd_T74 l1 x12_1).f1), .int .i64 0]) ?_ 2 _ rfl; (with_reducible repeat (first | refine blk_drewN ?_ _ | refine blk_drew ?_ | refine blk_alloc ?_ _)); refine blk_put (cs := #[.string ((rd_T74 l1 x12_1).f0), .string (⟨#[]⟩ : ByteArray), .int .i64 0]) ?_ 1 _ rfl; (with_reducible repeat (first | refine blk_drewN ?_ _ | refine blk_drew ?_ | refine blk_alloc ?_ _)); refine blk_put (cs := #[.string (⟨#[]⟩ : ByteArray), .string (⟨#[]⟩ : ByteArray), .int .i64 0]) ?_ 0 _ rfl; (with_reducible repeat (first | refine blk_drewN ?_ _ | refine blk_drew ?_ | refine blk_alloc ?_ _)); exact BK220.out) hb); have n3_ := Aside0.mk (below_step (by repeat (first | (with_reducible first | exact HB.out | apply below_alloc | apply pw_below_drewN | apply below_drew1 | refine below_set ?_ GE220.out) | exact HB.out)) hb); clear HO_5; clear BK220; clear HB; have HO_5 := n0_; have HO223 := n1_; have BK220 := n2_; have HB := n3_; clear n0_ n1_ n2_ n3_; (try clear hb); (try clear hb2); (try clear hk); (try clear hi); (try clear ho0)))
            go_roundg k1
            case measure => have := HK1.out; omega
            case rel => exact ⟨(t221), (wrap64 (x12_1 + 1)), (by first | rfl | (simp; done) | (simp [*]; done)), H', ⟨by have := HK1.out; omega⟩, ⟨by (with_reducible repeat (first | apply Kd.R_alloc | apply Kd.R_drewN | apply Kd.R_drew)); exact Kd.R_mono HO223.out (fun _ hk => trivial)⟩, ⟨by repeat (first | (with_reducible first | exact HB.out | apply below_alloc | apply pw_below_drewN | apply below_drew1 | refine below_set ?_ GE220.out) | exact HB.out)⟩⟩
          · rw [if_neg c7] at H
            exact absurd H (by simp)
        · rw [if_neg c6] at H
          exact absurd H (by simp)
      · rw [if_neg c5] at H
        have c5b0 : decide (x12_1 < (l1.length : Int)) = false := decide_eq_false c5
        clear c5
        obtain rfl := Option.some.inj H
        go_wp2
        go_ret
        exact ⟨_, by first | rfl | (simp [errW_none, errW_some] <;> rfl) | (simp [*, errW_none, errW_some] <;> rfl), by (with_reducible repeat (first | apply Kd.R_alloc | apply Kd.R_drewN | apply Kd.R_drew)); exact HO_5.out, by repeat (first | (with_reducible first | exact HB.out | apply below_alloc | apply pw_below_drewN | apply below_drew1) | exact HB.out)⟩

/-! ### heliastref13_Over: function 51 -/
def heliastref13_Over.l0 : Nat → List (S74) → List (S74) → Int → Option ((List (S74)))
  | 0, _, _, _ => none
  | k + 1, x1, x5, x6 => if x6 < (x1.length : Int) then (if 0 ≤ x6 then ((heliastref13_Put.f k x5 ((rd_T74 x1 x6).f0) ((rd_T74 x1 x6).f1) ((rd_T74 x1 x6).f2)).bind fun t225 => (heliastref13_Over.l0 k x1 t225 (wrap64 (x6 + 1)))) else (none)) else (some x5)
def heliastref13_Over.f (k : Nat) (l0 : List (S74)) (l1 : List (S74)) : Option ((List (S74))) := heliastref13_Over.l0 k l1 l0 0
theorem heliastref13_Over.mono_l : ∀ k, (∀ y0 y1 y2, LeO (heliastref13_Over.l0 k y0 y1 y2) (heliastref13_Over.l0 (k + 1) y0 y1 y2))
  | 0 => fun _ _ _ r h => by simp [heliastref13_Over.l0] at h
  | k + 1 => by
    have ih0 := heliastref13_Over.mono_l k
    · intro y0 y1 y2
      unfold heliastref13_Over.l0
      repeat' first
      | (with_reducible exact ih0 _ _ _)
      | (with_reducible exact heliastref13_Put.mono _ _ _ _ _)
      | (with_reducible exact LeO.refl _)
      | (with_reducible exact LeO.none _)
      | (with_reducible refine LeO.ite ?_ ?_)
      | (with_reducible refine LeO.bind ?_ (fun _ => ?_))
      | exact ih0 _ _ _
      | exact heliastref13_Put.mono _ _ _ _ _
      | exact LeO.none _
      | refine LeO.ite ?_ ?_
      | refine LeO.bind ?_ (fun _ => ?_)
theorem heliastref13_Over.mono : ∀ a0 a1 k, LeO (heliastref13_Over.f k a0 a1) (heliastref13_Over.f (k + 1) a0 a1) := by
  intro a0 a1 k
  have ih0 := heliastref13_Over.mono_l k
  unfold heliastref13_Over.f
  repeat' first
      | (with_reducible exact ih0 _ _ _)
      | (with_reducible exact heliastref13_Put.mono _ _ _ _ _)
      | (with_reducible exact LeO.refl _)
      | (with_reducible exact LeO.none _)
      | (with_reducible refine LeO.ite ?_ ?_)
      | (with_reducible refine LeO.bind ?_ (fun _ => ?_))
      | exact ih0 _ _ _
      | exact heliastref13_Put.mono _ _ _ _ _
      | exact LeO.none _
      | refine LeO.ite ?_ ?_
      | refine LeO.bind ?_ (fun _ => ?_)
set_option maxHeartbeats 8000000 in
set_option maxRecDepth 100000 in
theorem heliastref13_Over.calls (k : Nat) (P0_ : Nat → Prop) (A0 : Option Addr) (c0 : Nat) (l0 : List (S74)) (A1 : Option Addr) (c1 : Nat) (l1 : List (S74)) (r : List (S74)) (w : World) (hs0 : Kd.V k74 74 w w.heap.size (fun k_ => P0_ k_) (.slice A0 l0.length c0) l0) (hr1 : Kd.C k74 w A1 l1.length l1) (hc1 : l1.length ≤ c1) (h : heliastref13_Over.f k l0 l1 = some r) :
    Calls Try.prog 51 #[.slice A0 l0.length c0, .slice A1 l1.length c1] w fun e w' => ∃ v0_ : Value, e = .returned (v0_) ∧ Kd.V k74 74 w' w.heap.size (fun k_ => (P0_ k_ ∨ w.heap.size ≤ k_)) v0_ r ∧ Below w.heap.size w w' := by
  have hu74 := Try.underlying74
  have HO0 := Aside0.mk (show Kd.V k74 74 w w.heap.size (fun k_ => (P0_ k_ ∨ w.heap.size ≤ k_)) (.slice A0 l0.length c0) l0 from Kd.V_mono hs0 (fun k_ hk => .inl hk))
  have HR1 := Aside0.mk hr1
  have HC1 := Aside0.mk hc1
  clear hr1 hc1
  have HB := Aside0.mk (Below.refl w.heap.size w)
  have H : (heliastref13_Over.l0 k l1 l0 0) = some r := h
  clear h
  have H' := Aside0.mk H
  clear H
  go_enter Try.func51, Try.ntmps51
  go_wp2
  go_loopg [5, 6] k (fun kq v5 v6 w' => ∃ (x5_1 : List (S74)) (x6_1 : Int), v6 = .int .i64 x6_1 ∧ Aside0 (heliastref13_Over.l0 kq l1 x5_1 x6_1 = some r) ∧ Aside0 (kq ≤ k) ∧ Aside0 (Kd.V k74 74 w' w.heap.size (fun k_ => (P0_ k_ ∨ w.heap.size ≤ k_)) v5 x5_1) ∧ Aside0 (Below w.heap.size w w'))
  case atStart => exact ⟨(l0), (0), (by first | rfl | (simp; done) | (simp [*]; done)), H', ⟨Nat.le_refl _⟩, ⟨by (with_reducible repeat (first | apply Kd.V_alloc | apply Kd.V_drewN | apply Kd.V_drew)); exact HO0.out⟩, ⟨by repeat (first | (with_reducible first | exact HB.out | apply below_alloc | apply pw_below_drewN | apply below_drew1) | exact HB.out)⟩⟩
  case round =>
    clear H'
    try clear c1
    try clear p2
    obtain ⟨x5_1, x6_1, rfl, HA, HK1, HO_5, HB⟩ := hrel
    cases gk with
    | zero => exact absurd HA.out (by simp [heliastref13_Over.l0])
    | succ k1 =>
      have H := HA.out
      clear HA
      simp only [heliastref13_Over.l0] at H
      by_cases c3 : x6_1 < (l1.length : Int)
      · rw [if_pos c3] at H
        have c3b0 : decide (x6_1 < (l1.length : Int)) = true := decide_eq_true c3
        clear c3
        by_cases c4 : 0 ≤ x6_1
        · rw [if_pos c4] at H
          have c4b0 : decide (0 ≤ x6_1) = true := decide_eq_true c4
          clear c4
          replace H := Option.bind_eq_some_iff.mp H
          obtain ⟨t225, A50, H⟩ := H
          replace H : (heliastref13_Over.l0 k1 l1 t225 (wrap64 (x6_1 + 1))) = some r := H
          have A5 := Aside0.mk A50
          clear A50
          have H' := Aside0.mk H
          clear H
          have p224 : 0 ≤ (x6_1 : Int) := of_decide_eq_true (by first | (with_reducible assumption) | assumption)
          have q224 : x6_1 < (l1.length : Int) := of_decide_eq_true (by first | (with_reducible assumption) | assumption)
          obtain ⟨ad224, e224, hx224_0, hx224_1, hx224_2⟩ := at_T74 HR1.out x6_1 p224 q224
          cases e224
          replace hx224_0 := (HB.out.cell (World.block_lt_of_cell? w _ hx224_0)).trans hx224_0
          replace hx224_1 := (HB.out.cell (World.block_lt_of_cell? w _ hx224_1)).trans hx224_1
          replace hx224_2 := (HB.out.cell (World.block_lt_of_cell? w _ hx224_2)).trans hx224_2
          replace p224 := eq_true p224
          replace q224 := eq_true q224
          obtain ⟨Ao6, co6, eo6⟩ := Kd.V_slice HO_5.out
          subst eo6
          go_wp2_with (first | ((with_reducible refine gate_callee (f := 81) rfl ?_); refine goesL_ (some 19) rfl rfl Try.func81 (by kernel_rfl) rfl #[.slice Ao6 x5_1.length co6, .agg #[.string ((rd_T74 l1 x6_1).f0), .string ((rd_T74 l1 x6_1).f1), .int .i64 ((rd_T74 l1 x6_1).f2)]] rfl (by (try simp only [List.map_toArray, List.map_cons, List.map_nil]); first | done | rfl | (simp only [List.length_drop, List.length_take]; rfl)) ?_; (with_reducible refine (heliastref13_Put.calls k1 _ _ x5_1 ((rd_T74 l1 x6_1).f0) ((rd_T74 l1 x6_1).f1) ((rd_T74 l1 x6_1).f2) t225 _ ?side1 ?side2 A5.out).mono ?_); (case side1 => repeat (first | exact (Kd.V_reads' HO_5.out).2.2 | (with_reducible refine Kd.C_alloc ?_ _) | (with_reducible refine Kd.C_drewN ?_ _) | (with_reducible refine Kd.C_drew ?_))); (case side2 => exact (Kd.V_reads' HO_5.out).2.1); rintro e w7 ⟨v226, rfl, ho0, hb⟩; refine ⟨_, rfl, ?_⟩; have n0_ := Aside0.mk (Kd.V_elder' (by (with_reducible repeat (first | apply Kd.V_alloc | apply Kd.V_drewN | apply Kd.V_drew)); exact HO_5.out) (Kd.R_base ho0) hb); have n1_ := Aside0.mk (Kd.R_lower (Kd.R_newM (M := fun k_ => (w.heap.size ≤ k_)) ho0 (below_size (by repeat (first | (with_reducible first | exact HB.out | apply below_alloc | apply pw_below_drewN | apply below_drew1) | exact HB.out))) (fun k_ h_ => h_)) (below_size (by repeat (first | (with_reducible first | exact HB.out | apply below_alloc | apply pw_below_drewN | apply below_drew1) | exact HB.out)))); have n2_ := Aside0.mk (below_step (by repeat (first | (with_reducible first | exact HB.out | apply below_alloc | apply pw_below_drewN | apply below_drew1) | exact HB.out)) hb); clear HO_5; clear HB; have HO_5 := n0_; have HO227 := n1_; have HB := n2_; clear n0_ n1_ n2_; (try clear hb); (try clear hb2); (try clear hk); (try clear hi); (try clear ho0)))
          go_roundg k1
          case measure => have := HK1.out; omega
          case rel => exact ⟨(t225), (wrap64 (x6_1 + 1)), (by first | rfl | (simp; done) | (simp [*]; done)), H', ⟨by have := HK1.out; omega⟩, ⟨Kd.V_mono (Kd.R_V (by (with_reducible repeat (first | apply Kd.R_alloc | apply Kd.R_drewN | apply Kd.R_drew)); exact Kd.R_mono HO227.out (fun _ hk => hk.1))) (fun k_ hk => by first | exact ⟨(.inr (hk.1)), hk.2⟩ | exact (.inr (hk)))⟩, ⟨by repeat (first | (with_reducible first | exact HB.out | apply below_alloc | apply pw_below_drewN | apply below_drew1) | exact HB.out)⟩⟩
        · rw [if_neg c4] at H
          exact absurd H (by simp)
      · rw [if_neg c3] at H
        have c3b0 : decide (x6_1 < (l1.length : Int)) = false := decide_eq_false c3
        clear c3
        obtain rfl := Option.some.inj H
        go_wp2
        go_ret
        exact ⟨_, by first | rfl | (simp [errW_none, errW_some] <;> rfl) | (simp [*, errW_none, errW_some] <;> rfl), by (with_reducible repeat (first | apply Kd.V_alloc | apply Kd.V_drewN | apply Kd.V_drew)); exact HO_5.out, by repeat (first | (with_reducible first | exact HB.out | apply below_alloc | apply pw_below_drewN | apply below_drew1) | exact HB.out)⟩

/-! ### heliastlaw13_StateAsks: function 14 -/
def heliastlaw13_StateAsks.j0 : Nat → List (S74) → List (S74) → List Int → List Int → Int → Bool → ByteArray → ByteArray → Int → Option (Bool)
  | 0, _, _, _, _, _, _, _, _, _ => none
  | k + 1, x0, x1, x3, x4, x5, x35, x229000, x229001, x229002 => if x35 = true then ((heliastlaw13_known.f k).bind fun t232 => (some t232)) else ((heliastlaw13_State.f k x3 30).bind fun t233 => ((heliastlaw13_State.f k x4 30).bind fun t236 => ((some (([(⟨#[]⟩ : ByteArray), (⟨#[64, 97, 58, 115]⟩ : ByteArray), (⟨#[64, 98, 58, 115]⟩ : ByteArray), (⟨#[122, 122]⟩ : ByteArray)] : List ByteArray) : List ByteArray)).bind fun y239 => (if 0 ≤ (Int.tmod x5 4) then (if (Int.tmod x5 4) < (y239.length : Int) then ((heliastlaw13_asks.f k x0 x229000 x229001 x229002).bind fun t244 => (if t244 = true then ((heliastlaw13_asks.f k t233 (⟨#[109, 46, 114, 111, 111, 109, 46, 109, 101, 109, 98, 101, 114]⟩ : ByteArray) (rdOf ByteArray.empty y239 (Int.tmod x5 4)) (wrap64 (x5))).bind fun t245 => (if t245 = true then ((heliastlaw13_asks.f k t233 x229000 x229001 x229002).bind fun t246 => (if t246 = true then ((heliastlaw13_same.f k x0 x1).bind fun t247 => (if t247 = true then ((heliastlaw13_same.f k t233 t236).bind fun t248 => (if t248 = true then ((heliastlaw13_same.f k t233 t233).bind fun t249 => (if t249 = true then ((heliastlaw13_puts.f k t233 x229000 x229001 x229002).bind fun t250 => (if t250 = true then ((heliastlaw13_puts.f k t233 (⟨#[109, 46, 114, 111, 111, 109, 46, 109, 101, 109, 98, 101, 114]⟩ : ByteArray) (rdOf ByteArray.empty y239 (Int.tmod x5 4)) (wrap64 (x5))).bind fun t251 => (if t251 = true then ((state_Over.f k t233 t236).bind fun t252 => ((heliastref13_Over.f k t233 t236).bind fun t255 => ((heliastref13_Same.f k t252 t255).bind fun t258 => (some t258)))) else (some false))) else (some false))) else (some false))) else (some false))) else (some false))) else (some false))) else (some false))) else (some false))) else (none)) else (none)))))
def heliastlaw13_StateAsks.f (k : Nat) (l0 : List (S74)) (l1 : List (S74)) (a2_0 : ByteArray) (a2_1 : ByteArray) (a2_2 : Int) (l3 : List Int) (l4 : List Int) (a5 : Int) : Option (Bool) := (heliastlaw13_heavy.f k l0).bind fun t229 => (if t229 = true then (heliastlaw13_StateAsks.j0 k l0 l1 l3 l4 a5 true a2_0 a2_1 a2_2) else ((heliastlaw13_heavy.f k l1).bind fun t230 => (if t230 = true then (heliastlaw13_StateAsks.j0 k l0 l1 l3 l4 a5 true a2_0 a2_1 a2_2) else (if (wrap64 ((a2_0.size : Int) + (a2_1.size : Int))) > 100 then (heliastlaw13_StateAsks.j0 k l0 l1 l3 l4 a5 true a2_0 a2_1 a2_2) else ((heliastlaw13_known.f k).bind fun t231 => (heliastlaw13_StateAsks.j0 k l0 l1 l3 l4 a5 (!t231) a2_0 a2_1 a2_2))))))
theorem heliastlaw13_StateAsks.mono_l : ∀ k, (∀ y0 y1 y2 y3 y4 y5 y6 y7 y8, LeO (heliastlaw13_StateAsks.j0 k y0 y1 y2 y3 y4 y5 y6 y7 y8) (heliastlaw13_StateAsks.j0 (k + 1) y0 y1 y2 y3 y4 y5 y6 y7 y8))
  | 0 => fun _ _ _ _ _ _ _ _ _ r h => by simp [heliastlaw13_StateAsks.j0] at h
  | k + 1 => by
    have ih0 := heliastlaw13_StateAsks.mono_l k
    · intro y0 y1 y2 y3 y4 y5 y6 y7 y8
      unfold heliastlaw13_StateAsks.j0
      repeat' first
      | (with_reducible exact ih0 _ _ _ _ _ _ _ _ _)
      | (with_reducible exact heliastlaw13_State.mono _ _ _)
      | (with_reducible exact heliastlaw13_asks.mono _ _ _ _ _)
      | (with_reducible exact heliastlaw13_heavy.mono _ _)
      | (with_reducible exact heliastlaw13_known.mono _)
      | (with_reducible exact heliastlaw13_puts.mono _ _ _ _ _)
      | (with_reducible exact heliastlaw13_same.mono _ _ _)
      | (with_reducible exact heliastref13_Over.mono _ _ _)
      | (with_reducible exact heliastref13_Same.mono _ _ _)
      | (with_reducible exact state_Over.mono _ _ _)
      | (with_reducible exact LeO.refl _)
      | (with_reducible exact LeO.none _)
      | (with_reducible refine LeO.ite ?_ ?_)
      | (with_reducible refine LeO.bind ?_ (fun _ => ?_))
      | exact ih0 _ _ _ _ _ _ _ _ _
      | exact heliastlaw13_State.mono _ _ _
      | exact heliastlaw13_asks.mono _ _ _ _ _
      | exact heliastlaw13_heavy.mono _ _
      | exact heliastlaw13_known.mono _
      | exact heliastlaw13_puts.mono _ _ _ _ _
      | exact heliastlaw13_same.mono _ _ _
      | exact heliastref13_Over.mono _ _ _
      | exact heliastref13_Same.mono _ _ _
      | exact state_Over.mono _ _ _
      | exact LeO.none _
      | refine LeO.ite ?_ ?_
      | refine LeO.bind ?_ (fun _ => ?_)
theorem heliastlaw13_StateAsks.mono : ∀ a0 a1 a2 a3 a4 a5 a6 a7 k, LeO (heliastlaw13_StateAsks.f k a0 a1 a2 a3 a4 a5 a6 a7) (heliastlaw13_StateAsks.f (k + 1) a0 a1 a2 a3 a4 a5 a6 a7) := by
  intro a0 a1 a2 a3 a4 a5 a6 a7 k
  have ih0 := heliastlaw13_StateAsks.mono_l k
  unfold heliastlaw13_StateAsks.f
  repeat' first
      | (with_reducible exact ih0 _ _ _ _ _ _ _ _ _)
      | (with_reducible exact heliastlaw13_State.mono _ _ _)
      | (with_reducible exact heliastlaw13_asks.mono _ _ _ _ _)
      | (with_reducible exact heliastlaw13_heavy.mono _ _)
      | (with_reducible exact heliastlaw13_known.mono _)
      | (with_reducible exact heliastlaw13_puts.mono _ _ _ _ _)
      | (with_reducible exact heliastlaw13_same.mono _ _ _)
      | (with_reducible exact heliastref13_Over.mono _ _ _)
      | (with_reducible exact heliastref13_Same.mono _ _ _)
      | (with_reducible exact state_Over.mono _ _ _)
      | (with_reducible exact LeO.refl _)
      | (with_reducible exact LeO.none _)
      | (with_reducible refine LeO.ite ?_ ?_)
      | (with_reducible refine LeO.bind ?_ (fun _ => ?_))
      | exact ih0 _ _ _ _ _ _ _ _ _
      | exact heliastlaw13_State.mono _ _ _
      | exact heliastlaw13_asks.mono _ _ _ _ _
      | exact heliastlaw13_heavy.mono _ _
      | exact heliastlaw13_known.mono _
      | exact heliastlaw13_puts.mono _ _ _ _ _
      | exact heliastlaw13_same.mono _ _ _
      | exact heliastref13_Over.mono _ _ _
      | exact heliastref13_Same.mono _ _ _
      | exact state_Over.mono _ _ _
      | exact LeO.none _
      | refine LeO.ite ?_ ?_
      | refine LeO.bind ?_ (fun _ => ?_)
set_option maxHeartbeats 8000000 in
set_option maxRecDepth 100000 in
theorem heliastlaw13_StateAsks.calls (k : Nat) (A0 : Option Addr) (c0 : Nat) (l0 : List (S74)) (A1 : Option Addr) (c1 : Nat) (l1 : List (S74)) (a2_0 : ByteArray) (a2_1 : ByteArray) (a2_2 : Int) (A3 : Option Addr) (c3 : Nat) (l3 : List Int) (A4 : Option Addr) (c4 : Nat) (l4 : List Int) (a5 : Int) (r : Bool) (w : World) (hr0 : Kd.C k74 w A0 l0.length l0) (hc0 : l0.length ≤ c0) (hr1 : Kd.C k74 w A1 l1.length l1) (hc1 : l1.length ≤ c1) (hr3 : Kd.C (Kd.int .u8) w A3 l3.length l3) (hc3 : l3.length ≤ c3) (hr4 : Kd.C (Kd.int .u8) w A4 l4.length l4) (hc4 : l4.length ≤ c4) (h : heliastlaw13_StateAsks.f k l0 l1 a2_0 a2_1 a2_2 l3 l4 a5 = some r) (hlaw : r = true) :
    Calls Try.prog 14 #[.slice A0 l0.length c0, .slice A1 l1.length c1, .agg #[.string a2_0, .string a2_1, .int .i64 a2_2], .slice A3 l3.length c3, .slice A4 l4.length c4, .int .u8 a5] w fun e w' => e = .returned (.bool r) ∧ Below w.heap.size w w' := by
  have hu74 := Try.underlying74
  have HLAW := Aside0.mk hlaw
  clear hlaw
  have HR0 := Aside0.mk hr0
  have HC0 := Aside0.mk hc0
  clear hr0 hc0
  have HR1 := Aside0.mk hr1
  have HC1 := Aside0.mk hc1
  clear hr1 hc1
  have HR3 := Aside0.mk hr3
  have HC3 := Aside0.mk hc3
  clear hr3 hc3
  have HR4 := Aside0.mk hr4
  have HC4 := Aside0.mk hc4
  clear hr4 hc4
  have HB := Aside0.mk (Below.refl w.heap.size w)
  have H : ((heliastlaw13_heavy.f k l0).bind fun t229 => (if t229 = true then (heliastlaw13_StateAsks.j0 k l0 l1 l3 l4 a5 true a2_0 a2_1 a2_2) else ((heliastlaw13_heavy.f k l1).bind fun t230 => (if t230 = true then (heliastlaw13_StateAsks.j0 k l0 l1 l3 l4 a5 true a2_0 a2_1 a2_2) else (if (wrap64 ((a2_0.size : Int) + (a2_1.size : Int))) > 100 then (heliastlaw13_StateAsks.j0 k l0 l1 l3 l4 a5 true a2_0 a2_1 a2_2) else ((heliastlaw13_known.f k).bind fun t231 => (heliastlaw13_StateAsks.j0 k l0 l1 l3 l4 a5 (!t231) a2_0 a2_1 a2_2))))))) = some r := h
  clear h
  have HC7 := Aside0.mk H
  clear H
  go_enter Try.func14, Try.ntmps14
  go_upto_region 1 with (first | ((with_reducible refine gate_dst (N := 8) rfl ?_); (try (refine gate_guard (by rfl) ?_; dsimp only)); refine box_event ?hg (N := 8) ?hd (cs := #[.string a2_0, .string a2_1, .int .i64 a2_2]) (t := 74) ?hr ?_; (case hd => rfl); (case hg => rfl); (case hr => first | (go_simp; done) | (go_simp; rfl)); intro gb228 hg w8 hbox hb; have n0_ := Aside0.mk (below_step (by repeat (first | (with_reducible first | exact HB.out | apply below_alloc | apply pw_below_drewN | apply below_drew1) | exact HB.out)) hb); have n1_ := Aside0.mk (hbox); have n2_ := Aside0.mk ((by rw [hg]; exact (below_size (by repeat (first | (with_reducible first | exact HB.out | apply below_alloc | apply pw_below_drewN | apply below_drew1) | exact HB.out))) : w.heap.size ≤ gb228)); have n3_ := Aside0.mk ((by rw [hg]; exact (below_size (by repeat (first | (with_reducible first | exact HB.out | apply below_alloc | apply pw_below_drewN | apply below_drew1) | exact HB.out))) : w.heap.size ≤ gb228)); clear HB; have HB := n0_; have BK228 := n1_; have GW228 := n2_; have GE228 := n3_; clear n0_ n1_ n2_ n3_; clear hb hbox hg))
  (try simp only [Act.put, List.setIfInBounds_toArray, List.set_cons_zero, List.set_cons_succ])
  go_cut [35] (fun v35 wc => ∃ (kq : Nat) (x35_6 : Bool), v35 = .bool x35_6 ∧ Aside0 (heliastlaw13_StateAsks.j0 kq l0 l1 l3 l4 a5 x35_6 a2_0 a2_1 a2_2 = some r) ∧ Aside0 (kq ≤ k) ∧ Aside0 (wc.heap[gb228]? = some (.cells #[.string a2_0, .string a2_1, .int .i64 a2_2] 74 (0, 0))) ∧ Aside0 (Below w.heap.size w wc))
  case first =>
    have H := HC7.out
    clear HC7
    replace H := Option.bind_eq_some_iff.mp H
    obtain ⟨t229, A90, H⟩ := H
    replace H : (if t229 = true then (heliastlaw13_StateAsks.j0 k l0 l1 l3 l4 a5 true a2_0 a2_1 a2_2) else ((heliastlaw13_heavy.f k l1).bind fun t230 => (if t230 = true then (heliastlaw13_StateAsks.j0 k l0 l1 l3 l4 a5 true a2_0 a2_1 a2_2) else (if (wrap64 ((a2_0.size : Int) + (a2_1.size : Int))) > 100 then (heliastlaw13_StateAsks.j0 k l0 l1 l3 l4 a5 true a2_0 a2_1 a2_2) else ((heliastlaw13_known.f k).bind fun t231 => (heliastlaw13_StateAsks.j0 k l0 l1 l3 l4 a5 (!t231) a2_0 a2_1 a2_2)))))) = some r := H
    have A9 := Aside0.mk A90
    clear A90
    by_cases c10 : t229 = true
    · subst c10
      have H1 : (heliastlaw13_StateAsks.j0 k l0 l1 l3 l4 a5 true a2_0 a2_1 a2_2) = some r := by rw [if_pos rfl] at H; exact H
      clear H
      have H := H1
      clear H1
      have H' := Aside0.mk H
      clear H
      go_wp2_with (first | ((with_reducible refine gate_callee (f := 42) rfl ?_); refine goesL_ (some 17) rfl rfl Try.func42 (by kernel_rfl) rfl #[.slice A0 l0.length c0] rfl (by (try simp only [List.map_toArray, List.map_cons, List.map_nil]); first | done | rfl | (simp only [List.length_drop, List.length_take]; rfl)) ?_; (with_reducible refine (heliastlaw13_heavy.calls k _ _ l0 true _ ?side1 ?side2 A9.out).mono ?_); (case side1 => repeat (first | exact (Kd.C_below HR0.out HB.out) | (with_reducible refine Kd.C_alloc ?_ _) | (with_reducible refine Kd.C_drewN ?_ _) | (with_reducible refine Kd.C_drew ?_))); (case side2 => exact HC0.out); rintro e w' ⟨rfl, ⟨nd, rfl⟩⟩; refine ⟨_, rfl, ?_⟩))
      go_meet
      case rel => exact ⟨_, (true), (by first | rfl | (simp; done) | (simp [*]; done)), H', ⟨by first | omega | exact Nat.le_refl _⟩, ⟨by (with_reducible repeat (first | refine blk_drewN ?_ _ | refine blk_drew ?_ | refine blk_alloc ?_ _)); exact BK228.out⟩, ⟨by repeat (first | (with_reducible first | exact HB.out | apply below_alloc | apply pw_below_drewN | apply below_drew1 | refine below_set ?_ GE228.out) | exact HB.out)⟩⟩
    · replace c10 := Bool.eq_false_iff.mpr c10
      subst c10
      have H1 : ((heliastlaw13_heavy.f k l1).bind fun t230 => (if t230 = true then (heliastlaw13_StateAsks.j0 k l0 l1 l3 l4 a5 true a2_0 a2_1 a2_2) else (if (wrap64 ((a2_0.size : Int) + (a2_1.size : Int))) > 100 then (heliastlaw13_StateAsks.j0 k l0 l1 l3 l4 a5 true a2_0 a2_1 a2_2) else ((heliastlaw13_known.f k).bind fun t231 => (heliastlaw13_StateAsks.j0 k l0 l1 l3 l4 a5 (!t231) a2_0 a2_1 a2_2))))) = some r := by rw [if_neg (show ¬ (false = true) by decide)] at H; exact H
      clear H
      have H := H1
      clear H1
      replace H := Option.bind_eq_some_iff.mp H
      obtain ⟨t230, A110, H⟩ := H
      replace H : (if t230 = true then (heliastlaw13_StateAsks.j0 k l0 l1 l3 l4 a5 true a2_0 a2_1 a2_2) else (if (wrap64 ((a2_0.size : Int) + (a2_1.size : Int))) > 100 then (heliastlaw13_StateAsks.j0 k l0 l1 l3 l4 a5 true a2_0 a2_1 a2_2) else ((heliastlaw13_known.f k).bind fun t231 => (heliastlaw13_StateAsks.j0 k l0 l1 l3 l4 a5 (!t231) a2_0 a2_1 a2_2)))) = some r := H
      have A11 := Aside0.mk A110
      clear A110
      by_cases c12 : t230 = true
      · subst c12
        have H1 : (heliastlaw13_StateAsks.j0 k l0 l1 l3 l4 a5 true a2_0 a2_1 a2_2) = some r := by rw [if_pos rfl] at H; exact H
        clear H
        have H := H1
        clear H1
        have H' := Aside0.mk H
        clear H
        go_wp2_with (first | ((with_reducible refine gate_callee (f := 42) rfl ?_); refine goesL_ (some 17) rfl rfl Try.func42 (by kernel_rfl) rfl #[.slice A0 l0.length c0] rfl (by (try simp only [List.map_toArray, List.map_cons, List.map_nil]); first | done | rfl | (simp only [List.length_drop, List.length_take]; rfl)) ?_; (with_reducible refine (heliastlaw13_heavy.calls k _ _ l0 false _ ?side1 ?side2 A9.out).mono ?_); (case side1 => repeat (first | exact (Kd.C_below HR0.out HB.out) | (with_reducible refine Kd.C_alloc ?_ _) | (with_reducible refine Kd.C_drewN ?_ _) | (with_reducible refine Kd.C_drew ?_))); (case side2 => exact HC0.out); rintro e w' ⟨rfl, ⟨nd, rfl⟩⟩; refine ⟨_, rfl, ?_⟩) | (go_at_call 42; (with_reducible refine (heliastlaw13_heavy.calls k _ _ l1 true _ ?side1 ?side2 A11.out).mono ?_); (case side1 => repeat (first | exact (Kd.C_below HR1.out (by repeat (first | (with_reducible first | exact HB.out | apply below_alloc | apply pw_below_drewN | apply below_drew1 | refine below_set ?_ GE228.out) | exact HB.out))) | (with_reducible refine Kd.C_alloc ?_ _) | (with_reducible refine Kd.C_drewN ?_ _) | (with_reducible refine Kd.C_drew ?_))); (case side2 => exact HC1.out); rintro e w' ⟨rfl, ⟨nd, rfl⟩⟩))
        go_meet
        case rel => exact ⟨_, (true), (by first | rfl | (simp; done) | (simp [*]; done)), H', ⟨by first | omega | exact Nat.le_refl _⟩, ⟨by (with_reducible repeat (first | refine blk_drewN ?_ _ | refine blk_drew ?_ | refine blk_alloc ?_ _)); exact BK228.out⟩, ⟨by repeat (first | (with_reducible first | exact HB.out | apply below_alloc | apply pw_below_drewN | apply below_drew1 | refine below_set ?_ GE228.out) | exact HB.out)⟩⟩
      · replace c12 := Bool.eq_false_iff.mpr c12
        subst c12
        have H1 : (if (wrap64 ((a2_0.size : Int) + (a2_1.size : Int))) > 100 then (heliastlaw13_StateAsks.j0 k l0 l1 l3 l4 a5 true a2_0 a2_1 a2_2) else ((heliastlaw13_known.f k).bind fun t231 => (heliastlaw13_StateAsks.j0 k l0 l1 l3 l4 a5 (!t231) a2_0 a2_1 a2_2))) = some r := by rw [if_neg (show ¬ (false = true) by decide)] at H; exact H
        clear H
        have H := H1
        clear H1
        by_cases c13 : (wrap64 ((a2_0.size : Int) + (a2_1.size : Int))) > 100
        · rw [if_pos c13] at H
          have c13b0 : decide (100 < (wrap64 ((a2_0.size : Int) + (a2_1.size : Int)))) = true := decide_eq_true c13
          clear c13
          (first | rw [c13b0] | (simp only [i64_w, i32_w]; rw [c13b0]) | skip)
          have H' := Aside0.mk H
          clear H
          go_wp2_with (first | ((with_reducible refine gate_callee (f := 42) rfl ?_); refine goesL_ (some 17) rfl rfl Try.func42 (by kernel_rfl) rfl #[.slice A0 l0.length c0] rfl (by (try simp only [List.map_toArray, List.map_cons, List.map_nil]); first | done | rfl | (simp only [List.length_drop, List.length_take]; rfl)) ?_; (with_reducible refine (heliastlaw13_heavy.calls k _ _ l0 false _ ?side1 ?side2 A9.out).mono ?_); (case side1 => repeat (first | exact (Kd.C_below HR0.out HB.out) | (with_reducible refine Kd.C_alloc ?_ _) | (with_reducible refine Kd.C_drewN ?_ _) | (with_reducible refine Kd.C_drew ?_))); (case side2 => exact HC0.out); rintro e w' ⟨rfl, ⟨nd, rfl⟩⟩; refine ⟨_, rfl, ?_⟩) | (go_at_call 42; (with_reducible refine (heliastlaw13_heavy.calls k _ _ l1 false _ ?side1 ?side2 A11.out).mono ?_); (case side1 => repeat (first | exact (Kd.C_below HR1.out (by repeat (first | (with_reducible first | exact HB.out | apply below_alloc | apply pw_below_drewN | apply below_drew1 | refine below_set ?_ GE228.out) | exact HB.out))) | (with_reducible refine Kd.C_alloc ?_ _) | (with_reducible refine Kd.C_drewN ?_ _) | (with_reducible refine Kd.C_drew ?_))); (case side2 => exact HC1.out); rintro e w' ⟨rfl, ⟨nd, rfl⟩⟩; have hcz14_0 : w8.cell? ⟨gb228, 0, none⟩ = some (.string a2_0) := (blk_cell BK228.out 0).trans rfl; have hcz14_1 : w8.cell? ⟨gb228, 1, none⟩ = some (.string a2_1) := (blk_cell BK228.out 1).trans rfl; have hcz14_2 : w8.cell? ⟨gb228, 2, none⟩ = some (.int .i64 a2_2) := (blk_cell BK228.out 2).trans rfl; have hfz14_0 := blk_frozen BK228.out 0; have hfz14_1 := blk_frozen BK228.out 1; have hfz14_2 := blk_frozen BK228.out 2))
          go_meet
          case rel => exact ⟨_, (true), (by first | rfl | (simp; done) | (simp [*]; done)), H', ⟨by first | omega | exact Nat.le_refl _⟩, ⟨by (with_reducible repeat (first | refine blk_drewN ?_ _ | refine blk_drew ?_ | refine blk_alloc ?_ _)); exact BK228.out⟩, ⟨by repeat (first | (with_reducible first | exact HB.out | apply below_alloc | apply pw_below_drewN | apply below_drew1 | refine below_set ?_ GE228.out) | exact HB.out)⟩⟩
        · rw [if_neg c13] at H
          have c13b0 : decide (100 < (wrap64 ((a2_0.size : Int) + (a2_1.size : Int)))) = false := decide_eq_false c13
          clear c13
          (first | rw [c13b0] | (simp only [i64_w, i32_w]; rw [c13b0]) | skip)
          replace H := Option.bind_eq_some_iff.mp H
          obtain ⟨t231, A150, H⟩ := H
          replace H : (heliastlaw13_StateAsks.j0 k l0 l1 l3 l4 a5 (!t231) a2_0 a2_1 a2_2) = some r := H
          have A15 := Aside0.mk A150
          clear A150
          have HKT_ := Aside0.mk (show t231 = true from by
            cases t231 with
            | true => rfl
            | false =>
              exfalso
              have H2 : (heliastlaw13_StateAsks.j0 k l0 l1 l3 l4 a5 (!false) a2_0 a2_1 a2_2) = some r := H
              cases k with
              | zero => simp [heliastlaw13_StateAsks.j0] at H2
              | succ k_ =>
                simp only [heliastlaw13_StateAsks.j0, Bool.not_false, if_true] at H2
                obtain ⟨u_, hu_, hu2_⟩ := Option.bind_eq_some_iff.mp H2
                obtain rfl := Option.some.inj hu2_
                have hm_ := heliastlaw13_known.mono k_ true (by rw [hu_]; exact congrArg some HLAW.out)
                rw [A15.out] at hm_
                cases hm_)
          have H' := Aside0.mk H
          clear H
          go_wp2_with (first | ((with_reducible refine gate_callee (f := 42) rfl ?_); refine goesL_ (some 17) rfl rfl Try.func42 (by kernel_rfl) rfl #[.slice A0 l0.length c0] rfl (by (try simp only [List.map_toArray, List.map_cons, List.map_nil]); first | done | rfl | (simp only [List.length_drop, List.length_take]; rfl)) ?_; (with_reducible refine (heliastlaw13_heavy.calls k _ _ l0 false _ ?side1 ?side2 A9.out).mono ?_); (case side1 => repeat (first | exact (Kd.C_below HR0.out HB.out) | (with_reducible refine Kd.C_alloc ?_ _) | (with_reducible refine Kd.C_drewN ?_ _) | (with_reducible refine Kd.C_drew ?_))); (case side2 => exact HC0.out); rintro e w' ⟨rfl, ⟨nd, rfl⟩⟩; refine ⟨_, rfl, ?_⟩) | (go_at_call 42; (with_reducible refine (heliastlaw13_heavy.calls k _ _ l1 false _ ?side1 ?side2 A11.out).mono ?_); (case side1 => repeat (first | exact (Kd.C_below HR1.out (by repeat (first | (with_reducible first | exact HB.out | apply below_alloc | apply pw_below_drewN | apply below_drew1 | refine below_set ?_ GE228.out) | exact HB.out))) | (with_reducible refine Kd.C_alloc ?_ _) | (with_reducible refine Kd.C_drewN ?_ _) | (with_reducible refine Kd.C_drew ?_))); (case side2 => exact HC1.out); rintro e w' ⟨rfl, ⟨nd, rfl⟩⟩; have hcz16_0 : w8.cell? ⟨gb228, 0, none⟩ = some (.string a2_0) := (blk_cell BK228.out 0).trans rfl; have hcz16_1 : w8.cell? ⟨gb228, 1, none⟩ = some (.string a2_1) := (blk_cell BK228.out 1).trans rfl; have hcz16_2 : w8.cell? ⟨gb228, 2, none⟩ = some (.int .i64 a2_2) := (blk_cell BK228.out 2).trans rfl; have hfz16_0 := blk_frozen BK228.out 0; have hfz16_1 := blk_frozen BK228.out 1; have hfz16_2 := blk_frozen BK228.out 2) | (go_at_call 43; (with_reducible refine (heliastlaw13_known.calls k  t231 _ A15.out (by first | rfl | exact HLAW.out | exact HKT_.out)).mono ?_); rintro e w17 ⟨rfl, hb⟩; have n0_ := Aside0.mk (blk_below (g := gb228) (o := .cells #[.string a2_0, .string a2_1, .int .i64 a2_2] 74 (0, 0)) (by (with_reducible repeat (first | refine blk_drewN ?_ _ | refine blk_drew ?_ | refine blk_alloc ?_ _)); exact BK228.out) hb); have n1_ := Aside0.mk (below_step (by repeat (first | (with_reducible first | exact HB.out | apply below_alloc | apply pw_below_drewN | apply below_drew1 | refine below_set ?_ GE228.out) | exact HB.out)) hb); clear BK228; clear HB; have BK228 := n0_; have HB := n1_; clear n0_ n1_; (try clear hb); (try clear hb2); (try clear hk); (try clear hi)))
          go_meet
          case rel => exact ⟨_, (!t231), (by first | rfl | (simp; done) | (simp [*]; done)), H', ⟨by first | omega | exact Nat.le_refl _⟩, ⟨by (with_reducible repeat (first | refine blk_drewN ?_ _ | refine blk_drew ?_ | refine blk_alloc ?_ _)); exact BK228.out⟩, ⟨by repeat (first | (with_reducible first | exact HB.out | apply below_alloc | apply pw_below_drewN | apply below_drew1 | refine below_set ?_ GE228.out) | exact HB.out)⟩⟩
  case rest =>
    clear HC7
    try clear c1
    try clear p2
    try clear c3
    try clear c4
    try clear p6
    try clear c10
    try clear c12
    try clear c13
    try clear c13b0
    try clear c14
    try clear hcz14_0
    try clear hcz14_1
    try clear hcz14_2
    try clear hcz16_0
    try clear hcz16_1
    try clear hcz16_2
    try clear hfz14_0
    try clear hfz14_1
    try clear hfz14_2
    try clear hfz16_0
    try clear hfz16_1
    try clear hfz16_2
    obtain ⟨kq, x35_6, rfl, HA, HJ6, BK228, HB⟩ := hcut
    cases kq with
    | zero => exact absurd HA.out (by simp [heliastlaw13_StateAsks.j0])
    | succ kj6 =>
      have H := HA.out
      clear HA
      simp only [heliastlaw13_StateAsks.j0] at H
      by_cases c18 : x35_6 = true
      · subst c18
        have H1 : ((heliastlaw13_known.f kj6).bind fun t232 => (some t232)) = some r := by rw [if_pos rfl] at H; exact H
        clear H
        have H := H1
        clear H1
        replace H := Option.bind_eq_some_iff.mp H
        obtain ⟨t232, A190, H⟩ := H
        replace H : (some t232) = some r := H
        have A19 := Aside0.mk A190
        clear A190
        obtain rfl := Option.some.inj H
        go_wp2_with (first | ((with_reducible refine gate_callee (f := 43) rfl ?_); refine goesL_ (some 36) rfl rfl Try.func43 (by kernel_rfl) rfl #[] rfl (by (try simp only [List.map_toArray, List.map_cons, List.map_nil]); first | done | rfl | (simp only [List.length_drop, List.length_take]; rfl)) ?_; (with_reducible refine (heliastlaw13_known.calls kj6  t232 _ A19.out (by first | rfl | exact HLAW.out | exact HKT_.out)).mono ?_); rintro e w20 ⟨rfl, hb⟩; refine ⟨_, rfl, ?_⟩; have n0_ := Aside0.mk (blk_below (g := gb228) (o := .cells #[.string a2_0, .string a2_1, .int .i64 a2_2] 74 (0, 0)) (by (with_reducible repeat (first | refine blk_drewN ?_ _ | refine blk_drew ?_ | refine blk_alloc ?_ _)); exact BK228.out) hb); have n1_ := Aside0.mk (below_step (by repeat (first | (with_reducible first | exact HB.out | apply below_alloc | apply pw_below_drewN | apply below_drew1 | refine below_set ?_ GE228.out) | exact HB.out)) hb); clear BK228; clear HB; have BK228 := n0_; have HB := n1_; clear n0_ n1_; (try clear hb); (try clear hb2); (try clear hk); (try clear hi)))
        go_ret
        exact ⟨by first | rfl | (simp [errW_none, errW_some] <;> rfl) | (simp [*, errW_none, errW_some] <;> rfl), by repeat (first | (with_reducible first | exact HB.out | apply below_alloc | apply pw_below_drewN | apply below_drew1 | refine below_set ?_ GE228.out) | exact HB.out)⟩
      · replace c18 := Bool.eq_false_iff.mpr c18
        subst c18
        have H1 : ((heliastlaw13_State.f kj6 l3 30).bind fun t233 => ((heliastlaw13_State.f kj6 l4 30).bind fun t236 => ((some (([(⟨#[]⟩ : ByteArray), (⟨#[64, 97, 58, 115]⟩ : ByteArray), (⟨#[64, 98, 58, 115]⟩ : ByteArray), (⟨#[122, 122]⟩ : ByteArray)] : List ByteArray) : List ByteArray)).bind fun y239 => (if 0 ≤ (Int.tmod a5 4) then (if (Int.tmod a5 4) < (y239.length : Int) then ((heliastlaw13_asks.f kj6 l0 a2_0 a2_1 a2_2).bind fun t244 => (if t244 = true then ((heliastlaw13_asks.f kj6 t233 (⟨#[109, 46, 114, 111, 111, 109, 46, 109, 101, 109, 98, 101, 114]⟩ : ByteArray) (rdOf ByteArray.empty y239 (Int.tmod a5 4)) (wrap64 (a5))).bind fun t245 => (if t245 = true then ((heliastlaw13_asks.f kj6 t233 a2_0 a2_1 a2_2).bind fun t246 => (if t246 = true then ((heliastlaw13_same.f kj6 l0 l1).bind fun t247 => (if t247 = true then ((heliastlaw13_same.f kj6 t233 t236).bind fun t248 => (if t248 = true then ((heliastlaw13_same.f kj6 t233 t233).bind fun t249 => (if t249 = true then ((heliastlaw13_puts.f kj6 t233 a2_0 a2_1 a2_2).bind fun t250 => (if t250 = true then ((heliastlaw13_puts.f kj6 t233 (⟨#[109, 46, 114, 111, 111, 109, 46, 109, 101, 109, 98, 101, 114]⟩ : ByteArray) (rdOf ByteArray.empty y239 (Int.tmod a5 4)) (wrap64 (a5))).bind fun t251 => (if t251 = true then ((state_Over.f kj6 t233 t236).bind fun t252 => ((heliastref13_Over.f kj6 t233 t236).bind fun t255 => ((heliastref13_Same.f kj6 t252 t255).bind fun t258 => (some t258)))) else (some false))) else (some false))) else (some false))) else (some false))) else (some false))) else (some false))) else (some false))) else (some false))) else (none)) else (none))))) = some r := by rw [if_neg (show ¬ (false = true) by decide)] at H; exact H
        clear H
        have H := H1
        clear H1
        replace H := Option.bind_eq_some_iff.mp H
        obtain ⟨t233, A210, H⟩ := H
        replace H : ((heliastlaw13_State.f kj6 l4 30).bind fun t236 => ((some (([(⟨#[]⟩ : ByteArray), (⟨#[64, 97, 58, 115]⟩ : ByteArray), (⟨#[64, 98, 58, 115]⟩ : ByteArray), (⟨#[122, 122]⟩ : ByteArray)] : List ByteArray) : List ByteArray)).bind fun y239 => (if 0 ≤ (Int.tmod a5 4) then (if (Int.tmod a5 4) < (y239.length : Int) then ((heliastlaw13_asks.f kj6 l0 a2_0 a2_1 a2_2).bind fun t244 => (if t244 = true then ((heliastlaw13_asks.f kj6 t233 (⟨#[109, 46, 114, 111, 111, 109, 46, 109, 101, 109, 98, 101, 114]⟩ : ByteArray) (rdOf ByteArray.empty y239 (Int.tmod a5 4)) (wrap64 (a5))).bind fun t245 => (if t245 = true then ((heliastlaw13_asks.f kj6 t233 a2_0 a2_1 a2_2).bind fun t246 => (if t246 = true then ((heliastlaw13_same.f kj6 l0 l1).bind fun t247 => (if t247 = true then ((heliastlaw13_same.f kj6 t233 t236).bind fun t248 => (if t248 = true then ((heliastlaw13_same.f kj6 t233 t233).bind fun t249 => (if t249 = true then ((heliastlaw13_puts.f kj6 t233 a2_0 a2_1 a2_2).bind fun t250 => (if t250 = true then ((heliastlaw13_puts.f kj6 t233 (⟨#[109, 46, 114, 111, 111, 109, 46, 109, 101, 109, 98, 101, 114]⟩ : ByteArray) (rdOf ByteArray.empty y239 (Int.tmod a5 4)) (wrap64 (a5))).bind fun t251 => (if t251 = true then ((state_Over.f kj6 t233 t236).bind fun t252 => ((heliastref13_Over.f kj6 t233 t236).bind fun t255 => ((heliastref13_Same.f kj6 t252 t255).bind fun t258 => (some t258)))) else (some false))) else (some false))) else (some false))) else (some false))) else (some false))) else (some false))) else (some false))) else (some false))) else (none)) else (none)))) = some r := H
        have A21 := Aside0.mk A210
        clear A210
        replace H := Option.bind_eq_some_iff.mp H
        obtain ⟨t236, A220, H⟩ := H
        replace H : ((some (([(⟨#[]⟩ : ByteArray), (⟨#[64, 97, 58, 115]⟩ : ByteArray), (⟨#[64, 98, 58, 115]⟩ : ByteArray), (⟨#[122, 122]⟩ : ByteArray)] : List ByteArray) : List ByteArray)).bind fun y239 => (if 0 ≤ (Int.tmod a5 4) then (if (Int.tmod a5 4) < (y239.length : Int) then ((heliastlaw13_asks.f kj6 l0 a2_0 a2_1 a2_2).bind fun t244 => (if t244 = true then ((heliastlaw13_asks.f kj6 t233 (⟨#[109, 46, 114, 111, 111, 109, 46, 109, 101, 109, 98, 101, 114]⟩ : ByteArray) (rdOf ByteArray.empty y239 (Int.tmod a5 4)) (wrap64 (a5))).bind fun t245 => (if t245 = true then ((heliastlaw13_asks.f kj6 t233 a2_0 a2_1 a2_2).bind fun t246 => (if t246 = true then ((heliastlaw13_same.f kj6 l0 l1).bind fun t247 => (if t247 = true then ((heliastlaw13_same.f kj6 t233 t236).bind fun t248 => (if t248 = true then ((heliastlaw13_same.f kj6 t233 t233).bind fun t249 => (if t249 = true then ((heliastlaw13_puts.f kj6 t233 a2_0 a2_1 a2_2).bind fun t250 => (if t250 = true then ((heliastlaw13_puts.f kj6 t233 (⟨#[109, 46, 114, 111, 111, 109, 46, 109, 101, 109, 98, 101, 114]⟩ : ByteArray) (rdOf ByteArray.empty y239 (Int.tmod a5 4)) (wrap64 (a5))).bind fun t251 => (if t251 = true then ((state_Over.f kj6 t233 t236).bind fun t252 => ((heliastref13_Over.f kj6 t233 t236).bind fun t255 => ((heliastref13_Same.f kj6 t252 t255).bind fun t258 => (some t258)))) else (some false))) else (some false))) else (some false))) else (some false))) else (some false))) else (some false))) else (some false))) else (some false))) else (none)) else (none))) = some r := H
        have A22 := Aside0.mk A220
        clear A220
        obtain ⟨y239, hy239⟩ : ∃ y_ : List ByteArray, y_ = (([(⟨#[]⟩ : ByteArray), (⟨#[64, 97, 58, 115]⟩ : ByteArray), (⟨#[64, 98, 58, 115]⟩ : ByteArray), (⟨#[122, 122]⟩ : ByteArray)] : List ByteArray)) := ⟨_, rfl⟩
        replace H : (if 0 ≤ (Int.tmod a5 4) then (if (Int.tmod a5 4) < (y239.length : Int) then ((heliastlaw13_asks.f kj6 l0 a2_0 a2_1 a2_2).bind fun t244 => (if t244 = true then ((heliastlaw13_asks.f kj6 t233 (⟨#[109, 46, 114, 111, 111, 109, 46, 109, 101, 109, 98, 101, 114]⟩ : ByteArray) (rdOf ByteArray.empty y239 (Int.tmod a5 4)) (wrap64 (a5))).bind fun t245 => (if t245 = true then ((heliastlaw13_asks.f kj6 t233 a2_0 a2_1 a2_2).bind fun t246 => (if t246 = true then ((heliastlaw13_same.f kj6 l0 l1).bind fun t247 => (if t247 = true then ((heliastlaw13_same.f kj6 t233 t236).bind fun t248 => (if t248 = true then ((heliastlaw13_same.f kj6 t233 t233).bind fun t249 => (if t249 = true then ((heliastlaw13_puts.f kj6 t233 a2_0 a2_1 a2_2).bind fun t250 => (if t250 = true then ((heliastlaw13_puts.f kj6 t233 (⟨#[109, 46, 114, 111, 111, 109, 46, 109, 101, 109, 98, 101, 114]⟩ : ByteArray) (rdOf ByteArray.empty y239 (Int.tmod a5 4)) (wrap64 (a5))).bind fun t251 => (if t251 = true then ((state_Over.f kj6 t233 t236).bind fun t252 => ((heliastref13_Over.f kj6 t233 t236).bind fun t255 => ((heliastref13_Same.f kj6 t252 t255).bind fun t258 => (some t258)))) else (some false))) else (some false))) else (some false))) else (some false))) else (some false))) else (some false))) else (some false))) else (some false))) else (none)) else (none)) = some r := by first | (rw [hy239]; with_reducible exact H) | (have H2_ := (Option.bind_some _ _).symm.trans H; rw [hy239]; with_reducible exact H2_) | (have H2_ := (Option.bind_some _ _).symm.trans H; with_reducible exact H2_) | with_reducible exact H | (rw [hy239]; exact H) | exact H
        have Ny239 := Aside0.mk hy239
        clear hy239
        obtain ⟨ji23, hji23⟩ : ∃ j_ : Int, (Int.tmod a5 4) = j_ := ⟨_, rfl⟩
        replace H : (if 0 ≤ (ji23) then (if (ji23) < (y239.length : Int) then ((heliastlaw13_asks.f kj6 l0 a2_0 a2_1 a2_2).bind fun t244 => (if t244 = true then ((heliastlaw13_asks.f kj6 t233 (⟨#[109, 46, 114, 111, 111, 109, 46, 109, 101, 109, 98, 101, 114]⟩ : ByteArray) (rdOf ByteArray.empty y239 (ji23)) (wrap64 (a5))).bind fun t245 => (if t245 = true then ((heliastlaw13_asks.f kj6 t233 a2_0 a2_1 a2_2).bind fun t246 => (if t246 = true then ((heliastlaw13_same.f kj6 l0 l1).bind fun t247 => (if t247 = true then ((heliastlaw13_same.f kj6 t233 t236).bind fun t248 => (if t248 = true then ((heliastlaw13_same.f kj6 t233 t233).bind fun t249 => (if t249 = true then ((heliastlaw13_puts.f kj6 t233 a2_0 a2_1 a2_2).bind fun t250 => (if t250 = true then ((heliastlaw13_puts.f kj6 t233 (⟨#[109, 46, 114, 111, 111, 109, 46, 109, 101, 109, 98, 101, 114]⟩ : ByteArray) (rdOf ByteArray.empty y239 (ji23)) (wrap64 (a5))).bind fun t251 => (if t251 = true then ((state_Over.f kj6 t233 t236).bind fun t252 => ((heliastref13_Over.f kj6 t233 t236).bind fun t255 => ((heliastref13_Same.f kj6 t252 t255).bind fun t258 => (some t258)))) else (some false))) else (some false))) else (some false))) else (some false))) else (some false))) else (some false))) else (some false))) else (some false))) else (none)) else (none)) = some r := by first | (rw [hji23] at H; exact H) | (simp only [hji23] at H ⊢; exact H)
        (try rw [hji23] at A21)
        (try rw [hji23] at A22)
        by_cases c24 : 0 ≤ (ji23)
        · rw [if_pos c24] at H
          have c24b0 : decide (0 ≤ (ji23)) = true := decide_eq_true c24
          clear c24
          by_cases c25 : (ji23) < (y239.length : Int)
          · rw [if_pos c25] at H
            have c25b0 : decide ((ji23) < (y239.length : Int)) = true := decide_eq_true c25
            clear c25
            replace H := Option.bind_eq_some_iff.mp H
            obtain ⟨t244, A260, H⟩ := H
            replace H : (if t244 = true then ((heliastlaw13_asks.f kj6 t233 (⟨#[109, 46, 114, 111, 111, 109, 46, 109, 101, 109, 98, 101, 114]⟩ : ByteArray) (rdOf ByteArray.empty y239 (ji23)) (wrap64 (a5))).bind fun t245 => (if t245 = true then ((heliastlaw13_asks.f kj6 t233 a2_0 a2_1 a2_2).bind fun t246 => (if t246 = true then ((heliastlaw13_same.f kj6 l0 l1).bind fun t247 => (if t247 = true then ((heliastlaw13_same.f kj6 t233 t236).bind fun t248 => (if t248 = true then ((heliastlaw13_same.f kj6 t233 t233).bind fun t249 => (if t249 = true then ((heliastlaw13_puts.f kj6 t233 a2_0 a2_1 a2_2).bind fun t250 => (if t250 = true then ((heliastlaw13_puts.f kj6 t233 (⟨#[109, 46, 114, 111, 111, 109, 46, 109, 101, 109, 98, 101, 114]⟩ : ByteArray) (rdOf ByteArray.empty y239 (ji23)) (wrap64 (a5))).bind fun t251 => (if t251 = true then ((state_Over.f kj6 t233 t236).bind fun t252 => ((heliastref13_Over.f kj6 t233 t236).bind fun t255 => ((heliastref13_Same.f kj6 t252 t255).bind fun t258 => (some t258)))) else (some false))) else (some false))) else (some false))) else (some false))) else (some false))) else (some false))) else (some false))) else (some false)) = some r := H
            have A26 := Aside0.mk A260
            clear A260
            by_cases c27 : t244 = true
            · subst c27
              have H1 : ((heliastlaw13_asks.f kj6 t233 (⟨#[109, 46, 114, 111, 111, 109, 46, 109, 101, 109, 98, 101, 114]⟩ : ByteArray) (rdOf ByteArray.empty y239 (ji23)) (wrap64 (a5))).bind fun t245 => (if t245 = true then ((heliastlaw13_asks.f kj6 t233 a2_0 a2_1 a2_2).bind fun t246 => (if t246 = true then ((heliastlaw13_same.f kj6 l0 l1).bind fun t247 => (if t247 = true then ((heliastlaw13_same.f kj6 t233 t236).bind fun t248 => (if t248 = true then ((heliastlaw13_same.f kj6 t233 t233).bind fun t249 => (if t249 = true then ((heliastlaw13_puts.f kj6 t233 a2_0 a2_1 a2_2).bind fun t250 => (if t250 = true then ((heliastlaw13_puts.f kj6 t233 (⟨#[109, 46, 114, 111, 111, 109, 46, 109, 101, 109, 98, 101, 114]⟩ : ByteArray) (rdOf ByteArray.empty y239 (ji23)) (wrap64 (a5))).bind fun t251 => (if t251 = true then ((state_Over.f kj6 t233 t236).bind fun t252 => ((heliastref13_Over.f kj6 t233 t236).bind fun t255 => ((heliastref13_Same.f kj6 t252 t255).bind fun t258 => (some t258)))) else (some false))) else (some false))) else (some false))) else (some false))) else (some false))) else (some false))) else (some false))) = some r := by rw [if_pos rfl] at H; exact H
              clear H
              have H := H1
              clear H1
              replace H := Option.bind_eq_some_iff.mp H
              obtain ⟨t245, A280, H⟩ := H
              replace H : (if t245 = true then ((heliastlaw13_asks.f kj6 t233 a2_0 a2_1 a2_2).bind fun t246 => (if t246 = true then ((heliastlaw13_same.f kj6 l0 l1).bind fun t247 => (if t247 = true then ((heliastlaw13_same.f kj6 t233 t236).bind fun t248 => (if t248 = true then ((heliastlaw13_same.f kj6 t233 t233).bind fun t249 => (if t249 = true then ((heliastlaw13_puts.f kj6 t233 a2_0 a2_1 a2_2).bind fun t250 => (if t250 = true then ((heliastlaw13_puts.f kj6 t233 (⟨#[109, 46, 114, 111, 111, 109, 46, 109, 101, 109, 98, 101, 114]⟩ : ByteArray) (rdOf ByteArray.empty y239 (ji23)) (wrap64 (a5))).bind fun t251 => (if t251 = true then ((state_Over.f kj6 t233 t236).bind fun t252 => ((heliastref13_Over.f kj6 t233 t236).bind fun t255 => ((heliastref13_Same.f kj6 t252 t255).bind fun t258 => (some t258)))) else (some false))) else (some false))) else (some false))) else (some false))) else (some false))) else (some false))) else (some false)) = some r := H
              have A28 := Aside0.mk A280
              clear A280
              by_cases c29 : t245 = true
              · subst c29
                have H1 : ((heliastlaw13_asks.f kj6 t233 a2_0 a2_1 a2_2).bind fun t246 => (if t246 = true then ((heliastlaw13_same.f kj6 l0 l1).bind fun t247 => (if t247 = true then ((heliastlaw13_same.f kj6 t233 t236).bind fun t248 => (if t248 = true then ((heliastlaw13_same.f kj6 t233 t233).bind fun t249 => (if t249 = true then ((heliastlaw13_puts.f kj6 t233 a2_0 a2_1 a2_2).bind fun t250 => (if t250 = true then ((heliastlaw13_puts.f kj6 t233 (⟨#[109, 46, 114, 111, 111, 109, 46, 109, 101, 109, 98, 101, 114]⟩ : ByteArray) (rdOf ByteArray.empty y239 (ji23)) (wrap64 (a5))).bind fun t251 => (if t251 = true then ((state_Over.f kj6 t233 t236).bind fun t252 => ((heliastref13_Over.f kj6 t233 t236).bind fun t255 => ((heliastref13_Same.f kj6 t252 t255).bind fun t258 => (some t258)))) else (some false))) else (some false))) else (some false))) else (some false))) else (some false))) else (some false))) = some r := by rw [if_pos rfl] at H; exact H
                clear H
                have H := H1
                clear H1
                replace H := Option.bind_eq_some_iff.mp H
                obtain ⟨t246, A300, H⟩ := H
                replace H : (if t246 = true then ((heliastlaw13_same.f kj6 l0 l1).bind fun t247 => (if t247 = true then ((heliastlaw13_same.f kj6 t233 t236).bind fun t248 => (if t248 = true then ((heliastlaw13_same.f kj6 t233 t233).bind fun t249 => (if t249 = true then ((heliastlaw13_puts.f kj6 t233 a2_0 a2_1 a2_2).bind fun t250 => (if t250 = true then ((heliastlaw13_puts.f kj6 t233 (⟨#[109, 46, 114, 111, 111, 109, 46, 109, 101, 109, 98, 101, 114]⟩ : ByteArray) (rdOf ByteArray.empty y239 (ji23)) (wrap64 (a5))).bind fun t251 => (if t251 = true then ((state_Over.f kj6 t233 t236).bind fun t252 => ((heliastref13_Over.f kj6 t233 t236).bind fun t255 => ((heliastref13_Same.f kj6 t252 t255).bind fun t258 => (some t258)))) else (some false))) else (some false))) else (some false))) else (some false))) else (some false))) else (some false)) = some r := H
                have A30 := Aside0.mk A300
                clear A300
                by_cases c31 : t246 = true
                · subst c31
                  have H1 : ((heliastlaw13_same.f kj6 l0 l1).bind fun t247 => (if t247 = true then ((heliastlaw13_same.f kj6 t233 t236).bind fun t248 => (if t248 = true then ((heliastlaw13_same.f kj6 t233 t233).bind fun t249 => (if t249 = true then ((heliastlaw13_puts.f kj6 t233 a2_0 a2_1 a2_2).bind fun t250 => (if t250 = true then ((heliastlaw13_puts.f kj6 t233 (⟨#[109, 46, 114, 111, 111, 109, 46, 109, 101, 109, 98, 101, 114]⟩ : ByteArray) (rdOf ByteArray.empty y239 (ji23)) (wrap64 (a5))).bind fun t251 => (if t251 = true then ((state_Over.f kj6 t233 t236).bind fun t252 => ((heliastref13_Over.f kj6 t233 t236).bind fun t255 => ((heliastref13_Same.f kj6 t252 t255).bind fun t258 => (some t258)))) else (some false))) else (some false))) else (some false))) else (some false))) else (some false))) = some r := by rw [if_pos rfl] at H; exact H
                  clear H
                  have H := H1
                  clear H1
                  replace H := Option.bind_eq_some_iff.mp H
                  obtain ⟨t247, A320, H⟩ := H
                  replace H : (if t247 = true then ((heliastlaw13_same.f kj6 t233 t236).bind fun t248 => (if t248 = true then ((heliastlaw13_same.f kj6 t233 t233).bind fun t249 => (if t249 = true then ((heliastlaw13_puts.f kj6 t233 a2_0 a2_1 a2_2).bind fun t250 => (if t250 = true then ((heliastlaw13_puts.f kj6 t233 (⟨#[109, 46, 114, 111, 111, 109, 46, 109, 101, 109, 98, 101, 114]⟩ : ByteArray) (rdOf ByteArray.empty y239 (ji23)) (wrap64 (a5))).bind fun t251 => (if t251 = true then ((state_Over.f kj6 t233 t236).bind fun t252 => ((heliastref13_Over.f kj6 t233 t236).bind fun t255 => ((heliastref13_Same.f kj6 t252 t255).bind fun t258 => (some t258)))) else (some false))) else (some false))) else (some false))) else (some false))) else (some false)) = some r := H
                  have A32 := Aside0.mk A320
                  clear A320
                  by_cases c33 : t247 = true
                  · subst c33
                    have H1 : ((heliastlaw13_same.f kj6 t233 t236).bind fun t248 => (if t248 = true then ((heliastlaw13_same.f kj6 t233 t233).bind fun t249 => (if t249 = true then ((heliastlaw13_puts.f kj6 t233 a2_0 a2_1 a2_2).bind fun t250 => (if t250 = true then ((heliastlaw13_puts.f kj6 t233 (⟨#[109, 46, 114, 111, 111, 109, 46, 109, 101, 109, 98, 101, 114]⟩ : ByteArray) (rdOf ByteArray.empty y239 (ji23)) (wrap64 (a5))).bind fun t251 => (if t251 = true then ((state_Over.f kj6 t233 t236).bind fun t252 => ((heliastref13_Over.f kj6 t233 t236).bind fun t255 => ((heliastref13_Same.f kj6 t252 t255).bind fun t258 => (some t258)))) else (some false))) else (some false))) else (some false))) else (some false))) = some r := by rw [if_pos rfl] at H; exact H
                    clear H
                    have H := H1
                    clear H1
                    replace H := Option.bind_eq_some_iff.mp H
                    obtain ⟨t248, A340, H⟩ := H
                    replace H : (if t248 = true then ((heliastlaw13_same.f kj6 t233 t233).bind fun t249 => (if t249 = true then ((heliastlaw13_puts.f kj6 t233 a2_0 a2_1 a2_2).bind fun t250 => (if t250 = true then ((heliastlaw13_puts.f kj6 t233 (⟨#[109, 46, 114, 111, 111, 109, 46, 109, 101, 109, 98, 101, 114]⟩ : ByteArray) (rdOf ByteArray.empty y239 (ji23)) (wrap64 (a5))).bind fun t251 => (if t251 = true then ((state_Over.f kj6 t233 t236).bind fun t252 => ((heliastref13_Over.f kj6 t233 t236).bind fun t255 => ((heliastref13_Same.f kj6 t252 t255).bind fun t258 => (some t258)))) else (some false))) else (some false))) else (some false))) else (some false)) = some r := H
                    have A34 := Aside0.mk A340
                    clear A340
                    by_cases c35 : t248 = true
                    · subst c35
                      have H1 : ((heliastlaw13_same.f kj6 t233 t233).bind fun t249 => (if t249 = true then ((heliastlaw13_puts.f kj6 t233 a2_0 a2_1 a2_2).bind fun t250 => (if t250 = true then ((heliastlaw13_puts.f kj6 t233 (⟨#[109, 46, 114, 111, 111, 109, 46, 109, 101, 109, 98, 101, 114]⟩ : ByteArray) (rdOf ByteArray.empty y239 (ji23)) (wrap64 (a5))).bind fun t251 => (if t251 = true then ((state_Over.f kj6 t233 t236).bind fun t252 => ((heliastref13_Over.f kj6 t233 t236).bind fun t255 => ((heliastref13_Same.f kj6 t252 t255).bind fun t258 => (some t258)))) else (some false))) else (some false))) else (some false))) = some r := by rw [if_pos rfl] at H; exact H
                      clear H
                      have H := H1
                      clear H1
                      replace H := Option.bind_eq_some_iff.mp H
                      obtain ⟨t249, A360, H⟩ := H
                      replace H : (if t249 = true then ((heliastlaw13_puts.f kj6 t233 a2_0 a2_1 a2_2).bind fun t250 => (if t250 = true then ((heliastlaw13_puts.f kj6 t233 (⟨#[109, 46, 114, 111, 111, 109, 46, 109, 101, 109, 98, 101, 114]⟩ : ByteArray) (rdOf ByteArray.empty y239 (ji23)) (wrap64 (a5))).bind fun t251 => (if t251 = true then ((state_Over.f kj6 t233 t236).bind fun t252 => ((heliastref13_Over.f kj6 t233 t236).bind fun t255 => ((heliastref13_Same.f kj6 t252 t255).bind fun t258 => (some t258)))) else (some false))) else (some false))) else (some false)) = some r := H
                      have A36 := Aside0.mk A360
                      clear A360
                      by_cases c37 : t249 = true
                      · subst c37
                        have H1 : ((heliastlaw13_puts.f kj6 t233 a2_0 a2_1 a2_2).bind fun t250 => (if t250 = true then ((heliastlaw13_puts.f kj6 t233 (⟨#[109, 46, 114, 111, 111, 109, 46, 109, 101, 109, 98, 101, 114]⟩ : ByteArray) (rdOf ByteArray.empty y239 (ji23)) (wrap64 (a5))).bind fun t251 => (if t251 = true then ((state_Over.f kj6 t233 t236).bind fun t252 => ((heliastref13_Over.f kj6 t233 t236).bind fun t255 => ((heliastref13_Same.f kj6 t252 t255).bind fun t258 => (some t258)))) else (some false))) else (some false))) = some r := by rw [if_pos rfl] at H; exact H
                        clear H
                        have H := H1
                        clear H1
                        replace H := Option.bind_eq_some_iff.mp H
                        obtain ⟨t250, A380, H⟩ := H
                        replace H : (if t250 = true then ((heliastlaw13_puts.f kj6 t233 (⟨#[109, 46, 114, 111, 111, 109, 46, 109, 101, 109, 98, 101, 114]⟩ : ByteArray) (rdOf ByteArray.empty y239 (ji23)) (wrap64 (a5))).bind fun t251 => (if t251 = true then ((state_Over.f kj6 t233 t236).bind fun t252 => ((heliastref13_Over.f kj6 t233 t236).bind fun t255 => ((heliastref13_Same.f kj6 t252 t255).bind fun t258 => (some t258)))) else (some false))) else (some false)) = some r := H
                        have A38 := Aside0.mk A380
                        clear A380
                        by_cases c39 : t250 = true
                        · subst c39
                          have H1 : ((heliastlaw13_puts.f kj6 t233 (⟨#[109, 46, 114, 111, 111, 109, 46, 109, 101, 109, 98, 101, 114]⟩ : ByteArray) (rdOf ByteArray.empty y239 (ji23)) (wrap64 (a5))).bind fun t251 => (if t251 = true then ((state_Over.f kj6 t233 t236).bind fun t252 => ((heliastref13_Over.f kj6 t233 t236).bind fun t255 => ((heliastref13_Same.f kj6 t252 t255).bind fun t258 => (some t258)))) else (some false))) = some r := by rw [if_pos rfl] at H; exact H
                          clear H
                          have H := H1
                          clear H1
                          replace H := Option.bind_eq_some_iff.mp H
                          obtain ⟨t251, A400, H⟩ := H
                          replace H : (if t251 = true then ((state_Over.f kj6 t233 t236).bind fun t252 => ((heliastref13_Over.f kj6 t233 t236).bind fun t255 => ((heliastref13_Same.f kj6 t252 t255).bind fun t258 => (some t258)))) else (some false)) = some r := H
                          have A40 := Aside0.mk A400
                          clear A400
                          by_cases c41 : t251 = true
                          · subst c41
                            have H1 : ((state_Over.f kj6 t233 t236).bind fun t252 => ((heliastref13_Over.f kj6 t233 t236).bind fun t255 => ((heliastref13_Same.f kj6 t252 t255).bind fun t258 => (some t258)))) = some r := by rw [if_pos rfl] at H; exact H
                            clear H
                            have H := H1
                            clear H1
                            replace H := Option.bind_eq_some_iff.mp H
                            obtain ⟨t252, A420, H⟩ := H
                            replace H : ((heliastref13_Over.f kj6 t233 t236).bind fun t255 => ((heliastref13_Same.f kj6 t252 t255).bind fun t258 => (some t258))) = some r := H
                            have A42 := Aside0.mk A420
                            clear A420
                            replace H := Option.bind_eq_some_iff.mp H
                            obtain ⟨t255, A430, H⟩ := H
                            replace H : ((heliastref13_Same.f kj6 t252 t255).bind fun t258 => (some t258)) = some r := H
                            have A43 := Aside0.mk A430
                            clear A430
                            replace H := Option.bind_eq_some_iff.mp H
                            obtain ⟨t258, A440, H⟩ := H
                            replace H : (some t258) = some r := H
                            have A44 := Aside0.mk A440
                            clear A440
                            obtain rfl := Option.some.inj H
                            have tok1_ : True := trivial
                            have tok2_ : True := trivial
                            have tok3_ : True := trivial
                            have tok4_ : True := trivial
                            have tok5_ : True := trivial
                            have tok6_ : True := trivial
                            have tok7_ : True := trivial
                            go_wp2_with (first | ((with_reducible refine gate_callee (f := 45) rfl ?_); refine goesL_ (some 38) rfl rfl Try.func45 (by kernel_rfl) rfl #[.slice A3 l3.length c3, .int .i64 30] rfl (by (try simp only [List.map_toArray, List.map_cons, List.map_nil]); first | done | rfl | (simp only [List.length_drop, List.length_take]; rfl)) ?_; (with_reducible refine (heliastlaw13_State.calls kj6 _ _ l3 30 t233 _ ?side1 ?side2 A21.out).mono ?_); (case side1 => repeat (first | exact (Kd.C_below HR3.out HB.out) | (with_reducible refine Kd.C_alloc ?_ _) | (with_reducible refine Kd.C_drewN ?_ _) | (with_reducible refine Kd.C_drew ?_))); (case side2 => exact HC3.out); rintro e w45 ⟨v234, rfl, ho0, hb⟩; refine ⟨_, rfl, ?_⟩; have n0_ := Aside0.mk (Kd.R_lower (Kd.R_newB ho0 (g := gb228) (o := .cells #[.string a2_0, .string a2_1, .int .i64 a2_2] 74 (0, 0)) (by (with_reducible repeat (first | refine blk_drewN ?_ _ | refine blk_drew ?_ | refine blk_alloc ?_ _)); exact BK228.out)) (below_size (by repeat (first | (with_reducible first | exact HB.out | apply below_alloc | apply pw_below_drewN | apply below_drew1 | refine below_set ?_ GE228.out) | exact HB.out)))); have n1_ := Aside0.mk (blk_below (g := gb228) (o := .cells #[.string a2_0, .string a2_1, .int .i64 a2_2] 74 (0, 0)) (by (with_reducible repeat (first | refine blk_drewN ?_ _ | refine blk_drew ?_ | refine blk_alloc ?_ _)); exact BK228.out) hb); have n2_ := Aside0.mk (below_step (by repeat (first | (with_reducible first | exact HB.out | apply below_alloc | apply pw_below_drewN | apply below_drew1 | refine below_set ?_ GE228.out) | exact HB.out)) hb); clear BK228; clear HB; have HO235 := n0_; have BK228 := n1_; have HB := n2_; clear n0_ n1_ n2_; (try clear hb); (try clear hb2); (try clear hk); (try clear hi); (try clear ho0)) | ((with_reducible refine gate_callee (f := 45) rfl ?_); refine goesL_ (some 40) rfl rfl Try.func45 (by kernel_rfl) rfl #[.slice A4 l4.length c4, .int .i64 30] rfl (by (try simp only [List.map_toArray, List.map_cons, List.map_nil]); first | done | rfl | (simp only [List.length_drop, List.length_take]; rfl)) ?_; (with_reducible refine (heliastlaw13_State.calls kj6 _ _ l4 30 t236 _ ?side1 ?side2 A22.out).mono ?_); (case side1 => repeat (first | exact (Kd.C_below HR4.out HB.out) | (with_reducible refine Kd.C_alloc ?_ _) | (with_reducible refine Kd.C_drewN ?_ _) | (with_reducible refine Kd.C_drew ?_))); (case side2 => exact HC4.out); rintro e w46 ⟨v237, rfl, ho0, hb⟩; refine ⟨_, rfl, ?_⟩; have n0_ := Aside0.mk (Kd.R_elder' (by (with_reducible repeat (first | apply Kd.R_alloc | apply Kd.R_drewN | apply Kd.R_drew)); exact HO235.out) (Kd.R_base ho0) hb); have n1_ := Aside0.mk (Kd.R_lower (Kd.R_newB (Kd.R_new' ho0 (Kd.R_lt (by (with_reducible repeat (first | apply Kd.R_alloc | apply Kd.R_drewN | apply Kd.R_drew)); exact HO235.out))) (g := gb228) (o := .cells #[.string a2_0, .string a2_1, .int .i64 a2_2] 74 (0, 0)) (by (with_reducible repeat (first | refine blk_drewN ?_ _ | refine blk_drew ?_ | refine blk_alloc ?_ _)); exact BK228.out)) (below_size (by repeat (first | (with_reducible first | exact HB.out | apply below_alloc | apply pw_below_drewN | apply below_drew1 | refine below_set ?_ GE228.out) | exact HB.out)))); have n2_ := Aside0.mk (blk_below (g := gb228) (o := .cells #[.string a2_0, .string a2_1, .int .i64 a2_2] 74 (0, 0)) (by (with_reducible repeat (first | refine blk_drewN ?_ _ | refine blk_drew ?_ | refine blk_alloc ?_ _)); exact BK228.out) hb); have n3_ := Aside0.mk (below_step (by repeat (first | (with_reducible first | exact HB.out | apply below_alloc | apply pw_below_drewN | apply below_drew1 | refine below_set ?_ GE228.out) | exact HB.out)) hb); clear HO235; clear BK228; clear HB; have HO235 := n0_; have HO238 := n1_; have BK228 := n2_; have HB := n3_; clear n0_ n1_ n2_ n3_; (try clear hb); (try clear hb2); (try clear hk); (try clear hi); (try clear ho0)) | ((with_reducible refine gate_dst (N := 41) rfl ?_); (try (refine gate_guard (by rfl) ?_; dsimp only)); refine Kd.R_lit Kd.string _ 9 ?hg (N := 41) ?hd (xs := ([(⟨#[]⟩ : ByteArray), (⟨#[64, 97, 58, 115]⟩ : ByteArray), (⟨#[64, 98, 58, 115]⟩ : ByteArray), (⟨#[122, 122]⟩ : ByteArray)] : List ByteArray)) (inner := [.string (⟨#[]⟩ : ByteArray), .string (⟨#[64, 97, 58, 115]⟩ : ByteArray), .string (⟨#[64, 98, 58, 115]⟩ : ByteArray), .string (⟨#[122, 122]⟩ : ByteArray)]) (ok := fun _ => True) (okp := fun _ => True) ?hr ?hp (fun _ hk => hk) trivial (Below.refl _ _) (Nat.le_refl _) (by simp) ?_; (case hd => rfl); (case hg => rfl); (case hr => first | (go_simp; done) | (go_simp; rfl)); (case hp => exact (Reps.one (show Kd.M Kd.string _ _ _ (⟨#[]⟩ : ByteArray) [.string (⟨#[]⟩ : ByteArray)] from rfl) (Reps.one (show Kd.M Kd.string _ _ _ (⟨#[64, 97, 58, 115]⟩ : ByteArray) [.string (⟨#[64, 97, 58, 115]⟩ : ByteArray)] from rfl) (Reps.one (show Kd.M Kd.string _ _ _ (⟨#[64, 98, 58, 115]⟩ : ByteArray) [.string (⟨#[64, 98, 58, 115]⟩ : ByteArray)] from rfl) (Reps.one (show Kd.M Kd.string _ _ _ (⟨#[122, 122]⟩ : ByteArray) [.string (⟨#[122, 122]⟩ : ByteArray)] from rfl) (Reps.none _ _)))))); intro v240 w47 ho48 hb hg_ hnew_; clear hg_ hnew_; (first | rw [← Ny239.out] at ho48 | (simp only [Int.reduceToNat] at ho48; rw [← Ny239.out] at ho48)); have n0_ := Aside0.mk (Kd.R_below (by (with_reducible repeat (first | apply Kd.R_alloc | apply Kd.R_drewN | apply Kd.R_drew)); exact HO235.out) hb); have n1_ := Aside0.mk (Kd.R_below (by (with_reducible repeat (first | apply Kd.R_alloc | apply Kd.R_drewN | apply Kd.R_drew)); exact HO238.out) hb); have n2_ := Aside0.mk (Kd.R_lower ho48 (below_size (by repeat (first | (with_reducible first | exact HB.out | apply below_alloc | apply pw_below_drewN | apply below_drew1 | refine below_set ?_ GE228.out) | exact HB.out)))); have n3_ := Aside0.mk (blk_below (g := gb228) (o := .cells #[.string a2_0, .string a2_1, .int .i64 a2_2] 74 (0, 0)) (by (with_reducible repeat (first | refine blk_drewN ?_ _ | refine blk_drew ?_ | refine blk_alloc ?_ _)); exact BK228.out) hb); have n4_ := Aside0.mk (below_step (by repeat (first | (with_reducible first | exact HB.out | apply below_alloc | apply pw_below_drewN | apply below_drew1 | refine below_set ?_ GE228.out) | exact HB.out)) hb); clear HO235; clear HO238; clear BK228; clear HB; have HO235 := n0_; have HO238 := n1_; have HO241 := n2_; have BK228 := n3_; have HB := n4_; clear n0_ n1_ n2_ n3_ n4_; clear hb ho48; obtain ⟨Ao49, co49, eo49⟩ := Kd.R_slice HO241.out; subst eo49; have p242 : 0 ≤ ((ji23) : Int) := of_decide_eq_true (by first | (with_reducible assumption) | assumption); have q242 : (ji23) < (y239.length : Int) := of_decide_eq_true (by first | (with_reducible assumption) | assumption); obtain ⟨ad242, e242, hx242_0⟩ := Kd.at_string (Kd.R_reads' HO241.out).2.2 (ji23) p242 q242; cases e242; replace p242 := eq_true p242; replace q242 := eq_true q242) | ((with_reducible refine gate_dst (N := 15) rfl ?_); (try (refine gate_guard (by rfl) ?_; dsimp only)); refine box_event ?hg (N := 15) ?hd (cs := #[.string (⟨#[]⟩ : ByteArray), .string (⟨#[]⟩ : ByteArray), .int .i64 0]) (t := 74) ?hr ?_; (case hd => rfl); (case hg => rfl); (case hr => first | (go_simp; done) | (go_simp; rfl)); intro gb243 hg w50 hbox hb; have n0_ := Aside0.mk (Kd.R_below (Kd.R_elderB (by (with_reducible repeat (first | apply Kd.R_alloc | apply Kd.R_drewN | apply Kd.R_drew)); exact HO235.out) gb243 (Nat.le_of_eq hg.symm)) hb); have n1_ := Aside0.mk (Kd.R_below (Kd.R_elderB (by (with_reducible repeat (first | apply Kd.R_alloc | apply Kd.R_drewN | apply Kd.R_drew)); exact HO238.out) gb243 (Nat.le_of_eq hg.symm)) hb); have n2_ := Aside0.mk (Kd.R_below (by (with_reducible repeat (first | apply Kd.R_alloc | apply Kd.R_drewN | apply Kd.R_drew)); exact HO241.out) hb); have n3_ := Aside0.mk (blk_below (g := gb228) (o := .cells #[.string a2_0, .string a2_1, .int .i64 a2_2] 74 (0, 0)) (by (with_reducible repeat (first | refine blk_drewN ?_ _ | refine blk_drew ?_ | refine blk_alloc ?_ _)); exact BK228.out) hb); have n4_ := Aside0.mk (below_step (by repeat (first | (with_reducible first | exact HB.out | apply below_alloc | apply pw_below_drewN | apply below_drew1 | refine below_set ?_ GE228.out) | exact HB.out)) hb); have n5_ := Aside0.mk (hbox); have n6_ := Aside0.mk ((by rw [hg]; exact (below_size (by repeat (first | (with_reducible first | exact HB.out | apply below_alloc | apply pw_below_drewN | apply below_drew1 | refine below_set ?_ GE228.out) | exact HB.out))) : w.heap.size ≤ gb243)); have n7_ := Aside0.mk ((by rw [hg]; exact (below_size (by repeat (first | (with_reducible first | exact HB.out | apply below_alloc | apply pw_below_drewN | apply below_drew1 | refine below_set ?_ GE228.out) | exact HB.out))) : w.heap.size ≤ gb243)); have n8_ := Aside0.mk ((by rw [hg]; exact Nat.ne_of_lt (blk_lt (g := gb228) (o := .cells #[.string a2_0, .string a2_1, .int .i64 a2_2] 74 (0, 0)) (by (with_reducible repeat (first | refine blk_drewN ?_ _ | refine blk_drew ?_ | refine blk_alloc ?_ _)); exact BK228.out)) : gb228 ≠ gb243)); have n9_ := Aside0.mk ((by rw [hg]; exact Nat.ne_of_gt (blk_lt (g := gb228) (o := .cells #[.string a2_0, .string a2_1, .int .i64 a2_2] 74 (0, 0)) (by (with_reducible repeat (first | refine blk_drewN ?_ _ | refine blk_drew ?_ | refine blk_alloc ?_ _)); exact BK228.out)) : gb243 ≠ gb228)); clear HO235; clear HO238; clear HO241; clear BK228; clear HB; have HO235 := n0_; have HO238 := n1_; have HO241 := n2_; have BK228 := n3_; have HB := n4_; have BK243 := n5_; have GW243 := n6_; have GE243 := n7_; have NB228_243 := n8_; have NB243_228 := n9_; clear n0_ n1_ n2_ n3_ n4_ n5_ n6_ n7_ n8_ n9_; clear hb hbox hg; have hnb51 := NB243_228.out; have hnc51 := NB228_243.out; have hcz52_0 : w50.cell? ⟨gb243, 0, none⟩ = some (.string (⟨#[]⟩ : ByteArray)) := (blk_cell BK243.out 0).trans rfl; have hcz52_1 : w50.cell? ⟨gb243, 1, none⟩ = some (.string (⟨#[]⟩ : ByteArray)) := (blk_cell BK243.out 1).trans rfl; have hcz52_2 : w50.cell? ⟨gb243, 2, none⟩ = some (.int .i64 0) := (blk_cell BK243.out 2).trans rfl; have hfz52_0 := blk_frozen BK243.out 0; have hfz52_1 := blk_frozen BK243.out 1; have hfz52_2 := blk_frozen BK243.out 2; have hcz53_0 : w50.cell? ⟨gb228, 0, none⟩ = some (.string a2_0) := (blk_cell BK228.out 0).trans rfl; have hcz53_1 : w50.cell? ⟨gb228, 1, none⟩ = some (.string a2_1) := (blk_cell BK228.out 1).trans rfl; have hcz53_2 : w50.cell? ⟨gb228, 2, none⟩ = some (.int .i64 a2_2) := (blk_cell BK228.out 2).trans rfl; have hfz53_0 := blk_frozen BK228.out 0; have hfz53_1 := blk_frozen BK228.out 1; have hfz53_2 := blk_frozen BK228.out 2) | ((with_reducible refine gate_callee (f := 46) rfl ?_); refine goesL_ (some 51) rfl rfl Try.func46 (by kernel_rfl) rfl #[.slice A0 l0.length c0, .agg #[.string a2_0, .string a2_1, .int .i64 a2_2]] rfl (by (try simp only [List.map_toArray, List.map_cons, List.map_nil]); first | done | rfl | (simp only [List.length_drop, List.length_take]; rfl)) ?_; (with_reducible refine (heliastlaw13_asks.calls kj6 _ _ l0 a2_0 a2_1 a2_2 true _ ?side1 ?side2 A26.out (by first | rfl | exact HLAW.out | exact HKT_.out)).mono ?_); (case side1 => exact Kd.C_below HR0.out (by repeat (first | (with_reducible first | exact HB.out | apply below_alloc | apply pw_below_drewN | apply below_drew1 | refine below_set ?_ GE228.out | refine below_set ?_ GE243.out) | exact HB.out))); (case side2 => exact HC0.out); rintro e w54 ⟨rfl, hb⟩; refine ⟨_, rfl, ?_⟩; have n0_ := Aside0.mk (Kd.R_below (by (with_reducible repeat (first | apply Kd.R_alloc | apply Kd.R_drewN | apply Kd.R_drew)); exact (Kd.R_mono (Kd.R_far (p := ⟨gb243, 2, none⟩) (Kd.R_far (p := ⟨gb243, 1, none⟩) (Kd.R_far (p := ⟨gb243, 0, none⟩) (Kd.R_mono HO235.out (fun k_ hk => (⟨hk, hk.2⟩ : _ ∧ k_ ≠ gb243))) (fun _ hk => hk.2) (.string (⟨#[109, 46, 114, 111, 111, 109, 46, 109, 101, 109, 98, 101, 114]⟩ : ByteArray))) (fun _ hk => hk.2) (.string (rdOf ByteArray.empty y239 (ji23)))) (fun _ hk => hk.2) (.int .i64 (wrap64 (a5)))) (fun _ h_ => h_.1))) hb); have n1_ := Aside0.mk (Kd.R_below (by (with_reducible repeat (first | apply Kd.R_alloc | apply Kd.R_drewN | apply Kd.R_drew)); exact (Kd.R_mono (Kd.R_far (p := ⟨gb243, 2, none⟩) (Kd.R_far (p := ⟨gb243, 1, none⟩) (Kd.R_far (p := ⟨gb243, 0, none⟩) (Kd.R_mono HO238.out (fun k_ hk => (⟨hk, hk.2⟩ : _ ∧ k_ ≠ gb243))) (fun _ hk => hk.2) (.string (⟨#[109, 46, 114, 111, 111, 109, 46, 109, 101, 109, 98, 101, 114]⟩ : ByteArray))) (fun _ hk => hk.2) (.string (rdOf ByteArray.empty y239 (ji23)))) (fun _ hk => hk.2) (.int .i64 (wrap64 (a5)))) (fun _ h_ => h_.1))) hb); have n2_ := Aside0.mk (Kd.R_below (by (with_reducible repeat (first | apply Kd.R_alloc | apply Kd.R_drewN | apply Kd.R_drew)); exact (Kd.R_mono (Kd.R_far (p := ⟨gb243, 2, none⟩) (Kd.R_far (p := ⟨gb243, 1, none⟩) (Kd.R_far (p := ⟨gb243, 0, none⟩) (Kd.R_types HO241.out BK243.out (by decide)) (fun _ hk => hk.2) (.string (⟨#[109, 46, 114, 111, 111, 109, 46, 109, 101, 109, 98, 101, 114]⟩ : ByteArray))) (fun _ hk => hk.2) (.string (rdOf ByteArray.empty y239 (ji23)))) (fun _ hk => hk.2) (.int .i64 (wrap64 (a5)))) (fun _ h_ => h_.1))) hb); have n3_ := Aside0.mk (blk_below (g := gb228) (o := .cells #[.string a2_0, .string a2_1, .int .i64 a2_2] 74 (0, 0)) (by (with_reducible repeat (first | refine blk_drewN ?_ _ | refine blk_drew ?_ | refine blk_alloc ?_ _)); refine blk_far ?_ NB228_243.out _; (with_reducible repeat (first | refine blk_drewN ?_ _ | refine blk_drew ?_ | refine blk_alloc ?_ _)); refine blk_far ?_ NB228_243.out _; (with_reducible repeat (first | refine blk_drewN ?_ _ | refine blk_drew ?_ | refine blk_alloc ?_ _)); refine blk_far ?_ NB228_243.out _; (with_reducible repeat (first | refine blk_drewN ?_ _ | refine blk_drew ?_ | refine blk_alloc ?_ _)); exact BK228.out) hb); have n4_ := Aside0.mk (blk_below (g := gb243) (o := .cells #[.string (⟨#[109, 46, 114, 111, 111, 109, 46, 109, 101, 109, 98, 101, 114]⟩ : ByteArray), .string (rdOf ByteArray.empty y239 (ji23)), .int .i64 (wrap64 (a5))] 74 (0, 0)) (by (with_reducible repeat (first | refine blk_drewN ?_ _ | refine blk_drew ?_ | refine blk_alloc ?_ _)); refine blk_put (cs := #[.string (⟨#[109, 46, 114, 111, 111, 109, 46, 109, 101, 109, 98, 101, 114]⟩ : ByteArray), .string (rdOf ByteArray.empty y239 (ji23)), .int .i64 0]) ?_ 2 _ rfl; (with_reducible repeat (first | refine blk_drewN ?_ _ | refine blk_drew ?_ | refine blk_alloc ?_ _)); refine blk_put (cs := #[.string (⟨#[109, 46, 114, 111, 111, 109, 46, 109, 101, 109, 98, 101, 114]⟩ : ByteArray), .string (⟨#[]⟩ : ByteArray), .int .i64 0]) ?_ 1 _ rfl; (with_reducible repeat (first | refine blk_drewN ?_ _ | refine blk_drew ?_ | refine blk_alloc ?_ _)); refine blk_put (cs := #[.string (⟨#[]⟩ : ByteArray), .string (⟨#[]⟩ : ByteArray), .int .i64 0]) ?_ 0 _ rfl; (with_reducible repeat (first | refine blk_drewN ?_ _ | refine blk_drew ?_ | refine blk_alloc ?_ _)); exact BK243.out) hb); have n5_ := Aside0.mk (below_step (by repeat (first | (with_reducible first | exact HB.out | apply below_alloc | apply pw_below_drewN | apply below_drew1 | refine below_set ?_ GE228.out | refine below_set ?_ GE243.out) | exact HB.out)) hb); clear HO235; clear HO238; clear HO241; clear BK228; clear BK243; clear HB; have HO235 := n0_; have HO238 := n1_; have HO241 := n2_; have BK228 := n3_; have BK243 := n4_; have HB := n5_; clear n0_ n1_ n2_ n3_ n4_ n5_; (try clear hb); (try clear hb2); (try clear hk); (try clear hi); have hcz55_0 : w54.cell? ⟨gb243, 0, none⟩ = some (.string (⟨#[109, 46, 114, 111, 111, 109, 46, 109, 101, 109, 98, 101, 114]⟩ : ByteArray)) := (blk_cell BK243.out 0).trans rfl; have hcz55_1 : w54.cell? ⟨gb243, 1, none⟩ = some (.string (rdOf ByteArray.empty y239 (ji23))) := (blk_cell BK243.out 1).trans rfl; have hcz55_2 : w54.cell? ⟨gb243, 2, none⟩ = some (.int .i64 (wrap64 (a5))) := (blk_cell BK243.out 2).trans rfl; have hfz55_0 := blk_frozen BK243.out 0; have hfz55_1 := blk_frozen BK243.out 1; have hfz55_2 := blk_frozen BK243.out 2; obtain ⟨Ao56, co56, eo56⟩ := Kd.R_slice HO235.out; subst eo56) | (go_at_call 46; clear tok1_; (with_reducible refine (heliastlaw13_asks.calls kj6 _ _ t233 (⟨#[109, 46, 114, 111, 111, 109, 46, 109, 101, 109, 98, 101, 114]⟩ : ByteArray) (rdOf ByteArray.empty y239 (ji23)) (wrap64 (a5)) true _ ?side1 ?side2 A28.out (by first | rfl | exact HLAW.out | exact HKT_.out)).mono ?_); (case side1 => repeat (first | exact (Kd.R_reads' HO235.out).2.2 | (with_reducible refine Kd.C_alloc ?_ _) | (with_reducible refine Kd.C_drewN ?_ _) | (with_reducible refine Kd.C_drew ?_))); (case side2 => exact (Kd.R_reads' HO235.out).2.1); rintro e w57 ⟨rfl, hb⟩; have n0_ := Aside0.mk (Kd.R_below (by (with_reducible repeat (first | apply Kd.R_alloc | apply Kd.R_drewN | apply Kd.R_drew)); exact HO235.out) hb); have n1_ := Aside0.mk (Kd.R_below (by (with_reducible repeat (first | apply Kd.R_alloc | apply Kd.R_drewN | apply Kd.R_drew)); exact HO238.out) hb); have n2_ := Aside0.mk (Kd.R_below (by (with_reducible repeat (first | apply Kd.R_alloc | apply Kd.R_drewN | apply Kd.R_drew)); exact HO241.out) hb); have n3_ := Aside0.mk (blk_below (g := gb228) (o := .cells #[.string a2_0, .string a2_1, .int .i64 a2_2] 74 (0, 0)) (by (with_reducible repeat (first | refine blk_drewN ?_ _ | refine blk_drew ?_ | refine blk_alloc ?_ _)); exact BK228.out) hb); have n4_ := Aside0.mk (blk_below (g := gb243) (o := .cells #[.string (⟨#[109, 46, 114, 111, 111, 109, 46, 109, 101, 109, 98, 101, 114]⟩ : ByteArray), .string (rdOf ByteArray.empty y239 (ji23)), .int .i64 (wrap64 (a5))] 74 (0, 0)) (by (with_reducible repeat (first | refine blk_drewN ?_ _ | refine blk_drew ?_ | refine blk_alloc ?_ _)); exact BK243.out) hb); have n5_ := Aside0.mk (below_step (by repeat (first | (with_reducible first | exact HB.out | apply below_alloc | apply pw_below_drewN | apply below_drew1 | refine below_set ?_ GE228.out | refine below_set ?_ GE243.out) | exact HB.out)) hb); clear HO235; clear HO238; clear HO241; clear BK228; clear BK243; clear HB; have HO235 := n0_; have HO238 := n1_; have HO241 := n2_; have BK228 := n3_; have BK243 := n4_; have HB := n5_; clear n0_ n1_ n2_ n3_ n4_ n5_; (try clear hb); (try clear hb2); (try clear hk); (try clear hi); have hcz58_0 : w57.cell? ⟨gb228, 0, none⟩ = some (.string a2_0) := (blk_cell BK228.out 0).trans rfl; have hcz58_1 : w57.cell? ⟨gb228, 1, none⟩ = some (.string a2_1) := (blk_cell BK228.out 1).trans rfl; have hcz58_2 : w57.cell? ⟨gb228, 2, none⟩ = some (.int .i64 a2_2) := (blk_cell BK228.out 2).trans rfl; have hfz58_0 := blk_frozen BK228.out 0; have hfz58_1 := blk_frozen BK228.out 1; have hfz58_2 := blk_frozen BK228.out 2) | (go_at_call 46; clear tok2_; (with_reducible refine (heliastlaw13_asks.calls kj6 _ _ t233 a2_0 a2_1 a2_2 true _ ?side1 ?side2 A30.out (by first | rfl | exact HLAW.out | exact HKT_.out)).mono ?_); (case side1 => repeat (first | exact (Kd.R_reads' HO235.out).2.2 | (with_reducible refine Kd.C_alloc ?_ _) | (with_reducible refine Kd.C_drewN ?_ _) | (with_reducible refine Kd.C_drew ?_))); (case side2 => exact (Kd.R_reads' HO235.out).2.1); rintro e w59 ⟨rfl, hb⟩; have n0_ := Aside0.mk (Kd.R_below (by (with_reducible repeat (first | apply Kd.R_alloc | apply Kd.R_drewN | apply Kd.R_drew)); exact HO235.out) hb); have n1_ := Aside0.mk (Kd.R_below (by (with_reducible repeat (first | apply Kd.R_alloc | apply Kd.R_drewN | apply Kd.R_drew)); exact HO238.out) hb); have n2_ := Aside0.mk (Kd.R_below (by (with_reducible repeat (first | apply Kd.R_alloc | apply Kd.R_drewN | apply Kd.R_drew)); exact HO241.out) hb); have n3_ := Aside0.mk (blk_below (g := gb228) (o := .cells #[.string a2_0, .string a2_1, .int .i64 a2_2] 74 (0, 0)) (by (with_reducible repeat (first | refine blk_drewN ?_ _ | refine blk_drew ?_ | refine blk_alloc ?_ _)); exact BK228.out) hb); have n4_ := Aside0.mk (blk_below (g := gb243) (o := .cells #[.string (⟨#[109, 46, 114, 111, 111, 109, 46, 109, 101, 109, 98, 101, 114]⟩ : ByteArray), .string (rdOf ByteArray.empty y239 (ji23)), .int .i64 (wrap64 (a5))] 74 (0, 0)) (by (with_reducible repeat (first | refine blk_drewN ?_ _ | refine blk_drew ?_ | refine blk_alloc ?_ _)); exact BK243.out) hb); have n5_ := Aside0.mk (below_step (by repeat (first | (with_reducible first | exact HB.out | apply below_alloc | apply pw_below_drewN | apply below_drew1 | refine below_set ?_ GE228.out | refine below_set ?_ GE243.out) | exact HB.out)) hb); clear HO235; clear HO238; clear HO241; clear BK228; clear BK243; clear HB; have HO235 := n0_; have HO238 := n1_; have HO241 := n2_; have BK228 := n3_; have BK243 := n4_; have HB := n5_; clear n0_ n1_ n2_ n3_ n4_ n5_; (try clear hb); (try clear hb2); (try clear hk); (try clear hi)) | (go_at_call 47; clear tok3_; (with_reducible refine (heliastlaw13_same.calls kj6 _ _ l0 _ _ l1 true _ ?side1 ?side2 ?side3 ?side4 A32.out (by first | rfl | exact HLAW.out | exact HKT_.out)).mono ?_); (case side1 => repeat (first | exact (Kd.C_below HR0.out HB.out) | (with_reducible refine Kd.C_alloc ?_ _) | (with_reducible refine Kd.C_drewN ?_ _) | (with_reducible refine Kd.C_drew ?_))); (case side2 => exact HC0.out); (case side3 => repeat (first | exact (Kd.C_below HR1.out HB.out) | (with_reducible refine Kd.C_alloc ?_ _) | (with_reducible refine Kd.C_drewN ?_ _) | (with_reducible refine Kd.C_drew ?_))); (case side4 => exact HC1.out); rintro e w' ⟨rfl, ⟨nd, rfl⟩⟩; obtain ⟨Ao60, co60, eo60⟩ := Kd.R_slice HO238.out; subst eo60) | (go_at_call 47; clear tok4_; (with_reducible refine (heliastlaw13_same.calls kj6 _ _ t233 _ _ t236 true _ ?side1 ?side2 ?side3 ?side4 A34.out (by first | rfl | exact HLAW.out | exact HKT_.out)).mono ?_); (case side1 => repeat (first | exact (Kd.R_reads' HO235.out).2.2 | (with_reducible refine Kd.C_alloc ?_ _) | (with_reducible refine Kd.C_drewN ?_ _) | (with_reducible refine Kd.C_drew ?_))); (case side2 => exact (Kd.R_reads' HO235.out).2.1); (case side3 => repeat (first | exact (Kd.R_reads' HO238.out).2.2 | (with_reducible refine Kd.C_alloc ?_ _) | (with_reducible refine Kd.C_drewN ?_ _) | (with_reducible refine Kd.C_drew ?_))); (case side4 => exact (Kd.R_reads' HO238.out).2.1); rintro e w' ⟨rfl, ⟨nd, rfl⟩⟩) | (go_at_call 47; clear tok5_; (with_reducible refine (heliastlaw13_same.calls kj6 _ _ t233 _ _ t233 true _ ?side1 ?side2 ?side3 ?side4 A36.out (by first | rfl | exact HLAW.out | exact HKT_.out)).mono ?_); (case side1 => repeat (first | exact (Kd.R_reads' HO235.out).2.2 | (with_reducible refine Kd.C_alloc ?_ _) | (with_reducible refine Kd.C_drewN ?_ _) | (with_reducible refine Kd.C_drew ?_))); (case side2 => exact (Kd.R_reads' HO235.out).2.1); (case side3 => repeat (first | exact (Kd.R_reads' HO235.out).2.2 | (with_reducible refine Kd.C_alloc ?_ _) | (with_reducible refine Kd.C_drewN ?_ _) | (with_reducible refine Kd.C_drew ?_))); (case side4 => exact (Kd.R_reads' HO235.out).2.1); rintro e w' ⟨rfl, ⟨nd, rfl⟩⟩; have hcz61_0 : w59.cell? ⟨gb228, 0, none⟩ = some (.string a2_0) := (blk_cell BK228.out 0).trans rfl; have hcz61_1 : w59.cell? ⟨gb228, 1, none⟩ = some (.string a2_1) := (blk_cell BK228.out 1).trans rfl; have hcz61_2 : w59.cell? ⟨gb228, 2, none⟩ = some (.int .i64 a2_2) := (blk_cell BK228.out 2).trans rfl; have hfz61_0 := blk_frozen BK228.out 0; have hfz61_1 := blk_frozen BK228.out 1; have hfz61_2 := blk_frozen BK228.out 2) | (go_at_call 48; clear tok6_; (with_reducible refine (heliastlaw13_puts.calls kj6 _ _ t233 a2_0 a2_1 a2_2 true _ ?side1 ?side2 A38.out (by first | rfl | exact HLAW.out | exact HKT_.out)).mono ?_); (case side1 => repeat (first | exact (Kd.R_reads' HO235.out).2.2 | (with_reducible refine Kd.C_alloc ?_ _) | (with_reducible refine Kd.C_drewN ?_ _) | (with_reducible refine Kd.C_drew ?_))); (case side2 => exact (Kd.R_reads' HO235.out).2.1); rintro e w62 ⟨rfl, hb⟩; have n0_ := Aside0.mk (Kd.R_below (by (with_reducible repeat (first | apply Kd.R_alloc | apply Kd.R_drewN | apply Kd.R_drew)); exact HO235.out) hb); have n1_ := Aside0.mk (Kd.R_below (by (with_reducible repeat (first | apply Kd.R_alloc | apply Kd.R_drewN | apply Kd.R_drew)); exact HO238.out) hb); have n2_ := Aside0.mk (Kd.R_below (by (with_reducible repeat (first | apply Kd.R_alloc | apply Kd.R_drewN | apply Kd.R_drew)); exact HO241.out) hb); have n3_ := Aside0.mk (blk_below (g := gb228) (o := .cells #[.string a2_0, .string a2_1, .int .i64 a2_2] 74 (0, 0)) (by (with_reducible repeat (first | refine blk_drewN ?_ _ | refine blk_drew ?_ | refine blk_alloc ?_ _)); exact BK228.out) hb); have n4_ := Aside0.mk (blk_below (g := gb243) (o := .cells #[.string (⟨#[109, 46, 114, 111, 111, 109, 46, 109, 101, 109, 98, 101, 114]⟩ : ByteArray), .string (rdOf ByteArray.empty y239 (ji23)), .int .i64 (wrap64 (a5))] 74 (0, 0)) (by (with_reducible repeat (first | refine blk_drewN ?_ _ | refine blk_drew ?_ | refine blk_alloc ?_ _)); exact BK243.out) hb); have n5_ := Aside0.mk (below_step (by repeat (first | (with_reducible first | exact HB.out | apply below_alloc | apply pw_below_drewN | apply below_drew1 | refine below_set ?_ GE228.out | refine below_set ?_ GE243.out) | exact HB.out)) hb); clear HO235; clear HO238; clear HO241; clear BK228; clear BK243; clear HB; have HO235 := n0_; have HO238 := n1_; have HO241 := n2_; have BK228 := n3_; have BK243 := n4_; have HB := n5_; clear n0_ n1_ n2_ n3_ n4_ n5_; (try clear hb); (try clear hb2); (try clear hk); (try clear hi); have hcz63_0 : w62.cell? ⟨gb243, 0, none⟩ = some (.string (⟨#[109, 46, 114, 111, 111, 109, 46, 109, 101, 109, 98, 101, 114]⟩ : ByteArray)) := (blk_cell BK243.out 0).trans rfl; have hcz63_1 : w62.cell? ⟨gb243, 1, none⟩ = some (.string (rdOf ByteArray.empty y239 (ji23))) := (blk_cell BK243.out 1).trans rfl; have hcz63_2 : w62.cell? ⟨gb243, 2, none⟩ = some (.int .i64 (wrap64 (a5))) := (blk_cell BK243.out 2).trans rfl; have hfz63_0 := blk_frozen BK243.out 0; have hfz63_1 := blk_frozen BK243.out 1; have hfz63_2 := blk_frozen BK243.out 2) | (go_at_call 48; clear tok7_; (with_reducible refine (heliastlaw13_puts.calls kj6 _ _ t233 (⟨#[109, 46, 114, 111, 111, 109, 46, 109, 101, 109, 98, 101, 114]⟩ : ByteArray) (rdOf ByteArray.empty y239 (ji23)) (wrap64 (a5)) true _ ?side1 ?side2 A40.out (by first | rfl | exact HLAW.out | exact HKT_.out)).mono ?_); (case side1 => repeat (first | exact (Kd.R_reads' HO235.out).2.2 | (with_reducible refine Kd.C_alloc ?_ _) | (with_reducible refine Kd.C_drewN ?_ _) | (with_reducible refine Kd.C_drew ?_))); (case side2 => exact (Kd.R_reads' HO235.out).2.1); rintro e w64 ⟨rfl, hb⟩; have n0_ := Aside0.mk (Kd.R_below (by (with_reducible repeat (first | apply Kd.R_alloc | apply Kd.R_drewN | apply Kd.R_drew)); exact HO235.out) hb); have n1_ := Aside0.mk (Kd.R_below (by (with_reducible repeat (first | apply Kd.R_alloc | apply Kd.R_drewN | apply Kd.R_drew)); exact HO238.out) hb); have n2_ := Aside0.mk (Kd.R_below (by (with_reducible repeat (first | apply Kd.R_alloc | apply Kd.R_drewN | apply Kd.R_drew)); exact HO241.out) hb); have n3_ := Aside0.mk (blk_below (g := gb228) (o := .cells #[.string a2_0, .string a2_1, .int .i64 a2_2] 74 (0, 0)) (by (with_reducible repeat (first | refine blk_drewN ?_ _ | refine blk_drew ?_ | refine blk_alloc ?_ _)); exact BK228.out) hb); have n4_ := Aside0.mk (blk_below (g := gb243) (o := .cells #[.string (⟨#[109, 46, 114, 111, 111, 109, 46, 109, 101, 109, 98, 101, 114]⟩ : ByteArray), .string (rdOf ByteArray.empty y239 (ji23)), .int .i64 (wrap64 (a5))] 74 (0, 0)) (by (with_reducible repeat (first | refine blk_drewN ?_ _ | refine blk_drew ?_ | refine blk_alloc ?_ _)); exact BK243.out) hb); have n5_ := Aside0.mk (below_step (by repeat (first | (with_reducible first | exact HB.out | apply below_alloc | apply pw_below_drewN | apply below_drew1 | refine below_set ?_ GE228.out | refine below_set ?_ GE243.out) | exact HB.out)) hb); clear HO235; clear HO238; clear HO241; clear BK228; clear BK243; clear HB; have HO235 := n0_; have HO238 := n1_; have HO241 := n2_; have BK228 := n3_; have BK243 := n4_; have HB := n5_; clear n0_ n1_ n2_ n3_ n4_ n5_; (try clear hb); (try clear hb2); (try clear hk); (try clear hi)) | (go_at_call 50; (with_reducible refine (state_Over.calls kj6 _ _ t233 _ _ t236 t252 _ ?side1 ?side2 ?side3 ?side4 A42.out).mono ?_); (case side1 => repeat (first | exact (Kd.R_reads' HO235.out).2.2 | (with_reducible refine Kd.C_alloc ?_ _) | (with_reducible refine Kd.C_drewN ?_ _) | (with_reducible refine Kd.C_drew ?_))); (case side2 => exact (Kd.R_reads' HO235.out).2.1); (case side3 => repeat (first | exact (Kd.R_reads' HO238.out).2.2 | (with_reducible refine Kd.C_alloc ?_ _) | (with_reducible refine Kd.C_drewN ?_ _) | (with_reducible refine Kd.C_drew ?_))); (case side4 => exact (Kd.R_reads' HO238.out).2.1); rintro e w65 ⟨v253, rfl, ho0, hb⟩; have n0_ := Aside0.mk (Kd.R_elder' (by (with_reducible repeat (first | apply Kd.R_alloc | apply Kd.R_drewN | apply Kd.R_drew)); exact HO235.out) (Kd.R_base ho0) hb); have n1_ := Aside0.mk (Kd.R_elder' (by (with_reducible repeat (first | apply Kd.R_alloc | apply Kd.R_drewN | apply Kd.R_drew)); exact HO238.out) (Kd.R_base ho0) hb); have n2_ := Aside0.mk (Kd.R_below (by (with_reducible repeat (first | apply Kd.R_alloc | apply Kd.R_drewN | apply Kd.R_drew)); exact HO241.out) hb); have n3_ := Aside0.mk (Kd.R_lower (Kd.R_newB (Kd.R_newB (Kd.R_new' (Kd.R_new' ho0 (Kd.R_lt (by (with_reducible repeat (first | apply Kd.R_alloc | apply Kd.R_drewN | apply Kd.R_drew)); exact HO235.out))) (Kd.R_lt (by (with_reducible repeat (first | apply Kd.R_alloc | apply Kd.R_drewN | apply Kd.R_drew)); exact HO238.out))) (g := gb228) (o := .cells #[.string a2_0, .string a2_1, .int .i64 a2_2] 74 (0, 0)) (by (with_reducible repeat (first | refine blk_drewN ?_ _ | refine blk_drew ?_ | refine blk_alloc ?_ _)); exact BK228.out)) (g := gb243) (o := .cells #[.string (⟨#[109, 46, 114, 111, 111, 109, 46, 109, 101, 109, 98, 101, 114]⟩ : ByteArray), .string (rdOf ByteArray.empty y239 (ji23)), .int .i64 (wrap64 (a5))] 74 (0, 0)) (by (with_reducible repeat (first | refine blk_drewN ?_ _ | refine blk_drew ?_ | refine blk_alloc ?_ _)); exact BK243.out)) (below_size (by repeat (first | (with_reducible first | exact HB.out | apply below_alloc | apply pw_below_drewN | apply below_drew1 | refine below_set ?_ GE228.out | refine below_set ?_ GE243.out) | exact HB.out)))); have n4_ := Aside0.mk (blk_below (g := gb228) (o := .cells #[.string a2_0, .string a2_1, .int .i64 a2_2] 74 (0, 0)) (by (with_reducible repeat (first | refine blk_drewN ?_ _ | refine blk_drew ?_ | refine blk_alloc ?_ _)); exact BK228.out) hb); have n5_ := Aside0.mk (blk_below (g := gb243) (o := .cells #[.string (⟨#[109, 46, 114, 111, 111, 109, 46, 109, 101, 109, 98, 101, 114]⟩ : ByteArray), .string (rdOf ByteArray.empty y239 (ji23)), .int .i64 (wrap64 (a5))] 74 (0, 0)) (by (with_reducible repeat (first | refine blk_drewN ?_ _ | refine blk_drew ?_ | refine blk_alloc ?_ _)); exact BK243.out) hb); have n6_ := Aside0.mk (below_step (by repeat (first | (with_reducible first | exact HB.out | apply below_alloc | apply pw_below_drewN | apply below_drew1 | refine below_set ?_ GE228.out | refine below_set ?_ GE243.out) | exact HB.out)) hb); clear HO235; clear HO238; clear HO241; clear BK228; clear BK243; clear HB; have HO235 := n0_; have HO238 := n1_; have HO241 := n2_; have HO254 := n3_; have BK228 := n4_; have BK243 := n5_; have HB := n6_; clear n0_ n1_ n2_ n3_ n4_ n5_ n6_; (try clear hb); (try clear hb2); (try clear hk); (try clear hi); (try clear ho0)) | (go_at_call 51; (with_reducible refine (heliastref13_Over.calls kj6 (fun k_ => some k_ = (.slice Ao56 t233.length co56 : Value).ownBlock) _ _ t233 _ _ t236 t255 _ ?side1 ?side2 ?side3 A43.out).mono ?_); (case side1 => exact Kd.R_V (Kd.R_tight rfl (Kd.R_apart' (HO235.out) (Kd.R_typed HO241.out) (by decide)))); (case side2 => repeat (first | exact (Kd.R_reads' HO238.out).2.2 | (with_reducible refine Kd.C_alloc ?_ _) | (with_reducible refine Kd.C_drewN ?_ _) | (with_reducible refine Kd.C_drew ?_))); (case side3 => exact (Kd.R_reads' HO238.out).2.1); rintro e w66 ⟨v256, rfl, ho0, hb⟩; have n0_ := Aside0.mk (Kd.R_below (by (with_reducible repeat (first | apply Kd.R_alloc | apply Kd.R_drewN | apply Kd.R_drew)); exact HO235.out) hb); have n1_ := Aside0.mk (Kd.R_below (by (with_reducible repeat (first | apply Kd.R_alloc | apply Kd.R_drewN | apply Kd.R_drew)); exact HO238.out) hb); have n2_ := Aside0.mk (Kd.R_below (by (with_reducible repeat (first | apply Kd.R_alloc | apply Kd.R_drewN | apply Kd.R_drew)); exact HO241.out) hb); have n3_ := Aside0.mk (Kd.R_below (by (with_reducible repeat (first | apply Kd.R_alloc | apply Kd.R_drewN | apply Kd.R_drew)); exact HO254.out) hb); have n4_ := Aside0.mk (Kd.V_lower (Kd.V_mono (ok' := fun k_ => some k_ ≠ (.slice Ao60 t236.length co60 : Value).ownBlock ∧ some k_ ≠ (.slice (some ad242) y239.length co49 : Value).ownBlock ∧ some k_ ≠ (v253 : Value).ownBlock ∧ k_ ≠ gb228 ∧ k_ ≠ gb243) ho0 (fun k_ hk_ => ⟨Or.elim hk_ (fun hs_ => ((Kd.R_apart' (HO235.out) (Kd.R_typed HO241.out) (by decide)).1 k_ hs_.symm).1.1.1.2) (fun hn_ => (Kd.fresh' (Kd.R_lt (by (with_reducible repeat (first | apply Kd.R_alloc | apply Kd.R_drewN | apply Kd.R_drew)); exact HO238.out)) k_ hn_)), Or.elim hk_ (fun hs_ => ((Kd.R_apart' (HO235.out) (Kd.R_typed HO241.out) (by decide)).1 k_ hs_.symm).2) (fun hn_ => (Kd.fresh' (Kd.R_lt (by (with_reducible repeat (first | apply Kd.R_alloc | apply Kd.R_drewN | apply Kd.R_drew)); exact HO241.out)) k_ hn_)), Or.elim hk_ (fun hs_ => ((Kd.R_apart' (HO235.out) (Kd.R_typed HO241.out) (by decide)).1 k_ hs_.symm).1.2) (fun hn_ => (Kd.fresh' (Kd.R_lt (by (with_reducible repeat (first | apply Kd.R_alloc | apply Kd.R_drewN | apply Kd.R_drew)); exact HO254.out)) k_ hn_)), Or.elim hk_ (fun hs_ => ((Kd.R_apart' (HO235.out) (Kd.R_typed HO241.out) (by decide)).1 k_ hs_.symm).1.1.1.1.2) (fun hn_ => (Kd.freshB (g := gb228) (o := .cells #[.string a2_0, .string a2_1, .int .i64 a2_2] 74 (0, 0)) (by (with_reducible repeat (first | refine blk_drewN ?_ _ | refine blk_drew ?_ | refine blk_alloc ?_ _)); exact BK228.out) k_ hn_)), Or.elim hk_ (fun hs_ => ((Kd.R_apart' (HO235.out) (Kd.R_typed HO241.out) (by decide)).1 k_ hs_.symm).1.1.2) (fun hn_ => (Kd.freshB (g := gb243) (o := .cells #[.string (⟨#[109, 46, 114, 111, 111, 109, 46, 109, 101, 109, 98, 101, 114]⟩ : ByteArray), .string (rdOf ByteArray.empty y239 (ji23)), .int .i64 (wrap64 (a5))] 74 (0, 0)) (by (with_reducible repeat (first | refine blk_drewN ?_ _ | refine blk_drew ?_ | refine blk_alloc ?_ _)); exact BK243.out) k_ hn_))⟩)) (below_size (by repeat (first | (with_reducible first | exact HB.out | apply below_alloc | apply pw_below_drewN | apply below_drew1 | refine below_set ?_ GE228.out | refine below_set ?_ GE243.out) | exact HB.out)))); have n5_ := Aside0.mk (blk_below (g := gb228) (o := .cells #[.string a2_0, .string a2_1, .int .i64 a2_2] 74 (0, 0)) (by (with_reducible repeat (first | refine blk_drewN ?_ _ | refine blk_drew ?_ | refine blk_alloc ?_ _)); exact BK228.out) hb); have n6_ := Aside0.mk (blk_below (g := gb243) (o := .cells #[.string (⟨#[109, 46, 114, 111, 111, 109, 46, 109, 101, 109, 98, 101, 114]⟩ : ByteArray), .string (rdOf ByteArray.empty y239 (ji23)), .int .i64 (wrap64 (a5))] 74 (0, 0)) (by (with_reducible repeat (first | refine blk_drewN ?_ _ | refine blk_drew ?_ | refine blk_alloc ?_ _)); exact BK243.out) hb); have n7_ := Aside0.mk (below_step (by repeat (first | (with_reducible first | exact HB.out | apply below_alloc | apply pw_below_drewN | apply below_drew1 | refine below_set ?_ GE228.out | refine below_set ?_ GE243.out) | exact HB.out)) hb); clear HO235; clear HO238; clear HO241; clear HO254; clear BK228; clear BK243; clear HB; have HO235 := n0_; have HO238 := n1_; have HO241 := n2_; have HO254 := n3_; have HO257 := n4_; have BK228 := n5_; have BK243 := n6_; have HB := n7_; clear n0_ n1_ n2_ n3_ n4_ n5_ n6_ n7_; (try clear hb); (try clear hb2); (try clear hk); (try clear hi); (try clear ho0); obtain ⟨Ao67, co67, eo67⟩ := Kd.R_slice HO254.out; subst eo67; obtain ⟨Ao68, co68, eo68⟩ := Kd.V_slice HO257.out; subst eo68) | (go_at_call 49; (with_reducible refine (heliastref13_Same.calls kj6 _ _ t252 _ _ t255 t258 _ ?side1 ?side2 ?side3 ?side4 A44.out).mono ?_); (case side1 => repeat (first | exact (Kd.R_reads' HO254.out).2.2 | (with_reducible refine Kd.C_alloc ?_ _) | (with_reducible refine Kd.C_drewN ?_ _) | (with_reducible refine Kd.C_drew ?_))); (case side2 => exact (Kd.R_reads' HO254.out).2.1); (case side3 => repeat (first | exact (Kd.V_reads' HO257.out).2.2 | (with_reducible refine Kd.C_alloc ?_ _) | (with_reducible refine Kd.C_drewN ?_ _) | (with_reducible refine Kd.C_drew ?_))); (case side4 => exact (Kd.V_reads' HO257.out).2.1); rintro e w' ⟨rfl, ⟨nd, rfl⟩⟩))
                            go_ret
                            exact ⟨by first | rfl | (simp [errW_none, errW_some] <;> rfl) | (simp only [← hji23]; first | rfl | (simp [errW_none, errW_some] <;> rfl)) | (simp [*, errW_none, errW_some] <;> rfl), by repeat (first | (with_reducible first | exact HB.out | apply below_alloc | apply pw_below_drewN | apply below_drew1 | refine below_set ?_ GE228.out | refine below_set ?_ GE243.out) | exact HB.out)⟩
                          · replace c41 := Bool.eq_false_iff.mpr c41
                            subst c41
                            have H1 : (some false) = some r := by rw [if_neg (show ¬ (false = true) by decide)] at H; exact H
                            clear H
                            have H := H1
                            clear H1
                            exact absurd ((Option.some.inj H).trans HLAW.out) (by decide)
                        · replace c39 := Bool.eq_false_iff.mpr c39
                          subst c39
                          have H1 : (some false) = some r := by rw [if_neg (show ¬ (false = true) by decide)] at H; exact H
                          clear H
                          have H := H1
                          clear H1
                          exact absurd ((Option.some.inj H).trans HLAW.out) (by decide)
                      · replace c37 := Bool.eq_false_iff.mpr c37
                        subst c37
                        have H1 : (some false) = some r := by rw [if_neg (show ¬ (false = true) by decide)] at H; exact H
                        clear H
                        have H := H1
                        clear H1
                        exact absurd ((Option.some.inj H).trans HLAW.out) (by decide)
                    · replace c35 := Bool.eq_false_iff.mpr c35
                      subst c35
                      have H1 : (some false) = some r := by rw [if_neg (show ¬ (false = true) by decide)] at H; exact H
                      clear H
                      have H := H1
                      clear H1
                      exact absurd ((Option.some.inj H).trans HLAW.out) (by decide)
                  · replace c33 := Bool.eq_false_iff.mpr c33
                    subst c33
                    have H1 : (some false) = some r := by rw [if_neg (show ¬ (false = true) by decide)] at H; exact H
                    clear H
                    have H := H1
                    clear H1
                    exact absurd ((Option.some.inj H).trans HLAW.out) (by decide)
                · replace c31 := Bool.eq_false_iff.mpr c31
                  subst c31
                  have H1 : (some false) = some r := by rw [if_neg (show ¬ (false = true) by decide)] at H; exact H
                  clear H
                  have H := H1
                  clear H1
                  exact absurd ((Option.some.inj H).trans HLAW.out) (by decide)
              · replace c29 := Bool.eq_false_iff.mpr c29
                subst c29
                have H1 : (some false) = some r := by rw [if_neg (show ¬ (false = true) by decide)] at H; exact H
                clear H
                have H := H1
                clear H1
                exact absurd ((Option.some.inj H).trans HLAW.out) (by decide)
            · replace c27 := Bool.eq_false_iff.mpr c27
              subst c27
              have H1 : (some false) = some r := by rw [if_neg (show ¬ (false = true) by decide)] at H; exact H
              clear H
              have H := H1
              clear H1
              exact absurd ((Option.some.inj H).trans HLAW.out) (by decide)
          · rw [if_neg c25] at H
            exact absurd H (by simp)
        · rw [if_neg c24] at H
          exact absurd H (by simp)

end Go.Proofs.Ytbldllghkfgkeaa.S

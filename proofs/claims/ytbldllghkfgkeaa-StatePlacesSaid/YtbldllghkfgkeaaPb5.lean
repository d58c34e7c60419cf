-- Written by heprint.py (this session's, over the kit's print.py): not trusted, Lean checks it.
import Derived.Test.YtbldllghkfgkeaaPb0
import Derived.Test.YtbldllghkfgkeaaPb4
namespace Go.Proofs.Ytbldllghkfgkeaa.S
open Go.RowKit Go.Proofs.YtbldllghkfgkeaaW.PrintWords Go.Proofs.YtbldllghkfgkeaaW.PrintLast Go.Proofs.YtbldllghkfgkeaaW.PrintMore
attribute [local go_sem] max2_int min2_int max_two min_two max_three min_three max_four min_four   -- for this text's walks alone
set_option linter.unusedVariables false
set_option linter.unusedSimpArgs false

/-! ### heliastref13_Put: function 81 -/
mutual
def heliastref13_Put.l0 : Nat → List (S74) → List (S74) → Bool → Int → ByteArray → ByteArray → Int → Option ((List (S74)))
  | 0, _, _, _, _, _, _, _ => none
  | k + 1, x0, x5, x6, x7, x139000, x139001, x139002 => if x7 < (x0.length : Int) then (if 0 ≤ x7 then ((heliastref13_order.f k ((rd_T74 x0 x7).f0) ((rd_T74 x0 x7).f1) ((rd_T74 x0 x7).f2) x139000 x139001 x139002).bind fun t143 => (if x6 = true then (heliastref13_Put.j1 k x0 x5 x6 x7 t143 false x139000 x139001 x139002) else (heliastref13_Put.j1 k x0 x5 x6 x7 t143 (decide (t143 ≥ 0)) x139000 x139001 x139002))) else (none)) else (if x6 = true then (some x5) else (if x5.length < 3518437208883 then (some (x5 ++ [(⟨x139000, x139001, x139002⟩ : S74)])) else (none)))
def heliastref13_Put.j1 : Nat → List (S74) → List (S74) → Bool → Int → Int → Bool → ByteArray → ByteArray → Int → Option ((List (S74)))
  | 0, _, _, _, _, _, _, _, _, _ => none
  | k + 1, x0, x5, x6, x7, x8, x26, x139000, x139001, x139002 => if x26 = true then (if x5.length < 3518437208883 then ((some (x5 ++ [(⟨x139000, x139001, x139002⟩ : S74)] : List (S74))).bind fun y144 => (if x8 = 0 then (heliastref13_Put.l0 k x0 y144 true (wrap64 (x7 + 1)) x139000 x139001 x139002) else (if 0 ≤ x7 then (if x7 < (x0.length : Int) then (if y144.length < 3518437208883 then (heliastref13_Put.l0 k x0 (y144 ++ [(⟨(rd_T74 x0 x7).f0, (rd_T74 x0 x7).f1, (rd_T74 x0 x7).f2⟩ : S74)]) true (wrap64 (x7 + 1)) x139000 x139001 x139002) else (none)) else (none)) else (none)))) else (none)) else (if x8 = 0 then (heliastref13_Put.l0 k x0 x5 x6 (wrap64 (x7 + 1)) x139000 x139001 x139002) else (if 0 ≤ x7 then (if x7 < (x0.length : Int) then (if x5.length < 3518437208883 then (heliastref13_Put.l0 k x0 (x5 ++ [(⟨(rd_T74 x0 x7).f0, (rd_T74 x0 x7).f1, (rd_T74 x0 x7).f2⟩ : S74)]) x6 (wrap64 (x7 + 1)) x139000 x139001 x139002) else (none)) else (none)) else (none)))
end
def heliastref13_Put.f (k : Nat) (l0 : List (S74)) (a1_0 : ByteArray) (a1_1 : ByteArray) (a1_2 : Int) : Option ((List (S74))) := heliastref13_Put.l0 k l0 ([] : List (S74)) false 0 a1_0 a1_1 a1_2
theorem heliastref13_Put.mono_l : ∀ k, (∀ y0 y1 y2 y3 y4 y5 y6, LeO (heliastref13_Put.l0 k y0 y1 y2 y3 y4 y5 y6) (heliastref13_Put.l0 (k + 1) y0 y1 y2 y3 y4 y5 y6)) ∧ (∀ y0 y1 y2 y3 y4 y5 y6 y7 y8, LeO (heliastref13_Put.j1 k y0 y1 y2 y3 y4 y5 y6 y7 y8) (heliastref13_Put.j1 (k + 1) y0 y1 y2 y3 y4 y5 y6 y7 y8))
  | 0 => ⟨fun _ _ _ _ _ _ _ r h => by simp [heliastref13_Put.l0] at h, fun _ _ _ _ _ _ _ _ _ r h => by simp [heliastref13_Put.j1] at h⟩
  | k + 1 => by
    obtain ⟨ih0, ih1⟩ := heliastref13_Put.mono_l k
    refine ⟨?_, ?_⟩
    · intro y0 y1 y2 y3 y4 y5 y6
      unfold heliastref13_Put.l0
      repeat' first
      | (with_reducible exact ih0 _ _ _ _ _ _ _)
      | (with_reducible exact ih1 _ _ _ _ _ _ _ _ _)
      | (with_reducible exact heliastref13_order.mono _ _ _ _ _ _ _)
      | (with_reducible exact LeO.refl _)
      | (with_reducible exact LeO.none _)
      | (with_reducible refine LeO.ite ?_ ?_)
      | (with_reducible refine LeO.bind ?_ (fun _ => ?_))
      | exact ih0 _ _ _ _ _ _ _
      | exact ih1 _ _ _ _ _ _ _ _ _
      | exact heliastref13_order.mono _ _ _ _ _ _ _
      | exact LeO.none _
      | refine LeO.ite ?_ ?_
      | refine LeO.bind ?_ (fun _ => ?_)
    · intro y0 y1 y2 y3 y4 y5 y6 y7 y8
      unfold heliastref13_Put.j1
      repeat' first
      | (with_reducible exact ih0 _ _ _ _ _ _ _)
      | (with_reducible exact ih1 _ _ _ _ _ _ _ _ _)
      | (with_reducible exact heliastref13_order.mono _ _ _ _ _ _ _)
      | (with_reducible exact LeO.refl _)
      | (with_reducible exact LeO.none _)
      | (with_reducible refine LeO.ite ?_ ?_)
      | (with_reducible refine LeO.bind ?_ (fun _ => ?_))
      | exact ih0 _ _ _ _ _ _ _
      | exact ih1 _ _ _ _ _ _ _ _ _
      | exact heliastref13_order.mono _ _ _ _ _ _ _
      | exact LeO.none _
      | refine LeO.ite ?_ ?_
      | refine LeO.bind ?_ (fun _ => ?_)
theorem heliastref13_Put.mono : ∀ a0 a1 a2 a3 k, LeO (heliastref13_Put.f k a0 a1 a2 a3) (heliastref13_Put.f (k + 1) a0 a1 a2 a3) := by
  intro a0 a1 a2 a3 k
  obtain ⟨ih0, ih1⟩ := heliastref13_Put.mono_l k
  unfold heliastref13_Put.f
  repeat' first
      | (with_reducible exact ih0 _ _ _ _ _ _ _)
      | (with_reducible exact ih1 _ _ _ _ _ _ _ _ _)
      | (with_reducible exact heliastref13_order.mono _ _ _ _ _ _ _)
      | (with_reducible exact LeO.refl _)
      | (with_reducible exact LeO.none _)
      | (with_reducible refine LeO.ite ?_ ?_)
      | (with_reducible refine LeO.bind ?_ (fun _ => ?_))
      | exact ih0 _ _ _ _ _ _ _
      | exact ih1 _ _ _ _ _ _ _ _ _
      | exact heliastref13_order.mono _ _ _ _ _ _ _
      | exact LeO.none _
      | refine LeO.ite ?_ ?_
      | refine LeO.bind ?_ (fun _ => ?_)
set_option maxHeartbeats 8000000 in
set_option maxRecDepth 100000 in
theorem heliastref13_Put.calls (k : Nat) (A0 : Option Addr) (c0 : Nat) (l0 : List (S74)) (a1_0 : ByteArray) (a1_1 : ByteArray) (a1_2 : Int) (r : List (S74)) (w : World) (hr0 : Kd.C k74 w A0 l0.length l0) (hc0 : l0.length ≤ c0) (h : heliastref13_Put.f k l0 a1_0 a1_1 a1_2 = some r) :
    Calls Try.prog 81 #[.slice A0 l0.length c0, .agg #[.string a1_0, .string a1_1, .int .i64 a1_2]] w fun e w' => ∃ v0_ : Value, e = .returned (v0_) ∧ Kd.R k74 74 w' w.heap.size (fun _ => True) v0_ r ∧ Below w.heap.size w w' := by
  have hu74 := Try.underlying74
  have HR0 := Aside0.mk hr0
  have HC0 := Aside0.mk hc0
  clear hr0 hc0
  have HB := Aside0.mk (Below.refl w.heap.size w)
  have H : (heliastref13_Put.l0 k l0 ([] : List (S74)) false 0 a1_0 a1_1 a1_2) = some r := h
  clear h
  have H' := Aside0.mk H
  clear H
  go_enter Try.func81, Try.ntmps81
  go_wp2_with (first | ((with_reducible refine gate_dst (N := 3) rfl ?_); refine box_event ?hg (N := 3) ?hd (cs := #[.string a1_0, .string a1_1, .int .i64 a1_2]) (t := 74) ?hr ?_; (case hd => rfl); (case hg => rfl); (case hr => first | (go_simp; done) | (go_simp; rfl)); intro gb138 hg w3 hbox hb; have n0_ := Aside0.mk (below_step (by repeat (first | (with_reducible first | exact HB.out | apply below_alloc | apply pw_below_drewN | apply below_drew1) | exact HB.out)) hb); have n1_ := Aside0.mk (hbox); have n2_ := Aside0.mk ((by rw [hg]; exact (below_size (by repeat (first | (with_reducible first | exact HB.out | apply below_alloc | apply pw_below_drewN | apply below_drew1) | exact HB.out))) : w.heap.size ≤ gb138)); have n3_ := Aside0.mk ((by rw [hg]; exact (below_size (by repeat (first | (with_reducible first | exact HB.out | apply below_alloc | apply pw_below_drewN | apply below_drew1) | exact HB.out))) : w.heap.size ≤ gb138)); clear HB; have HB := n0_; have BK138 := n1_; have GW138 := n2_; have GE138 := n3_; clear n0_ n1_ n2_ n3_; clear hb hbox hg))
  go_loopg [5, 6, 7] k (fun kq v5 v6 v7 w' => ∃ (x5_1 : List (S74)) (x6_1 : Bool) (x7_1 : Int), v6 = .bool x6_1 ∧ v7 = .int .i64 x7_1 ∧ Aside0 (heliastref13_Put.l0 kq l0 x5_1 x6_1 x7_1 a1_0 a1_1 a1_2 = some r) ∧ Aside0 (kq ≤ k) ∧ Aside0 (Kd.R k74 74 w' w.heap.size (fun k_ => k_ ≠ gb138) v5 x5_1) ∧ Aside0 (w'.heap[gb138]? = some (.cells #[.string a1_0, .string a1_1, .int .i64 a1_2] 74 (0, 0))) ∧ Aside0 (Below w.heap.size w w'))
  case atStart => exact ⟨(([] : List (S74))), (false), (0), (by first | rfl | (simp; done) | (simp [*]; done)), (by first | rfl | (simp; done) | (simp [*]; done)), H', ⟨Nat.le_refl _⟩, ⟨by first | exact Kd.R_nil _ _ _ _ _ | exact Kd.N_nil _ _ _ _ _ | exact Kd.V_nil _ _ _ _ _ | exact Kd.Q_nil _ _ _ _ _ | exact Kd.S_nil _ _ _ _ _⟩, ⟨by (with_reducible repeat (first | refine blk_drewN ?_ _ | refine blk_drew ?_ | refine blk_alloc ?_ _)); exact BK138.out⟩, ⟨by repeat (first | (with_reducible first | exact HB.out | apply below_alloc | apply pw_below_drewN | apply below_drew1 | refine below_set ?_ GE138.out) | exact HB.out)⟩⟩
  case round =>
    clear H'
    try clear p2
    obtain ⟨x5_1, x6_1, x7_1, rfl, rfl, HA, HK1, HO_5, BK138, HB⟩ := hrel
    cases gk with
    | zero => exact absurd HA.out (by simp [heliastref13_Put.l0])
    | succ k1 =>
      have H := HA.out
      clear HA
      simp only [heliastref13_Put.l0] at H
      by_cases c4 : x7_1 < (l0.length : Int)
      · rw [if_pos c4] at H
        have c4b0 : decide (x7_1 < (l0.length : Int)) = true := decide_eq_true c4
        clear c4
        by_cases c5 : 0 ≤ x7_1
        · rw [if_pos c5] at H
          have c5b0 : decide (0 ≤ x7_1) = true := decide_eq_true c5
          clear c5
          replace H := Option.bind_eq_some_iff.mp H
          obtain ⟨t143, A60, H⟩ := H
          replace H : (if x6_1 = true then (heliastref13_Put.j1 k1 l0 x5_1 x6_1 x7_1 t143 false a1_0 a1_1 a1_2) else (heliastref13_Put.j1 k1 l0 x5_1 x6_1 x7_1 t143 (decide (t143 ≥ 0)) a1_0 a1_1 a1_2)) = some r := H
          have A6 := Aside0.mk A60
          clear A60
          have HC7 := Aside0.mk H
          clear H
          try go_wp2
          have n0_ := Aside0.mk (Kd.R_drew HO_5.out)
          have n1_ := Aside0.mk (blk_drew BK138.out)
          have n2_ := Aside0.mk (below_drew1 HB.out)
          clear HO_5
          clear BK138
          clear HB
          have HO_5 := n0_
          have BK138 := n1_
          have HB := n2_
          clear n0_ n1_ n2_
          have p142 : 0 ≤ (x7_1 : Int) := of_decide_eq_true (by first | (with_reducible assumption) | assumption)
          have q142 : x7_1 < (l0.length : Int) := of_decide_eq_true (by first | (with_reducible assumption) | assumption)
          obtain ⟨ad142, e142, hx142_0, hx142_1, hx142_2⟩ := at_T74 HR0.out x7_1 p142 q142
          have hw142_2 := hx142_2
          have hw142_1 := hx142_1
          have hw142_0 := hx142_0
          cases e142
          replace hx142_0 := (HB.out.cell (World.block_lt_of_cell? w _ hx142_0)).trans hx142_0
          replace hx142_1 := (HB.out.cell (World.block_lt_of_cell? w _ hx142_1)).trans hx142_1
          replace hx142_2 := (HB.out.cell (World.block_lt_of_cell? w _ hx142_2)).trans hx142_2
          replace p142 := eq_true p142
          replace q142 := eq_true q142
          refine start_ (n := 7) (S := fun w' => w'.cell? ⟨gb138, 0, none⟩ = some (.string a1_0) ∧ w'.cell? ⟨gb138, 1, none⟩ = some (.string a1_1) ∧ w'.cell? ⟨gb138, 2, none⟩ = some (.int .i64 a1_2) ∧ w'.cell? (ad142.add ((x7_1).toNat * 3)) = some (.string ((rd_T74 l0 x7_1).f0)) ∧ w'.cell? ⟨(ad142.add ((x7_1).toNat * 3)).block, (ad142.add ((x7_1).toNat * 3)).off + 1, none⟩ = some (.string ((rd_T74 l0 x7_1).f1)) ∧ w'.cell? ⟨(ad142.add ((x7_1).toNat * 3)).block, (ad142.add ((x7_1).toNat * 3)).off + 2, none⟩ = some (.int .i64 ((rd_T74 l0 x7_1).f2))) (ds := []) #[false, false, false, false, false, false, false] (by kernel_rfl) rfl rfl ⟨(blk_cell BK138.out 0).trans rfl, (blk_cell BK138.out 1).trans rfl, (blk_cell BK138.out 2).trans rfl, ((HB.out.cell (World.block_lt_of_cell? w _ hw142_0)).trans hw142_0), ((HB.out.cell (World.block_lt_of_cell? w _ hw142_1)).trans hw142_1), ((HB.out.cell (World.block_lt_of_cell? w _ hw142_2)).trans hw142_2)⟩ (fun hHeld => ?_)
          generalize wr.drew = w8 at HO_5 BK138 HB hx142_0 hx142_1 hx142_2 hHeld ⊢
          refine pure_ (i := 0) (N := some 15) (v := ?_) (a' := ?_) #[true, false, false, false, false, false, false] rfl rfl (by kernel_rfl) (fun _ _ _ h => h) (Or.inl ⟨by rfl, ?_⟩) ?_ ?_
          rotate_left
          · intro w'
            go_simp
            with_reducible rfl
          rotate_left
          · simp only [Act.put, List.setIfInBounds_toArray, List.set_cons_zero, List.set_cons_succ, i64_w, i32_w]
            rfl
          refine pure_ (i := 1) (N := some 16) (v := ?_) (a' := ?_) #[true, true, false, false, false, false, false] rfl rfl (by kernel_rfl) (fun _ _ _ h => h) (Or.inl ⟨by rfl, ?_⟩) ?_ ?_
          rotate_left
          · intro w'
            go_simp
            with_reducible rfl
          rotate_left
          · simp only [Act.put, List.setIfInBounds_toArray, List.set_cons_zero, List.set_cons_succ, i64_w, i32_w]
            rfl
          refine pure_ (i := 2) (N := some 17) (v := ?_) (a' := ?_) #[true, true, true, false, false, false, false] rfl rfl (by kernel_rfl) (fun _ _ _ h => h) (Or.inl ⟨by rfl, ?_⟩) ?_ ?_
          rotate_left
          · intro w'
            go_simp
            with_reducible rfl
          rotate_left
          · simp only [Act.put, List.setIfInBounds_toArray, List.set_cons_zero, List.set_cons_succ, i64_w, i32_w]
            rfl
          refine take_ (i := 3) (N := some 18) (v := ?_) (a' := ?_) #[true, true, true, true, false, false, false] rfl rfl (by kernel_rfl) (fun _ _ _ h => h) (Or.inl ⟨by rfl, ?_⟩) hHeld ?_ ?_
          rotate_left
          · rintro w' ⟨s0, s1, s2, s3, s4, s5⟩
            go_simp
            with_reducible rfl
          rotate_left
          · simp only [Act.put, List.setIfInBounds_toArray, List.set_cons_zero, List.set_cons_succ, i64_w, i32_w]
            rfl
          refine take_ (i := 4) (N := some 19) (v := ?_) (a' := ?_) #[true, true, true, true, true, false, false] rfl rfl (by kernel_rfl) (fun _ _ _ h => h) (Or.inl ⟨by rfl, ?_⟩) hHeld ?_ ?_
          rotate_left
          · rintro w' ⟨s0, s1, s2, s3, s4, s5⟩
            go_simp
            with_reducible rfl
          rotate_left
          · simp only [Act.put, List.setIfInBounds_toArray, List.set_cons_zero, List.set_cons_succ, i64_w, i32_w]
            rfl
          refine one_ (i := 5) (N := some 20) #[true, true, true, true, true, true, false] rfl rfl (by kernel_rfl) (by decide) (fun K hK => ?_)
          refine goes_ Try.func114 (by kernel_rfl) rfl #[.agg #[.string ((rd_T74 l0 x7_1).f0), .string ((rd_T74 l0 x7_1).f1), .int .i64 ((rd_T74 l0 x7_1).f2)], .agg #[.string a1_0, .string a1_1, .int .i64 a1_2]] (by rfl) rfl rfl (by (try simp only [List.map_toArray, List.map_cons, List.map_nil]); first | done | rfl | (simp only [List.length_drop, List.length_take]; rfl)) ?_
          with_reducible refine (heliastref13_order.calls k1 ((rd_T74 l0 x7_1).f0) ((rd_T74 l0 x7_1).f1) ((rd_T74 l0 x7_1).f2) a1_0 a1_1 a1_2 t143 _ A6.out).mono ?_
          rintro e w9 ⟨rfl, hb⟩
          refine ⟨_, rfl, ?_⟩
          have n0_ := Aside0.mk (Kd.R_below (by (with_reducible repeat (first | apply Kd.R_alloc | apply Kd.R_drewN | apply Kd.R_drew)); exact HO_5.out) hb)
          have n1_ := Aside0.mk (blk_below (g := gb138) (o := .cells #[.string a1_0, .string a1_1, .int .i64 a1_2] 74 (0, 0)) (by (with_reducible repeat (first | refine blk_drewN ?_ _ | refine blk_drew ?_ | refine blk_alloc ?_ _)); exact BK138.out) hb)
          have n2_ := Aside0.mk (below_step (by repeat (first | (with_reducible first | exact HB.out | apply below_alloc | apply pw_below_drewN | apply below_drew1 | refine below_set ?_ GE138.out) | exact HB.out)) hb)
          clear HO_5
          clear BK138
          clear HB
          have HO_5 := n0_
          have BK138 := n1_
          have HB := n2_
          clear n0_ n1_ n2_
          (try clear hb)
          (try clear hb2)
          (try clear hk)
          (try clear hi)
          refine hK.out _ _ ⟨(blk_cell BK138.out 0).trans rfl, (blk_cell BK138.out 1).trans rfl, (blk_cell BK138.out 2).trans rfl, ((HB.out.cell (World.block_lt_of_cell? w _ hw142_0)).trans hw142_0), ((HB.out.cell (World.block_lt_of_cell? w _ hw142_1)).trans hw142_1), ((HB.out.cell (World.block_lt_of_cell? w _ hw142_2)).trans hw142_2)⟩ (fun hHeld => ?_)
          clear hK K
          refine norm_ (a' := ?_) ?_ ?_
          rotate_left
          · show Act.put _ (some 20) _ = _
            simp only [Act.put, List.setIfInBounds_toArray, List.set_cons_zero, List.set_cons_succ, i64_w, i32_w]
            rfl
          refine pure_ (i := 6) (N := some 8) (v := ?_) (a' := ?_) #[true, true, true, true, true, true, true] rfl rfl (by kernel_rfl) (fun _ _ _ h => h) (Or.inl ⟨by rfl, ?_⟩) ?_ ?_
          rotate_left
          · intro w'
            go_simp
            with_reducible rfl
          rotate_left
          · simp only [Act.put, List.setIfInBounds_toArray, List.set_cons_zero, List.set_cons_succ, i64_w, i32_w]
            rfl
          refine done_ (by kernel_rfl) ?_
          go_upto_region 7 with (fail)
          go_cut [26] (fun v26 wc => ∃ (kq : Nat) (x26_6 : Bool), v26 = .bool x26_6 ∧ Aside0 (heliastref13_Put.j1 kq l0 x5_1 x6_1 x7_1 t143 x26_6 a1_0 a1_1 a1_2 = some r) ∧ Aside0 (kq ≤ k1) ∧ Aside0 (Kd.R k74 74 wc w.heap.size (fun k_ => k_ ≠ gb138) u5 x5_1) ∧ Aside0 (wc.heap[gb138]? = some (.cells #[.string a1_0, .string a1_1, .int .i64 a1_2] 74 (0, 0))) ∧ Aside0 (Below w.heap.size w wc))
          case first =>
            have H := HC7.out
            clear HC7
            by_cases c10 : x6_1 = true
            · subst c10
              have H1 : (heliastref13_Put.j1 k1 l0 x5_1 true x7_1 t143 false a1_0 a1_1 a1_2) = some r := by rw [if_pos rfl] at H; exact H
              clear H
              have H := H1
              clear H1
              have H' := Aside0.mk H
              clear H
              go_wp2
              go_meet
              case rel => exact ⟨_, (false), (by first | rfl | (simp; done) | (simp [*]; done)), H', ⟨by have := HK1.out; first | omega | exact Nat.le_refl _⟩, ⟨by (with_reducible repeat (first | apply Kd.R_alloc | apply Kd.R_drewN | apply Kd.R_drew)); exact HO_5.out⟩, ⟨by (with_reducible repeat (first | refine blk_drewN ?_ _ | refine blk_drew ?_ | refine blk_alloc ?_ _)); exact BK138.out⟩, ⟨by repeat (first | (with_reducible first | exact HB.out | apply below_alloc | apply pw_below_drewN | apply below_drew1 | refine below_set ?_ GE138.out) | exact HB.out)⟩⟩
            · replace c10 := Bool.eq_false_iff.mpr c10
              subst c10
              have H1 : (heliastref13_Put.j1 k1 l0 x5_1 false x7_1 t143 (decide (t143 ≥ 0)) a1_0 a1_1 a1_2) = some r := by rw [if_neg (show ¬ (false = true) by decide)] at H; exact H
              clear H
              have H := H1
              clear H1
              have H' := Aside0.mk H
              clear H
              go_wp2
              go_meet
              case rel => exact ⟨_, (decide (t143 ≥ 0)), (by first | rfl | (simp; done) | (simp [*]; done)), H', ⟨by have := HK1.out; first | omega | exact Nat.le_refl _⟩, ⟨by (with_reducible repeat (first | apply Kd.R_alloc | apply Kd.R_drewN | apply Kd.R_drew)); exact HO_5.out⟩, ⟨by (with_reducible repeat (first | refine blk_drewN ?_ _ | refine blk_drew ?_ | refine blk_alloc ?_ _)); exact BK138.out⟩, ⟨by repeat (first | (with_reducible first | exact HB.out | apply below_alloc | apply pw_below_drewN | apply below_drew1 | refine below_set ?_ GE138.out) | exact HB.out)⟩⟩
          case rest =>
            clear HC7
            try clear c1
            try clear p1
            try clear q1
            try clear hx1
            try clear p2
            try clear c4
            try clear c4b0
            try clear c5
            try clear c5b0
            try clear c8
            try clear c10
            try clear hx142_0
            try clear hx142_1
            try clear hx142_2
            try clear p142
            try clear p2
            try clear q142
            obtain ⟨kq, x26_6, rfl, HA, HJ6, HO_5, BK138, HB⟩ := hcut
            cases kq with
            | zero => exact absurd HA.out (by simp [heliastref13_Put.j1])
            | succ kj6 =>
              have H := HA.out
              clear HA
              simp only [heliastref13_Put.j1] at H
              by_cases c11 : x26_6 = true
              · subst c11
                have H1 : (if x5_1.length < 3518437208883 then ((some (x5_1 ++ [(⟨a1_0, a1_1, a1_2⟩ : S74)] : List (S74))).bind fun y144 => (if t143 = 0 then (heliastref13_Put.l0 kj6 l0 y144 true (wrap64 (x7_1 + 1)) a1_0 a1_1 a1_2) else (if 0 ≤ x7_1 then (if x7_1 < (l0.length : Int) then (if y144.length < 3518437208883 then (heliastref13_Put.l0 kj6 l0 (y144 ++ [(⟨(rd_T74 l0 x7_1).f0, (rd_T74 l0 x7_1).f1, (rd_T74 l0 x7_1).f2⟩ : S74)]) true (wrap64 (x7_1 + 1)) a1_0 a1_1 a1_2) else (none)) else (none)) else (none)))) else (none)) = some r := by rw [if_pos rfl] at H; exact H
                clear H
                have H := H1
                clear H1
                by_cases c12 : x5_1.length < 3518437208883
                · rw [if_pos c12] at H
                  have LMc12 := Aside0.mk c12
                  clear c12
                  obtain ⟨y144, hy144⟩ : ∃ y_ : List (S74), y_ = (x5_1 ++ [(⟨a1_0, a1_1, a1_2⟩ : S74)]) := ⟨_, rfl⟩
                  replace H : (if t143 = 0 then (heliastref13_Put.l0 kj6 l0 y144 true (wrap64 (x7_1 + 1)) a1_0 a1_1 a1_2) else (if 0 ≤ x7_1 then (if x7_1 < (l0.length : Int) then (if y144.length < 3518437208883 then (heliastref13_Put.l0 kj6 l0 (y144 ++ [(⟨(rd_T74 l0 x7_1).f0, (rd_T74 l0 x7_1).f1, (rd_T74 l0 x7_1).f2⟩ : S74)]) true (wrap64 (x7_1 + 1)) a1_0 a1_1 a1_2) else (none)) else (none)) else (none))) = some r := by first | (rw [hy144]; with_reducible exact H) | (have H2_ := (Option.bind_some _ _).symm.trans H; rw [hy144]; with_reducible exact H2_) | (have H2_ := (Option.bind_some _ _).symm.trans H; with_reducible exact H2_) | with_reducible exact H | (rw [hy144]; exact H) | exact H
                  have Ny144 := Aside0.mk hy144
                  clear hy144
                  by_cases c13 : t143 = 0
                  · rw [if_pos c13] at H
                    have c13b0 : (t143 == 0) = true := beq_iff_eq.mpr c13
                    have c13b1 : (t143 != 0) = false := bne_eq_false_iff_eq.mpr c13
                    clear c13
                    have H' := Aside0.mk H
                    clear H
                    have hcz14_0 : wc.cell? ⟨gb138, 0, none⟩ = some (.string a1_0) := (blk_cell BK138.out 0).trans rfl
                    have hcz14_1 : wc.cell? ⟨gb138, 1, none⟩ = some (.string a1_1) := (blk_cell BK138.out 1).trans rfl
                    have hcz14_2 : wc.cell? ⟨gb138, 2, none⟩ = some (.int .i64 a1_2) := (blk_cell BK138.out 2).trans rfl
                    have hfz14_0 := blk_frozen BK138.out 0
                    have hfz14_1 := blk_frozen BK138.out 1
                    have hfz14_2 := blk_frozen BK138.out 2
                    go_wp2_with (first | ((with_reducible refine gate_builtin (b := .append) (xs := #[.tmp 27, .tmp 29]) rfl ?_); at_builtin; refine Kd.R_append k74 (w0 := w) w.heap.size rfl (.tmp 27) (.tmp 29) 69 74 (.agg #[(.string ⟨#[]⟩), (.string ⟨#[]⟩), (.int .i64 0)]) 40 rfl Try.underlying69 info74 rfl (by decide) (by omega) u5 x5_1 (⟨a1_0, a1_1, a1_2⟩ : S74) [.string a1_0, .string a1_1, .int .i64 a1_2] (fun k_ => k_ ≠ gb138) (fun _ => False) rfl rfl ?aP (fun _ hk => hk.elim) ?aF ?aO ?aB ?aS ?aL ?_; (case aP => exact k74_mkM _ _ _ (⟨a1_0, a1_1, a1_2⟩ : S74)); (case aB => exact (by repeat (first | (with_reducible first | exact HB.out | apply below_alloc | apply pw_below_drewN | apply below_drew1 | refine below_set ?_ GE138.out) | exact HB.out))); (case aF => exact (fun k_ hk => Kd.freshB (g := gb138) (o := .cells #[.string a1_0, .string a1_1, .int .i64 a1_2] 74 (0, 0)) (by (with_reducible repeat (first | refine blk_drewN ?_ _ | refine blk_drew ?_ | refine blk_alloc ?_ _)); exact BK138.out) k_ hk)); (case aO => exact (by (with_reducible repeat (first | apply Kd.R_alloc | apply Kd.R_drewN | apply Kd.R_drew)); exact HO_5.out)); (case aS => exact (below_size (by repeat (first | (with_reducible first | exact HB.out | apply below_alloc | apply pw_below_drewN | apply below_drew1 | refine below_set ?_ GE138.out) | exact HB.out)))); (case aL => have := LMc12.out; omega); intro v145 w15 ho hb hg hat; rw [← Ny144.out] at ho; have n0_ := Aside0.mk (blk_grown (g := gb138) (o := .cells #[.string a1_0, .string a1_1, .int .i64 a1_2] 74 (0, 0)) (by (with_reducible repeat (first | refine blk_drewN ?_ _ | refine blk_drew ?_ | refine blk_alloc ?_ _)); exact BK138.out) hg (Kd.R_away HO_5.out (fun _ hk => hk))); have n1_ := Aside0.mk (hb); have n2_ := Aside0.mk (ho); clear BK138; clear HB; clear HO_5; have BK138 := n0_; have HB := n1_; have HO146 := n2_; clear n0_ n1_ n2_; clear ho hb hg hat))
                    go_roundg kj6
                    case measure => have := HK1.out; have := HJ6.out; omega
                    case rel => exact ⟨(y144), (true), (wrap64 (x7_1 + 1)), (by first | rfl | (simp; done) | (simp [*]; done)), (by first | rfl | (simp; done) | (simp [*]; done)), H', ⟨by have := HK1.out; have := HJ6.out; omega⟩, ⟨by (with_reducible repeat (first | apply Kd.R_alloc | apply Kd.R_drewN | apply Kd.R_drew)); exact HO146.out⟩, ⟨by (with_reducible repeat (first | refine blk_drewN ?_ _ | refine blk_drew ?_ | refine blk_alloc ?_ _)); exact BK138.out⟩, ⟨by repeat (first | (with_reducible first | exact HB.out | apply below_alloc | apply pw_below_drewN | apply below_drew1 | refine below_set ?_ GE138.out) | exact HB.out)⟩⟩
                  · rw [if_neg c13] at H
                    have c13b0 : (t143 == 0) = false := beq_eq_false_iff_ne.mpr c13
                    have c13b1 : (t143 != 0) = true := bne_iff_ne.mpr c13
                    by_cases c16 : 0 ≤ x7_1
                    · rw [if_pos c16] at H
                      have c16b0 : decide (0 ≤ x7_1) = true := decide_eq_true c16
                      clear c16
                      by_cases c17 : x7_1 < (l0.length : Int)
                      · rw [if_pos c17] at H
                        have c17b0 : decide (x7_1 < (l0.length : Int)) = true := decide_eq_true c17
                        clear c17
                        by_cases c18 : y144.length < 3518437208883
                        · rw [if_pos c18] at H
                          have LMc18 := Aside0.mk c18
                          clear c18
                          obtain ⟨y148, hy148⟩ : ∃ y_ : List (S74), y_ = (y144 ++ [(⟨(rd_T74 l0 x7_1).f0, (rd_T74 l0 x7_1).f1, (rd_T74 l0 x7_1).f2⟩ : S74)]) := ⟨_, rfl⟩
                          replace H : (heliastref13_Put.l0 kj6 l0 y148 true (wrap64 (x7_1 + 1)) a1_0 a1_1 a1_2) = some r := by first | (rw [hy148]; with_reducible exact H) | (have H2_ := (Option.bind_some _ _).symm.trans H; rw [hy148]; with_reducible exact H2_) | (have H2_ := (Option.bind_some _ _).symm.trans H; with_reducible exact H2_) | with_reducible exact H | (rw [hy148]; exact H) | exact H
                          have Ny148 := Aside0.mk hy148
                          clear hy148
                          have H' := Aside0.mk H
                          clear H
                          have hcz19_0 : wc.cell? ⟨gb138, 0, none⟩ = some (.string a1_0) := (blk_cell BK138.out 0).trans rfl
                          have hcz19_1 : wc.cell? ⟨gb138, 1, none⟩ = some (.string a1_1) := (blk_cell BK138.out 1).trans rfl
                          have hcz19_2 : wc.cell? ⟨gb138, 2, none⟩ = some (.int .i64 a1_2) := (blk_cell BK138.out 2).trans rfl
                          have hfz19_0 := blk_frozen BK138.out 0
                          have hfz19_1 := blk_frozen BK138.out 1
                          have hfz19_2 := blk_frozen BK138.out 2
                          go_wp2_with (first | ((with_reducible refine gate_builtin (b := .append) (xs := #[.tmp 27, .tmp 29]) rfl ?_); at_builtin; refine Kd.R_append k74 (w0 := w) w.heap.size rfl (.tmp 27) (.tmp 29) 69 74 (.agg #[(.string ⟨#[]⟩), (.string ⟨#[]⟩), (.int .i64 0)]) 40 rfl Try.underlying69 info74 rfl (by decide) (by omega) u5 x5_1 (⟨a1_0, a1_1, a1_2⟩ : S74) [.string a1_0, .string a1_1, .int .i64 a1_2] (fun k_ => k_ ≠ gb138) (fun _ => False) rfl rfl ?aP (fun _ hk => hk.elim) ?aF ?aO ?aB ?aS ?aL ?_; (case aP => exact k74_mkM _ _ _ (⟨a1_0, a1_1, a1_2⟩ : S74)); (case aB => exact (by repeat (first | (with_reducible first | exact HB.out | apply below_alloc | apply pw_below_drewN | apply below_drew1 | refine below_set ?_ GE138.out) | exact HB.out))); (case aF => exact (fun k_ hk => Kd.freshB (g := gb138) (o := .cells #[.string a1_0, .string a1_1, .int .i64 a1_2] 74 (0, 0)) (by (with_reducible repeat (first | refine blk_drewN ?_ _ | refine blk_drew ?_ | refine blk_alloc ?_ _)); exact BK138.out) k_ hk)); (case aO => exact (by (with_reducible repeat (first | apply Kd.R_alloc | apply Kd.R_drewN | apply Kd.R_drew)); exact HO_5.out)); (case aS => exact (below_size (by repeat (first | (with_reducible first | exact HB.out | apply below_alloc | apply pw_below_drewN | apply below_drew1 | refine below_set ?_ GE138.out) | exact HB.out)))); (case aL => have := LMc12.out; omega); intro v145 w20 ho hb hg hat; rw [← Ny144.out] at ho; have n0_ := Aside0.mk (blk_grown (g := gb138) (o := .cells #[.string a1_0, .string a1_1, .int .i64 a1_2] 74 (0, 0)) (by (with_reducible repeat (first | refine blk_drewN ?_ _ | refine blk_drew ?_ | refine blk_alloc ?_ _)); exact BK138.out) hg (Kd.R_away HO_5.out (fun _ hk => hk))); have n1_ := Aside0.mk (hb); have n2_ := Aside0.mk (ho); clear BK138; clear HB; clear HO_5; have BK138 := n0_; have HB := n1_; have HO146 := n2_; clear n0_ n1_ n2_; clear ho hb hg hat; have p147 : 0 ≤ (x7_1 : Int) := of_decide_eq_true (by first | (with_reducible assumption) | assumption); have q147 : x7_1 < (l0.length : Int) := of_decide_eq_true (by first | (with_reducible assumption) | assumption); obtain ⟨ad147, e147, hx147_0, hx147_1, hx147_2⟩ := at_T74 HR0.out x7_1 p147 q147; obtain rfl : ad142 = ad147 := (by injection e147); replace hx147_0 := (HB.out.cell (World.block_lt_of_cell? w _ hx147_0)).trans hx147_0; replace hx147_1 := (HB.out.cell (World.block_lt_of_cell? w _ hx147_1)).trans hx147_1; replace hx147_2 := (HB.out.cell (World.block_lt_of_cell? w _ hx147_2)).trans hx147_2; replace p147 := eq_true p147; replace q147 := eq_true q147) | ((with_reducible refine gate_builtin (b := .append) (xs := #[.tmp 33, .tmp 38]) rfl ?_); at_builtin; refine Kd.R_append k74 (w0 := w) w.heap.size rfl (.tmp 33) (.tmp 38) 69 74 (.agg #[(.string ⟨#[]⟩), (.string ⟨#[]⟩), (.int .i64 0)]) 40 rfl Try.underlying69 info74 rfl (by decide) (by omega) v145 y144 (⟨(rd_T74 l0 x7_1).f0, (rd_T74 l0 x7_1).f1, (rd_T74 l0 x7_1).f2⟩ : S74) [.string ((rd_T74 l0 x7_1).f0), .string ((rd_T74 l0 x7_1).f1), .int .i64 ((rd_T74 l0 x7_1).f2)] (fun k_ => k_ ≠ gb138) (fun _ => False) rfl rfl ?aP (fun _ hk => hk.elim) ?aF ?aO ?aB ?aS ?aL ?_; (case aP => exact k74_mkM _ _ _ (⟨(rd_T74 l0 x7_1).f0, (rd_T74 l0 x7_1).f1, (rd_T74 l0 x7_1).f2⟩ : S74)); (case aB => exact (by repeat (first | (with_reducible first | exact HB.out | apply below_alloc | apply pw_below_drewN | apply below_drew1 | refine below_set ?_ GE138.out) | exact HB.out))); (case aF => exact (fun k_ hk => Kd.freshB (g := gb138) (o := .cells #[.string a1_0, .string a1_1, .int .i64 a1_2] 74 (0, 0)) (by (with_reducible repeat (first | refine blk_drewN ?_ _ | refine blk_drew ?_ | refine blk_alloc ?_ _)); exact BK138.out) k_ hk)); (case aO => exact (by (with_reducible repeat (first | apply Kd.R_alloc | apply Kd.R_drewN | apply Kd.R_drew)); exact HO146.out)); (case aS => exact (below_size (by repeat (first | (with_reducible first | exact HB.out | apply below_alloc | apply pw_below_drewN | apply below_drew1 | refine below_set ?_ GE138.out) | exact HB.out)))); (case aL => have := LMc18.out; omega); intro v149 w21 ho hb hg hat; rw [← Ny148.out] at ho; have n0_ := Aside0.mk (blk_grown (g := gb138) (o := .cells #[.string a1_0, .string a1_1, .int .i64 a1_2] 74 (0, 0)) (by (with_reducible repeat (first | refine blk_drewN ?_ _ | refine blk_drew ?_ | refine blk_alloc ?_ _)); exact BK138.out) hg (Kd.R_away HO146.out (fun _ hk => hk))); have n1_ := Aside0.mk (hb); have n2_ := Aside0.mk (ho); clear BK138; clear HB; clear HO146; have BK138 := n0_; have HB := n1_; have HO150 := n2_; clear n0_ n1_ n2_; clear ho hb hg hat))
                          go_roundg kj6
                          case measure => have := HK1.out; have := HJ6.out; omega
                          case rel => exact ⟨(y148), (true), (wrap64 (x7_1 + 1)), (by first | rfl | (simp; done) | (simp [*]; done)), (by first | rfl | (simp; done) | (simp [*]; done)), H', ⟨by have := HK1.out; have := HJ6.out; omega⟩, ⟨by (with_reducible repeat (first | apply Kd.R_alloc | apply Kd.R_drewN | apply Kd.R_drew)); exact HO150.out⟩, ⟨by (with_reducible repeat (first | refine blk_drewN ?_ _ | refine blk_drew ?_ | refine blk_alloc ?_ _)); exact BK138.out⟩, ⟨by repeat (first | (with_reducible first | exact HB.out | apply below_alloc | apply pw_below_drewN | apply below_drew1 | refine below_set ?_ GE138.out) | exact HB.out)⟩⟩
                        · rw [if_neg c18] at H
                          exact absurd H (by simp)
                      · rw [if_neg c17] at H
                        exact absurd H (by simp)
                    · rw [if_neg c16] at H
                      exact absurd H (by simp)
                · rw [if_neg c12] at H
                  exact absurd H (by simp)
              · replace c11 := Bool.eq_false_iff.mpr c11
                subst c11
                have H1 : (if t143 = 0 then (heliastref13_Put.l0 kj6 l0 x5_1 x6_1 (wrap64 (x7_1 + 1)) a1_0 a1_1 a1_2) else (if 0 ≤ x7_1 then (if x7_1 < (l0.length : Int) then (if x5_1.length < 3518437208883 then (heliastref13_Put.l0 kj6 l0 (x5_1 ++ [(⟨(rd_T74 l0 x7_1).f0, (rd_T74 l0 x7_1).f1, (rd_T74 l0 x7_1).f2⟩ : S74)]) x6_1 (wrap64 (x7_1 + 1)) a1_0 a1_1 a1_2) else (none)) else (none)) else (none))) = some r := by rw [if_neg (show ¬ (false = true) by decide)] at H; exact H
                clear H
                have H := H1
                clear H1
                by_cases c22 : t143 = 0
                · rw [if_pos c22] at H
                  have c22b0 : (t143 == 0) = true := beq_iff_eq.mpr c22
                  have c22b1 : (t143 != 0) = false := bne_eq_false_iff_eq.mpr c22
                  clear c22
                  have H' := Aside0.mk H
                  clear H
                  go_wp2
                  go_roundg kj6
                  case measure => have := HK1.out; have := HJ6.out; omega
                  case rel => exact ⟨(x5_1), (x6_1), (wrap64 (x7_1 + 1)), (by first | rfl | (simp; done) | (simp [*]; done)), (by first | rfl | (simp; done) | (simp [*]; done)), H', ⟨by have := HK1.out; have := HJ6.out; omega⟩, ⟨by (with_reducible repeat (first | apply Kd.R_alloc | apply Kd.R_drewN | apply Kd.R_drew)); exact HO_5.out⟩, ⟨by (with_reducible repeat (first | refine blk_drewN ?_ _ | refine blk_drew ?_ | refine blk_alloc ?_ _)); exact BK138.out⟩, ⟨by repeat (first | (with_reducible first | exact HB.out | apply below_alloc | apply pw_below_drewN | apply below_drew1 | refine below_set ?_ GE138.out) | exact HB.out)⟩⟩
                · rw [if_neg c22] at H
                  have c22b0 : (t143 == 0) = false := beq_eq_false_iff_ne.mpr c22
                  have c22b1 : (t143 != 0) = true := bne_iff_ne.mpr c22
                  by_cases c23 : 0 ≤ x7_1
                  · rw [if_pos c23] at H
                    have c23b0 : decide (0 ≤ x7_1) = true := decide_eq_true c23
                    clear c23
                    by_cases c24 : x7_1 < (l0.length : Int)
                    · rw [if_pos c24] at H
                      have c24b0 : decide (x7_1 < (l0.length : Int)) = true := decide_eq_true c24
                      clear c24
                      by_cases c25 : x5_1.length < 3518437208883
                      · rw [if_pos c25] at H
                        have LMc25 := Aside0.mk c25
                        clear c25
                        obtain ⟨y152, hy152⟩ : ∃ y_ : List (S74), y_ = (x5_1 ++ [(⟨(rd_T74 l0 x7_1).f0, (rd_T74 l0 x7_1).f1, (rd_T74 l0 x7_1).f2⟩ : S74)]) := ⟨_, rfl⟩
                        replace H : (heliastref13_Put.l0 kj6 l0 y152 x6_1 (wrap64 (x7_1 + 1)) a1_0 a1_1 a1_2) = some r := by first | (rw [hy152]; with_reducible exact H) | (have H2_ := (Option.bind_some _ _).symm.trans H; rw [hy152]; with_reducible exact H2_) | (have H2_ := (Option.bind_some _ _).symm.trans H; with_reducible exact H2_) | with_reducible exact H | (rw [hy152]; exact H) | exact H
                        have Ny152 := Aside0.mk hy152
                        clear hy152
                        have H' := Aside0.mk H
                        clear H
                        have p151 : 0 ≤ (x7_1 : Int) := of_decide_eq_true (by first | (with_reducible assumption) | assumption)
                        have q151 : x7_1 < (l0.length : Int) := of_decide_eq_true (by first | (with_reducible assumption) | assumption)
                        obtain ⟨ad151, e151, hx151_0, hx151_1, hx151_2⟩ := at_T74 HR0.out x7_1 p151 q151
                        obtain rfl : ad142 = ad151 := (by injection e151)
                        replace hx151_0 := (HB.out.cell (World.block_lt_of_cell? w _ hx151_0)).trans hx151_0
                        replace hx151_1 := (HB.out.cell (World.block_lt_of_cell? w _ hx151_1)).trans hx151_1
                        replace hx151_2 := (HB.out.cell (World.block_lt_of_cell? w _ hx151_2)).trans hx151_2
                        replace p151 := eq_true p151
                        replace q151 := eq_true q151
                        go_wp2_with (first | ((with_reducible refine gate_builtin (b := .append) (xs := #[.tmp 33, .tmp 38]) rfl ?_); at_builtin; refine Kd.R_append k74 (w0 := w) w.heap.size rfl (.tmp 33) (.tmp 38) 69 74 (.agg #[(.string ⟨#[]⟩), (.string ⟨#[]⟩), (.int .i64 0)]) 40 rfl Try.underlying69 info74 rfl (by decide) (by omega) u5 x5_1 (⟨(rd_T74 l0 x7_1).f0, (rd_T74 l0 x7_1).f1, (rd_T74 l0 x7_1).f2⟩ : S74) [.string ((rd_T74 l0 x7_1).f0), .string ((rd_T74 l0 x7_1).f1), .int .i64 ((rd_T74 l0 x7_1).f2)] (fun k_ => k_ ≠ gb138) (fun _ => False) rfl rfl ?aP (fun _ hk => hk.elim) ?aF ?aO ?aB ?aS ?aL ?_; (case aP => exact k74_mkM _ _ _ (⟨(rd_T74 l0 x7_1).f0, (rd_T74 l0 x7_1).f1, (rd_T74 l0 x7_1).f2⟩ : S74)); (case aB => exact (by repeat (first | (with_reducible first | exact HB.out | apply below_alloc | apply pw_below_drewN | apply below_drew1 | refine below_set ?_ GE138.out) | exact HB.out))); (case aF => exact (fun k_ hk => Kd.freshB (g := gb138) (o := .cells #[.string a1_0, .string a1_1, .int .i64 a1_2] 74 (0, 0)) (by (with_reducible repeat (first | refine blk_drewN ?_ _ | refine blk_drew ?_ | refine blk_alloc ?_ _)); exact BK138.out) k_ hk)); (case aO => exact (by (with_reducible repeat (first | apply Kd.R_alloc | apply Kd.R_drewN | apply Kd.R_drew)); exact HO_5.out)); (case aS => exact (below_size (by repeat (first | (with_reducible first | exact HB.out | apply below_alloc | apply pw_below_drewN | apply below_drew1 | refine below_set ?_ GE138.out) | exact HB.out)))); (case aL => have := LMc25.out; omega); intro v153 w26 ho hb hg hat; rw [← Ny152.out] at ho; have n0_ := Aside0.mk (blk_grown (g := gb138) (o := .cells #[.string a1_0, .string a1_1, .int .i64 a1_2] 74 (0, 0)) (by (with_reducible repeat (first | refine blk_drewN ?_ _ | refine blk_drew ?_ | refine blk_alloc ?_ _)); exact BK138.out) hg (Kd.R_away HO_5.out (fun _ hk => hk))); have n1_ := Aside0.mk (hb); have n2_ := Aside0.mk (ho); clear BK138; clear HB; clear HO_5; have BK138 := n0_; have HB := n1_; have HO154 := n2_; clear n0_ n1_ n2_; clear ho hb hg hat))
                        go_roundg kj6
                        case measure => have := HK1.out; have := HJ6.out; omega
                        case rel => exact ⟨(y152), (x6_1), (wrap64 (x7_1 + 1)), (by first | rfl | (simp; done) | (simp [*]; done)), (by first | rfl | (simp; done) | (simp [*]; done)), H', ⟨by have := HK1.out; have := HJ6.out; omega⟩, ⟨by (with_reducible repeat (first | apply Kd.R_alloc | apply Kd.R_drewN | apply Kd.R_drew)); exact HO154.out⟩, ⟨by (with_reducible repeat (first | refine blk_drewN ?_ _ | refine blk_drew ?_ | refine blk_alloc ?_ _)); exact BK138.out⟩, ⟨by repeat (first | (with_reducible first | exact HB.out | apply below_alloc | apply pw_below_drewN | apply below_drew1 | refine below_set ?_ GE138.out) | exact HB.out)⟩⟩
                      · rw [if_neg c25] at H
                        exact absurd H (by simp)
                    · rw [if_neg c24] at H
                      exact absurd H (by simp)
                  · rw [if_neg c23] at H
                    exact absurd H (by simp)
        · rw [if_neg c5] at H
          exact absurd H (by simp)
      · rw [if_neg c4] at H
        have c4b0 : decide (x7_1 < (l0.length : Int)) = false := decide_eq_false c4
        clear c4
        by_cases c27 : x6_1 = true
        · subst c27
          have H1 : (some x5_1) = some r := by rw [if_pos rfl] at H; exact H
          clear H
          have H := H1
          clear H1
          obtain rfl := Option.some.inj H
          go_wp2
          go_ret
          exact ⟨_, by first | rfl | (simp [errW_none, errW_some] <;> rfl) | (simp [*, errW_none, errW_some] <;> rfl), by (with_reducible repeat (first | apply Kd.R_alloc | apply Kd.R_drewN | apply Kd.R_drew)); exact Kd.R_mono HO_5.out (fun _ hk => trivial), by repeat (first | (with_reducible first | exact HB.out | apply below_alloc | apply pw_below_drewN | apply below_drew1 | refine below_set ?_ GE138.out) | exact HB.out)⟩
        · replace c27 := Bool.eq_false_iff.mpr c27
          subst c27
          have H1 : (if x5_1.length < 3518437208883 then (some (x5_1 ++ [(⟨a1_0, a1_1, a1_2⟩ : S74)])) else (none)) = some r := by rw [if_neg (show ¬ (false = true) by decide)] at H; exact H
          clear H
          have H := H1
          clear H1
          by_cases c28 : x5_1.length < 3518437208883
          · rw [if_pos c28] at H
            have LMc28 := Aside0.mk c28
            clear c28
            obtain ⟨y139, hy139⟩ : ∃ y_ : List (S74), y_ = (x5_1 ++ [(⟨a1_0, a1_1, a1_2⟩ : S74)]) := ⟨_, rfl⟩
            replace H : (some y139) = some r := by first | (rw [hy139]; with_reducible exact H) | (have H2_ := (Option.bind_some _ _).symm.trans H; rw [hy139]; with_reducible exact H2_) | (have H2_ := (Option.bind_some _ _).symm.trans H; with_reducible exact H2_) | with_reducible exact H | (rw [hy139]; exact H) | exact H
            have Ny139 := Aside0.mk hy139
            clear hy139
            obtain rfl := Option.some.inj H
            have hcz29_0 : wr.cell? ⟨gb138, 0, none⟩ = some (.string a1_0) := (blk_cell BK138.out 0).trans rfl
            have hcz29_1 : wr.cell? ⟨gb138, 1, none⟩ = some (.string a1_1) := (blk_cell BK138.out 1).trans rfl
            have hcz29_2 : wr.cell? ⟨gb138, 2, none⟩ = some (.int .i64 a1_2) := (blk_cell BK138.out 2).trans rfl
            have hfz29_0 := blk_frozen BK138.out 0
            have hfz29_1 := blk_frozen BK138.out 1
            have hfz29_2 := blk_frozen BK138.out 2
            go_wp2_with (first | ((with_reducible refine gate_builtin (b := .append) (xs := #[.tmp 42, .tmp 44]) rfl ?_); at_builtin; refine Kd.R_append k74 (w0 := w) w.heap.size rfl (.tmp 42) (.tmp 44) 69 74 (.agg #[(.string ⟨#[]⟩), (.string ⟨#[]⟩), (.int .i64 0)]) 40 rfl Try.underlying69 info74 rfl (by decide) (by omega) u5 x5_1 (⟨a1_0, a1_1, a1_2⟩ : S74) [.string a1_0, .string a1_1, .int .i64 a1_2] (fun k_ => k_ ≠ gb138) (fun _ => False) rfl rfl ?aP (fun _ hk => hk.elim) ?aF ?aO ?aB ?aS ?aL ?_; (case aP => exact k74_mkM _ _ _ (⟨a1_0, a1_1, a1_2⟩ : S74)); (case aB => exact (by repeat (first | (with_reducible first | exact HB.out | apply below_alloc | apply pw_below_drewN | apply below_drew1 | refine below_set ?_ GE138.out) | exact HB.out))); (case aF => exact (fun k_ hk => Kd.freshB (g := gb138) (o := .cells #[.string a1_0, .string a1_1, .int .i64 a1_2] 74 (0, 0)) (by (with_reducible repeat (first | refine blk_drewN ?_ _ | refine blk_drew ?_ | refine blk_alloc ?_ _)); exact BK138.out) k_ hk)); (case aO => exact (by (with_reducible repeat (first | apply Kd.R_alloc | apply Kd.R_drewN | apply Kd.R_drew)); exact HO_5.out)); (case aS => exact (below_size (by repeat (first | (with_reducible first | exact HB.out | apply below_alloc | apply pw_below_drewN | apply below_drew1 | refine below_set ?_ GE138.out) | exact HB.out)))); (case aL => have := LMc28.out; omega); intro v140 w30 ho hb hg hat; rw [← Ny139.out] at ho; have n0_ := Aside0.mk (blk_grown (g := gb138) (o := .cells #[.string a1_0, .string a1_1, .int .i64 a1_2] 74 (0, 0)) (by (with_reducible repeat (first | refine blk_drewN ?_ _ | refine blk_drew ?_ | refine blk_alloc ?_ _)); exact BK138.out) hg (Kd.R_away HO_5.out (fun _ hk => hk))); have n1_ := Aside0.mk (hb); have n2_ := Aside0.mk (ho); clear BK138; clear HB; clear HO_5; have BK138 := n0_; have HB := n1_; have HO141 := n2_; clear n0_ n1_ n2_; clear ho hb hg hat))
            go_ret
            exact ⟨_, by first | rfl | (simp [errW_none, errW_some] <;> rfl) | (simp [*, errW_none, errW_some] <;> rfl), by (with_reducible repeat (first | apply Kd.R_alloc | apply Kd.R_drewN | apply Kd.R_drew)); exact Kd.R_mono HO141.out (fun _ hk => trivial), by repeat (first | (with_reducible first | exact HB.out | apply below_alloc | apply pw_below_drewN | apply below_drew1 | refine below_set ?_ GE138.out) | exact HB.out)⟩
          · rw [if_neg c28] at H
            exact absurd H (by simp)

end Go.Proofs.Ytbldllghkfgkeaa.S

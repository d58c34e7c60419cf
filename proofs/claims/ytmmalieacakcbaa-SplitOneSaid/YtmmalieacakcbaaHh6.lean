-- Written by heprint.py (this session's, over the kit's print.py): not trusted, Lean checks it.
import Derived.Test.YtmmalieacakcbaaHh0
import Derived.Test.YtmmalieacakcbaaHh5
namespace Go.Proofs.Ytmmalieacakcbaa.S
open Go.RowKit Go.Proofs.YtmmalieacakcbaaW.PrintWords Go.Proofs.YtmmalieacakcbaaW.PrintLast Go.Proofs.YtmmalieacakcbaaW.PrintMore
attribute [local go_sem] max2_int min2_int max_two min_two max_three min_three max_four min_four   -- for this text's walks alone
set_option linter.unusedVariables false
set_option linter.unusedSimpArgs false

/-! ### heliastref13_Put: function 94 -/
mutual
def heliastref13_Put.l0 : Nat → List (S69) → List (S69) → Bool → Int → ByteArray → ByteArray → Int → Option ((List (S69)))
  | 0, _, _, _, _, _, _, _ => none
  | k + 1, x0, x5, x6, x7, x123000, x123001, x123002 => if x7 < (x0.length : Int) then (if 0 ≤ x7 then ((heliastref13_order.f k ((rd_T69 x0 x7).f0) ((rd_T69 x0 x7).f1) ((rd_T69 x0 x7).f2) x123000 x123001 x123002).bind fun t127 => (if x6 = true then (heliastref13_Put.j1 k x0 x5 x6 x7 t127 false x123000 x123001 x123002) else (heliastref13_Put.j1 k x0 x5 x6 x7 t127 (decide (t127 ≥ 0)) x123000 x123001 x123002))) else (none)) else (if x6 = true then (some x5) else (if x5.length < 3518437208883 then (some (x5 ++ [(⟨x123000, x123001, x123002⟩ : S69)])) else (none)))
def heliastref13_Put.j1 : Nat → List (S69) → List (S69) → Bool → Int → Int → Bool → ByteArray → ByteArray → Int → Option ((List (S69)))
  | 0, _, _, _, _, _, _, _, _, _ => none
  | k + 1, x0, x5, x6, x7, x8, x26, x123000, x123001, x123002 => if x26 = true then (if x5.length < 3518437208883 then ((some (x5 ++ [(⟨x123000, x123001, x123002⟩ : S69)] : List (S69))).bind fun y128 => (if x8 = 0 then (heliastref13_Put.l0 k x0 y128 true (wrap64 (x7 + 1)) x123000 x123001 x123002) else (if 0 ≤ x7 then (if x7 < (x0.length : Int) then (if y128.length < 3518437208883 then (heliastref13_Put.l0 k x0 (y128 ++ [(⟨(rd_T69 x0 x7).f0, (rd_T69 x0 x7).f1, (rd_T69 x0 x7).f2⟩ : S69)]) true (wrap64 (x7 + 1)) x123000 x123001 x123002) else (none)) else (none)) else (none)))) else (none)) else (if x8 = 0 then (heliastref13_Put.l0 k x0 x5 x6 (wrap64 (x7 + 1)) x123000 x123001 x123002) else (if 0 ≤ x7 then (if x7 < (x0.length : Int) then (if x5.length < 3518437208883 then (heliastref13_Put.l0 k x0 (x5 ++ [(⟨(rd_T69 x0 x7).f0, (rd_T69 x0 x7).f1, (rd_T69 x0 x7).f2⟩ : S69)]) x6 (wrap64 (x7 + 1)) x123000 x123001 x123002) else (none)) else (none)) else (none)))
end
def heliastref13_Put.f (k : Nat) (l0 : List (S69)) (a1_0 : ByteArray) (a1_1 : ByteArray) (a1_2 : Int) : Option ((List (S69))) := heliastref13_Put.l0 k l0 ([] : List (S69)) false 0 a1_0 a1_1 a1_2
theorem heliastref13_Put.mono_l : ∀ k, (∀ y0 y1 y2 y3 y4 y5 y6, LeO (heliastref13_Put.l0 k y0 y1 y2 y3 y4 y5 y6) (heliastref13_Put.l0 (k + 1) y0 y1 y2 y3 y4 y5 y6)) ∧ (∀ y0 y1 y2 y3 y4 y5 y6 y7 y8, LeO (heliastref13_Put.j1 k y0 y1 y2 y3 y4 y5 y6 y7 y8) (heliastref13_Put.j1 (k + 1) y0 y1 y2 y3 y4 y5 y6 y7 y8))
  | 0 => ⟨fun _ _ _ _ _ _ _ r h => by simp [heliastref13_Put.l0] at h, fun _ _ _ _ _ _ _ _ _ r h => by simp [heliastref13_Put.j1] at h⟩
  | k + 1 => by
    obtain ⟨ih0, ih1⟩ := heliastref13_Put.mono_l k
    refine ⟨?_, ?_⟩
    · intro y0 y1 y2 y3 y4 y5 y6
      unfold heliastref13_Put.l0
      repeat' first
      | (with_reducible exact ih0 _ _ _ _ _ _ _)
      | (with_reducible exact ih1 _ _ _ _ _ _ _ _ _)
      | (with_reducible exact heliastref13_order.mono _ _ _ _ _ _ _)
      | (with_reducible exact LeO.refl _)
      | (with_reducible exact LeO.none _)
      | (with_reducible refine LeO.ite ?_ ?_)
      | (with_reducible refine LeO.bind ?_ (fun _ => ?_))
      | exact ih0 _ _ _ _ _ _ _
      | exact ih1 _ _ _ _ _ _ _ _ _
      | exact heliastref13_order.mono _ _ _ _ _ _ _
      | exact LeO.none _
      | refine LeO.ite ?_ ?_
      | refine LeO.bind ?_ (fun _ => ?_)
    · intro y0 y1 y2 y3 y4 y5 y6 y7 y8
      unfold heliastref13_Put.j1
      repeat' first
      | (with_reducible exact ih0 _ _ _ _ _ _ _)
      | (with_reducible exact ih1 _ _ _ _ _ _ _ _ _)
      | (with_reducible exact heliastref13_order.mono _ _ _ _ _ _ _)
      | (with_reducible exact LeO.refl _)
      | (with_reducible exact LeO.none _)
      | (with_reducible refine LeO.ite ?_ ?_)
      | (with_reducible refine LeO.bind ?_ (fun _ => ?_))
      | exact ih0 _ _ _ _ _ _ _
      | exact ih1 _ _ _ _ _ _ _ _ _
      | exact heliastref13_order.mono _ _ _ _ _ _ _
      | exact LeO.none _
      | refine LeO.ite ?_ ?_
      | refine LeO.bind ?_ (fun _ => ?_)
theorem heliastref13_Put.mono : ∀ a0 a1 a2 a3 k, LeO (heliastref13_Put.f k a0 a1 a2 a3) (heliastref13_Put.f (k + 1) a0 a1 a2 a3) := by
  intro a0 a1 a2 a3 k
  obtain ⟨ih0, ih1⟩ := heliastref13_Put.mono_l k
  unfold heliastref13_Put.f
  repeat' first
      | (with_reducible exact ih0 _ _ _ _ _ _ _)
      | (with_reducible exact ih1 _ _ _ _ _ _ _ _ _)
      | (with_reducible exact heliastref13_order.mono _ _ _ _ _ _ _)
      | (with_reducible exact LeO.refl _)
      | (with_reducible exact LeO.none _)
      | (with_reducible refine LeO.ite ?_ ?_)
      | (with_reducible refine LeO.bind ?_ (fun _ => ?_))
      | exact ih0 _ _ _ _ _ _ _
      | exact ih1 _ _ _ _ _ _ _ _ _
      | exact heliastref13_order.mono _ _ _ _ _ _ _
      | exact LeO.none _
      | refine LeO.ite ?_ ?_
      | refine LeO.bind ?_ (fun _ => ?_)
set_option maxHeartbeats 8000000 in
set_option maxRecDepth 100000 in
theorem heliastref13_Put.calls (k : Nat) (A0 : Option Addr) (c0 : Nat) (l0 : List (S69)) (a1_0 : ByteArray) (a1_1 : ByteArray) (a1_2 : Int) (r : List (S69)) (w : World) (hr0 : Kd.C k69 w A0 l0.length l0) (hc0 : l0.length ≤ c0) (h : heliastref13_Put.f k l0 a1_0 a1_1 a1_2 = some r) :
    Calls Try.prog 94 #[.slice A0 l0.length c0, .agg #[.string a1_0, .string a1_1, .int .i64 a1_2]] w fun e w' => ∃ v0_ : Value, e = .returned (v0_) ∧ Kd.R k69 69 w' w.heap.size (fun _ => True) v0_ r ∧ Below w.heap.size w w' := by
  have hu69 := Try.underlying69
  have HR0 := Aside0.mk hr0
  have HC0 := Aside0.mk hc0
  clear hr0 hc0
  have HB := Aside0.mk (Below.refl w.heap.size w)
  have H : (heliastref13_Put.l0 k l0 ([] : List (S69)) false 0 a1_0 a1_1 a1_2) = some r := h
  clear h
  have H' := Aside0.mk H
  clear H
  go_enter Try.func94, Try.ntmps94
  go_wp2_with (first | ((with_reducible refine gate_dst (N := 3) rfl ?_); refine box_event ?hg (N := 3) ?hd (cs := #[.string a1_0, .string a1_1, .int .i64 a1_2]) (t := 69) ?hr ?_; (case hd => rfl); (case hg => rfl); (case hr => first | (go_simp; done) | (go_simp; rfl)); intro gb122 hg w3 hbox hb; have n0_ := Aside0.mk (below_step (by repeat (first | (with_reducible first | exact HB.out | apply below_alloc | apply pw_below_drewN | apply below_drew1) | exact HB.out)) hb); have n1_ := Aside0.mk (hbox); have n2_ := Aside0.mk ((by rw [hg]; exact (below_size (by repeat (first | (with_reducible first | exact HB.out | apply below_alloc | apply pw_below_drewN | apply below_drew1) | exact HB.out))) : w.heap.size ≤ gb122)); have n3_ := Aside0.mk ((by rw [hg]; exact (below_size (by repeat (first | (with_reducible first | exact HB.out | apply below_alloc | apply pw_below_drewN | apply below_drew1) | exact HB.out))) : w.heap.size ≤ gb122)); clear HB; have HB := n0_; have BK122 := n1_; have GW122 := n2_; have GE122 := n3_; clear n0_ n1_ n2_ n3_; clear hb hbox hg))
  go_loopg [5, 6, 7] k (fun kq v5 v6 v7 w' => ∃ (x5_1 : List (S69)) (x6_1 : Bool) (x7_1 : Int), v6 = .bool x6_1 ∧ v7 = .int .i64 x7_1 ∧ Aside0 (heliastref13_Put.l0 kq l0 x5_1 x6_1 x7_1 a1_0 a1_1 a1_2 = some r) ∧ Aside0 (kq ≤ k) ∧ Aside0 (Kd.R k69 69 w' w.heap.size (fun k_ => k_ ≠ gb122) v5 x5_1) ∧ Aside0 (w'.heap[gb122]? = some (.cells #[.string a1_0, .string a1_1, .int .i64 a1_2] 69 (0, 0))) ∧ Aside0 (Below w.heap.size w w'))
  case atStart => exact ⟨(([] : List (S69))), (false), (0), (by first | rfl | (simp; done) | (simp [*]; done)), (by first | rfl | (simp; done) | (simp [*]; done)), H', ⟨Nat.le_refl _⟩, ⟨by first | exact Kd.R_nil _ _ _ _ _ | exact Kd.N_nil _ _ _ _ _ | exact Kd.V_nil _ _ _ _ _ | exact Kd.Q_nil _ _ _ _ _ | exact Kd.S_nil _ _ _ _ _⟩, ⟨by (with_reducible repeat (first | refine blk_drewN ?_ _ | refine blk_drew ?_ | refine blk_alloc ?_ _)); exact BK122.out⟩, ⟨by repeat (first | (with_reducible first | exact HB.out | apply below_alloc | apply pw_below_drewN | apply below_drew1 | refine below_set ?_ GE122.out) | exact HB.out)⟩⟩
  case round =>
    clear H'
    try clear p2
    obtain ⟨x5_1, x6_1, x7_1, rfl, rfl, HA, HK1, HO_5, BK122, HB⟩ := hrel
    cases gk with
    | zero => exact absurd HA.out (by simp [heliastref13_Put.l0])
    | succ k1 =>
      have H := HA.out
      clear HA
      simp only [heliastref13_Put.l0] at H
      by_cases c4 : x7_1 < (l0.length : Int)
      · rw [if_pos c4] at H
        have c4b0 : decide (x7_1 < (l0.length : Int)) = true := decide_eq_true c4
        clear c4
        by_cases c5 : 0 ≤ x7_1
        · rw [if_pos c5] at H
          have c5b0 : decide (0 ≤ x7_1) = true := decide_eq_true c5
          clear c5
          replace H := Option.bind_eq_some_iff.mp H
          obtain ⟨t127, A60, H⟩ := H
          replace H : (if x6_1 = true then (heliastref13_Put.j1 k1 l0 x5_1 x6_1 x7_1 t127 false a1_0 a1_1 a1_2) else (heliastref13_Put.j1 k1 l0 x5_1 x6_1 x7_1 t127 (decide (t127 ≥ 0)) a1_0 a1_1 a1_2)) = some r := H
          have A6 := Aside0.mk A60
          clear A60
          have HC7 := Aside0.mk H
          clear H
          try go_wp2
          have n0_ := Aside0.mk (Kd.R_drew HO_5.out)
          have n1_ := Aside0.mk (blk_drew BK122.out)
          have n2_ := Aside0.mk (below_drew1 HB.out)
          clear HO_5
          clear BK122
          clear HB
          have HO_5 := n0_
          have BK122 := n1_
          have HB := n2_
          clear n0_ n1_ n2_
          have p126 : 0 ≤ (x7_1 : Int) := of_decide_eq_true (by first | (with_reducible assumption) | assumption)
          have q126 : x7_1 < (l0.length : Int) := of_decide_eq_true (by first | (with_reducible assumption) | assumption)
          obtain ⟨ad126, e126, hx126_0, hx126_1, hx126_2⟩ := at_T69 HR0.out x7_1 p126 q126
          have hw126_2 := hx126_2
          have hw126_1 := hx126_1
          have hw126_0 := hx126_0
          cases e126
          replace hx126_0 := (HB.out.cell (World.block_lt_of_cell? w _ hx126_0)).trans hx126_0
          replace hx126_1 := (HB.out.cell (World.block_lt_of_cell? w _ hx126_1)).trans hx126_1
          replace hx126_2 := (HB.out.cell (World.block_lt_of_cell? w _ hx126_2)).trans hx126_2
          replace p126 := eq_true p126
          replace q126 := eq_true q126
          refine start_ (n := 7) (S := fun w' => w'.cell? ⟨gb122, 0, none⟩ = some (.string a1_0) ∧ w'.cell? ⟨gb122, 1, none⟩ = some (.string a1_1) ∧ w'.cell? ⟨gb122, 2, none⟩ = some (.int .i64 a1_2) ∧ w'.cell? (ad126.add ((x7_1).toNat * 3)) = some (.string ((rd_T69 l0 x7_1).f0)) ∧ w'.cell? ⟨(ad126.add ((x7_1).toNat * 3)).block, (ad126.add ((x7_1).toNat * 3)).off + 1, none⟩ = some (.string ((rd_T69 l0 x7_1).f1)) ∧ w'.cell? ⟨(ad126.add ((x7_1).toNat * 3)).block, (ad126.add ((x7_1).toNat * 3)).off + 2, none⟩ = some (.int .i64 ((rd_T69 l0 x7_1).f2))) (ds := []) #[false, false, false, false, false, false, false] (by kernel_rfl) rfl rfl ⟨(blk_cell BK122.out 0).trans rfl, (blk_cell BK122.out 1).trans rfl, (blk_cell BK122.out 2).trans rfl, ((HB.out.cell (World.block_lt_of_cell? w _ hw126_0)).trans hw126_0), ((HB.out.cell (World.block_lt_of_cell? w _ hw126_1)).trans hw126_1), ((HB.out.cell (World.block_lt_of_cell? w _ hw126_2)).trans hw126_2)⟩ (fun hHeld => ?_)
          generalize wr.drew = w8 at HO_5 BK122 HB hx126_0 hx126_1 hx126_2 hHeld ⊢
          refine pure_ (i := 0) (N := some 15) (v := ?_) (a' := ?_) #[true, false, false, false, false, false, false] rfl rfl (by kernel_rfl) (fun _ _ _ h => h) (Or.inl ⟨by rfl, ?_⟩) ?_ ?_
          rotate_left
          · intro w'
            go_simp
            with_reducible rfl
          rotate_left
          · simp only [Act.put, List.setIfInBounds_toArray, List.set_cons_zero, List.set_cons_succ, i64_w, i32_w]
            rfl
          refine pure_ (i := 1) (N := some 16) (v := ?_) (a' := ?_) #[true, true, false, false, false, false, false] rfl rfl (by kernel_rfl) (fun _ _ _ h => h) (Or.inl ⟨by rfl, ?_⟩) ?_ ?_
          rotate_left
          · intro w'
            go_simp
            with_reducible rfl
          rotate_left
          · simp only [Act.put, List.setIfInBounds_toArray, List.set_cons_zero, List.set_cons_succ, i64_w, i32_w]
            rfl
          refine pure_ (i := 2) (N := some 17) (v := ?_) (a' := ?_) #[true, true, true, false, false, false, false] rfl rfl (by kernel_rfl) (fun _ _ _ h => h) (Or.inl ⟨by rfl, ?_⟩) ?_ ?_
          rotate_left
          · intro w'
            go_simp
            with_reducible rfl
          rotate_left
          · simp only [Act.put, List.setIfInBounds_toArray, List.set_cons_zero, List.set_cons_succ, i64_w, i32_w]
            rfl
          refine take_ (i := 3) (N := some 18) (v := ?_) (a' := ?_) #[true, true, true, true, false, false, false] rfl rfl (by kernel_rfl) (fun _ _ _ h => h) (Or.inl ⟨by rfl, ?_⟩) hHeld ?_ ?_
          rotate_left
          · rintro w' ⟨s0, s1, s2, s3, s4, s5⟩
            go_simp
            with_reducible rfl
          rotate_left
          · simp only [Act.put, List.setIfInBounds_toArray, List.set_cons_zero, List.set_cons_succ, i64_w, i32_w]
            rfl
          refine take_ (i := 4) (N := some 19) (v := ?_) (a' := ?_) #[true, true, true, true, true, false, false] rfl rfl (by kernel_rfl) (fun _ _ _ h => h) (Or.inl ⟨by rfl, ?_⟩) hHeld ?_ ?_
          rotate_left
          · rintro w' ⟨s0, s1, s2, s3, s4, s5⟩
            go_simp
            with_reducible rfl
          rotate_left
          · simp only [Act.put, List.setIfInBounds_toArray, List.set_cons_zero, List.set_cons_succ, i64_w, i32_w]
            rfl
          refine one_ (i := 5) (N := some 20) #[true, true, true, true, true, true, false] rfl rfl (by kernel_rfl) (by decide) (fun K hK => ?_)
          refine goes_ Try.func115 (by kernel_rfl) rfl #[.agg #[.string ((rd_T69 l0 x7_1).f0), .string ((rd_T69 l0 x7_1).f1), .int .i64 ((rd_T69 l0 x7_1).f2)], .agg #[.string a1_0, .string a1_1, .int .i64 a1_2]] (by rfl) rfl rfl (by (try simp only [List.map_toArray, List.map_cons, List.map_nil]); first | done | rfl | (simp only [List.length_drop, List.length_take]; rfl)) ?_
          with_reducible refine (heliastref13_order.calls k1 ((rd_T69 l0 x7_1).f0) ((rd_T69 l0 x7_1).f1) ((rd_T69 l0 x7_1).f2) a1_0 a1_1 a1_2 t127 _ A6.out).mono ?_
          rintro e w9 ⟨rfl, hb⟩
          refine ⟨_, rfl, ?_⟩
          have n0_ := Aside0.mk (Kd.R_below (by (with_reducible repeat (first | apply Kd.R_alloc | apply Kd.R_drewN | apply Kd.R_drew)); exact HO_5.out) hb)
          have n1_ := Aside0.mk (blk_below (g := gb122) (o := .cells #[.string a1_0, .string a1_1, .int .i64 a1_2] 69 (0, 0)) (by (with_reducible repeat (first | refine blk_drewN ?_ _ | refine blk_drew ?_ | refine blk_alloc ?_ _)); exact BK122.out) hb)
          have n2_ := Aside0.mk (below_step (by repeat (first | (with_reducible first | exact HB.out | apply below_alloc | apply pw_below_drewN | apply below_drew1 | refine below_set ?_ GE122.out) | exact HB.out)) hb)
          clear HO_5
          clear BK122
          clear HB
          have HO_5 := n0_
          have BK122 := n1_
          have HB := n2_
          clear n0_ n1_ n2_
          (try clear hb)
          (try clear hb2)
          (try clear hk)
          (try clear hi)
          refine hK.out _ _ ⟨(blk_cell BK122.out 0).trans rfl, (blk_cell BK122.out 1).trans rfl, (blk_cell BK122.out 2).trans rfl, ((HB.out.cell (World.block_lt_of_cell? w _ hw126_0)).trans hw126_0), ((HB.out.cell (World.block_lt_of_cell? w _ hw126_1)).trans hw126_1), ((HB.out.cell (World.block_lt_of_cell? w _ hw126_2)).trans hw126_2)⟩ (fun hHeld => ?_)
          clear hK K
          refine norm_ (a' := ?_) ?_ ?_
          rotate_left
          · show Act.put _ (some 20) _ = _
            simp only [Act.put, List.setIfInBounds_toArray, List.set_cons_zero, List.set_cons_succ, i64_w, i32_w]
            rfl
          refine pure_ (i := 6) (N := some 8) (v := ?_) (a' := ?_) #[true, true, true, true, true, true, true] rfl rfl (by kernel_rfl) (fun _ _ _ h => h) (Or.inl ⟨by rfl, ?_⟩) ?_ ?_
          rotate_left
          · intro w'
            go_simp
            with_reducible rfl
          rotate_left
          · simp only [Act.put, List.setIfInBounds_toArray, List.set_cons_zero, List.set_cons_succ, i64_w, i32_w]
            rfl
          refine done_ (by kernel_rfl) ?_
          go_upto_region 7 with (fail)
          go_cut [26] (fun v26 wc => ∃ (kq : Nat) (x26_6 : Bool), v26 = .bool x26_6 ∧ Aside0 (heliastref13_Put.j1 kq l0 x5_1 x6_1 x7_1 t127 x26_6 a1_0 a1_1 a1_2 = some r) ∧ Aside0 (kq ≤ k1) ∧ Aside0 (Kd.R k69 69 wc w.heap.size (fun k_ => k_ ≠ gb122) u5 x5_1) ∧ Aside0 (wc.heap[gb122]? = some (.cells #[.string a1_0, .string a1_1, .int .i64 a1_2] 69 (0, 0))) ∧ Aside0 (Below w.heap.size w wc))
          case first =>
            have H := HC7.out
            clear HC7
            by_cases c10 : x6_1 = true
            · subst c10
              have H1 : (heliastref13_Put.j1 k1 l0 x5_1 true x7_1 t127 false a1_0 a1_1 a1_2) = some r := by rw [if_pos rfl] at H; exact H
              clear H
              have H := H1
              clear H1
              have H' := Aside0.mk H
              clear H
              go_wp2
              go_meet
              case rel => exact ⟨_, (false), (by first | rfl | (simp; done) | (simp [*]; done)), H', ⟨by have := HK1.out; first | omega | exact Nat.le_refl _⟩, ⟨by (with_reducible repeat (first | apply Kd.R_alloc | apply Kd.R_drewN | apply Kd.R_drew)); exact HO_5.out⟩, ⟨by (with_reducible repeat (first | refine blk_drewN ?_ _ | refine blk_drew ?_ | refine blk_alloc ?_ _)); exact BK122.out⟩, ⟨by repeat (first | (with_reducible first | exact HB.out | apply below_alloc | apply pw_below_drewN | apply below_drew1 | refine below_set ?_ GE122.out) | exact HB.out)⟩⟩
            · replace c10 := Bool.eq_false_iff.mpr c10
              subst c10
              have H1 : (heliastref13_Put.j1 k1 l0 x5_1 false x7_1 t127 (decide (t127 ≥ 0)) a1_0 a1_1 a1_2) = some r := by rw [if_neg (show ¬ (false = true) by decide)] at H; exact H
              clear H
              have H := H1
              clear H1
              have H' := Aside0.mk H
              clear H
              go_wp2
              go_meet
              case rel => exact ⟨_, (decide (t127 ≥ 0)), (by first | rfl | (simp; done) | (simp [*]; done)), H', ⟨by have := HK1.out; first | omega | exact Nat.le_refl _⟩, ⟨by (with_reducible repeat (first | apply Kd.R_alloc | apply Kd.R_drewN | apply Kd.R_drew)); exact HO_5.out⟩, ⟨by (with_reducible repeat (first | refine blk_drewN ?_ _ | refine blk_drew ?_ | refine blk_alloc ?_ _)); exact BK122.out⟩, ⟨by repeat (first | (with_reducible first | exact HB.out | apply below_alloc | apply pw_below_drewN | apply below_drew1 | refine below_set ?_ GE122.out) | exact HB.out)⟩⟩
          case rest =>
            clear HC7
            try clear c1
            try clear p1
            try clear q1
            try clear hx1
            try clear p2
            try clear c4
            try clear c4b0
            try clear c5
            try clear c5b0
            try clear c9
            try clear c10
            try clear hx126_0
            try clear hx126_1
            try clear hx126_2
            try clear p126
            try clear p2
            try clear q126
            obtain ⟨kq, x26_6, rfl, HA, HJ6, HO_5, BK122, HB⟩ := hcut
            cases kq with
            | zero => exact absurd HA.out (by simp [heliastref13_Put.j1])
            | succ kj6 =>
              have H := HA.out
              clear HA
              simp only [heliastref13_Put.j1] at H
              by_cases c11 : x26_6 = true
              · subst c11
                have H1 : (if x5_1.length < 3518437208883 then ((some (x5_1 ++ [(⟨a1_0, a1_1, a1_2⟩ : S69)] : List (S69))).bind fun y128 => (if t127 = 0 then (heliastref13_Put.l0 kj6 l0 y128 true (wrap64 (x7_1 + 1)) a1_0 a1_1 a1_2) else (if 0 ≤ x7_1 then (if x7_1 < (l0.length : Int) then (if y128.length < 3518437208883 then (heliastref13_Put.l0 kj6 l0 (y128 ++ [(⟨(rd_T69 l0 x7_1).f0, (rd_T69 l0 x7_1).f1, (rd_T69 l0 x7_1).f2⟩ : S69)]) true (wrap64 (x7_1 + 1)) a1_0 a1_1 a1_2) else (none)) else (none)) else (none)))) else (none)) = some r := by rw [if_pos rfl] at H; exact H
                clear H
                have H := H1
                clear H1
                by_cases c12 : x5_1.length < 3518437208883
                · rw [if_pos c12] at H
                  have LMc12 := Aside0.mk c12
                  clear c12
                  obtain ⟨y128, hy128⟩ : ∃ y_ : List (S69), y_ = (x5_1 ++ [(⟨a1_0, a1_1, a1_2⟩ : S69)]) := ⟨_, rfl⟩
                  replace H : (if t127 = 0 then (heliastref13_Put.l0 kj6 l0 y128 true (wrap64 (x7_1 + 1)) a1_0 a1_1 a1_2) else (if 0 ≤ x7_1 then (if x7_1 < (l0.length : Int) then (if y128.length < 3518437208883 then (heliastref13_Put.l0 kj6 l0 (y128 ++ [(⟨(rd_T69 l0 x7_1).f0, (rd_T69 l0 x7_1).f1, (rd_T69 l0 x7_1).f2⟩ : S69)]) true (wrap64 (x7_1 + 1)) a1_0 a1_1 a1_2) else (none)) else (none)) else (none))) = some r := by first | (rw [hy128]; with_reducible exact H) | (have H2_ := (Option.bind_some _ _).symm.trans H; rw [hy128]; with_reducible exact H2_) | (have H2_ := (Option.bind_some _ _).symm.trans H; with_reducible exact H2_) | with_reducible exact H | (rw [hy128]; exact H) | exact H
                  have Ny128 := Aside0.mk hy128
                  clear hy128
                  by_cases c13 : t127 = 0
                  · rw [if_pos c13] at H
                    have c13b0 : (t127 == 0) = true := beq_iff_eq.mpr c13
                    have c13b1 : (t127 != 0) = false := bne_eq_false_iff_eq.mpr c13
                    clear c13
                    have H' := Aside0.mk H
                    clear H
                    have hcz14_0 : wc.cell? ⟨gb122, 0, none⟩ = some (.string a1_0) := (blk_cell BK122.out 0).trans rfl
                    have hcz14_1 : wc.cell? ⟨gb122, 1, none⟩ = some (.string a1_1) := (blk_cell BK122.out 1).trans rfl
                    have hcz14_2 : wc.cell? ⟨gb122, 2, none⟩ = some (.int .i64 a1_2) := (blk_cell BK122.out 2).trans rfl
                    have hfz14_0 := blk_frozen BK122.out 0
                    have hfz14_1 := blk_frozen BK122.out 1
                    have hfz14_2 := blk_frozen BK122.out 2
                    go_wp2_with (first | ((with_reducible refine gate_builtin (b := .append) (xs := #[.tmp 27, .tmp 29]) rfl ?_); at_builtin; refine Kd.R_append k69 (w0 := w) w.heap.size rfl (.tmp 27) (.tmp 29) 63 69 (.agg #[(.string ⟨#[]⟩), (.string ⟨#[]⟩), (.int .i64 0)]) 40 rfl Try.underlying63 info69 rfl (by decide) (by omega) u5 x5_1 (⟨a1_0, a1_1, a1_2⟩ : S69) [.string a1_0, .string a1_1, .int .i64 a1_2] (fun k_ => k_ ≠ gb122) (fun _ => False) rfl rfl ?aP (fun _ hk => hk.elim) ?aF ?aO ?aB ?aS ?aL ?_; (case aP => exact k69_mkM _ _ _ (⟨a1_0, a1_1, a1_2⟩ : S69)); (case aB => exact (by repeat (first | (with_reducible first | exact HB.out | apply below_alloc | apply pw_below_drewN | apply below_drew1 | refine below_set ?_ GE122.out) | exact HB.out))); (case aF => exact (fun k_ hk => Kd.freshB (g := gb122) (o := .cells #[.string a1_0, .string a1_1, .int .i64 a1_2] 69 (0, 0)) (by (with_reducible repeat (first | refine blk_drewN ?_ _ | refine blk_drew ?_ | refine blk_alloc ?_ _)); exact BK122.out) k_ hk)); (case aO => exact (by (with_reducible repeat (first | apply Kd.R_alloc | apply Kd.R_drewN | apply Kd.R_drew)); exact HO_5.out)); (case aS => exact (below_size (by repeat (first | (with_reducible first | exact HB.out | apply below_alloc | apply pw_below_drewN | apply below_drew1 | refine below_set ?_ GE122.out) | exact HB.out)))); (case aL => have := LMc12.out; omega); intro v129 w15 ho hb hg hat; rw [← Ny128.out] at ho; have n0_ := Aside0.mk (blk_grown (g := gb122) (o := .cells #[.string a1_0, .string a1_1, .int .i64 a1_2] 69 (0, 0)) (by (with_reducible repeat (first | refine blk_drewN ?_ _ | refine blk_drew ?_ | refine blk_alloc ?_ _)); exact BK122.out) hg (Kd.R_away HO_5.out (fun _ hk => hk))); have n1_ := Aside0.mk (hb); have n2_ := Aside0.mk (ho); clear BK122; clear HB; clear HO_5; have BK122 := n0_; have HB := n1_; have HO130 := n2_; clear n0_ n1_ n2_; clear ho hb hg hat))
                    go_roundg kj6
                    case measure => have := HK1.out; have := HJ6.out; omega
                    case rel => exact ⟨(y128), (true), (wrap64 (x7_1 + 1)), (by first | rfl | (simp; done) | (simp [*]; done)), (by first | rfl | (simp; done) | (simp [*]; done)), H', ⟨by have := HK1.out; have := HJ6.out; omega⟩, ⟨by (with_reducible repeat (first | apply Kd.R_alloc | apply Kd.R_drewN | apply Kd.R_drew)); exact HO130.out⟩, ⟨by (with_reducible repeat (first | refine blk_drewN ?_ _ | refine blk_drew ?_ | refine blk_alloc ?_ _)); exact BK122.out⟩, ⟨by repeat (first | (with_reducible first | exact HB.out | apply below_alloc | apply pw_below_drewN | apply below_drew1 | refine below_set ?_ GE122.out) | exact HB.out)⟩⟩
                  · rw [if_neg c13] at H
                    have c13b0 : (t127 == 0) = false := beq_eq_false_iff_ne.mpr c13
                    have c13b1 : (t127 != 0) = true := bne_iff_ne.mpr c13
                    by_cases c16 : 0 ≤ x7_1
                    · rw [if_pos c16] at H
                      have c16b0 : decide (0 ≤ x7_1) = true := decide_eq_true c16
                      clear c16
                      by_cases c17 : x7_1 < (l0.length : Int)
                      · rw [if_pos c17] at H
                        have c17b0 : decide (x7_1 < (l0.length : Int)) = true := decide_eq_true c17
                        clear c17
                        by_cases c18 : y128.length < 3518437208883
                        · rw [if_pos c18] at H
                          have LMc18 := Aside0.mk c18
                          clear c18
                          obtain ⟨y132, hy132⟩ : ∃ y_ : List (S69), y_ = (y128 ++ [(⟨(rd_T69 l0 x7_1).f0, (rd_T69 l0 x7_1).f1, (rd_T69 l0 x7_1).f2⟩ : S69)]) := ⟨_, rfl⟩
                          replace H : (heliastref13_Put.l0 kj6 l0 y132 true (wrap64 (x7_1 + 1)) a1_0 a1_1 a1_2) = some r := by first | (rw [hy132]; with_reducible exact H) | (have H2_ := (Option.bind_some _ _).symm.trans H; rw [hy132]; with_reducible exact H2_) | (have H2_ := (Option.bind_some _ _).symm.trans H; with_reducible exact H2_) | with_reducible exact H | (rw [hy132]; exact H) | exact H
                          have Ny132 := Aside0.mk hy132
                          clear hy132
                          have H' := Aside0.mk H
                          clear H
                          have hcz19_0 : wc.cell? ⟨gb122, 0, none⟩ = some (.string a1_0) := (blk_cell BK122.out 0).trans rfl
                          have hcz19_1 : wc.cell? ⟨gb122, 1, none⟩ = some (.string a1_1) := (blk_cell BK122.out 1).trans rfl
                          have hcz19_2 : wc.cell? ⟨gb122, 2, none⟩ = some (.int .i64 a1_2) := (blk_cell BK122.out 2).trans rfl
                          have hfz19_0 := blk_frozen BK122.out 0
                          have hfz19_1 := blk_frozen BK122.out 1
                          have hfz19_2 := blk_frozen BK122.out 2
                          go_wp2_with (first | ((with_reducible refine gate_builtin (b := .append) (xs := #[.tmp 27, .tmp 29]) rfl ?_); at_builtin; refine Kd.R_append k69 (w0 := w) w.heap.size rfl (.tmp 27) (.tmp 29) 63 69 (.agg #[(.string ⟨#[]⟩), (.string ⟨#[]⟩), (.int .i64 0)]) 40 rfl Try.underlying63 info69 rfl (by decide) (by omega) u5 x5_1 (⟨a1_0, a1_1, a1_2⟩ : S69) [.string a1_0, .string a1_1, .int .i64 a1_2] (fun k_ => k_ ≠ gb122) (fun _ => False) rfl rfl ?aP (fun _ hk => hk.elim) ?aF ?aO ?aB ?aS ?aL ?_; (case aP => exact k69_mkM _ _ _ (⟨a1_0, a1_1, a1_2⟩ : S69)); (case aB => exact (by repeat (first | (with_reducible first | exact HB.out | apply below_alloc | apply pw_below_drewN | apply below_drew1 | refine below_set ?_ GE122.out) | exact HB.out))); (case aF => exact (fun k_ hk => Kd.freshB (g := gb122) (o := .cells #[.string a1_0, .string a1_1, .int .i64 a1_2] 69 (0, 0)) (by (with_reducible repeat (first | refine blk_drewN ?_ _ | refine blk_drew ?_ | refine blk_alloc ?_ _)); exact BK122.out) k_ hk)); (case aO => exact (by (with_reducible repeat (first | apply Kd.R_alloc | apply Kd.R_drewN | apply Kd.R_drew)); exact HO_5.out)); (case aS => exact (below_size (by repeat (first | (with_reducible first | exact HB.out | apply below_alloc | apply pw_below_drewN | apply below_drew1 | refine below_set ?_ GE122.out) | exact HB.out)))); (case aL => have := LMc12.out; omega); intro v129 w20 ho hb hg hat; rw [← Ny128.out] at ho; have n0_ := Aside0.mk (blk_grown (g := gb122) (o := .cells #[.string a1_0, .string a1_1, .int .i64 a1_2] 69 (0, 0)) (by (with_reducible repeat (first | refine blk_drewN ?_ _ | refine blk_drew ?_ | refine blk_alloc ?_ _)); exact BK122.out) hg (Kd.R_away HO_5.out (fun _ hk => hk))); have n1_ := Aside0.mk (hb); have n2_ := Aside0.mk (ho); clear BK122; clear HB; clear HO_5; have BK122 := n0_; have HB := n1_; have HO130 := n2_; clear n0_ n1_ n2_; clear ho hb hg hat; have p131 : 0 ≤ (x7_1 : Int) := of_decide_eq_true (by first | (with_reducible assumption) | assumption); have q131 : x7_1 < (l0.length : Int) := of_decide_eq_true (by first | (with_reducible assumption) | assumption); obtain ⟨ad131, e131, hx131_0, hx131_1, hx131_2⟩ := at_T69 HR0.out x7_1 p131 q131; obtain rfl : ad126 = ad131 := (by injection e131); replace hx131_0 := (HB.out.cell (World.block_lt_of_cell? w _ hx131_0)).trans hx131_0; replace hx131_1 := (HB.out.cell (World.block_lt_of_cell? w _ hx131_1)).trans hx131_1; replace hx131_2 := (HB.out.cell (World.block_lt_of_cell? w _ hx131_2)).trans hx131_2; replace p131 := eq_true p131; replace q131 := eq_true q131) | ((with_reducible refine gate_builtin (b := .append) (xs := #[.tmp 33, .tmp 38]) rfl ?_); at_builtin; refine Kd.R_append k69 (w0 := w) w.heap.size rfl (.tmp 33) (.tmp 38) 63 69 (.agg #[(.string ⟨#[]⟩), (.string ⟨#[]⟩), (.int .i64 0)]) 40 rfl Try.underlying63 info69 rfl (by decide) (by omega) v129 y128 (⟨(rd_T69 l0 x7_1).f0, (rd_T69 l0 x7_1).f1, (rd_T69 l0 x7_1).f2⟩ : S69) [.string ((rd_T69 l0 x7_1).f0), .string ((rd_T69 l0 x7_1).f1), .int .i64 ((rd_T69 l0 x7_1).f2)] (fun k_ => k_ ≠ gb122) (fun _ => False) rfl rfl ?aP (fun _ hk => hk.elim) ?aF ?aO ?aB ?aS ?aL ?_; (case aP => exact k69_mkM _ _ _ (⟨(rd_T69 l0 x7_1).f0, (rd_T69 l0 x7_1).f1, (rd_T69 l0 x7_1).f2⟩ : S69)); (case aB => exact (by repeat (first | (with_reducible first | exact HB.out | apply below_alloc | apply pw_below_drewN | apply below_drew1 | refine below_set ?_ GE122.out) | exact HB.out))); (case aF => exact (fun k_ hk => Kd.freshB (g := gb122) (o := .cells #[.string a1_0, .string a1_1, .int .i64 a1_2] 69 (0, 0)) (by (with_reducible repeat (first | refine blk_drewN ?_ _ | refine blk_drew ?_ | refine blk_alloc ?_ _)); exact BK122.out) k_ hk)); (case aO => exact (by (with_reducible repeat (first | apply Kd.R_alloc | apply Kd.R_drewN | apply Kd.R_drew)); exact HO130.out)); (case aS => exact (below_size (by repeat (first | (with_reducible first | exact HB.out | apply below_alloc | apply pw_below_drewN | apply below_drew1 | refine below_set ?_ GE122.out) | exact HB.out)))); (case aL => have := LMc18.out; omega); intro v133 w21 ho hb hg hat; rw [← Ny132.out] at ho; have n0_ := Aside0.mk (blk_grown (g := gb122) (o := .cells #[.string a1_0, .string a1_1, .int .i64 a1_2] 69 (0, 0)) (by (with_reducible repeat (first | refine blk_drewN ?_ _ | refine blk_drew ?_ | refine blk_alloc ?_ _)); exact BK122.out) hg (Kd.R_away HO130.out (fun _ hk => hk))); have n1_ := Aside0.mk (hb); have n2_ := Aside0.mk (ho); clear BK122; clear HB; clear HO130; have BK122 := n0_; have HB := n1_; have HO134 := n2_; clear n0_ n1_ n2_; clear ho hb hg hat))
                          go_roundg kj6
                          case measure => have := HK1.out; have := HJ6.out; omega
                          case rel => exact ⟨(y132), (true), (wrap64 (x7_1 + 1)), (by first | rfl | (simp; done) | (simp [*]; done)), (by first | rfl | (simp; done) | (simp [*]; done)), H', ⟨by have := HK1.out; have := HJ6.out; omega⟩, ⟨by (with_reducible repeat (first | apply Kd.R_alloc | apply Kd.R_drewN | apply Kd.R_drew)); exact HO134.out⟩, ⟨by (with_reducible repeat (first | refine blk_drewN ?_ _ | refine blk_drew ?_ | refine blk_alloc ?_ _)); exact BK122.out⟩, ⟨by repeat (first | (with_reducible first | exact HB.out | apply below_alloc | apply pw_below_drewN | apply below_drew1 | refine below_set ?_ GE122.out) | exact HB.out)⟩⟩
                        · rw [if_neg c18] at H
                          exact absurd H (by simp)
                      · rw [if_neg c17] at H
                        exact absurd H (by simp)
                    · rw [if_neg c16] at H
                      exact absurd H (by simp)
                · rw [if_neg c12] at H
                  exact absurd H (by simp)
              · replace c11 := Bool.eq_false_iff.mpr c11
                subst c11
                have H1 : (if t127 = 0 then (heliastref13_Put.l0 kj6 l0 x5_1 x6_1 (wrap64 (x7_1 + 1)) a1_0 a1_1 a1_2) else (if 0 ≤ x7_1 then (if x7_1 < (l0.length : Int) then (if x5_1.length < 3518437208883 then (heliastref13_Put.l0 kj6 l0 (x5_1 ++ [(⟨(rd_T69 l0 x7_1).f0, (rd_T69 l0 x7_1).f1, (rd_T69 l0 x7_1).f2⟩ : S69)]) x6_1 (wrap64 (x7_1 + 1)) a1_0 a1_1 a1_2) else (none)) else (none)) else (none))) = some r := by rw [if_neg (show ¬ (false = true) by decide)] at H; exact H
                clear H
                have H := H1
                clear H1
                by_cases c22 : t127 = 0
                · rw [if_pos c22] at H
                  have c22b0 : (t127 == 0) = true := beq_iff_eq.mpr c22
                  have c22b1 : (t127 != 0) = false := bne_eq_false_iff_eq.mpr c22
                  clear c22
                  have H' := Aside0.mk H
                  clear H
                  go_wp2
                  go_roundg kj6
                  case measure => have := HK1.out; have := HJ6.out; omega
                  case rel => exact ⟨(x5_1), (x6_1), (wrap64 (x7_1 + 1)), (by first | rfl | (simp; done) | (simp [*]; done)), (by first | rfl | (simp; done) | (simp [*]; done)), H', ⟨by have := HK1.out; have := HJ6.out; omega⟩, ⟨by (with_reducible repeat (first | apply Kd.R_alloc | apply Kd.R_drewN | apply Kd.R_drew)); exact HO_5.out⟩, ⟨by (with_reducible repeat (first | refine blk_drewN ?_ _ | refine blk_drew ?_ | refine blk_alloc ?_ _)); exact BK122.out⟩, ⟨by repeat (first | (with_reducible first | exact HB.out | apply below_alloc | apply pw_below_drewN | apply below_drew1 | refine below_set ?_ GE122.out) | exact HB.out)⟩⟩
                · rw [if_neg c22] at H
                  have c22b0 : (t127 == 0) = false := beq_eq_false_iff_ne.mpr c22
                  have c22b1 : (t127 != 0) = true := bne_iff_ne.mpr c22
                  by_cases c23 : 0 ≤ x7_1
                  · rw [if_pos c23] at H
                    have c23b0 : decide (0 ≤ x7_1) = true := decide_eq_true c23
                    clear c23
                    by_cases c24 : x7_1 < (l0.length : Int)
                    · rw [if_pos c24] at H
                      have c24b0 : decide (x7_1 < (l0.length : Int)) = true := decide_eq_true c24
                      clear c24
                      by_cases c25 : x5_1.length < 3518437208883
                      · rw [if_pos c25] at H
                        have LMc25 := Aside0.mk c25
                        clear c25
                        obtain ⟨y136, hy136⟩ : ∃ y_ : List (S69), y_ = (x5_1 ++ [(⟨(rd_T69 l0 x7_1).f0, (rd_T69 l0 x7_1).f1, (rd_T69 l0 x7_1).f2⟩ : S69)]) := ⟨_, rfl⟩
                        replace H : (heliastref13_Put.l0 kj6 l0 y136 x6_1 (wrap64 (x7_1 + 1)) a1_0 a1_1 a1_2) = some r := by first | (rw [hy136]; with_reducible exact H) | (have H2_ := (Option.bind_some _ _).symm.trans H; rw [hy136]; with_reducible exact H2_) | (have H2_ := (Option.bind_some _ _).symm.trans H; with_reducible exact H2_) | with_reducible exact H | (rw [hy136]; exact H) | exact H
                        have Ny136 := Aside0.mk hy136
                        clear hy136
                        have H' := Aside0.mk H
                        clear H
                        have p135 : 0 ≤ (x7_1 : Int) := of_decide_eq_true (by first | (with_reducible assumption) | assumption)
                        have q135 : x7_1 < (l0.length : Int) := of_decide_eq_true (by first | (with_reducible assumption) | assumption)
                        obtain ⟨ad135, e135, hx135_0, hx135_1, hx135_2⟩ := at_T69 HR0.out x7_1 p135 q135
                        obtain rfl : ad126 = ad135 := (by injection e135)
                        replace hx135_0 := (HB.out.cell (World.block_lt_of_cell? w _ hx135_0)).trans hx135_0
                        replace hx135_1 := (HB.out.cell (World.block_lt_of_cell? w _ hx135_1)).trans hx135_1
                        replace hx135_2 := (HB.out.cell (World.block_lt_of_cell? w _ hx135_2)).trans hx135_2
                        replace p135 := eq_true p135
                        replace q135 := eq_true q135
                        go_wp2_with (first | ((with_reducible refine gate_builtin (b := .append) (xs := #[.tmp 33, .tmp 38]) rfl ?_); at_builtin; refine Kd.R_append k69 (w0 := w) w.heap.size rfl (.tmp 33) (.tmp 38) 63 69 (.agg #[(.string ⟨#[]⟩), (.string ⟨#[]⟩), (.int .i64 0)]) 40 rfl Try.underlying63 info69 rfl (by decide) (by omega) u5 x5_1 (⟨(rd_T69 l0 x7_1).f0, (rd_T69 l0 x7_1).f1, (rd_T69 l0 x7_1).f2⟩ : S69) [.string ((rd_T69 l0 x7_1).f0), .string ((rd_T69 l0 x7_1).f1), .int .i64 ((rd_T69 l0 x7_1).f2)] (fun k_ => k_ ≠ gb122) (fun _ => False) rfl rfl ?aP (fun _ hk => hk.elim) ?aF ?aO ?aB ?aS ?aL ?_; (case aP => exact k69_mkM _ _ _ (⟨(rd_T69 l0 x7_1).f0, (rd_T69 l0 x7_1).f1, (rd_T69 l0 x7_1).f2⟩ : S69)); (case aB => exact (by repeat (first | (with_reducible first | exact HB.out | apply below_alloc | apply pw_below_drewN | apply below_drew1 | refine below_set ?_ GE122.out) | exact HB.out))); (case aF => exact (fun k_ hk => Kd.freshB (g := gb122) (o := .cells #[.string a1_0, .string a1_1, .int .i64 a1_2] 69 (0, 0)) (by (with_reducible repeat (first | refine blk_drewN ?_ _ | refine blk_drew ?_ | refine blk_alloc ?_ _)); exact BK122.out) k_ hk)); (case aO => exact (by (with_reducible repeat (first | apply Kd.R_alloc | apply Kd.R_drewN | apply Kd.R_drew)); exact HO_5.out)); (case aS => exact (below_size (by repeat (first | (with_reducible first | exact HB.out | apply below_alloc | apply pw_below_drewN | apply below_drew1 | refine below_set ?_ GE122.out) | exact HB.out)))); (case aL => have := LMc25.out; omega); intro v137 w26 ho hb hg hat; rw [← Ny136.out] at ho; have n0_ := Aside0.mk (blk_grown (g := gb122) (o := .cells #[.string a1_0, .string a1_1, .int .i64 a1_2] 69 (0, 0)) (by (with_reducible repeat (first | refine blk_drewN ?_ _ | refine blk_drew ?_ | refine blk_alloc ?_ _)); exact BK122.out) hg (Kd.R_away HO_5.out (fun _ hk => hk))); have n1_ := Aside0.mk (hb); have n2_ := Aside0.mk (ho); clear BK122; clear HB; clear HO_5; have BK122 := n0_; have HB := n1_; have HO138 := n2_; clear n0_ n1_ n2_; clear ho hb hg hat))
                        go_roundg kj6
                        case measure => have := HK1.out; have := HJ6.out; omega
                        case rel => exact ⟨(y136), (x6_1), (wrap64 (x7_1 + 1)), (by first | rfl | (simp; done) | (simp [*]; done)), (by first | rfl | (simp; done) | (simp [*]; done)), H', ⟨by have := HK1.out; have := HJ6.out; omega⟩, ⟨by (with_reducible repeat (first | apply Kd.R_alloc | apply Kd.R_drewN | apply Kd.R_drew)); exact HO138.out⟩, ⟨by (with_reducible repeat (first | refine blk_drewN ?_ _ | refine blk_drew ?_ | refine blk_alloc ?_ _)); exact BK122.out⟩, ⟨by repeat (first | (with_reducible first | exact HB.out | apply below_alloc | apply pw_below_drewN | apply below_drew1 | refine below_set ?_ GE122.out) | exact HB.out)⟩⟩
                      · rw [if_neg c25] at H
                        exact absurd H (by simp)
                    · rw [if_neg c24] at H
                      exact absurd H (by simp)
                  · rw [if_neg c23] at H
                    exact absurd H (by simp)
        · rw [if_neg c5] at H
          exact absurd H (by simp)
      · rw [if_neg c4] at H
        have c4b0 : decide (x7_1 < (l0.length : Int)) = false := decide_eq_false c4
        clear c4
        by_cases c27 : x6_1 = true
        · subst c27
          have H1 : (some x5_1) = some r := by rw [if_pos rfl] at H; exact H
          clear H
          have H := H1
          clear H1
          obtain rfl := Option.some.inj H
          go_wp2
          go_ret
          exact ⟨_, by first | rfl | (simp [errW_none, errW_some] <;> rfl) | (simp [*, errW_none, errW_some] <;> rfl), by (with_reducible repeat (first | apply Kd.R_alloc | apply Kd.R_drewN | apply Kd.R_drew)); exact Kd.R_mono HO_5.out (fun _ hk => trivial), by repeat (first | (with_reducible first | exact HB.out | apply below_alloc | apply pw_below_drewN | apply below_drew1 | refine below_set ?_ GE122.out) | exact HB.out)⟩
        · replace c27 := Bool.eq_false_iff.mpr c27
          subst c27
          have H1 : (if x5_1.length < 3518437208883 then (some (x5_1 ++ [(⟨a1_0, a1_1, a1_2⟩ : S69)])) else (none)) = some r := by rw [if_neg (show ¬ (false = true) by decide)] at H; exact H
          clear H
          have H := H1
          clear H1
          by_cases c28 : x5_1.length < 3518437208883
          · rw [if_pos c28] at H
            have LMc28 := Aside0.mk c28
            clear c28
            obtain ⟨y123, hy123⟩ : ∃ y_ : List (S69), y_ = (x5_1 ++ [(⟨a1_0, a1_1, a1_2⟩ : S69)]) := ⟨_, rfl⟩
            replace H : (some y123) = some r := by first | (rw [hy123]; with_reducible exact H) | (have H2_ := (Option.bind_some _ _).symm.trans H; rw [hy123]; with_reducible exact H2_) | (have H2_ := (Option.bind_some _ _).symm.trans H; with_reducible exact H2_) | with_reducible exact H | (rw [hy123]; exact H) | exact H
            have Ny123 := Aside0.mk hy123
            clear hy123
            obtain rfl := Option.some.inj H
            have hcz29_0 : wr.cell? ⟨gb122, 0, none⟩ = some (.string a1_0) := (blk_cell BK122.out 0).trans rfl
            have hcz29_1 : wr.cell? ⟨gb122, 1, none⟩ = some (.string a1_1) := (blk_cell BK122.out 1).trans rfl
            have hcz29_2 : wr.cell? ⟨gb122, 2, none⟩ = some (.int .i64 a1_2) := (blk_cell BK122.out 2).trans rfl
            have hfz29_0 := blk_frozen BK122.out 0
            have hfz29_1 := blk_frozen BK122.out 1
            have hfz29_2 := blk_frozen BK122.out 2
            go_wp2_with (first | ((with_reducible refine gate_builtin (b := .append) (xs := #[.tmp 42, .tmp 44]) rfl ?_); at_builtin; refine Kd.R_append k69 (w0 := w) w.heap.size rfl (.tmp 42) (.tmp 44) 63 69 (.agg #[(.string ⟨#[]⟩), (.string ⟨#[]⟩), (.int .i64 0)]) 40 rfl Try.underlying63 info69 rfl (by decide) (by omega) u5 x5_1 (⟨a1_0, a1_1, a1_2⟩ : S69) [.string a1_0, .string a1_1, .int .i64 a1_2] (fun k_ => k_ ≠ gb122) (fun _ => False) rfl rfl ?aP (fun _ hk => hk.elim) ?aF ?aO ?aB ?aS ?aL ?_; (case aP => exact k69_mkM _ _ _ (⟨a1_0, a1_1, a1_2⟩ : S69)); (case aB => exact (by repeat (first | (with_reducible first | exact HB.out | apply below_alloc | apply pw_below_drewN | apply below_drew1 | refine below_set ?_ GE122.out) | exact HB.out))); (case aF => exact (fun k_ hk => Kd.freshB (g := gb122) (o := .cells #[.string a1_0, .string a1_1, .int .i64 a1_2] 69 (0, 0)) (by (with_reducible repeat (first | refine blk_drewN ?_ _ | refine blk_drew ?_ | refine blk_alloc ?_ _)); exact BK122.out) k_ hk)); (case aO => exact (by (with_reducible repeat (first | apply Kd.R_alloc | apply Kd.R_drewN | apply Kd.R_drew)); exact HO_5.out)); (case aS => exact (below_size (by repeat (first | (with_reducible first | exact HB.out | apply below_alloc | apply pw_below_drewN | apply below_drew1 | refine below_set ?_ GE122.out) | exact HB.out)))); (case aL => have := LMc28.out; omega); intro v124 w30 ho hb hg hat; rw [← Ny123.out] at ho; have n0_ := Aside0.mk (blk_grown (g := gb122) (o := .cells #[.string a1_0, .string a1_1, .int .i64 a1_2] 69 (0, 0)) (by (with_reducible repeat (first | refine blk_drewN ?_ _ | refine blk_drew ?_ | refine blk_alloc ?_ _)); exact BK122.out) hg (Kd.R_away HO_5.out (fun _ hk => hk))); have n1_ := Aside0.mk (hb); have n2_ := Aside0.mk (ho); clear BK122; clear HB; clear HO_5; have BK122 := n0_; have HB := n1_; have HO125 := n2_; clear n0_ n1_ n2_; clear ho hb hg hat))
            go_ret
            exact ⟨_, by first | rfl | (simp [errW_none, errW_some] <;> rfl) | (simp [*, errW_none, errW_some] <;> rfl), by (with_reducible repeat (first | apply Kd.R_alloc | apply Kd.R_drewN | apply Kd.R_drew)); exact Kd.R_mono HO125.out (fun _ hk => trivial), by repeat (first | (with_reducible first | exact HB.out | apply below_alloc | apply pw_below_drewN | apply below_drew1 | refine below_set ?_ GE122.out) | exact HB.out)⟩
          · rw [if_neg c28] at H
            exact absurd H (by simp)

end Go.Proofs.Ytmmalieacakcbaa.S

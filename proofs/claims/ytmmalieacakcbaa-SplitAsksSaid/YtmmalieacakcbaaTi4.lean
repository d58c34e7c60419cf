/- Parts of the walk and of the plain law, joined for this claim alone by a program of this session. -/
import Derived.Test.YtmmalieacakcbaaTi1
import Derived.Test.YtmmalieacakcbaaTi0
import Derived.Test.YtmmalieacakcbaaTi2
import Derived.Test.YtmmalieacakcbaaTi3
section
namespace Go.Proofs.Ytmmalieacakcbaa.S
open Go.RowKit Go.Proofs.YtmmalieacakcbaaW.PrintWords Go.Proofs.YtmmalieacakcbaaW.PrintLast Go.Proofs.YtmmalieacakcbaaW.PrintMore
attribute [local go_sem] max2_int min2_int max_two min_two max_three min_three max_four min_four
set_option linter.unusedVariables false
set_option linter.unusedSimpArgs false
def heliastref13_Right.l0 : Nat → List (S69) → Int → Option (Bool)
  | 0, _, _ => none
  | k + 1, x0, x3 => if x3 < (x0.length : Int) then (if 0 ≤ (wrap64 (x3 - 1)) then (if (wrap64 (x3 - 1)) < (x0.length : Int) then (if 0 ≤ x3 then ((heliastref13_order.f k ((rd_T69 x0 (wrap64 (x3 - 1))).f0) ((rd_T69 x0 (wrap64 (x3 - 1))).f1) ((rd_T69 x0 (wrap64 (x3 - 1))).f2) ((rd_T69 x0 x3).f0) ((rd_T69 x0 x3).f1) ((rd_T69 x0 x3).f2)).bind fun t296 => (if t296 ≥ 0 then (some false) else (heliastref13_Right.l0 k x0 (wrap64 (x3 + 1))))) else (none)) else (none)) else (none)) else (some true)
def heliastref13_Right.f (k : Nat) (l0 : List (S69)) : Option (Bool) := heliastref13_Right.l0 k l0 1
theorem heliastref13_Right.mono_l : ∀ k, (∀ y0 y1, LeO (heliastref13_Right.l0 k y0 y1) (heliastref13_Right.l0 (k + 1) y0 y1))
  | 0 => fun _ _ r h => by simp [heliastref13_Right.l0] at h
  | k + 1 => by
    have ih0 := heliastref13_Right.mono_l k
    · intro y0 y1
      unfold heliastref13_Right.l0
      repeat' first
      | (with_reducible exact ih0 _ _)
      | (with_reducible exact heliastref13_order.mono _ _ _ _ _ _ _)
      | (with_reducible exact LeO.refl _)
      | (with_reducible exact LeO.none _)
      | (with_reducible refine LeO.ite ?_ ?_)
      | (with_reducible refine LeO.bind ?_ (fun _ => ?_))
      | exact ih0 _ _
      | exact heliastref13_order.mono _ _ _ _ _ _ _
      | exact LeO.none _
      | refine LeO.ite ?_ ?_
      | refine LeO.bind ?_ (fun _ => ?_)
theorem heliastref13_Right.mono : ∀ a0 k, LeO (heliastref13_Right.f k a0) (heliastref13_Right.f (k + 1) a0) := by
  intro a0 k
  have ih0 := heliastref13_Right.mono_l k
  unfold heliastref13_Right.f
  repeat' first
      | (with_reducible exact ih0 _ _)
      | (with_reducible exact heliastref13_order.mono _ _ _ _ _ _ _)
      | (with_reducible exact LeO.refl _)
      | (with_reducible exact LeO.none _)
      | (with_reducible refine LeO.ite ?_ ?_)
      | (with_reducible refine LeO.bind ?_ (fun _ => ?_))
      | exact ih0 _ _
      | exact heliastref13_order.mono _ _ _ _ _ _ _
      | exact LeO.none _
      | refine LeO.ite ?_ ?_
      | refine LeO.bind ?_ (fun _ => ?_)
def heliastref13_Right.T4 : Bool × List (List Nat × List Nat) := (true, [([], []), ([], []), ([1], [1]), ([0, 2], [0, 2]), ([3], [3]), ([], []), ([], []), ([5, 6], [5, 6]), ([7], [7]), ([4, 8], [4, 8]), ([9], [9])])
def heliastref13_Right.B4 : List Nat := [0, 0, 2, 7, 15, 0, 0, 96, 224, 511, 1023]
theorem heliastref13_Right.tab4 : rtab .any (opsOf Try.f87 4) = heliastref13_Right.T4 := by kernel_rfl
theorem heliastref13_Right.bits4 : waitsOk heliastref13_Right.T4.2 heliastref13_Right.B4 = true := by kernel_rfl
set_option maxHeartbeats 8000000 in
set_option maxRecDepth 100000 in
theorem heliastref13_Right.calls (k : Nat) (A0 : Option Addr) (c0 : Nat) (l0 : List (S69)) (r : Bool) (w : World) (hr0 : Kd.C k69 w A0 l0.length l0) (hc0 : l0.length ≤ c0) (h : heliastref13_Right.f k l0 = some r) :
    Calls Try.prog 87 #[.slice A0 l0.length c0] w fun e w' => e = .returned (.bool r) ∧ Below w.heap.size w w' := by
  have hu69 := Try.underlying69
  have HR0 := Aside0.mk hr0
  have HC0 := Aside0.mk hc0
  clear hr0 hc0
  have HB := Aside0.mk (Below.refl w.heap.size w)
  have H : (heliastref13_Right.l0 k l0 1) = some r := h
  clear h
  have H' := Aside0.mk H
  clear H
  go_enter Try.func87, Try.ntmps87
  go_wp2
  go_loopg [3] k (fun kq v3 w' => ∃ (x3_1 : Int), v3 = .int .i64 x3_1 ∧ Aside0 (heliastref13_Right.l0 kq l0 x3_1 = some r) ∧ Aside0 (kq ≤ k) ∧ Aside0 (Below w.heap.size w w'))
  case atStart => exact ⟨(1), (by first | rfl | (simp; done) | (simp [*]; done)), H', ⟨Nat.le_refl _⟩, ⟨by repeat (first | (with_reducible first | exact HB.out | apply below_alloc | apply pw_below_drewN | apply below_drew1) | exact HB.out)⟩⟩
  case round =>
    clear H'
    obtain ⟨x3_1, rfl, HA, HK1, HB⟩ := hrel
    cases gk with
    | zero => exact absurd HA.out (by simp [heliastref13_Right.l0])
    | succ k1 =>
      have H := HA.out
      clear HA
      simp only [heliastref13_Right.l0] at H
      by_cases c2 : x3_1 < (l0.length : Int)
      · rw [if_pos c2] at H
        have c2b0 : decide (x3_1 < (l0.length : Int)) = true := decide_eq_true c2
        clear c2
        obtain ⟨ji3, hji3⟩ : ∃ j_ : Int, (wrap64 (x3_1 - 1)) = j_ := ⟨_, rfl⟩
        replace H : (if 0 ≤ (ji3) then (if (ji3) < (l0.length : Int) then (if 0 ≤ x3_1 then ((heliastref13_order.f k1 ((rd_T69 l0 (ji3)).f0) ((rd_T69 l0 (ji3)).f1) ((rd_T69 l0 (ji3)).f2) ((rd_T69 l0 x3_1).f0) ((rd_T69 l0 x3_1).f1) ((rd_T69 l0 x3_1).f2)).bind fun t296 => (if t296 ≥ 0 then (some false) else (heliastref13_Right.l0 k1 l0 (wrap64 (x3_1 + 1))))) else (none)) else (none)) else (none)) = some r := by first | (rw [hji3] at H; exact H) | (simp only [hji3] at H ⊢; exact H)
        have hji3w : (IntKind.i64.wrap (x3_1 - 1)) = ji3 := (i64_w _).trans hji3
        by_cases c4 : 0 ≤ (ji3)
        · rw [if_pos c4] at H
          have c4b0 : decide (0 ≤ (ji3)) = true := decide_eq_true c4
          clear c4
          by_cases c5 : (ji3) < (l0.length : Int)
          · rw [if_pos c5] at H
            have c5b0 : decide ((ji3) < (l0.length : Int)) = true := decide_eq_true c5
            clear c5
            by_cases c6 : 0 ≤ x3_1
            · rw [if_pos c6] at H
              have c6b0 : decide (0 ≤ x3_1) = true := decide_eq_true c6
              clear c6
              replace H := Option.bind_eq_some_iff.mp H
              obtain ⟨t296, A70, H⟩ := H
              replace H : (if t296 ≥ 0 then (some false) else (heliastref13_Right.l0 k1 l0 (wrap64 (x3_1 + 1)))) = some r := H
              have A7 := Aside0.mk A70
              clear A70
              by_cases c8 : t296 ≥ 0
              · rw [if_pos c8] at H
                have c8b0 : decide (0 ≤ t296) = true := decide_eq_true c8
                clear c8
                obtain rfl := Option.some.inj H
                try go_wp2
                have n0_ := Aside0.mk (below_drew1 HB.out)
                clear HB
                have HB := n0_
                clear n0_
                have p294 : 0 ≤ ((ji3) : Int) := of_decide_eq_true (by first | (with_reducible assumption) | assumption)
                have q294 : (ji3) < (l0.length : Int) := of_decide_eq_true (by first | (with_reducible assumption) | assumption)
                obtain ⟨ad294, e294, hx294_0, hx294_1, hx294_2⟩ := at_T69 HR0.out (ji3) p294 q294
                have hw294_2 := hx294_2
                have hw294_1 := hx294_1
                have hw294_0 := hx294_0
                cases e294
                replace hx294_0 := (HB.out.cell (World.block_lt_of_cell? w _ hx294_0)).trans hx294_0
                replace hx294_1 := (HB.out.cell (World.block_lt_of_cell? w _ hx294_1)).trans hx294_1
                replace hx294_2 := (HB.out.cell (World.block_lt_of_cell? w _ hx294_2)).trans hx294_2
                replace p294 := eq_true p294
                replace q294 := eq_true q294
                have p295 : 0 ≤ (x3_1 : Int) := of_decide_eq_true (by first | (with_reducible assumption) | assumption)
                have q295 : x3_1 < (l0.length : Int) := of_decide_eq_true (by first | (with_reducible assumption) | assumption)
                obtain ⟨ad295, e295, hx295_0, hx295_1, hx295_2⟩ := at_T69 HR0.out x3_1 p295 q295
                have hw295_2 := hx295_2
                have hw295_1 := hx295_1
                have hw295_0 := hx295_0
                obtain rfl : ad294 = ad295 := (by injection e295)
                replace hx295_0 := (HB.out.cell (World.block_lt_of_cell? w _ hx295_0)).trans hx295_0
                replace hx295_1 := (HB.out.cell (World.block_lt_of_cell? w _ hx295_1)).trans hx295_1
                replace hx295_2 := (HB.out.cell (World.block_lt_of_cell? w _ hx295_2)).trans hx295_2
                replace p295 := eq_true p295
                replace q295 := eq_true q295
                refine start_ (n := 11) (S := fun w' => w'.cell? (ad294.add (((ji3)).toNat * 3)) = some (.string ((rd_T69 l0 (ji3)).f0)) ∧ w'.cell? ⟨(ad294.add (((ji3)).toNat * 3)).block, (ad294.add (((ji3)).toNat * 3)).off + 1, none⟩ = some (.string ((rd_T69 l0 (ji3)).f1)) ∧ w'.cell? ⟨(ad294.add (((ji3)).toNat * 3)).block, (ad294.add (((ji3)).toNat * 3)).off + 2, none⟩ = some (.int .i64 ((rd_T69 l0 (ji3)).f2)) ∧ w'.cell? (ad294.add ((x3_1).toNat * 3)) = some (.string ((rd_T69 l0 x3_1).f0)) ∧ w'.cell? ⟨(ad294.add ((x3_1).toNat * 3)).block, (ad294.add ((x3_1).toNat * 3)).off + 1, none⟩ = some (.string ((rd_T69 l0 x3_1).f1)) ∧ w'.cell? ⟨(ad294.add ((x3_1).toNat * 3)).block, (ad294.add ((x3_1).toNat * 3)).off + 2, none⟩ = some (.int .i64 ((rd_T69 l0 x3_1).f2))) (ds := []) #[false, false, false, false, false, false, false, false, false, false, false] (by kernel_rfl) rfl rfl ⟨((HB.out.cell (World.block_lt_of_cell? w _ hw294_0)).trans hw294_0), ((HB.out.cell (World.block_lt_of_cell? w _ hw294_1)).trans hw294_1), ((HB.out.cell (World.block_lt_of_cell? w _ hw294_2)).trans hw294_2), ((HB.out.cell (World.block_lt_of_cell? w _ hw295_0)).trans hw295_0), ((HB.out.cell (World.block_lt_of_cell? w _ hw295_1)).trans hw295_1), ((HB.out.cell (World.block_lt_of_cell? w _ hw295_2)).trans hw295_2)⟩ (fun hHeld => ?_); refine with_tabW heliastref13_Right.tab4 heliastref13_Right.bits4 (fun HT_ HW_ => ?_)
                generalize wr.drew = w9 at HB hx294_0 hx294_1 hx294_2 hx295_0 hx295_1 hx295_2 hHeld ⊢
                refine pure_ (i := 0) (N := some 10) (v := ?_) (a' := ?_) #[true, false, false, false, false, false, false, false, false, false, false] rfl rfl (any_of HT_.out (by kernel_rfl)) (fun _ _ _ h => h) (Or.inl ⟨by rfl, ?_⟩) ?_ ?_
                rotate_left
                · intro w'
                  go_simp
                  with_reducible rfl
                rotate_left
                · simp only [Act.put, List.setIfInBounds_toArray, List.set_cons_zero, List.set_cons_succ, i64_w, i32_w]
                  rfl
                refine pure_ (i := 1) (N := some 11) (v := ?_) (a' := ?_) #[true, true, false, false, false, false, false, false, false, false, false] rfl rfl (any_of HT_.out (by kernel_rfl)) (fun _ _ _ h => h) (Or.inl ⟨by rfl, ?_⟩) ?_ ?_
                rotate_left
                · intro w'
                  go_simp
                  with_reducible rfl
                rotate_left
                · simp only [Act.put, List.setIfInBounds_toArray, List.set_cons_zero, List.set_cons_succ, i64_w, i32_w]
                  rfl
                refine pure_ (i := 2) (N := some 12) (v := ?_) (a' := ?_) #[true, true, true, false, false, false, false, false, false, false, false] rfl rfl (any_of HT_.out (by kernel_rfl)) (fun _ _ _ h => h) (Or.inl ⟨by rfl, ?_⟩) ?_ ?_
                rotate_left
                · intro w'
                  go_simp
                  with_reducible rfl
                rotate_left
                · simp only [Act.put, List.setIfInBounds_toArray, List.set_cons_zero, List.set_cons_succ, i64_w, i32_w]
                  rfl
                refine pure_ (i := 3) (N := some 13) (v := ?_) (a' := ?_) #[true, true, true, true, false, false, false, false, false, false, false] rfl rfl (any_of HT_.out (by kernel_rfl)) (fun _ _ _ h => h) (Or.inl ⟨by rfl, ?_⟩) ?_ ?_
                rotate_left
                · intro w'
                  go_simp
                  with_reducible rfl
                rotate_left
                · simp only [Act.put, List.setIfInBounds_toArray, List.set_cons_zero, List.set_cons_succ, i64_w, i32_w]
                  rfl
                refine pure_ (i := 5) (N := some 15) (v := ?_) (a' := ?_) #[true, true, true, true, false, true, false, false, false, false, false] rfl rfl (any_of HT_.out (by kernel_rfl)) (fun _ _ _ h => h) (Or.inl ⟨by rfl, ?_⟩) ?_ ?_
                rotate_left
                · intro w'
                  go_simp
                  with_reducible rfl
                rotate_left
                · simp only [Act.put, List.setIfInBounds_toArray, List.set_cons_zero, List.set_cons_succ, i64_w, i32_w]
                  rfl
                refine pure_ (i := 6) (N := some 16) (v := ?_) (a' := ?_) #[true, true, true, true, false, true, true, false, false, false, false] rfl rfl (any_of HT_.out (by kernel_rfl)) (fun _ _ _ h => h) (Or.inl ⟨by rfl, ?_⟩) ?_ ?_
                rotate_left
                · intro w'
                  go_simp
                  with_reducible rfl
                rotate_left
                · simp only [Act.put, List.setIfInBounds_toArray, List.set_cons_zero, List.set_cons_succ, i64_w, i32_w]
                  rfl
                refine pure_ (i := 7) (N := some 17) (v := ?_) (a' := ?_) #[true, true, true, true, false, true, true, true, false, false, false] rfl rfl (any_of HT_.out (by kernel_rfl)) (fun _ _ _ h => h) (Or.inl ⟨by rfl, ?_⟩) ?_ ?_
                rotate_left
                · intro w'
                  go_simp
                  with_reducible rfl
                rotate_left
                · simp only [Act.put, List.setIfInBounds_toArray, List.set_cons_zero, List.set_cons_succ, i64_w, i32_w]
                  rfl
                refine take_ (i := 4) (N := some 14) (v := ?_) (a' := ?_) #[true, true, true, true, true, true, true, true, false, false, false] rfl rfl (take_ofW HT_.out HW_.out (by kernel_rfl)) (fun _ _ _ h => h) (Or.inl ⟨by rfl, ?_⟩) hHeld ?_ ?_
                rotate_left
                · rintro w' ⟨s0, s1, s2, s3, s4, s5⟩
                  go_simp
                  with_reducible rfl
                rotate_left
                · simp only [Act.put, List.setIfInBounds_toArray, List.set_cons_zero, List.set_cons_succ, i64_w, i32_w]
                  rfl
                refine take_ (i := 8) (N := some 18) (v := ?_) (a' := ?_) #[true, true, true, true, true, true, true, true, true, false, false] rfl rfl (take_ofW HT_.out HW_.out (by kernel_rfl)) (fun _ _ _ h => h) (Or.inl ⟨by rfl, ?_⟩) hHeld ?_ ?_
                rotate_left
                · rintro w' ⟨s0, s1, s2, s3, s4, s5⟩
                  go_simp
                  with_reducible rfl
                rotate_left
                · simp only [Act.put, List.setIfInBounds_toArray, List.set_cons_zero, List.set_cons_succ, i64_w, i32_w]
                  rfl
                refine one_ (i := 9) (N := some 19) #[true, true, true, true, true, true, true, true, true, true, false] rfl rfl (one_of HT_.out (by kernel_rfl)) (by decide) (fun K hK => ?_)
                refine goes_ Try.func115 (by kernel_rfl) rfl #[.agg #[.string ((rd_T69 l0 (ji3)).f0), .string ((rd_T69 l0 (ji3)).f1), .int .i64 ((rd_T69 l0 (ji3)).f2)], .agg #[.string ((rd_T69 l0 x3_1).f0), .string ((rd_T69 l0 x3_1).f1), .int .i64 ((rd_T69 l0 x3_1).f2)]] (by rfl) rfl rfl (by (try simp only [List.map_toArray, List.map_cons, List.map_nil]); first | done | (simp only [hji3]; rfl) | rfl | (simp only [List.length_drop, List.length_take]; rfl)) ?_
                with_reducible refine (heliastref13_order.calls k1 ((rd_T69 l0 (ji3)).f0) ((rd_T69 l0 (ji3)).f1) ((rd_T69 l0 (ji3)).f2) ((rd_T69 l0 x3_1).f0) ((rd_T69 l0 x3_1).f1) ((rd_T69 l0 x3_1).f2) t296 _ A7.out).mono ?_
                rintro e w10 ⟨rfl, hb⟩
                refine ⟨_, rfl, ?_⟩
                have n0_ := Aside0.mk (below_step (by repeat (first | (with_reducible first | exact HB.out | apply below_alloc | apply pw_below_drewN | apply below_drew1) | exact HB.out)) hb)
                clear HB
                have HB := n0_
                clear n0_
                (try clear hb)
                (try clear hb2)
                (try clear hk)
                (try clear hi)
                refine hK.out _ _ ⟨((HB.out.cell (World.block_lt_of_cell? w _ hw294_0)).trans hw294_0), ((HB.out.cell (World.block_lt_of_cell? w _ hw294_1)).trans hw294_1), ((HB.out.cell (World.block_lt_of_cell? w _ hw294_2)).trans hw294_2), ((HB.out.cell (World.block_lt_of_cell? w _ hw295_0)).trans hw295_0), ((HB.out.cell (World.block_lt_of_cell? w _ hw295_1)).trans hw295_1), ((HB.out.cell (World.block_lt_of_cell? w _ hw295_2)).trans hw295_2)⟩ (fun hHeld => ?_)
                clear hK K
                refine norm_ (a' := ?_) ?_ ?_
                rotate_left
                · show Act.put _ (some 19) _ = _
                  simp only [Act.put, List.setIfInBounds_toArray, List.set_cons_zero, List.set_cons_succ, i64_w, i32_w]
                  rfl
                refine pure_ (i := 10) (N := some 20) (v := ?_) (a' := ?_) #[true, true, true, true, true, true, true, true, true, true, true] rfl rfl (any_of HT_.out (by kernel_rfl)) (fun _ _ _ h => h) (Or.inl ⟨by rfl, ?_⟩) ?_ ?_
                rotate_left
                · intro w'
                  go_simp
                  with_reducible rfl
                rotate_left
                · simp only [Act.put, List.setIfInBounds_toArray, List.set_cons_zero, List.set_cons_succ, i64_w, i32_w]
                  rfl
                refine done_ (done_of HT_.out (by kernel_rfl)) ?_
                try go_wp2
                go_ret
                exact ⟨by first | rfl | (simp [errW_none, errW_some] <;> rfl) | (simp only [← hji3]; first | rfl | (simp [errW_none, errW_some] <;> rfl)) | (simp [*, errW_none, errW_some] <;> rfl), by repeat (first | (with_reducible first | exact HB.out | apply below_alloc | apply pw_below_drewN | apply below_drew1) | exact HB.out)⟩
              · rw [if_neg c8] at H
                have c8b0 : decide (0 ≤ t296) = false := decide_eq_false c8
                clear c8
                have H' := Aside0.mk H
                clear H
                try go_wp2
                have n0_ := Aside0.mk (below_drew1 HB.out)
                clear HB
                have HB := n0_
                clear n0_
                have p294 : 0 ≤ ((ji3) : Int) := of_decide_eq_true (by first | (with_reducible assumption) | assumption)
                have q294 : (ji3) < (l0.length : Int) := of_decide_eq_true (by first | (with_reducible assumption) | assumption)
                obtain ⟨ad294, e294, hx294_0, hx294_1, hx294_2⟩ := at_T69 HR0.out (ji3) p294 q294
                have hw294_2 := hx294_2
                have hw294_1 := hx294_1
                have hw294_0 := hx294_0
                cases e294
                replace hx294_0 := (HB.out.cell (World.block_lt_of_cell? w _ hx294_0)).trans hx294_0
                replace hx294_1 := (HB.out.cell (World.block_lt_of_cell? w _ hx294_1)).trans hx294_1
                replace hx294_2 := (HB.out.cell (World.block_lt_of_cell? w _ hx294_2)).trans hx294_2
                replace p294 := eq_true p294
                replace q294 := eq_true q294
                have p295 : 0 ≤ (x3_1 : Int) := of_decide_eq_true (by first | (with_reducible assumption) | assumption)
                have q295 : x3_1 < (l0.length : Int) := of_decide_eq_true (by first | (with_reducible assumption) | assumption)
                obtain ⟨ad295, e295, hx295_0, hx295_1, hx295_2⟩ := at_T69 HR0.out x3_1 p295 q295
                have hw295_2 := hx295_2
                have hw295_1 := hx295_1
                have hw295_0 := hx295_0
                obtain rfl : ad294 = ad295 := (by injection e295)
                replace hx295_0 := (HB.out.cell (World.block_lt_of_cell? w _ hx295_0)).trans hx295_0
                replace hx295_1 := (HB.out.cell (World.block_lt_of_cell? w _ hx295_1)).trans hx295_1
                replace hx295_2 := (HB.out.cell (World.block_lt_of_cell? w _ hx295_2)).trans hx295_2
                replace p295 := eq_true p295
                replace q295 := eq_true q295
                refine start_ (n := 11) (S := fun w' => w'.cell? (ad294.add (((ji3)).toNat * 3)) = some (.string ((rd_T69 l0 (ji3)).f0)) ∧ w'.cell? ⟨(ad294.add (((ji3)).toNat * 3)).block, (ad294.add (((ji3)).toNat * 3)).off + 1, none⟩ = some (.string ((rd_T69 l0 (ji3)).f1)) ∧ w'.cell? ⟨(ad294.add (((ji3)).toNat * 3)).block, (ad294.add (((ji3)).toNat * 3)).off + 2, none⟩ = some (.int .i64 ((rd_T69 l0 (ji3)).f2)) ∧ w'.cell? (ad294.add ((x3_1).toNat * 3)) = some (.string ((rd_T69 l0 x3_1).f0)) ∧ w'.cell? ⟨(ad294.add ((x3_1).toNat * 3)).block, (ad294.add ((x3_1).toNat * 3)).off + 1, none⟩ = some (.string ((rd_T69 l0 x3_1).f1)) ∧ w'.cell? ⟨(ad294.add ((x3_1).toNat * 3)).block, (ad294.add ((x3_1).toNat * 3)).off + 2, none⟩ = some (.int .i64 ((rd_T69 l0 x3_1).f2))) (ds := []) #[false, false, false, false, false, false, false, false, false, false, false] (by kernel_rfl) rfl rfl ⟨((HB.out.cell (World.block_lt_of_cell? w _ hw294_0)).trans hw294_0), ((HB.out.cell (World.block_lt_of_cell? w _ hw294_1)).trans hw294_1), ((HB.out.cell (World.block_lt_of_cell? w _ hw294_2)).trans hw294_2), ((HB.out.cell (World.block_lt_of_cell? w _ hw295_0)).trans hw295_0), ((HB.out.cell (World.block_lt_of_cell? w _ hw295_1)).trans hw295_1), ((HB.out.cell (World.block_lt_of_cell? w _ hw295_2)).trans hw295_2)⟩ (fun hHeld => ?_); refine with_tabW heliastref13_Right.tab4 heliastref13_Right.bits4 (fun HT_ HW_ => ?_)
                generalize wr.drew = w11 at HB hx294_0 hx294_1 hx294_2 hx295_0 hx295_1 hx295_2 hHeld ⊢
                refine pure_ (i := 0) (N := some 10) (v := ?_) (a' := ?_) #[true, false, false, false, false, false, false, false, false, false, false] rfl rfl (any_of HT_.out (by kernel_rfl)) (fun _ _ _ h => h) (Or.inl ⟨by rfl, ?_⟩) ?_ ?_
                rotate_left
                · intro w'
                  go_simp
                  with_reducible rfl
                rotate_left
                · simp only [Act.put, List.setIfInBounds_toArray, List.set_cons_zero, List.set_cons_succ, i64_w, i32_w]
                  rfl
                refine pure_ (i := 1) (N := some 11) (v := ?_) (a' := ?_) #[true, true, false, false, false, false, false, false, false, false, false] rfl rfl (any_of HT_.out (by kernel_rfl)) (fun _ _ _ h => h) (Or.inl ⟨by rfl, ?_⟩) ?_ ?_
                rotate_left
                · intro w'
                  go_simp
                  with_reducible rfl
                rotate_left
                · simp only [Act.put, List.setIfInBounds_toArray, List.set_cons_zero, List.set_cons_succ, i64_w, i32_w]
                  rfl
                refine pure_ (i := 2) (N := some 12) (v := ?_) (a' := ?_) #[true, true, true, false, false, false, false, false, false, false, false] rfl rfl (any_of HT_.out (by kernel_rfl)) (fun _ _ _ h => h) (Or.inl ⟨by rfl, ?_⟩) ?_ ?_
                rotate_left
                · intro w'
                  go_simp
                  with_reducible rfl
                rotate_left
                · simp only [Act.put, List.setIfInBounds_toArray, List.set_cons_zero, List.set_cons_succ, i64_w, i32_w]
                  rfl
                refine pure_ (i := 3) (N := some 13) (v := ?_) (a' := ?_) #[true, true, true, true, false, false, false, false, false, false, false] rfl rfl (any_of HT_.out (by kernel_rfl)) (fun _ _ _ h => h) (Or.inl ⟨by rfl, ?_⟩) ?_ ?_
                rotate_left
                · intro w'
                  go_simp
                  with_reducible rfl
                rotate_left
                · simp only [Act.put, List.setIfInBounds_toArray, List.set_cons_zero, List.set_cons_succ, i64_w, i32_w]
                  rfl
                refine pure_ (i := 5) (N := some 15) (v := ?_) (a' := ?_) #[true, true, true, true, false, true, false, false, false, false, false] rfl rfl (any_of HT_.out (by kernel_rfl)) (fun _ _ _ h => h) (Or.inl ⟨by rfl, ?_⟩) ?_ ?_
                rotate_left
                · intro w'
                  go_simp
                  with_reducible rfl
                rotate_left
                · simp only [Act.put, List.setIfInBounds_toArray, List.set_cons_zero, List.set_cons_succ, i64_w, i32_w]
                  rfl
                refine pure_ (i := 6) (N := some 16) (v := ?_) (a' := ?_) #[true, true, true, true, false, true, true, false, false, false, false] rfl rfl (any_of HT_.out (by kernel_rfl)) (fun _ _ _ h => h) (Or.inl ⟨by rfl, ?_⟩) ?_ ?_
                rotate_left
                · intro w'
                  go_simp
                  with_reducible rfl
                rotate_left
                · simp only [Act.put, List.setIfInBounds_toArray, List.set_cons_zero, List.set_cons_succ, i64_w, i32_w]
                  rfl
                refine pure_ (i := 7) (N := some 17) (v := ?_) (a' := ?_) #[true, true, true, true, false, true, true, true, false, false, false] rfl rfl (any_of HT_.out (by kernel_rfl)) (fun _ _ _ h => h) (Or.inl ⟨by rfl, ?_⟩) ?_ ?_
                rotate_left
                · intro w'
                  go_simp
                  with_reducible rfl
                rotate_left
                · simp only [Act.put, List.setIfInBounds_toArray, List.set_cons_zero, List.set_cons_succ, i64_w, i32_w]
                  rfl
                refine take_ (i := 4) (N := some 14) (v := ?_) (a' := ?_) #[true, true, true, true, true, true, true, true, false, false, false] rfl rfl (take_ofW HT_.out HW_.out (by kernel_rfl)) (fun _ _ _ h => h) (Or.inl ⟨by rfl, ?_⟩) hHeld ?_ ?_
                rotate_left
                · rintro w' ⟨s0, s1, s2, s3, s4, s5⟩
                  go_simp
                  with_reducible rfl
                rotate_left
                · simp only [Act.put, List.setIfInBounds_toArray, List.set_cons_zero, List.set_cons_succ, i64_w, i32_w]
                  rfl
                refine take_ (i := 8) (N := some 18) (v := ?_) (a' := ?_) #[true, true, true, true, true, true, true, true, true, false, false] rfl rfl (take_ofW HT_.out HW_.out (by kernel_rfl)) (fun _ _ _ h => h) (Or.inl ⟨by rfl, ?_⟩) hHeld ?_ ?_
                rotate_left
                · rintro w' ⟨s0, s1, s2, s3, s4, s5⟩
                  go_simp
                  with_reducible rfl
                rotate_left
                · simp only [Act.put, List.setIfInBounds_toArray, List.set_cons_zero, List.set_cons_succ, i64_w, i32_w]
                  rfl
                refine one_ (i := 9) (N := some 19) #[true, true, true, true, true, true, true, true, true, true, false] rfl rfl (one_of HT_.out (by kernel_rfl)) (by decide) (fun K hK => ?_)
                refine goes_ Try.func115 (by kernel_rfl) rfl #[.agg #[.string ((rd_T69 l0 (ji3)).f0), .string ((rd_T69 l0 (ji3)).f1), .int .i64 ((rd_T69 l0 (ji3)).f2)], .agg #[.string ((rd_T69 l0 x3_1).f0), .string ((rd_T69 l0 x3_1).f1), .int .i64 ((rd_T69 l0 x3_1).f2)]] (by rfl) rfl rfl (by (try simp only [List.map_toArray, List.map_cons, List.map_nil]); first | done | (simp only [hji3]; rfl) | rfl | (simp only [List.length_drop, List.length_take]; rfl)) ?_
                with_reducible refine (heliastref13_order.calls k1 ((rd_T69 l0 (ji3)).f0) ((rd_T69 l0 (ji3)).f1) ((rd_T69 l0 (ji3)).f2) ((rd_T69 l0 x3_1).f0) ((rd_T69 l0 x3_1).f1) ((rd_T69 l0 x3_1).f2) t296 _ A7.out).mono ?_
                rintro e w12 ⟨rfl, hb⟩
                refine ⟨_, rfl, ?_⟩
                have n0_ := Aside0.mk (below_step (by repeat (first | (with_reducible first | exact HB.out | apply below_alloc | apply pw_below_drewN | apply below_drew1) | exact HB.out)) hb)
                clear HB
                have HB := n0_
                clear n0_
                (try clear hb)
                (try clear hb2)
                (try clear hk)
                (try clear hi)
                refine hK.out _ _ ⟨((HB.out.cell (World.block_lt_of_cell? w _ hw294_0)).trans hw294_0), ((HB.out.cell (World.block_lt_of_cell? w _ hw294_1)).trans hw294_1), ((HB.out.cell (World.block_lt_of_cell? w _ hw294_2)).trans hw294_2), ((HB.out.cell (World.block_lt_of_cell? w _ hw295_0)).trans hw295_0), ((HB.out.cell (World.block_lt_of_cell? w _ hw295_1)).trans hw295_1), ((HB.out.cell (World.block_lt_of_cell? w _ hw295_2)).trans hw295_2)⟩ (fun hHeld => ?_)
                clear hK K
                refine norm_ (a' := ?_) ?_ ?_
                rotate_left
                · show Act.put _ (some 19) _ = _
                  simp only [Act.put, List.setIfInBounds_toArray, List.set_cons_zero, List.set_cons_succ, i64_w, i32_w]
                  rfl
                refine pure_ (i := 10) (N := some 20) (v := ?_) (a' := ?_) #[true, true, true, true, true, true, true, true, true, true, true] rfl rfl (any_of HT_.out (by kernel_rfl)) (fun _ _ _ h => h) (Or.inl ⟨by rfl, ?_⟩) ?_ ?_
                rotate_left
                · intro w'
                  go_simp
                  with_reducible rfl
                rotate_left
                · simp only [Act.put, List.setIfInBounds_toArray, List.set_cons_zero, List.set_cons_succ, i64_w, i32_w]
                  rfl
                refine done_ (done_of HT_.out (by kernel_rfl)) ?_
                try go_wp2
                go_roundg k1
                case measure => have := HK1.out; omega
                case rel => exact ⟨(wrap64 (x3_1 + 1)), (by first | rfl | (simp; done) | (simp [*]; done)), H', ⟨by have := HK1.out; omega⟩, ⟨by repeat (first | (with_reducible first | exact HB.out | apply below_alloc | apply pw_below_drewN | apply below_drew1) | exact HB.out)⟩⟩
            · rw [if_neg c6] at H
              exact absurd H (by simp)
          · rw [if_neg c5] at H
            exact absurd H (by simp)
        · rw [if_neg c4] at H
          exact absurd H (by simp)
      · rw [if_neg c2] at H
        have c2b0 : decide (x3_1 < (l0.length : Int)) = false := decide_eq_false c2
        clear c2
        obtain rfl := Option.some.inj H
        go_wp2
        go_ret
        exact ⟨by first | rfl | (simp [errW_none, errW_some] <;> rfl) | (simp [*, errW_none, errW_some] <;> rfl), by repeat (first | (with_reducible first | exact HB.out | apply below_alloc | apply pw_below_drewN | apply below_drew1) | exact HB.out)⟩
mutual
def heliastlaw16_heavy.l0 : Nat → List (List (S69)) → Int → Int → Option (Bool)
  | 0, _, _, _ => none
  | k + 1, x0, x3, x4 => if x4 < (x0.length : Int) then (heliastlaw16_heavy.j1 k x0 x3 x4 (decide (x3 ≤ 200))) else (heliastlaw16_heavy.j1 k x0 x3 x4 false)
def heliastlaw16_heavy.j1 : Nat → List (List (S69)) → Int → Int → Bool → Option (Bool)
  | 0, _, _, _, _ => none
  | k + 1, x0, x3, x4, x13 => if x13 = true then (heliastlaw16_heavy.l1 k x0 (wrap64 (x3 + 1)) x4 0) else (some (decide (x3 > 200)))
def heliastlaw16_heavy.l1 : Nat → List (List (S69)) → Int → Int → Int → Option (Bool)
  | 0, _, _, _, _ => none
  | k + 1, x0, x3, x4, x5 => if 0 ≤ x4 then (if x4 < (x0.length : Int) then (if x5 < ((rd_L4 x0 x4).length : Int) then (if x3 ≤ 200 then (if 0 ≤ x5 then (heliastlaw16_heavy.l1 k x0 (wrap64 (x3 + (wrap64 ((wrap64 (1 + (((rd_T69 (rd_L4 x0 x4) x5).f0).size : Int))) + (((rd_T69 (rd_L4 x0 x4) x5).f1).size : Int))))) x4 (wrap64 (x5 + 1))) else (none)) else (heliastlaw16_heavy.l0 k x0 x3 (wrap64 (x4 + 1)))) else (if x3 ≤ 200 then ((heliastref13_Right.f k (rd_L4 x0 x4)).bind fun t303 => (if t303 = true then (heliastlaw16_heavy.l0 k x0 x3 (wrap64 (x4 + 1))) else (some true))) else (heliastlaw16_heavy.l0 k x0 x3 (wrap64 (x4 + 1))))) else (none)) else (none)
end
def heliastlaw16_heavy.f (k : Nat) (l0 : List (List (S69))) : Option (Bool) := heliastlaw16_heavy.l0 k l0 0 0
theorem heliastlaw16_heavy.mono_l : ∀ k, (∀ y0 y1 y2, LeO (heliastlaw16_heavy.l0 k y0 y1 y2) (heliastlaw16_heavy.l0 (k + 1) y0 y1 y2)) ∧ (∀ y0 y1 y2 y3, LeO (heliastlaw16_heavy.j1 k y0 y1 y2 y3) (heliastlaw16_heavy.j1 (k + 1) y0 y1 y2 y3)) ∧ (∀ y0 y1 y2 y3, LeO (heliastlaw16_heavy.l1 k y0 y1 y2 y3) (heliastlaw16_heavy.l1 (k + 1) y0 y1 y2 y3))
  | 0 => ⟨fun _ _ _ r h => by simp [heliastlaw16_heavy.l0] at h, fun _ _ _ _ r h => by simp [heliastlaw16_heavy.j1] at h, fun _ _ _ _ r h => by simp [heliastlaw16_heavy.l1] at h⟩
  | k + 1 => by
    obtain ⟨ih0, ih1, ih2⟩ := heliastlaw16_heavy.mono_l k
    refine ⟨?_, ?_, ?_⟩
    · intro y0 y1 y2
      unfold heliastlaw16_heavy.l0
      repeat' first
      | (with_reducible exact ih0 _ _ _)
      | (with_reducible exact ih1 _ _ _ _)
      | (with_reducible exact ih2 _ _ _ _)
      | (with_reducible exact heliastref13_Right.mono _ _)
      | (with_reducible exact LeO.refl _)
      | (with_reducible exact LeO.none _)
      | (with_reducible refine LeO.ite ?_ ?_)
      | (with_reducible refine LeO.bind ?_ (fun _ => ?_))
      | exact ih0 _ _ _
      | exact ih1 _ _ _ _
      | exact ih2 _ _ _ _
      | exact heliastref13_Right.mono _ _
      | exact LeO.none _
      | refine LeO.ite ?_ ?_
      | refine LeO.bind ?_ (fun _ => ?_)
    · intro y0 y1 y2 y3
      unfold heliastlaw16_heavy.j1
      repeat' first
      | (with_reducible exact ih0 _ _ _)
      | (with_reducible exact ih1 _ _ _ _)
      | (with_reducible exact ih2 _ _ _ _)
      | (with_reducible exact heliastref13_Right.mono _ _)
      | (with_reducible exact LeO.refl _)
      | (with_reducible exact LeO.none _)
      | (with_reducible refine LeO.ite ?_ ?_)
      | (with_reducible refine LeO.bind ?_ (fun _ => ?_))
      | exact ih0 _ _ _
      | exact ih1 _ _ _ _
      | exact ih2 _ _ _ _
      | exact heliastref13_Right.mono _ _
      | exact LeO.none _
      | refine LeO.ite ?_ ?_
      | refine LeO.bind ?_ (fun _ => ?_)
    · intro y0 y1 y2 y3
      unfold heliastlaw16_heavy.l1
      repeat' first
      | (with_reducible exact ih0 _ _ _)
      | (with_reducible exact ih1 _ _ _ _)
      | (with_reducible exact ih2 _ _ _ _)
      | (with_reducible exact heliastref13_Right.mono _ _)
      | (with_reducible exact LeO.refl _)
      | (with_reducible exact LeO.none _)
      | (with_reducible refine LeO.ite ?_ ?_)
      | (with_reducible refine LeO.bind ?_ (fun _ => ?_))
      | exact ih0 _ _ _
      | exact ih1 _ _ _ _
      | exact ih2 _ _ _ _
      | exact heliastref13_Right.mono _ _
      | exact LeO.none _
      | refine LeO.ite ?_ ?_
      | refine LeO.bind ?_ (fun _ => ?_)
theorem heliastlaw16_heavy.mono : ∀ a0 k, LeO (heliastlaw16_heavy.f k a0) (heliastlaw16_heavy.f (k + 1) a0) := by
  intro a0 k
  obtain ⟨ih0, ih1, ih2⟩ := heliastlaw16_heavy.mono_l k
  unfold heliastlaw16_heavy.f
  repeat' first
      | (with_reducible exact ih0 _ _ _)
      | (with_reducible exact ih1 _ _ _ _)
      | (with_reducible exact ih2 _ _ _ _)
      | (with_reducible exact heliastref13_Right.mono _ _)
      | (with_reducible exact LeO.refl _)
      | (with_reducible exact LeO.none _)
      | (with_reducible refine LeO.ite ?_ ?_)
      | (with_reducible refine LeO.bind ?_ (fun _ => ?_))
      | exact ih0 _ _ _
      | exact ih1 _ _ _ _
      | exact ih2 _ _ _ _
      | exact heliastref13_Right.mono _ _
      | exact LeO.none _
      | refine LeO.ite ?_ ?_
      | refine LeO.bind ?_ (fun _ => ?_)
set_option maxHeartbeats 8000000 in
set_option maxRecDepth 100000 in
theorem heliastlaw16_heavy.calls (k : Nat) (A0 : Option Addr) (c0 : Nat) (l0 : List (List (S69))) (r : Bool) (w : World) (hr0 : Kd.C (Kd.slice 69 k69) w A0 l0.length l0) (hc0 : l0.length ≤ c0) (h : heliastlaw16_heavy.f k l0 = some r) :
    Calls Try.prog 43 #[.slice A0 l0.length c0] w fun e w' => e = .returned (.bool r) ∧ Below w.heap.size w w' := by
  have HR0 := Aside0.mk hr0
  have HC0 := Aside0.mk hc0
  clear hr0 hc0
  have HB := Aside0.mk (Below.refl w.heap.size w)
  have H : (heliastlaw16_heavy.l0 k l0 0 0) = some r := h
  clear h
  have H' := Aside0.mk H
  clear H
  go_enter Try.func43, Try.ntmps43
  go_wp2
  repeat (go_quiet (fail); try go_wp2)
  go_loopg [3, 4] k (fun kq v3 v4 w' => ∃ (x3_1 : Int) (x4_1 : Int), v3 = .int .i64 x3_1 ∧ v4 = .int .i64 x4_1 ∧ Aside0 (heliastlaw16_heavy.l0 kq l0 x3_1 x4_1 = some r) ∧ Aside0 (kq ≤ k) ∧ Aside0 (Below w.heap.size w w'))
  case atStart => exact ⟨(0), (0), (by first | rfl | (simp; done) | (simp [*]; done)), (by first | rfl | (simp; done) | (simp [*]; done)), H', ⟨Nat.le_refl _⟩, ⟨by repeat (first | (with_reducible first | exact HB.out | apply below_alloc | apply pw_below_drewN | apply below_drew1) | exact HB.out)⟩⟩
  case round =>
    clear H'
    obtain ⟨x3_1, x4_1, rfl, rfl, HA, HK1, HB⟩ := hrel
    cases gk with
    | zero => exact absurd HA.out (by simp [heliastlaw16_heavy.l0])
    | succ k1 =>
      have H := HA.out
      clear HA
      simp only [heliastlaw16_heavy.l0] at H
      have HC2 := Aside0.mk H
      clear H
      go_upto_region 3 with (fail)
      repeat (go_quiet (fail); go_upto_region 3 with (fail))
      go_cut [13] (fun v13 wc => ∃ (kq : Nat) (x13_1 : Bool), v13 = .bool x13_1 ∧ Aside0 (heliastlaw16_heavy.j1 kq l0 x3_1 x4_1 x13_1 = some r) ∧ Aside0 (kq ≤ k1) ∧ Aside0 (Below w.heap.size w wc))
      case first =>
        have H := HC2.out
        clear HC2
        by_cases c3 : x4_1 < (l0.length : Int)
        · rw [if_pos c3] at H
          have c3b0 : decide (x4_1 < (l0.length : Int)) = true := decide_eq_true c3
          clear c3
          (first | rw [c3b0] | (simp only [i64_w, i32_w]; rw [c3b0]) | skip)
          have H' := Aside0.mk H
          clear H
          go_wp2
          repeat (go_quiet (fail); try go_wp2)
          go_meet
          case rel => exact ⟨_, (decide (x3_1 ≤ 200)), (by first | rfl | (simp; done) | (simp [*]; done)), H', ⟨by have := HK1.out; first | omega | exact Nat.le_refl _⟩, ⟨by repeat (first | (with_reducible first | exact HB.out | apply below_alloc | apply pw_below_drewN | apply below_drew1) | exact HB.out)⟩⟩
        · rw [if_neg c3] at H
          have c3b0 : decide (x4_1 < (l0.length : Int)) = false := decide_eq_false c3
          clear c3
          (first | rw [c3b0] | (simp only [i64_w, i32_w]; rw [c3b0]) | skip)
          have H' := Aside0.mk H
          clear H
          go_wp2
          repeat (go_quiet (fail); try go_wp2)
          go_meet
          case rel => exact ⟨_, (false), (by first | rfl | (simp; done) | (simp [*]; done)), H', ⟨by have := HK1.out; first | omega | exact Nat.le_refl _⟩, ⟨by repeat (first | (with_reducible first | exact HB.out | apply below_alloc | apply pw_below_drewN | apply below_drew1) | exact HB.out)⟩⟩
      case rest =>
        clear HC2
        try clear p2
        try clear c3
        try clear c3b0
        obtain ⟨kq, x13_1, rfl, HA, HJ1, HB⟩ := hcut
        cases kq with
        | zero => exact absurd HA.out (by simp [heliastlaw16_heavy.j1])
        | succ kj1 =>
          have H := HA.out
          clear HA
          simp only [heliastlaw16_heavy.j1] at H
          by_cases c4 : x13_1 = true
          · subst c4
            have H1 : (heliastlaw16_heavy.l1 kj1 l0 (wrap64 (x3_1 + 1)) x4_1 0) = some r := by rw [if_pos rfl] at H; exact H
            clear H
            have H := H1
            clear H1
            have H' := Aside0.mk H
            clear H
            go_wp2
            repeat (go_quiet (fail); try go_wp2)
            go_loopg [3, 5] kj1 (fun kq v3 v5 w' => ∃ (x3_3 : Int) (x5_3 : Int), v3 = .int .i64 x3_3 ∧ v5 = .int .i64 x5_3 ∧ Aside0 (heliastlaw16_heavy.l1 kq l0 x3_3 x4_1 x5_3 = some r) ∧ Aside0 (kq ≤ kj1) ∧ Aside0 (Below w.heap.size w w'))
            case atStart => exact ⟨(wrap64 (x3_1 + 1)), (0), (by first | rfl | (simp; done) | (simp [*]; done)), (by first | rfl | (simp; done) | (simp [*]; done)), H', ⟨Nat.le_refl _⟩, ⟨by repeat (first | (with_reducible first | exact HB.out | apply below_alloc | apply pw_below_drewN | apply below_drew1) | exact HB.out)⟩⟩
            case round =>
              clear H'
              try clear p2
              try clear c3
              try clear c3b0
              try clear c4
              try clear p2
              obtain ⟨x3_3, x5_3, rfl, rfl, HA, HK3, HB⟩ := hrel
              cases gk with
              | zero => exact absurd HA.out (by simp [heliastlaw16_heavy.l1])
              | succ k3 =>
                have H := HA.out
                clear HA
                simp only [heliastlaw16_heavy.l1] at H
                by_cases c5 : 0 ≤ x4_1
                · rw [if_pos c5] at H
                  have c5b0 : decide (0 ≤ x4_1) = true := decide_eq_true c5
                  clear c5
                  by_cases c6 : x4_1 < (l0.length : Int)
                  · rw [if_pos c6] at H
                    have c6b0 : decide (x4_1 < (l0.length : Int)) = true := decide_eq_true c6
                    clear c6
                    by_cases c7 : x5_3 < ((rd_L4 l0 x4_1).length : Int)
                    · rw [if_pos c7] at H
                      have c7b0 : decide (x5_3 < ((rd_L4 l0 x4_1).length : Int)) = true := decide_eq_true c7
                      clear c7
                      by_cases c8 : x3_3 ≤ 200
                      · rw [if_pos c8] at H
                        have c8b0 : decide (x3_3 ≤ 200) = true := decide_eq_true c8
                        clear c8
                        by_cases c9 : 0 ≤ x5_3
                        · rw [if_pos c9] at H
                          have c9b0 : decide (0 ≤ x5_3) = true := decide_eq_true c9
                          clear c9
                          have H' := Aside0.mk H
                          clear H
                          have p297 : 0 ≤ (x4_1 : Int) := of_decide_eq_true (by first | (with_reducible assumption) | assumption)
                          have q297 : x4_1 < (l0.length : Int) := of_decide_eq_true (by first | (with_reducible assumption) | assumption)
                          obtain ⟨ad297, A297_0, c297_0, e297, hx297_0, hl297_0, hi297_0⟩ := at_L4 HR0.out x4_1 p297 q297
                          cases e297
                          replace hx297_0 := (HB.out.cell (World.block_lt_of_cell? w _ hx297_0)).trans hx297_0
                          have HR297_0 := Aside0.mk hi297_0
                          have HC297_0 := Aside0.mk hl297_0
                          clear hi297_0 hl297_0
                          replace p297 := eq_true p297
                          replace q297 := eq_true q297
                          have p298 : 0 ≤ (x4_1 : Int) := of_decide_eq_true (by first | (with_reducible assumption) | assumption)
                          have q298 : x4_1 < (l0.length : Int) := of_decide_eq_true (by first | (with_reducible assumption) | assumption)
                          obtain ⟨ad298, A298_0, c298_0, e298, hx298_0, hl298_0, hi298_0⟩ := at_L4 HR0.out x4_1 p298 q298
                          obtain rfl : ad297 = ad298 := (by injection e298)
                          replace hx298_0 := (HB.out.cell (World.block_lt_of_cell? w _ hx298_0)).trans hx298_0
                          have HR298_0 := Aside0.mk hi298_0
                          have HC298_0 := Aside0.mk hl298_0
                          clear hi298_0 hl298_0
                          replace p298 := eq_true p298
                          replace q298 := eq_true q298
                          have ea_ := Option.some.inj (hx297_0.symm.trans hx298_0)
                          injection ea_ with ea_ en_ ec_
                          subst ea_
                          subst ec_
                          clear en_
                          have p299 : 0 ≤ (x5_3 : Int) := of_decide_eq_true (by first | (with_reducible assumption) | assumption)
                          have q299 : x5_3 < ((rd_L4 l0 x4_1).length : Int) := of_decide_eq_true (by first | (with_reducible assumption) | assumption)
                          obtain ⟨ad299, e299, hx299_0, hx299_1, hx299_2⟩ := at_T69 HR298_0.out x5_3 p299 q299
                          cases e299
                          replace hx299_0 := (HB.out.cell (World.block_lt_of_cell? w _ hx299_0)).trans hx299_0
                          replace hx299_1 := (HB.out.cell (World.block_lt_of_cell? w _ hx299_1)).trans hx299_1
                          replace hx299_2 := (HB.out.cell (World.block_lt_of_cell? w _ hx299_2)).trans hx299_2
                          replace p299 := eq_true p299
                          replace q299 := eq_true q299
                          have p300 : 0 ≤ (x4_1 : Int) := of_decide_eq_true (by first | (with_reducible assumption) | assumption)
                          have q300 : x4_1 < (l0.length : Int) := of_decide_eq_true (by first | (with_reducible assumption) | assumption)
                          obtain ⟨ad300, A300_0, c300_0, e300, hx300_0, hl300_0, hi300_0⟩ := at_L4 HR0.out x4_1 p300 q300
                          obtain rfl : ad297 = ad300 := (by injection e300)
                          replace hx300_0 := (HB.out.cell (World.block_lt_of_cell? w _ hx300_0)).trans hx300_0
                          have HR300_0 := Aside0.mk hi300_0
                          have HC300_0 := Aside0.mk hl300_0
                          clear hi300_0 hl300_0
                          replace p300 := eq_true p300
                          replace q300 := eq_true q300
                          have ea_ := Option.some.inj (hx297_0.symm.trans hx300_0)
                          injection ea_ with ea_ en_ ec_
                          subst ea_
                          subst ec_
                          clear en_
                          have p301 : 0 ≤ (x5_3 : Int) := of_decide_eq_true (by first | (with_reducible assumption) | assumption)
                          have q301 : x5_3 < ((rd_L4 l0 x4_1).length : Int) := of_decide_eq_true (by first | (with_reducible assumption) | assumption)
                          obtain ⟨ad301, e301, hx301_0, hx301_1, hx301_2⟩ := at_T69 HR300_0.out x5_3 p301 q301
                          cases e301
                          replace hx301_0 := (HB.out.cell (World.block_lt_of_cell? w _ hx301_0)).trans hx301_0
                          replace hx301_1 := (HB.out.cell (World.block_lt_of_cell? w _ hx301_1)).trans hx301_1
                          replace hx301_2 := (HB.out.cell (World.block_lt_of_cell? w _ hx301_2)).trans hx301_2
                          replace p301 := eq_true p301
                          replace q301 := eq_true q301
                          go_wp2
                          repeat (go_quiet (fail); try go_wp2)
                          go_roundg k3
                          case measure => have := HK1.out; have := HJ1.out; have := HK3.out; omega
                          case rel => exact ⟨(wrap64 (x3_3 + (wrap64 ((wrap64 (1 + (((rd_T69 (rd_L4 l0 x4_1) x5_3).f0).size : Int))) + (((rd_T69 (rd_L4 l0 x4_1) x5_3).f1).size : Int))))), (wrap64 (x5_3 + 1)), (by first | rfl | (simp; done) | (simp [*]; done)), (by first | rfl | (simp; done) | (simp [*]; done)), H', ⟨by have := HK1.out; have := HJ1.out; have := HK3.out; omega⟩, ⟨by repeat (first | (with_reducible first | exact HB.out | apply below_alloc | apply pw_below_drewN | apply below_drew1) | exact HB.out)⟩⟩
                        · rw [if_neg c9] at H
                          exact absurd H (by simp)
                      · rw [if_neg c8] at H
                        have c8b0 : decide (x3_3 ≤ 200) = false := decide_eq_false c8
                        clear c8
                        have H' := Aside0.mk H
                        clear H
                        have p297 : 0 ≤ (x4_1 : Int) := of_decide_eq_true (by first | (with_reducible assumption) | assumption)
                        have q297 : x4_1 < (l0.length : Int) := of_decide_eq_true (by first | (with_reducible assumption) | assumption)
                        obtain ⟨ad297, A297_0, c297_0, e297, hx297_0, hl297_0, hi297_0⟩ := at_L4 HR0.out x4_1 p297 q297
                        cases e297
                        replace hx297_0 := (HB.out.cell (World.block_lt_of_cell? w _ hx297_0)).trans hx297_0
                        have HR297_0 := Aside0.mk hi297_0
                        have HC297_0 := Aside0.mk hl297_0
                        clear hi297_0 hl297_0
                        replace p297 := eq_true p297
                        replace q297 := eq_true q297
                        go_wp2
                        repeat (go_quiet (fail); try go_wp2)
                        go_roundg k3
                        case measure => have := HK1.out; have := HJ1.out; have := HK3.out; omega
                        case rel => exact ⟨(x3_3), (wrap64 (x4_1 + 1)), (by first | rfl | (simp; done) | (simp [*]; done)), (by first | rfl | (simp; done) | (simp [*]; done)), H', ⟨by have := HK1.out; have := HJ1.out; have := HK3.out; omega⟩, ⟨by repeat (first | (with_reducible first | exact HB.out | apply below_alloc | apply pw_below_drewN | apply below_drew1) | exact HB.out)⟩⟩
                    · rw [if_neg c7] at H
                      have c7b0 : decide (x5_3 < ((rd_L4 l0 x4_1).length : Int)) = false := decide_eq_false c7
                      clear c7
                      by_cases c10 : x3_3 ≤ 200
                      · rw [if_pos c10] at H
                        have c10b0 : decide (x3_3 ≤ 200) = true := decide_eq_true c10
                        clear c10
                        replace H := Option.bind_eq_some_iff.mp H
                        obtain ⟨t303, A110, H⟩ := H
                        replace H : (if t303 = true then (heliastlaw16_heavy.l0 k3 l0 x3_3 (wrap64 (x4_1 + 1))) else (some true)) = some r := H
                        have A11 := Aside0.mk A110
                        clear A110
                        by_cases c12 : t303 = true
                        · subst c12
                          have H1 : (heliastlaw16_heavy.l0 k3 l0 x3_3 (wrap64 (x4_1 + 1))) = some r := by rw [if_pos rfl] at H; exact H
                          clear H
                          have H := H1
                          clear H1
                          have H' := Aside0.mk H
                          clear H
                          have p297 : 0 ≤ (x4_1 : Int) := of_decide_eq_true (by first | (with_reducible assumption) | assumption)
                          have q297 : x4_1 < (l0.length : Int) := of_decide_eq_true (by first | (with_reducible assumption) | assumption)
                          obtain ⟨ad297, A297_0, c297_0, e297, hx297_0, hl297_0, hi297_0⟩ := at_L4 HR0.out x4_1 p297 q297
                          cases e297
                          replace hx297_0 := (HB.out.cell (World.block_lt_of_cell? w _ hx297_0)).trans hx297_0
                          have HR297_0 := Aside0.mk hi297_0
                          have HC297_0 := Aside0.mk hl297_0
                          clear hi297_0 hl297_0
                          replace p297 := eq_true p297
                          replace q297 := eq_true q297
                          have p302 : 0 ≤ (x4_1 : Int) := of_decide_eq_true (by first | (with_reducible assumption) | assumption)
                          have q302 : x4_1 < (l0.length : Int) := of_decide_eq_true (by first | (with_reducible assumption) | assumption)
                          obtain ⟨ad302, A302_0, c302_0, e302, hx302_0, hl302_0, hi302_0⟩ := at_L4 HR0.out x4_1 p302 q302
                          obtain rfl : ad297 = ad302 := (by injection e302)
                          replace hx302_0 := (HB.out.cell (World.block_lt_of_cell? w _ hx302_0)).trans hx302_0
                          have HR302_0 := Aside0.mk hi302_0
                          have HC302_0 := Aside0.mk hl302_0
                          clear hi302_0 hl302_0
                          replace p302 := eq_true p302
                          replace q302 := eq_true q302
                          have ea_ := Option.some.inj (hx297_0.symm.trans hx302_0)
                          injection ea_ with ea_ en_ ec_
                          subst ea_
                          subst ec_
                          clear en_
                          go_wp2_with (first | (go_at_call 87; (with_reducible refine (heliastref13_Right.calls k3 _ _ (rd_L4 l0 x4_1) true _ ?side1 ?side2 A11.out).mono ?_); (case side1 => repeat (first | exact (Kd.C_below HR302_0.out HB.out) | (with_reducible refine Kd.C_alloc ?_ _) | (with_reducible refine Kd.C_drewN ?_ _) | (with_reducible refine Kd.C_drew ?_))); (case side2 => exact HC302_0.out); rintro e w13 ⟨rfl, hb⟩; have n0_ := Aside0.mk (below_step (by repeat (first | (with_reducible first | exact HB.out | apply below_alloc | apply pw_below_drewN | apply below_drew1) | exact HB.out)) hb); clear HB; have HB := n0_; clear n0_; (try clear hb); (try clear hb2); (try clear hk); (try clear hi)))
                          repeat (go_quiet (first | (go_at_call 87; (with_reducible refine (heliastref13_Right.calls k3 _ _ (rd_L4 l0 x4_1) true _ ?side1 ?side2 A11.out).mono ?_); (case side1 => repeat (first | exact (Kd.C_below HR302_0.out HB.out) | (with_reducible refine Kd.C_alloc ?_ _) | (with_reducible refine Kd.C_drewN ?_ _) | (with_reducible refine Kd.C_drew ?_))); (case side2 => exact HC302_0.out); rintro e w13 ⟨rfl, hb⟩; have n0_ := Aside0.mk (below_step (by repeat (first | (with_reducible first | exact HB.out | apply below_alloc | apply pw_below_drewN | apply below_drew1) | exact HB.out)) hb); clear HB; have HB := n0_; clear n0_; (try clear hb); (try clear hb2); (try clear hk); (try clear hi))); try go_wp2_with (first | (go_at_call 87; (with_reducible refine (heliastref13_Right.calls k3 _ _ (rd_L4 l0 x4_1) true _ ?side1 ?side2 A11.out).mono ?_); (case side1 => repeat (first | exact (Kd.C_below HR302_0.out HB.out) | (with_reducible refine Kd.C_alloc ?_ _) | (with_reducible refine Kd.C_drewN ?_ _) | (with_reducible refine Kd.C_drew ?_))); (case side2 => exact HC302_0.out); rintro e w13 ⟨rfl, hb⟩; have n0_ := Aside0.mk (below_step (by repeat (first | (with_reducible first | exact HB.out | apply below_alloc | apply pw_below_drewN | apply below_drew1) | exact HB.out)) hb); clear HB; have HB := n0_; clear n0_; (try clear hb); (try clear hb2); (try clear hk); (try clear hi))))
                          go_roundg k3
                          case measure => have := HK1.out; have := HJ1.out; have := HK3.out; omega
                          case rel => exact ⟨(x3_3), (wrap64 (x4_1 + 1)), (by first | rfl | (simp; done) | (simp [*]; done)), (by first | rfl | (simp; done) | (simp [*]; done)), H', ⟨by have := HK1.out; have := HJ1.out; have := HK3.out; omega⟩, ⟨by repeat (first | (with_reducible first | exact HB.out | apply below_alloc | apply pw_below_drewN | apply below_drew1) | exact HB.out)⟩⟩
                        · replace c12 := Bool.eq_false_iff.mpr c12
                          subst c12
                          have H1 : (some true) = some r := by rw [if_neg (show ¬ (false = true) by decide)] at H; exact H
                          clear H
                          have H := H1
                          clear H1
                          obtain rfl := Option.some.inj H
                          have p297 : 0 ≤ (x4_1 : Int) := of_decide_eq_true (by first | (with_reducible assumption) | assumption)
                          have q297 : x4_1 < (l0.length : Int) := of_decide_eq_true (by first | (with_reducible assumption) | assumption)
                          obtain ⟨ad297, A297_0, c297_0, e297, hx297_0, hl297_0, hi297_0⟩ := at_L4 HR0.out x4_1 p297 q297
                          cases e297
                          replace hx297_0 := (HB.out.cell (World.block_lt_of_cell? w _ hx297_0)).trans hx297_0
                          have HR297_0 := Aside0.mk hi297_0
                          have HC297_0 := Aside0.mk hl297_0
                          clear hi297_0 hl297_0
                          replace p297 := eq_true p297
                          replace q297 := eq_true q297
                          have p302 : 0 ≤ (x4_1 : Int) := of_decide_eq_true (by first | (with_reducible assumption) | assumption)
                          have q302 : x4_1 < (l0.length : Int) := of_decide_eq_true (by first | (with_reducible assumption) | assumption)
                          obtain ⟨ad302, A302_0, c302_0, e302, hx302_0, hl302_0, hi302_0⟩ := at_L4 HR0.out x4_1 p302 q302
                          obtain rfl : ad297 = ad302 := (by injection e302)
                          replace hx302_0 := (HB.out.cell (World.block_lt_of_cell? w _ hx302_0)).trans hx302_0
                          have HR302_0 := Aside0.mk hi302_0
                          have HC302_0 := Aside0.mk hl302_0
                          clear hi302_0 hl302_0
                          replace p302 := eq_true p302
                          replace q302 := eq_true q302
                          have ea_ := Option.some.inj (hx297_0.symm.trans hx302_0)
                          injection ea_ with ea_ en_ ec_
                          subst ea_
                          subst ec_
                          clear en_
                          go_wp2_with (first | (go_at_call 87; (with_reducible refine (heliastref13_Right.calls k3 _ _ (rd_L4 l0 x4_1) false _ ?side1 ?side2 A11.out).mono ?_); (case side1 => repeat (first | exact (Kd.C_below HR302_0.out HB.out) | (with_reducible refine Kd.C_alloc ?_ _) | (with_reducible refine Kd.C_drewN ?_ _) | (with_reducible refine Kd.C_drew ?_))); (case side2 => exact HC302_0.out); rintro e w14 ⟨rfl, hb⟩; have n0_ := Aside0.mk (below_step (by repeat (first | (with_reducible first | exact HB.out | apply below_alloc | apply pw_below_drewN | apply below_drew1) | exact HB.out)) hb); clear HB; have HB := n0_; clear n0_; (try clear hb); (try clear hb2); (try clear hk); (try clear hi)))
                          repeat (go_quiet (first | (go_at_call 87; (with_reducible refine (heliastref13_Right.calls k3 _ _ (rd_L4 l0 x4_1) false _ ?side1 ?side2 A11.out).mono ?_); (case side1 => repeat (first | exact (Kd.C_below HR302_0.out HB.out) | (with_reducible refine Kd.C_alloc ?_ _) | (with_reducible refine Kd.C_drewN ?_ _) | (with_reducible refine Kd.C_drew ?_))); (case side2 => exact HC302_0.out); rintro e w14 ⟨rfl, hb⟩; have n0_ := Aside0.mk (below_step (by repeat (first | (with_reducible first | exact HB.out | apply below_alloc | apply pw_below_drewN | apply below_drew1) | exact HB.out)) hb); clear HB; have HB := n0_; clear n0_; (try clear hb); (try clear hb2); (try clear hk); (try clear hi))); try go_wp2_with (first | (go_at_call 87; (with_reducible refine (heliastref13_Right.calls k3 _ _ (rd_L4 l0 x4_1) false _ ?side1 ?side2 A11.out).mono ?_); (case side1 => repeat (first | exact (Kd.C_below HR302_0.out HB.out) | (with_reducible refine Kd.C_alloc ?_ _) | (with_reducible refine Kd.C_drewN ?_ _) | (with_reducible refine Kd.C_drew ?_))); (case side2 => exact HC302_0.out); rintro e w14 ⟨rfl, hb⟩; have n0_ := Aside0.mk (below_step (by repeat (first | (with_reducible first | exact HB.out | apply below_alloc | apply pw_below_drewN | apply below_drew1) | exact HB.out)) hb); clear HB; have HB := n0_; clear n0_; (try clear hb); (try clear hb2); (try clear hk); (try clear hi))))
                          go_ret
                          exact ⟨by first | rfl | (simp [errW_none, errW_some] <;> rfl) | (simp [*, errW_none, errW_some] <;> rfl), by repeat (first | (with_reducible first | exact HB.out | apply below_alloc | apply pw_below_drewN | apply below_drew1) | exact HB.out)⟩
                      · rw [if_neg c10] at H
                        have c10b0 : decide (x3_3 ≤ 200) = false := decide_eq_false c10
                        clear c10
                        have H' := Aside0.mk H
                        clear H
                        have p297 : 0 ≤ (x4_1 : Int) := of_decide_eq_true (by first | (with_reducible assumption) | assumption)
                        have q297 : x4_1 < (l0.length : Int) := of_decide_eq_true (by first | (with_reducible assumption) | assumption)
                        obtain ⟨ad297, A297_0, c297_0, e297, hx297_0, hl297_0, hi297_0⟩ := at_L4 HR0.out x4_1 p297 q297
                        cases e297
                        replace hx297_0 := (HB.out.cell (World.block_lt_of_cell? w _ hx297_0)).trans hx297_0
                        have HR297_0 := Aside0.mk hi297_0
                        have HC297_0 := Aside0.mk hl297_0
                        clear hi297_0 hl297_0
                        replace p297 := eq_true p297
                        replace q297 := eq_true q297
                        go_wp2
                        repeat (go_quiet (fail); try go_wp2)
                        go_roundg k3
                        case measure => have := HK1.out; have := HJ1.out; have := HK3.out; omega
                        case rel => exact ⟨(x3_3), (wrap64 (x4_1 + 1)), (by first | rfl | (simp; done) | (simp [*]; done)), (by first | rfl | (simp; done) | (simp [*]; done)), H', ⟨by have := HK1.out; have := HJ1.out; have := HK3.out; omega⟩, ⟨by repeat (first | (with_reducible first | exact HB.out | apply below_alloc | apply pw_below_drewN | apply below_drew1) | exact HB.out)⟩⟩
                  · rw [if_neg c6] at H
                    exact absurd H (by simp)
                · rw [if_neg c5] at H
                  exact absurd H (by simp)
          · replace c4 := Bool.eq_false_iff.mpr c4
            subst c4
            have H1 : (some (decide (x3_1 > 200))) = some r := by rw [if_neg (show ¬ (false = true) by decide)] at H; exact H
            clear H
            have H := H1
            clear H1
            obtain rfl := Option.some.inj H
            go_wp2
            repeat (go_quiet (fail); try go_wp2)
            go_ret
            exact ⟨by first | rfl | (simp [errW_none, errW_some] <;> rfl) | (simp [*, errW_none, errW_some] <;> rfl), by repeat (first | (with_reducible first | exact HB.out | apply below_alloc | apply pw_below_drewN | apply below_drew1) | exact HB.out)⟩
end Go.Proofs.Ytmmalieacakcbaa.S
end
section
namespace Go.Proofs.Ytmmalieacakcbaa.S
open Go.RowKit Go.Proofs.YtmmalieacakcbaaW.PrintWords Go.Proofs.YtmmalieacakcbaaW.PrintLast Go.Proofs.YtmmalieacakcbaaW.PrintMore
attribute [local go_sem] max2_int min2_int max_two min_two max_three min_three max_four min_four
set_option linter.unusedVariables false
set_option linter.unusedSimpArgs false
def heliastlaw16_SplitAsks.f (k : Nat) (l0 : List (List (S69))) (l1 : List Int) (l2 : List Int) (l3 : List Int) : Option (Bool) := (heliastlaw12_Graph.f k l3).bind fun t304 => ((heliastlaw16_known.f).bind fun t307 => (if t307 = true then ((heliastlaw16_States.f k l1 l2 (t304.length : Int)).bind fun t308 => ((heliastlaw16_asks.f k t304 t308).bind fun t311 => (if t311 = true then ((heliastlaw16_States.f k l1 l2 (wrap64 ((t304.length : Int) + 9))).bind fun t312 => ((heliastlaw16_asks.f k t304 t312).bind fun t315 => (if t315 = true then ((heliastlaw16_heavy.f k l0).bind fun t316 => (if t316 = true then (some true) else ((heliastlaw16_asks.f k t304 l0).bind fun t317 => (some t317)))) else (some false)))) else (some false)))) else (some false)))
theorem heliastlaw16_SplitAsks.mono : ∀ a0 a1 a2 a3 k, LeO (heliastlaw16_SplitAsks.f k a0 a1 a2 a3) (heliastlaw16_SplitAsks.f (k + 1) a0 a1 a2 a3) := by
  intro a0 a1 a2 a3 k
  unfold heliastlaw16_SplitAsks.f
  repeat' first
      | (with_reducible exact heliastlaw12_Graph.mono _ _)
      | (with_reducible exact heliastlaw16_States.mono _ _ _ _)
      | (with_reducible exact heliastlaw16_asks.mono _ _ _)
      | (with_reducible exact heliastlaw16_heavy.mono _ _)
      | (with_reducible exact LeO.refl _)
      | (with_reducible exact LeO.none _)
      | (with_reducible refine LeO.ite ?_ ?_)
      | (with_reducible refine LeO.bind ?_ (fun _ => ?_))
      | exact heliastlaw12_Graph.mono _ _
      | exact heliastlaw16_States.mono _ _ _ _
      | exact heliastlaw16_asks.mono _ _ _
      | exact heliastlaw16_heavy.mono _ _
      | exact LeO.none _
      | refine LeO.ite ?_ ?_
      | refine LeO.bind ?_ (fun _ => ?_)
set_option maxHeartbeats 8000000 in
set_option maxRecDepth 100000 in
theorem heliastlaw16_SplitAsks.calls (k : Nat) (A0 : Option Addr) (c0 : Nat) (l0 : List (List (S69))) (A1 : Option Addr) (c1 : Nat) (l1 : List Int) (A2 : Option Addr) (c2 : Nat) (l2 : List Int) (A3 : Option Addr) (c3 : Nat) (l3 : List Int) (r : Bool) (w : World) (hr0 : Kd.C (Kd.slice 69 k69) w A0 l0.length l0) (hc0 : l0.length ≤ c0) (hr1 : Kd.C (Kd.int .u8) w A1 l1.length l1) (hc1 : l1.length ≤ c1) (hr2 : Kd.C (Kd.int .u8) w A2 l2.length l2) (hc2 : l2.length ≤ c2) (hr3 : Kd.C (Kd.int .u8) w A3 l3.length l3) (hc3 : l3.length ≤ c3) (h : heliastlaw16_SplitAsks.f k l0 l1 l2 l3 = some r) (hlaw : r = true) :
    Calls Try.prog 9 #[.slice A0 l0.length c0, .slice A1 l1.length c1, .slice A2 l2.length c2, .slice A3 l3.length c3] w fun e w' => e = .returned (.bool r) ∧ Below w.heap.size w w' := by
  have HLAW := Aside0.mk hlaw
  clear hlaw
  have HR0 := Aside0.mk hr0
  have HC0 := Aside0.mk hc0
  clear hr0 hc0
  have HR1 := Aside0.mk hr1
  have HC1 := Aside0.mk hc1
  clear hr1 hc1
  have HR2 := Aside0.mk hr2
  have HC2 := Aside0.mk hc2
  clear hr2 hc2
  have HR3 := Aside0.mk hr3
  have HC3 := Aside0.mk hc3
  clear hr3 hc3
  have HB := Aside0.mk (Below.refl w.heap.size w)
  have H : ((heliastlaw12_Graph.f k l3).bind fun t304 => ((heliastlaw16_known.f).bind fun t307 => (if t307 = true then ((heliastlaw16_States.f k l1 l2 (t304.length : Int)).bind fun t308 => ((heliastlaw16_asks.f k t304 t308).bind fun t311 => (if t311 = true then ((heliastlaw16_States.f k l1 l2 (wrap64 ((t304.length : Int) + 9))).bind fun t312 => ((heliastlaw16_asks.f k t304 t312).bind fun t315 => (if t315 = true then ((heliastlaw16_heavy.f k l0).bind fun t316 => (if t316 = true then (some true) else ((heliastlaw16_asks.f k t304 l0).bind fun t317 => (some t317)))) else (some false)))) else (some false)))) else (some false)))) = some r := h
  clear h
  replace H := Option.bind_eq_some_iff.mp H
  obtain ⟨t304, A50, H⟩ := H
  replace H : ((heliastlaw16_known.f).bind fun t307 => (if t307 = true then ((heliastlaw16_States.f k l1 l2 (t304.length : Int)).bind fun t308 => ((heliastlaw16_asks.f k t304 t308).bind fun t311 => (if t311 = true then ((heliastlaw16_States.f k l1 l2 (wrap64 ((t304.length : Int) + 9))).bind fun t312 => ((heliastlaw16_asks.f k t304 t312).bind fun t315 => (if t315 = true then ((heliastlaw16_heavy.f k l0).bind fun t316 => (if t316 = true then (some true) else ((heliastlaw16_asks.f k t304 l0).bind fun t317 => (some t317)))) else (some false)))) else (some false)))) else (some false))) = some r := H
  have A5 := Aside0.mk A50
  clear A50
  replace H := Option.bind_eq_some_iff.mp H
  obtain ⟨t307, A60, H⟩ := H
  replace H : (if t307 = true then ((heliastlaw16_States.f k l1 l2 (t304.length : Int)).bind fun t308 => ((heliastlaw16_asks.f k t304 t308).bind fun t311 => (if t311 = true then ((heliastlaw16_States.f k l1 l2 (wrap64 ((t304.length : Int) + 9))).bind fun t312 => ((heliastlaw16_asks.f k t304 t312).bind fun t315 => (if t315 = true then ((heliastlaw16_heavy.f k l0).bind fun t316 => (if t316 = true then (some true) else ((heliastlaw16_asks.f k t304 l0).bind fun t317 => (some t317)))) else (some false)))) else (some false)))) else (some false)) = some r := H
  have A6 := Aside0.mk A60
  clear A60
  by_cases c7 : t307 = true
  · subst c7
    have H1 : ((heliastlaw16_States.f k l1 l2 (t304.length : Int)).bind fun t308 => ((heliastlaw16_asks.f k t304 t308).bind fun t311 => (if t311 = true then ((heliastlaw16_States.f k l1 l2 (wrap64 ((t304.length : Int) + 9))).bind fun t312 => ((heliastlaw16_asks.f k t304 t312).bind fun t315 => (if t315 = true then ((heliastlaw16_heavy.f k l0).bind fun t316 => (if t316 = true then (some true) else ((heliastlaw16_asks.f k t304 l0).bind fun t317 => (some t317)))) else (some false)))) else (some false)))) = some r := by rw [if_pos rfl] at H; exact H
    clear H
    have H := H1
    clear H1
    replace H := Option.bind_eq_some_iff.mp H
    obtain ⟨t308, A80, H⟩ := H
    replace H : ((heliastlaw16_asks.f k t304 t308).bind fun t311 => (if t311 = true then ((heliastlaw16_States.f k l1 l2 (wrap64 ((t304.length : Int) + 9))).bind fun t312 => ((heliastlaw16_asks.f k t304 t312).bind fun t315 => (if t315 = true then ((heliastlaw16_heavy.f k l0).bind fun t316 => (if t316 = true then (some true) else ((heliastlaw16_asks.f k t304 l0).bind fun t317 => (some t317)))) else (some false)))) else (some false))) = some r := H
    have A8 := Aside0.mk A80
    clear A80
    replace H := Option.bind_eq_some_iff.mp H
    obtain ⟨t311, A90, H⟩ := H
    replace H : (if t311 = true then ((heliastlaw16_States.f k l1 l2 (wrap64 ((t304.length : Int) + 9))).bind fun t312 => ((heliastlaw16_asks.f k t304 t312).bind fun t315 => (if t315 = true then ((heliastlaw16_heavy.f k l0).bind fun t316 => (if t316 = true then (some true) else ((heliastlaw16_asks.f k t304 l0).bind fun t317 => (some t317)))) else (some false)))) else (some false)) = some r := H
    have A9 := Aside0.mk A90
    clear A90
    by_cases c10 : t311 = true
    · subst c10
      have H1 : ((heliastlaw16_States.f k l1 l2 (wrap64 ((t304.length : Int) + 9))).bind fun t312 => ((heliastlaw16_asks.f k t304 t312).bind fun t315 => (if t315 = true then ((heliastlaw16_heavy.f k l0).bind fun t316 => (if t316 = true then (some true) else ((heliastlaw16_asks.f k t304 l0).bind fun t317 => (some t317)))) else (some false)))) = some r := by rw [if_pos rfl] at H; exact H
      clear H
      have H := H1
      clear H1
      replace H := Option.bind_eq_some_iff.mp H
      obtain ⟨t312, A110, H⟩ := H
      replace H : ((heliastlaw16_asks.f k t304 t312).bind fun t315 => (if t315 = true then ((heliastlaw16_heavy.f k l0).bind fun t316 => (if t316 = true then (some true) else ((heliastlaw16_asks.f k t304 l0).bind fun t317 => (some t317)))) else (some false))) = some r := H
      have A11 := Aside0.mk A110
      clear A110
      replace H := Option.bind_eq_some_iff.mp H
      obtain ⟨t315, A120, H⟩ := H
      replace H : (if t315 = true then ((heliastlaw16_heavy.f k l0).bind fun t316 => (if t316 = true then (some true) else ((heliastlaw16_asks.f k t304 l0).bind fun t317 => (some t317)))) else (some false)) = some r := H
      have A12 := Aside0.mk A120
      clear A120
      by_cases c13 : t315 = true
      · subst c13
        have H1 : ((heliastlaw16_heavy.f k l0).bind fun t316 => (if t316 = true then (some true) else ((heliastlaw16_asks.f k t304 l0).bind fun t317 => (some t317)))) = some r := by rw [if_pos rfl] at H; exact H
        clear H
        have H := H1
        clear H1
        replace H := Option.bind_eq_some_iff.mp H
        obtain ⟨t316, A140, H⟩ := H
        replace H : (if t316 = true then (some true) else ((heliastlaw16_asks.f k t304 l0).bind fun t317 => (some t317))) = some r := H
        have A14 := Aside0.mk A140
        clear A140
        by_cases c15 : t316 = true
        · subst c15
          have H1 : (some true) = some r := by rw [if_pos rfl] at H; exact H
          clear H
          have H := H1
          clear H1
          obtain rfl := Option.some.inj H
          go_enter Try.func9, Try.ntmps9
          go_wp2_with (first | ((with_reducible refine gate_callee (f := 37) rfl ?_); refine goesL_ (some 11) rfl rfl Try.func37 (by kernel_rfl) rfl #[.slice A3 l3.length c3] rfl (by (try simp only [List.map_toArray, List.map_cons, List.map_nil]); first | done | rfl | (simp only [List.length_drop, List.length_take]; rfl)) ?_; (with_reducible refine (heliastlaw12_Graph.calls k _ _ l3 t304 _ ?side1 ?side2 A5.out).mono ?_); (case side1 => repeat (first | exact HR3.out | (with_reducible refine Kd.C_alloc ?_ _) | (with_reducible refine Kd.C_drewN ?_ _) | (with_reducible refine Kd.C_drew ?_))); (case side2 => exact HC3.out); rintro e w16 ⟨v305, rfl, ho0, hb⟩; refine ⟨_, rfl, ?_⟩; have n0_ := Aside0.mk (Kd.N_lower (Kd.N_mono (ok' := fun k_ => True) (Kd.S_N (Kd.S_bound ho0)) (fun k_ hk_ => trivial)) (below_size (by repeat (first | (with_reducible first | exact HB.out | apply below_alloc | apply pw_below_drewN | apply below_drew1) | exact HB.out)))); have n1_ := Aside0.mk (below_step (by repeat (first | (with_reducible first | exact HB.out | apply below_alloc | apply pw_below_drewN | apply below_drew1) | exact HB.out)) hb); clear HB; have HO306 := n0_; have HB := n1_; clear n0_ n1_; (try clear hb); (try clear hb2); (try clear hk); (try clear hi); (try clear ho0)) | ((with_reducible refine gate_callee (f := 35) rfl ?_); refine goesL_ (some 12) rfl rfl Try.func35 (by kernel_rfl) rfl #[] rfl (by (try simp only [List.map_toArray, List.map_cons, List.map_nil]); first | done | rfl | (simp only [List.length_drop, List.length_take]; rfl)) ?_; (with_reducible refine (heliastlaw16_known.calls  true _ A6.out).mono ?_); rintro e w17 ⟨rfl, hb⟩; refine ⟨_, rfl, ?_⟩; have n0_ := Aside0.mk (Kd.N_below (by (with_reducible repeat (first | apply Kd.N_alloc | apply Kd.N_drewN | apply Kd.N_drew)); exact HO306.out) hb); have n1_ := Aside0.mk (below_step (by repeat (first | (with_reducible first | exact HB.out | apply below_alloc | apply pw_below_drewN | apply below_drew1) | exact HB.out)) hb); clear HO306; clear HB; have HO306 := n0_; have HB := n1_; clear n0_ n1_; (try clear hb); (try clear hb2); (try clear hk); (try clear hi); obtain ⟨Ao18, co18, eo18⟩ := Kd.N_slice HO306.out; subst eo18) | ((with_reducible refine gate_callee (f := 29) rfl ?_); refine goesL_ (some 19) rfl rfl Try.func29 (by kernel_rfl) rfl #[.slice A1 l1.length c1, .slice A2 l2.length c2, .int .i64 (t304.length : Int)] rfl (by (try simp only [List.map_toArray, List.map_cons, List.map_nil]); first | done | rfl | (simp only [List.length_drop, List.length_take]; rfl)) ?_; (with_reducible refine (heliastlaw16_States.calls k _ _ l1 _ _ l2 (t304.length : Int) t308 _ ?side1 ?side2 ?side3 ?side4 A8.out).mono ?_); (case side1 => repeat (first | exact (Kd.C_below HR1.out HB.out) | (with_reducible refine Kd.C_alloc ?_ _) | (with_reducible refine Kd.C_drewN ?_ _) | (with_reducible refine Kd.C_drew ?_))); (case side2 => exact HC1.out); (case side3 => repeat (first | exact (Kd.C_below HR2.out HB.out) | (with_reducible refine Kd.C_alloc ?_ _) | (with_reducible refine Kd.C_drewN ?_ _) | (with_reducible refine Kd.C_drew ?_))); (case side4 => exact HC2.out); rintro e w19 ⟨v309, rfl, ho0, hb⟩; refine ⟨_, rfl, ?_⟩; have n0_ := Aside0.mk (Kd.N_elder' (by (with_reducible repeat (first | apply Kd.N_alloc | apply Kd.N_drewN | apply Kd.N_drew)); exact HO306.out) (Kd.N_base ho0) hb); have n1_ := Aside0.mk (Kd.N_lower (Kd.N_mono (ok' := fun k_ => some k_ ≠ (.slice Ao18 t304.length co18 : Value).ownBlock) ho0 (fun k_ hk_ => (Kd.fresh' (Kd.N_lt (by (with_reducible repeat (first | apply Kd.N_alloc | apply Kd.N_drewN | apply Kd.N_drew)); exact HO306.out)) k_ hk_))) (below_size (by repeat (first | (with_reducible first | exact HB.out | apply below_alloc | apply pw_below_drewN | apply below_drew1) | exact HB.out)))); have n2_ := Aside0.mk (below_step (by repeat (first | (with_reducible first | exact HB.out | apply below_alloc | apply pw_below_drewN | apply below_drew1) | exact HB.out)) hb); clear HO306; clear HB; have HO306 := n0_; have HO310 := n1_; have HB := n2_; clear n0_ n1_ n2_; (try clear hb); (try clear hb2); (try clear hk); (try clear hi); (try clear ho0); obtain ⟨Ao20, co20, eo20⟩ := Kd.N_slice HO310.out; subst eo20) | ((with_reducible refine gate_callee (f := 42) rfl ?_); refine goesL_ (some 20) rfl rfl Try.func42 (by kernel_rfl) rfl #[.slice Ao18 t304.length co18, .slice Ao20 t308.length co20] rfl (by (try simp only [List.map_toArray, List.map_cons, List.map_nil]); first | done | rfl | (simp only [List.length_drop, List.length_take]; rfl)) ?_; (with_reducible refine (heliastlaw16_asks.calls k _ _ t304 _ _ t308 true _ ?side1 ?side2 ?side3 ?side4 A9.out (by first | rfl | exact HLAW.out)).mono ?_); (case side1 => repeat (first | exact (Kd.N_reads' HO306.out).2.2 | (with_reducible refine Kd.C_alloc ?_ _) | (with_reducible refine Kd.C_drewN ?_ _) | (with_reducible refine Kd.C_drew ?_))); (case side2 => exact (Kd.N_reads' HO306.out).2.1); (case side3 => repeat (first | exact (Kd.N_reads' HO310.out).2.2 | (with_reducible refine Kd.C_alloc ?_ _) | (with_reducible refine Kd.C_drewN ?_ _) | (with_reducible refine Kd.C_drew ?_))); (case side4 => exact (Kd.N_reads' HO310.out).2.1); rintro e w21 ⟨rfl, hb⟩; refine ⟨_, rfl, ?_⟩; have n0_ := Aside0.mk (Kd.N_below (by (with_reducible repeat (first | apply Kd.N_alloc | apply Kd.N_drewN | apply Kd.N_drew)); exact HO306.out) hb); have n1_ := Aside0.mk (Kd.N_below (by (with_reducible repeat (first | apply Kd.N_alloc | apply Kd.N_drewN | apply Kd.N_drew)); exact HO310.out) hb); have n2_ := Aside0.mk (below_step (by repeat (first | (with_reducible first | exact HB.out | apply below_alloc | apply pw_below_drewN | apply below_drew1) | exact HB.out)) hb); clear HO306; clear HO310; clear HB; have HO306 := n0_; have HO310 := n1_; have HB := n2_; clear n0_ n1_ n2_; (try clear hb); (try clear hb2); (try clear hk); (try clear hi)) | (go_at_call 29; (with_reducible refine (heliastlaw16_States.calls k _ _ l1 _ _ l2 (wrap64 ((t304.length : Int) + 9)) t312 _ ?side1 ?side2 ?side3 ?side4 A11.out).mono ?_); (case side1 => repeat (first | exact (Kd.C_below HR1.out HB.out) | (with_reducible refine Kd.C_alloc ?_ _) | (with_reducible refine Kd.C_drewN ?_ _) | (with_reducible refine Kd.C_drew ?_))); (case side2 => exact HC1.out); (case side3 => repeat (first | exact (Kd.C_below HR2.out HB.out) | (with_reducible refine Kd.C_alloc ?_ _) | (with_reducible refine Kd.C_drewN ?_ _) | (with_reducible refine Kd.C_drew ?_))); (case side4 => exact HC2.out); rintro e w22 ⟨v313, rfl, ho0, hb⟩; have n0_ := Aside0.mk (Kd.N_elder' (by (with_reducible repeat (first | apply Kd.N_alloc | apply Kd.N_drewN | apply Kd.N_drew)); exact HO306.out) (Kd.N_base ho0) hb); have n1_ := Aside0.mk (Kd.N_elder' (by (with_reducible repeat (first | apply Kd.N_alloc | apply Kd.N_drewN | apply Kd.N_drew)); exact HO310.out) (Kd.N_base ho0) hb); have n2_ := Aside0.mk (Kd.N_lower (Kd.N_mono (ok' := fun k_ => some k_ ≠ (.slice Ao18 t304.length co18 : Value).ownBlock ∧ some k_ ≠ (.slice Ao20 t308.length co20 : Value).ownBlock) ho0 (fun k_ hk_ => ⟨(Kd.fresh' (Kd.N_lt (by (with_reducible repeat (first | apply Kd.N_alloc | apply Kd.N_drewN | apply Kd.N_drew)); exact HO306.out)) k_ hk_), (Kd.fresh' (Kd.N_lt (by (with_reducible repeat (first | apply Kd.N_alloc | apply Kd.N_drewN | apply Kd.N_drew)); exact HO310.out)) k_ hk_)⟩)) (below_size (by repeat (first | (with_reducible first | exact HB.out | apply below_alloc | apply pw_below_drewN | apply below_drew1) | exact HB.out)))); have n3_ := Aside0.mk (below_step (by repeat (first | (with_reducible first | exact HB.out | apply below_alloc | apply pw_below_drewN | apply below_drew1) | exact HB.out)) hb); clear HO306; clear HO310; clear HB; have HO306 := n0_; have HO310 := n1_; have HO314 := n2_; have HB := n3_; clear n0_ n1_ n2_ n3_; (try clear hb); (try clear hb2); (try clear hk); (try clear hi); (try clear ho0); obtain ⟨Ao23, co23, eo23⟩ := Kd.N_slice HO314.out; subst eo23) | (go_at_call 42; (with_reducible refine (heliastlaw16_asks.calls k _ _ t304 _ _ t312 true _ ?side1 ?side2 ?side3 ?side4 A12.out (by first | rfl | exact HLAW.out)).mono ?_); (case side1 => repeat (first | exact (Kd.N_reads' HO306.out).2.2 | (with_reducible refine Kd.C_alloc ?_ _) | (with_reducible refine Kd.C_drewN ?_ _) | (with_reducible refine Kd.C_drew ?_))); (case side2 => exact (Kd.N_reads' HO306.out).2.1); (case side3 => repeat (first | exact (Kd.N_reads' HO314.out).2.2 | (with_reducible refine Kd.C_alloc ?_ _) | (with_reducible refine Kd.C_drewN ?_ _) | (with_reducible refine Kd.C_drew ?_))); (case side4 => exact (Kd.N_reads' HO314.out).2.1); rintro e w24 ⟨rfl, hb⟩; have n0_ := Aside0.mk (Kd.N_below (by (with_reducible repeat (first | apply Kd.N_alloc | apply Kd.N_drewN | apply Kd.N_drew)); exact HO306.out) hb); have n1_ := Aside0.mk (Kd.N_below (by (with_reducible repeat (first | apply Kd.N_alloc | apply Kd.N_drewN | apply Kd.N_drew)); exact HO310.out) hb); have n2_ := Aside0.mk (Kd.N_below (by (with_reducible repeat (first | apply Kd.N_alloc | apply Kd.N_drewN | apply Kd.N_drew)); exact HO314.out) hb); have n3_ := Aside0.mk (below_step (by repeat (first | (with_reducible first | exact HB.out | apply below_alloc | apply pw_below_drewN | apply below_drew1) | exact HB.out)) hb); clear HO306; clear HO310; clear HO314; clear HB; have HO306 := n0_; have HO310 := n1_; have HO314 := n2_; have HB := n3_; clear n0_ n1_ n2_ n3_; (try clear hb); (try clear hb2); (try clear hk); (try clear hi)) | (go_at_call 43; (with_reducible refine (heliastlaw16_heavy.calls k _ _ l0 true _ ?side1 ?side2 A14.out).mono ?_); (case side1 => repeat (first | exact (Kd.C_below HR0.out HB.out) | (with_reducible refine Kd.C_alloc ?_ _) | (with_reducible refine Kd.C_drewN ?_ _) | (with_reducible refine Kd.C_drew ?_))); (case side2 => exact HC0.out); rintro e w25 ⟨rfl, hb⟩; have n0_ := Aside0.mk (Kd.N_below (by (with_reducible repeat (first | apply Kd.N_alloc | apply Kd.N_drewN | apply Kd.N_drew)); exact HO306.out) hb); have n1_ := Aside0.mk (Kd.N_below (by (with_reducible repeat (first | apply Kd.N_alloc | apply Kd.N_drewN | apply Kd.N_drew)); exact HO310.out) hb); have n2_ := Aside0.mk (Kd.N_below (by (with_reducible repeat (first | apply Kd.N_alloc | apply Kd.N_drewN | apply Kd.N_drew)); exact HO314.out) hb); have n3_ := Aside0.mk (below_step (by repeat (first | (with_reducible first | exact HB.out | apply below_alloc | apply pw_below_drewN | apply below_drew1) | exact HB.out)) hb); clear HO306; clear HO310; clear HO314; clear HB; have HO306 := n0_; have HO310 := n1_; have HO314 := n2_; have HB := n3_; clear n0_ n1_ n2_ n3_; (try clear hb); (try clear hb2); (try clear hk); (try clear hi)))
          go_ret
          exact ⟨by first | rfl | (simp [errW_none, errW_some] <;> rfl) | (simp [*, errW_none, errW_some] <;> rfl), by repeat (first | (with_reducible first | exact HB.out | apply below_alloc | apply pw_below_drewN | apply below_drew1) | exact HB.out)⟩
        · replace c15 := Bool.eq_false_iff.mpr c15
          subst c15
          have H1 : ((heliastlaw16_asks.f k t304 l0).bind fun t317 => (some t317)) = some r := by rw [if_neg (show ¬ (false = true) by decide)] at H; exact H
          clear H
          have H := H1
          clear H1
          replace H := Option.bind_eq_some_iff.mp H
          obtain ⟨t317, A260, H⟩ := H
          replace H : (some t317) = some r := H
          have A26 := Aside0.mk A260
          clear A260
          obtain rfl := Option.some.inj H
          go_enter Try.func9, Try.ntmps9
          have tok1_ : True := trivial
          have tok2_ : True := trivial
          go_wp2_with (first | ((with_reducible refine gate_callee (f := 37) rfl ?_); refine goesL_ (some 11) rfl rfl Try.func37 (by kernel_rfl) rfl #[.slice A3 l3.length c3] rfl (by (try simp only [List.map_toArray, List.map_cons, List.map_nil]); first | done | rfl | (simp only [List.length_drop, List.length_take]; rfl)) ?_; (with_reducible refine (heliastlaw12_Graph.calls k _ _ l3 t304 _ ?side1 ?side2 A5.out).mono ?_); (case side1 => repeat (first | exact HR3.out | (with_reducible refine Kd.C_alloc ?_ _) | (with_reducible refine Kd.C_drewN ?_ _) | (with_reducible refine Kd.C_drew ?_))); (case side2 => exact HC3.out); rintro e w27 ⟨v305, rfl, ho0, hb⟩; refine ⟨_, rfl, ?_⟩; have n0_ := Aside0.mk (Kd.N_lower (Kd.N_mono (ok' := fun k_ => True) (Kd.S_N (Kd.S_bound ho0)) (fun k_ hk_ => trivial)) (below_size (by repeat (first | (with_reducible first | exact HB.out | apply below_alloc | apply pw_below_drewN | apply below_drew1) | exact HB.out)))); have n1_ := Aside0.mk (below_step (by repeat (first | (with_reducible first | exact HB.out | apply below_alloc | apply pw_below_drewN | apply below_drew1) | exact HB.out)) hb); clear HB; have HO306 := n0_; have HB := n1_; clear n0_ n1_; (try clear hb); (try clear hb2); (try clear hk); (try clear hi); (try clear ho0)) | ((with_reducible refine gate_callee (f := 35) rfl ?_); refine goesL_ (some 12) rfl rfl Try.func35 (by kernel_rfl) rfl #[] rfl (by (try simp only [List.map_toArray, List.map_cons, List.map_nil]); first | done | rfl | (simp only [List.length_drop, List.length_take]; rfl)) ?_; (with_reducible refine (heliastlaw16_known.calls  true _ A6.out).mono ?_); rintro e w28 ⟨rfl, hb⟩; refine ⟨_, rfl, ?_⟩; have n0_ := Aside0.mk (Kd.N_below (by (with_reducible repeat (first | apply Kd.N_alloc | apply Kd.N_drewN | apply Kd.N_drew)); exact HO306.out) hb); have n1_ := Aside0.mk (below_step (by repeat (first | (with_reducible first | exact HB.out | apply below_alloc | apply pw_below_drewN | apply below_drew1) | exact HB.out)) hb); clear HO306; clear HB; have HO306 := n0_; have HB := n1_; clear n0_ n1_; (try clear hb); (try clear hb2); (try clear hk); (try clear hi); obtain ⟨Ao29, co29, eo29⟩ := Kd.N_slice HO306.out; subst eo29) | ((with_reducible refine gate_callee (f := 29) rfl ?_); refine goesL_ (some 19) rfl rfl Try.func29 (by kernel_rfl) rfl #[.slice A1 l1.length c1, .slice A2 l2.length c2, .int .i64 (t304.length : Int)] rfl (by (try simp only [List.map_toArray, List.map_cons, List.map_nil]); first | done | rfl | (simp only [List.length_drop, List.length_take]; rfl)) ?_; (with_reducible refine (heliastlaw16_States.calls k _ _ l1 _ _ l2 (t304.length : Int) t308 _ ?side1 ?side2 ?side3 ?side4 A8.out).mono ?_); (case side1 => repeat (first | exact (Kd.C_below HR1.out HB.out) | (with_reducible refine Kd.C_alloc ?_ _) | (with_reducible refine Kd.C_drewN ?_ _) | (with_reducible refine Kd.C_drew ?_))); (case side2 => exact HC1.out); (case side3 => repeat (first | exact (Kd.C_below HR2.out HB.out) | (with_reducible refine Kd.C_alloc ?_ _) | (with_reducible refine Kd.C_drewN ?_ _) | (with_reducible refine Kd.C_drew ?_))); (case side4 => exact HC2.out); rintro e w30 ⟨v309, rfl, ho0, hb⟩; refine ⟨_, rfl, ?_⟩; have n0_ := Aside0.mk (Kd.N_elder' (by (with_reducible repeat (first | apply Kd.N_alloc | apply Kd.N_drewN | apply Kd.N_drew)); exact HO306.out) (Kd.N_base ho0) hb); have n1_ := Aside0.mk (Kd.N_lower (Kd.N_mono (ok' := fun k_ => some k_ ≠ (.slice Ao29 t304.length co29 : Value).ownBlock) ho0 (fun k_ hk_ => (Kd.fresh' (Kd.N_lt (by (with_reducible repeat (first | apply Kd.N_alloc | apply Kd.N_drewN | apply Kd.N_drew)); exact HO306.out)) k_ hk_))) (below_size (by repeat (first | (with_reducible first | exact HB.out | apply below_alloc | apply pw_below_drewN | apply below_drew1) | exact HB.out)))); have n2_ := Aside0.mk (below_step (by repeat (first | (with_reducible first | exact HB.out | apply below_alloc | apply pw_below_drewN | apply below_drew1) | exact HB.out)) hb); clear HO306; clear HB; have HO306 := n0_; have HO310 := n1_; have HB := n2_; clear n0_ n1_ n2_; (try clear hb); (try clear hb2); (try clear hk); (try clear hi); (try clear ho0); obtain ⟨Ao31, co31, eo31⟩ := Kd.N_slice HO310.out; subst eo31) | ((with_reducible refine gate_callee (f := 42) rfl ?_); refine goesL_ (some 20) rfl rfl Try.func42 (by kernel_rfl) rfl #[.slice Ao29 t304.length co29, .slice Ao31 t308.length co31] rfl (by (try simp only [List.map_toArray, List.map_cons, List.map_nil]); first | done | rfl | (simp only [List.length_drop, List.length_take]; rfl)) ?_; (with_reducible refine (heliastlaw16_asks.calls k _ _ t304 _ _ t308 true _ ?side1 ?side2 ?side3 ?side4 A9.out (by first | rfl | exact HLAW.out)).mono ?_); (case side1 => repeat (first | exact (Kd.N_reads' HO306.out).2.2 | (with_reducible refine Kd.C_alloc ?_ _) | (with_reducible refine Kd.C_drewN ?_ _) | (with_reducible refine Kd.C_drew ?_))); (case side2 => exact (Kd.N_reads' HO306.out).2.1); (case side3 => repeat (first | exact (Kd.N_reads' HO310.out).2.2 | (with_reducible refine Kd.C_alloc ?_ _) | (with_reducible refine Kd.C_drewN ?_ _) | (with_reducible refine Kd.C_drew ?_))); (case side4 => exact (Kd.N_reads' HO310.out).2.1); rintro e w32 ⟨rfl, hb⟩; refine ⟨_, rfl, ?_⟩; have n0_ := Aside0.mk (Kd.N_below (by (with_reducible repeat (first | apply Kd.N_alloc | apply Kd.N_drewN | apply Kd.N_drew)); exact HO306.out) hb); have n1_ := Aside0.mk (Kd.N_below (by (with_reducible repeat (first | apply Kd.N_alloc | apply Kd.N_drewN | apply Kd.N_drew)); exact HO310.out) hb); have n2_ := Aside0.mk (below_step (by repeat (first | (with_reducible first | exact HB.out | apply below_alloc | apply pw_below_drewN | apply below_drew1) | exact HB.out)) hb); clear HO306; clear HO310; clear HB; have HO306 := n0_; have HO310 := n1_; have HB := n2_; clear n0_ n1_ n2_; (try clear hb); (try clear hb2); (try clear hk); (try clear hi)) | (go_at_call 29; (with_reducible refine (heliastlaw16_States.calls k _ _ l1 _ _ l2 (wrap64 ((t304.length : Int) + 9)) t312 _ ?side1 ?side2 ?side3 ?side4 A11.out).mono ?_); (case side1 => repeat (first | exact (Kd.C_below HR1.out HB.out) | (with_reducible refine Kd.C_alloc ?_ _) | (with_reducible refine Kd.C_drewN ?_ _) | (with_reducible refine Kd.C_drew ?_))); (case side2 => exact HC1.out); (case side3 => repeat (first | exact (Kd.C_below HR2.out HB.out) | (with_reducible refine Kd.C_alloc ?_ _) | (with_reducible refine Kd.C_drewN ?_ _) | (with_reducible refine Kd.C_drew ?_))); (case side4 => exact HC2.out); rintro e w33 ⟨v313, rfl, ho0, hb⟩; have n0_ := Aside0.mk (Kd.N_elder' (by (with_reducible repeat (first | apply Kd.N_alloc | apply Kd.N_drewN | apply Kd.N_drew)); exact HO306.out) (Kd.N_base ho0) hb); have n1_ := Aside0.mk (Kd.N_elder' (by (with_reducible repeat (first | apply Kd.N_alloc | apply Kd.N_drewN | apply Kd.N_drew)); exact HO310.out) (Kd.N_base ho0) hb); have n2_ := Aside0.mk (Kd.N_lower (Kd.N_mono (ok' := fun k_ => some k_ ≠ (.slice Ao29 t304.length co29 : Value).ownBlock ∧ some k_ ≠ (.slice Ao31 t308.length co31 : Value).ownBlock) ho0 (fun k_ hk_ => ⟨(Kd.fresh' (Kd.N_lt (by (with_reducible repeat (first | apply Kd.N_alloc | apply Kd.N_drewN | apply Kd.N_drew)); exact HO306.out)) k_ hk_), (Kd.fresh' (Kd.N_lt (by (with_reducible repeat (first | apply Kd.N_alloc | apply Kd.N_drewN | apply Kd.N_drew)); exact HO310.out)) k_ hk_)⟩)) (below_size (by repeat (first | (with_reducible first | exact HB.out | apply below_alloc | apply pw_below_drewN | apply below_drew1) | exact HB.out)))); have n3_ := Aside0.mk (below_step (by repeat (first | (with_reducible first | exact HB.out | apply below_alloc | apply pw_below_drewN | apply below_drew1) | exact HB.out)) hb); clear HO306; clear HO310; clear HB; have HO306 := n0_; have HO310 := n1_; have HO314 := n2_; have HB := n3_; clear n0_ n1_ n2_ n3_; (try clear hb); (try clear hb2); (try clear hk); (try clear hi); (try clear ho0); obtain ⟨Ao34, co34, eo34⟩ := Kd.N_slice HO314.out; subst eo34) | (go_at_call 42; clear tok1_; (with_reducible refine (heliastlaw16_asks.calls k _ _ t304 _ _ t312 true _ ?side1 ?side2 ?side3 ?side4 A12.out (by first | rfl | exact HLAW.out)).mono ?_); (case side1 => repeat (first | exact (Kd.N_reads' HO306.out).2.2 | (with_reducible refine Kd.C_alloc ?_ _) | (with_reducible refine Kd.C_drewN ?_ _) | (with_reducible refine Kd.C_drew ?_))); (case side2 => exact (Kd.N_reads' HO306.out).2.1); (case side3 => repeat (first | exact (Kd.N_reads' HO314.out).2.2 | (with_reducible refine Kd.C_alloc ?_ _) | (with_reducible refine Kd.C_drewN ?_ _) | (with_reducible refine Kd.C_drew ?_))); (case side4 => exact (Kd.N_reads' HO314.out).2.1); rintro e w35 ⟨rfl, hb⟩; have n0_ := Aside0.mk (Kd.N_below (by (with_reducible repeat (first | apply Kd.N_alloc | apply Kd.N_drewN | apply Kd.N_drew)); exact HO306.out) hb); have n1_ := Aside0.mk (Kd.N_below (by (with_reducible repeat (first | apply Kd.N_alloc | apply Kd.N_drewN | apply Kd.N_drew)); exact HO310.out) hb); have n2_ := Aside0.mk (Kd.N_below (by (with_reducible repeat (first | apply Kd.N_alloc | apply Kd.N_drewN | apply Kd.N_drew)); exact HO314.out) hb); have n3_ := Aside0.mk (below_step (by repeat (first | (with_reducible first | exact HB.out | apply below_alloc | apply pw_below_drewN | apply below_drew1) | exact HB.out)) hb); clear HO306; clear HO310; clear HO314; clear HB; have HO306 := n0_; have HO310 := n1_; have HO314 := n2_; have HB := n3_; clear n0_ n1_ n2_ n3_; (try clear hb); (try clear hb2); (try clear hk); (try clear hi)) | (go_at_call 43; (with_reducible refine (heliastlaw16_heavy.calls k _ _ l0 false _ ?side1 ?side2 A14.out).mono ?_); (case side1 => repeat (first | exact (Kd.C_below HR0.out HB.out) | (with_reducible refine Kd.C_alloc ?_ _) | (with_reducible refine Kd.C_drewN ?_ _) | (with_reducible refine Kd.C_drew ?_))); (case side2 => exact HC0.out); rintro e w36 ⟨rfl, hb⟩; have n0_ := Aside0.mk (Kd.N_below (by (with_reducible repeat (first | apply Kd.N_alloc | apply Kd.N_drewN | apply Kd.N_drew)); exact HO306.out) hb); have n1_ := Aside0.mk (Kd.N_below (by (with_reducible repeat (first | apply Kd.N_alloc | apply Kd.N_drewN | apply Kd.N_drew)); exact HO310.out) hb); have n2_ := Aside0.mk (Kd.N_below (by (with_reducible repeat (first | apply Kd.N_alloc | apply Kd.N_drewN | apply Kd.N_drew)); exact HO314.out) hb); have n3_ := Aside0.mk (below_step (by repeat (first | (with_reducible first | exact HB.out | apply below_alloc | apply pw_below_drewN | apply below_drew1) | exact HB.out)) hb); clear HO306; clear HO310; clear HO314; clear HB; have HO306 := n0_; have HO310 := n1_; have HO314 := n2_; have HB := n3_; clear n0_ n1_ n2_ n3_; (try clear hb); (try clear hb2); (try clear hk); (try clear hi)) | (go_at_call 42; clear tok2_; (with_reducible refine (heliastlaw16_asks.calls k _ _ t304 _ _ l0 t317 _ ?side1 ?side2 ?side3 ?side4 A26.out (by first | rfl | exact HLAW.out)).mono ?_); (case side1 => repeat (first | exact (Kd.N_reads' HO306.out).2.2 | (with_reducible refine Kd.C_alloc ?_ _) | (with_reducible refine Kd.C_drewN ?_ _) | (with_reducible refine Kd.C_drew ?_))); (case side2 => exact (Kd.N_reads' HO306.out).2.1); (case side3 => repeat (first | exact (Kd.C_below HR0.out HB.out) | (with_reducible refine Kd.C_alloc ?_ _) | (with_reducible refine Kd.C_drewN ?_ _) | (with_reducible refine Kd.C_drew ?_))); (case side4 => exact HC0.out); rintro e w37 ⟨rfl, hb⟩; have n0_ := Aside0.mk (Kd.N_below (by (with_reducible repeat (first | apply Kd.N_alloc | apply Kd.N_drewN | apply Kd.N_drew)); exact HO306.out) hb); have n1_ := Aside0.mk (Kd.N_below (by (with_reducible repeat (first | apply Kd.N_alloc | apply Kd.N_drewN | apply Kd.N_drew)); exact HO310.out) hb); have n2_ := Aside0.mk (Kd.N_below (by (with_reducible repeat (first | apply Kd.N_alloc | apply Kd.N_drewN | apply Kd.N_drew)); exact HO314.out) hb); have n3_ := Aside0.mk (below_step (by repeat (first | (with_reducible first | exact HB.out | apply below_alloc | apply pw_below_drewN | apply below_drew1) | exact HB.out)) hb); clear HO306; clear HO310; clear HO314; clear HB; have HO306 := n0_; have HO310 := n1_; have HO314 := n2_; have HB := n3_; clear n0_ n1_ n2_ n3_; (try clear hb); (try clear hb2); (try clear hk); (try clear hi)))
          go_ret
          exact ⟨by first | rfl | (simp [errW_none, errW_some] <;> rfl) | (simp [*, errW_none, errW_some] <;> rfl), by repeat (first | (with_reducible first | exact HB.out | apply below_alloc | apply pw_below_drewN | apply below_drew1) | exact HB.out)⟩
      · replace c13 := Bool.eq_false_iff.mpr c13
        subst c13
        have H1 : (some false) = some r := by rw [if_neg (show ¬ (false = true) by decide)] at H; exact H
        clear H
        have H := H1
        clear H1
        exact absurd ((Option.some.inj H).trans HLAW.out) (by decide)
    · replace c10 := Bool.eq_false_iff.mpr c10
      subst c10
      have H1 : (some false) = some r := by rw [if_neg (show ¬ (false = true) by decide)] at H; exact H
      clear H
      have H := H1
      clear H1
      exact absurd ((Option.some.inj H).trans HLAW.out) (by decide)
  · replace c7 := Bool.eq_false_iff.mpr c7
    subst c7
    have H1 : (some false) = some r := by rw [if_neg (show ¬ (false = true) by decide)] at H; exact H
    clear H
    have H := H1
    clear H1
    exact absurd ((Option.some.inj H).trans HLAW.out) (by decide)
open Go.Proofs.He
namespace Sp
abbrev En := S69
def cmpE (x y : S69) : Int := if cmpS x.f0 y.f0 = 0 then cmpS x.f1 y.f1 else cmpS x.f0 y.f0
def stIns (x : S69) : List S69 → List S69
  | [] => [x]
  | y :: l => if cmpE y x < 0 then y :: stIns x l else if cmpE y x = 0 then x :: l else x :: y :: l
def kLt (x y : S69) : Prop := x.f0.toList < y.f0.toList ∨ (x.f0.toList = y.f0.toList ∧ x.f1.toList < y.f1.toList)
theorem lt_cases (a b : List UInt8) : a < b ∨ a = b ∨ b < a := by
  by_cases h1 : a < b
  · exact .inl h1
  · rcases List.le_iff_lt_or_eq.1 (List.not_lt.1 h1) with h | h
    · exact .inr (.inr h)
    · exact .inr (.inl h.symm)
theorem cmpS_cases (a b : ByteArray) : (cmpS a b = -1 ∧ a.toList < b.toList) ∨ (cmpS a b = 0 ∧ a = b) ∨ (cmpS a b = 1 ∧ b.toList < a.toList) := by
  unfold cmpS
  rcases lt_cases a.toList b.toList with h | h | h
  · exact .inl ⟨by rw [if_pos h], h⟩
  · exact .inr (.inl ⟨by rw [if_neg (by rw [h]; exact List.lt_irrefl _), if_neg (by rw [h]; exact List.lt_irrefl _)], ba_ext h⟩)
  · exact .inr (.inr ⟨by rw [if_neg (List.lt_asymm h), if_pos h], h⟩)
theorem cmpE_neg {x y : S69} : cmpE x y < 0 ↔ kLt x y := by
  unfold cmpE kLt
  rcases cmpS_cases x.f0 y.f0 with ⟨h, h'⟩ | ⟨h, h'⟩ | ⟨h, h'⟩
  · simp [h, h']
  · rcases cmpS_cases x.f1 y.f1 with ⟨g, g'⟩ | ⟨g, g'⟩ | ⟨g, g'⟩ <;> rw [if_pos h, g]
    · simp [h', g']
    · simp [h', g', List.lt_irrefl]
    · simp [h', List.lt_irrefl, List.lt_asymm g']
  · simp [h, List.lt_asymm h']
    intro e; rw [e] at h'; exact absurd h' (List.lt_irrefl _)
theorem cmpE_zero {x y : S69} : cmpE x y = 0 ↔ x.f0 = y.f0 ∧ x.f1 = y.f1 := by
  unfold cmpE
  rcases cmpS_cases x.f0 y.f0 with ⟨h, h'⟩ | ⟨h, h'⟩ | ⟨h, h'⟩
  · simp [h]; intro e; rw [e] at h'; exact absurd h' (List.lt_irrefl _)
  · rcases cmpS_cases x.f1 y.f1 with ⟨g, g'⟩ | ⟨g, g'⟩ | ⟨g, g'⟩ <;> rw [if_pos h, g]
    · simp; intro _ e; rw [e] at g'; exact absurd g' (List.lt_irrefl _)
    · simp [h', g']
    · simp; intro _ e; rw [e] at g'; exact absurd g' (List.lt_irrefl _)
  · simp [h]; intro e; rw [e] at h'; exact absurd h' (List.lt_irrefl _)
theorem kLt_trans {x y z : S69} (h : kLt x y) (k : kLt y z) : kLt x z := by
  rcases h with h | ⟨h, h'⟩ <;> rcases k with k | ⟨k, k'⟩
  · exact .inl (List.lt_trans h k)
  · exact .inl (by rw [← k]; exact h)
  · exact .inl (by rw [h]; exact k)
  · exact .inr ⟨h.trans k, List.lt_trans h' k'⟩
def spSrt (l : List S69) : Prop := l.Pairwise kLt
def srtB : List S69 → Bool
  | x :: y :: l => decide (cmpE x y < 0) && srtB (y :: l)
  | _ => true
theorem srtB_iff : ∀ {l : List S69}, srtB l = true ↔ spSrt l
  | [] => by simp [srtB, spSrt]
  | [x] => by simp [srtB, spSrt]
  | x :: y :: l => by
    have ih := @srtB_iff (y :: l)
    simp only [srtB, Bool.and_eq_true, decide_eq_true_eq, ih, cmpE_neg, spSrt]
    constructor
    · rintro ⟨h1, h2⟩
      refine List.pairwise_cons.2 ⟨fun z hz => ?_, h2⟩
      rcases List.mem_cons.1 hz with rfl | hz
      · exact h1
      · exact kLt_trans h1 ((List.pairwise_cons.1 h2).1 z hz)
    · intro h
      obtain ⟨h1, h2⟩ := List.pairwise_cons.1 h
      exact ⟨h1 y (List.mem_cons_self ..), h2⟩
theorem kLt_irrefl (x : En) : ¬ kLt x x := by
  rintro (h | ⟨_, h⟩) <;> exact List.lt_irrefl _ h
theorem kLt_key {x y z : En} (h : kLt x y) (h0 : y.f0 = z.f0) (h1 : y.f1 = z.f1) : kLt x z := by
  unfold kLt at *; rw [← h0, ← h1]; exact h
theorem kLt_key' {x y z : En} (h : kLt y x) (h0 : y.f0 = z.f0) (h1 : y.f1 = z.f1) : kLt z x := by
  unfold kLt at *; rw [← h0, ← h1]; exact h
theorem kLt_tri (x y : En) : kLt x y ∨ (x.f0 = y.f0 ∧ x.f1 = y.f1) ∨ kLt y x := by
  rcases lt_cases x.f0.toList y.f0.toList with h | h | h
  · exact .inl (.inl h)
  · rcases lt_cases x.f1.toList y.f1.toList with g | g | g
    · exact .inl (.inr ⟨h, g⟩)
    · exact .inr (.inl ⟨ba_ext h, ba_ext g⟩)
    · exact .inr (.inr (.inr ⟨h.symm, g⟩))
  · exact .inr (.inr (.inl h))
theorem mem_stIns {x z : En} : ∀ {l : List En}, z ∈ stIns x l → z = x ∨ z ∈ l
  | [], h => by simp [stIns] at h; exact .inl h
  | y :: l, h => by
    rw [stIns] at h
    split at h
    · rcases List.mem_cons.1 h with h | h
      · exact .inr (by rw [h]; exact List.mem_cons_self ..)
      · rcases mem_stIns h with h | h
        · exact .inl h
        · exact .inr (List.mem_cons_of_mem _ h)
    · split at h
      · rcases List.mem_cons.1 h with h | h
        · exact .inl h
        · exact .inr (List.mem_cons_of_mem _ h)
      · rcases List.mem_cons.1 h with h | h
        · exact .inl h
        · exact .inr h
theorem srt_stIns (x : En) : ∀ {l : List En}, spSrt l → spSrt (stIns x l)
  | [], _ => by simp [stIns, spSrt]
  | y :: l, h => by
    obtain ⟨h1, h2⟩ := List.pairwise_cons.1 h
    rw [stIns]
    split
    · rename_i hn
      refine List.pairwise_cons.2 ⟨fun z hz => ?_, srt_stIns x h2⟩
      rcases mem_stIns hz with rfl | hz
      · exact cmpE_neg.1 hn
      · exact h1 z hz
    · split
      · rename_i he
        obtain ⟨e0, e1⟩ := cmpE_zero.1 he
        exact List.pairwise_cons.2 ⟨fun z hz => kLt_key' (h1 z hz) e0 e1, h2⟩
      · rename_i hn he
        have hxy : kLt x y := by
          rcases kLt_tri x y with h | h | h
          · exact h
          · exact absurd (cmpE_zero.2 ⟨h.1.symm, h.2.symm⟩) he
          · exact absurd (cmpE_neg.2 h) hn
        refine List.pairwise_cons.2 ⟨fun z hz => ?_, h⟩
        rcases List.mem_cons.1 hz with rfl | hz
        · exact hxy
        · exact kLt_trans hxy (h1 z hz)
theorem len_stIns (x : En) : ∀ l : List En, (stIns x l).length ≤ l.length + 1
  | [] => by simp [stIns]
  | y :: l => by
    have := len_stIns x l
    rw [stIns]
    split
    · simp; omega
    · split <;> simp
def overL (a b : List En) : List En := b.foldl (fun s y => stIns y s) a
theorem srt_overL : ∀ {b a : List En}, spSrt a → spSrt (overL a b)
  | [], _, h => h
  | y :: b, a, h => srt_overL (b := b) (srt_stIns y h)
theorem len_overL : ∀ (b a : List En), (overL a b).length ≤ a.length + b.length
  | [], _ => by simp [overL]
  | y :: b, a => by
    have h := len_overL b (stIns y a)
    have := len_stIns y a
    simp only [overL, List.foldl_cons, List.length_cons] at *
    omega
theorem srt_nil : spSrt ([] : List En) := List.Pairwise.nil
def refIns (x : En) : List En → List En
  | [] => [x]
  | y :: l => if 0 ≤ cmpE y x then x :: ((if cmpE y x = 0 then [] else [y]) ++ l.filter (fun z => cmpE z x != 0)) else y :: refIns x l
theorem refIns_eq (x : En) : ∀ {l : List En}, spSrt l → refIns x l = stIns x l
  | [], _ => rfl
  | y :: l, h => by
    obtain ⟨h1, h2⟩ := List.pairwise_cons.1 h
    rw [refIns, stIns]
    by_cases hn : cmpE y x < 0
    · rw [if_neg (by omega), if_pos hn, refIns_eq x h2]
    · have hf : l.filter (fun z => cmpE z x != 0) = l := by
        rw [List.filter_eq_self]
        intro z hz
        have hyz := h1 z hz
        simp only [bne_iff_ne, ne_eq]
        intro e
        obtain ⟨e0, e1⟩ := cmpE_zero.1 e
        exact hn (cmpE_neg.2 (kLt_key hyz e0 e1))
      rw [if_pos (by omega), if_neg hn, hf]
      by_cases h0 : cmpE y x = 0
      · rw [if_pos h0, if_pos h0]; rfl
      · rw [if_neg h0, if_neg h0]; rfl
theorem ref_order (k : Nat) (a b : En) : heliastref13_order.f (k + 1) a.f0 a.f1 a.f2 b.f0 b.f1 b.f2 = some (cmpE a b) := by
  simp only [heliastref13_order.f, heliastref13_order.j0, He.bytesLess_eq, decide_eq_true_eq]
  unfold cmpE
  rcases cmpS_cases a.f0 b.f0 with ⟨h, h'⟩ | ⟨h, h'⟩ | ⟨h, h'⟩
  · simp [h, h']
  · rcases cmpS_cases a.f1 b.f1 with ⟨g, g'⟩ | ⟨g, g'⟩ | ⟨g, g'⟩ <;> rw [if_pos h, g]
    · simp [h', List.lt_irrefl, g']
    · simp [h', g', List.lt_irrefl]
    · have : b.f1.toList ≠ a.f1.toList := fun e => by rw [e] at g'; exact List.lt_irrefl _ g'
      simp [h', List.lt_irrefl, List.lt_asymm g', Ne.symm this]
  · have : a.f0.toList ≠ b.f0.toList := fun e => by rw [e] at h'; exact List.lt_irrefl _ h'
    simp [h, List.lt_asymm h', this]
theorem wrap_small {i : Int} (h0 : -9223372036854775808 ≤ i) (h : i ≤ 9223372036854775807) : wrap64 i = i := by unfold wrap64; omega
theorem rd_en {l : List En} {i : Nat} (h : i < l.length) : rd_T69 l (i : Int) = l[i] := by simp [rd_T69, h]
theorem ref_Put_l0 (x : En) (l : List En) (hl : l.length < 3518437208882) (d : Nat) : ∀ (i : Nat) (out : List En) (laid : Bool) (k : Nat), i + d = l.length → 3 * d + 2 ≤ k → out.length ≤ i + (if laid then 1 else 0) →
    heliastref13_Put.l0 k l out laid (i : Int) x.f0 x.f1 x.f2 = some (out ++ (if laid then (l.drop i).filter (fun z => cmpE z x != 0) else refIns x (l.drop i))) := by
  induction d with
  | zero =>
    intro i out laid k hd hk ho
    obtain ⟨k, rfl⟩ : ∃ m, k = m + 1 := ⟨k - 1, by omega⟩
    have e : l.drop i = [] := List.drop_eq_nil_of_le (by omega)
    simp only [heliastref13_Put.l0]
    rw [if_neg (by omega), e]
    cases laid
    · simp only [Bool.false_eq_true, if_false, Nat.add_zero] at ho ⊢
      rw [if_pos (by omega)]; rfl
    · simp
  | succ d ih =>
    intro i out laid k hd hk ho
    obtain ⟨k, rfl⟩ : ∃ m, k = m + 3 := ⟨k - 3, by omega⟩
    have hi : i < l.length := by omega
    have ed : l.drop i = l[i] :: l.drop (i + 1) := List.drop_eq_getElem_cons hi
    have hw : wrap64 ((i : Int) + 1) = ((i + 1 : Nat) : Int) := by rw [wrap_small (by omega) (by omega)]; rfl
    simp only [heliastref13_Put.l0]
    rw [if_pos (by omega), if_pos (by omega), rd_en hi, ref_order (k + 1), Option.bind_some, ed]
    cases laid
    · simp only [Bool.false_eq_true, if_false, Nat.add_zero] at ho ⊢
      simp only [heliastref13_Put.j1]
      rw [refIns]
      by_cases hc : 0 ≤ cmpE l[i] x
      · rw [if_pos hc, if_pos (by simpa using hc), if_pos (by omega), Option.bind_some]
        by_cases h0 : cmpE l[i] x = 0
        · rw [if_pos h0, hw, ih (i + 1) _ true (k + 1) (by omega) (by omega) (by simp; omega), if_pos h0]
          simp
        · rw [if_neg h0, if_pos (by omega), if_pos (by omega), if_pos (by simp; omega), hw, rd_en hi, ih (i + 1) _ true (k + 1) (by omega) (by omega) (by simp; omega), if_neg h0]
          simp
      · have h0 : ¬ cmpE l[i] x = 0 := by omega
        rw [if_neg hc, if_neg (by simpa using hc), if_neg h0, if_pos (by omega), if_pos (by omega), if_pos (by omega), hw, rd_en hi, ih (i + 1) _ false (k + 1) (by omega) (by omega) (by simp; omega)]
        simp
    · simp only [if_true] at ho ⊢
      simp only [heliastref13_Put.j1, Bool.false_eq_true, if_false]
      rw [List.filter_cons]
      by_cases h0 : cmpE l[i] x = 0
      · rw [if_pos h0, hw, ih (i + 1) _ true (k + 1) (by omega) (by omega) (by simp; omega)]
        simp [h0]
      · rw [if_neg h0, if_pos (by omega), if_pos (by omega), if_pos (by omega), hw, rd_en hi, ih (i + 1) _ true (k + 1) (by omega) (by omega) (by simp; omega)]
        simp [h0]
theorem ref_Put (x : En) (l : List En) (hl : l.length < 3518437208882) (hs : spSrt l) (k : Nat) (hk : 3 * l.length + 2 ≤ k) : heliastref13_Put.f k l x.f0 x.f1 x.f2 = some (stIns x l) := by
  have h := ref_Put_l0 x l hl l.length 0 [] false k (by omega) hk (by simp)
  unfold heliastref13_Put.f
  rw [show (0 : Int) = ((0 : Nat) : Int) from rfl, h]
  simp [refIns_eq x hs]
theorem mx_one (m : Int) : 1 ≤ mx m 1 := by unfold mx; split <;> omega
def okSt (m : Int) (n : Nat) (s : List En) : Prop := spSrt s ∧ s.length ≤ n ∧ ∀ y ∈ s, (0 ≤ y.f2 ∧ y.f2 < mx m 1) ∧ y.f0.size ≤ 100 ∧ y.f1.size ≤ 100
theorem rdOf_size {l : List ByteArray} (h : ∀ y ∈ l, y.size ≤ 100) (i : Int) : (rdOf ByteArray.empty l i).size ≤ 100 := by
  unfold rdOf
  rw [List.getD_eq_getElem?_getD]
  cases e : l[i.toNat]? with
  | none => decide
  | some y => exact h y (List.mem_of_getElem? e)
theorem State_l0 (c : List Int) (m : Int) (T Ks : List ByteArray) (hT : T.length = 5) (hK : Ks.length = 3) (hTs : ∀ y ∈ T, y.size ≤ 100) (hKs : ∀ y ∈ Ks, y.size ≤ 100) (hc : ∀ x ∈ c, 0 ≤ x ∧ x ≤ 255) (hlen : c.length ≤ 140737488351232) (d : Nat) :
    ∀ (i : Nat) (out : List En), i + 2 * d = 40 → okSt m (i / 2) out → ∃ s, okSt m 20 s ∧ ∀ k, d + 65 ≤ k → heliastlaw13_State.l0 k c m T Ks out (i : Int) = some s := by
  have hrd : ∀ j : Nat, j < c.length → 0 ≤ rd c (j : Int) ∧ rd c (j : Int) ≤ 255 := fun j hj => by
    have : rd c (j : Int) = c[j] := by simp [rd, hj]
    rw [this]; exact hc _ (List.getElem_mem hj)
  induction d with
  | zero =>
    intro i out hi ⟨h1, h2, h3⟩
    refine ⟨out, ⟨h1, by omega, h3⟩, fun k hk => ?_⟩
    obtain ⟨k, rfl⟩ : ∃ m, k = m + 1 := ⟨k - 1, by omega⟩
    simp only [heliastlaw13_State.l0]
    split
    · rw [if_neg (by omega)]
    · rfl
  | succ d ih =>
    intro i out hi ⟨h1, h2, h3⟩
    have hw1 : wrap64 ((i : Int) + 1) = ((i + 1 : Nat) : Int) := by rw [wrap_small (by omega) (by omega)]; rfl
    have hw2 : wrap64 ((i : Int) + 2) = ((i + 2 : Nat) : Int) := by rw [wrap_small (by omega) (by omega)]; rfl
    by_cases hlt : i + 1 < c.length
    · obtain ⟨r1, r2⟩ := hrd i (by omega)
      obtain ⟨r3, r4⟩ := hrd (i + 1) hlt
      have hm := mx_one m
      have e1 : Int.tmod (rd c (i : Int)) 5 = rd c (i : Int) % 5 := Int.tmod_eq_emod_of_nonneg r1
      have e2 : Int.tdiv (rd c (i : Int)) 5 = rd c (i : Int) / 5 := Int.tdiv_eq_ediv_of_nonneg r1
      have e3 : wrap64 (rd c ((i + 1 : Nat) : Int)) = rd c ((i + 1 : Nat) : Int) := wrap_small (by omega) (by omega)
      have e4 : Int.tmod (rd c ((i + 1 : Nat) : Int)) (mx m 1) = rd c ((i + 1 : Nat) : Int) % mx m 1 := Int.tmod_eq_emod_of_nonneg r3
      obtain ⟨x, hx⟩ : ∃ x : En, x = ⟨rdOf ByteArray.empty T (rd c (i : Int) % 5), rdOf ByteArray.empty Ks (rd c (i : Int) / 5 % 256 % 3), rd c ((i + 1 : Nat) : Int) % mx m 1⟩ := ⟨_, rfl⟩
      have hx2 : (0 ≤ x.f2 ∧ x.f2 < mx m 1) ∧ x.f0.size ≤ 100 ∧ x.f1.size ≤ 100 := by rw [hx]; exact ⟨⟨Int.emod_nonneg _ (by omega), Int.emod_lt_of_pos _ (by omega)⟩, rdOf_size hTs _, rdOf_size hKs _⟩
      obtain ⟨s, hs, hf⟩ := ih (i + 2) (stIns x out) (by omega) ⟨srt_stIns x h1, by have := len_stIns x out; omega, fun y hy => by
        rcases mem_stIns hy with rfl | hy
        · exact hx2
        · exact h3 y hy⟩
      refine ⟨s, hs, fun k hk => ?_⟩
      obtain ⟨k, rfl⟩ : ∃ m, k = m + 1 := ⟨k - 1, by omega⟩
      simp only [heliastlaw13_State.l0]
      rw [hw1, hw2, e1, e2, e3, e4, if_pos (by omega), if_pos (by omega), if_pos (by omega), if_pos (by omega), if_pos (by omega), if_pos (by rw [hT]; omega), if_pos (by omega), if_pos (by rw [hK]; omega), if_pos (by omega), if_neg (by omega)]
      have := ref_Put x out (by omega) h1 k (by omega)
      rw [hx] at this
      rw [this, Option.bind_some, ← hx]
      exact hf k (by omega)
    · refine ⟨out, ⟨h1, by omega, h3⟩, fun k hk => ?_⟩
      obtain ⟨k, rfl⟩ : ∃ m, k = m + 1 := ⟨k - 1, by omega⟩
      simp only [heliastlaw13_State.l0]
      rw [hw1, if_neg (by omega)]
theorem State_f (c : List Int) (m : Int) (hc : ∀ x ∈ c, 0 ≤ x ∧ x ≤ 255) (hlen : c.length ≤ 140737488351232) : ∃ s, okSt m 20 s ∧ ∀ k, 100 ≤ k → heliastlaw13_State.f k c m = some s := by
  unfold heliastlaw13_State.f
  exact Exists.imp (fun s h => ⟨h.1, fun k hk => h.2 k (by omega)⟩) (State_l0 c m _ _ (by rfl) (by rfl) (by decide) (by decide) hc hlen 20 0 [] (by omega) ⟨srt_nil, by simp, fun y hy => by simp at hy⟩)
theorem wf_u8 {c : List Int} (h : ∀ x ∈ c, (Lit.int .u8 x).wf = true) : ∀ x ∈ c, 0 ≤ x ∧ x ≤ 255 := by
  intro x hx
  have := h x hx
  simp [Lit.wf, IntKind.min, IntKind.max, IntKind.signed, IntKind.bits] at this
  omega
theorem State_ev (c : List Int) (m : Int) (hc : ∀ x ∈ c, 0 ≤ x ∧ x ≤ 255) (hlen : c.length ≤ 140737488351232) : ∃ s, okSt m 20 s ∧ Ev (fun k => heliastlaw13_State.f k c m) s := by
  obtain ⟨s, h1, h2⟩ := State_f c m hc hlen
  exact ⟨s, h1, 100, h2⟩
structure OkL (m : Int) (L : List (List En)) : Prop where
  few : L.length ≤ 4
  ok : ∀ s ∈ L, okSt m 40 s
end Sp
open Go.Proofs.He
namespace Sp
theorem Over_ev (a b : List En) (hs : spSrt a) (hl : a.length + b.length < 3518437208882) : Ev (fun k => heliastref13_Over.f k a b) (overL a b) := by
  have key : ∀ (d i : Nat) (cur : List En), spSrt cur → cur.length + d < 3518437208882 → i + d = b.length → b.length < 3518437208882 → Ev (fun k => heliastref13_Over.l0 k b cur (i : Int)) (overL cur (b.drop i)) := by
    intro d
    induction d with
    | zero =>
      intro i cur h1 h2 h3 h4
      refine Ev.step (f := fun _ => some cur) (fun k => ?_) ?_
      · simp only [heliastref13_Over.l0]; rw [if_neg (by omega)]
      · rw [List.drop_eq_nil_of_le (by omega)]; exact Ev.now _
    | succ d ih =>
      intro i cur h1 h2 h3 h4
      have hi : i < b.length := by omega
      have hw : wrap64 ((i : Int) + 1) = ((i + 1 : Nat) : Int) := by rw [wrap_small (by omega) (by omega)]; rfl
      refine Ev.step (f := fun k => (heliastref13_Put.f k cur b[i].f0 b[i].f1 b[i].f2).bind fun t => heliastref13_Over.l0 k b t ((i + 1 : Nat) : Int)) (fun k => ?_) ?_
      · simp only [heliastref13_Over.l0]; rw [if_pos (by omega), if_pos (by omega), rd_en hi, hw]
      · rw [List.drop_eq_getElem_cons hi]
        refine Ev.bind (a := stIns b[i] cur) ⟨3 * cur.length + 2, fun k hk => ref_Put b[i] cur (by omega) h1 k hk⟩ ?_
        exact ih (i + 1) _ (srt_stIns _ h1) (by have := len_stIns b[i] cur; omega) (by omega) h4
  have := key b.length 0 a hs hl (by omega) (by omega)
  simpa [heliastref13_Over.f] using this
theorem mem_overL {z : En} : ∀ {b a : List En}, z ∈ overL a b → z ∈ a ∨ z ∈ b
  | [], a, h => .inl h
  | y :: b, a, h => by
    have h' : z ∈ overL (stIns y a) b := h
    rcases mem_overL h' with h | h
    · rcases mem_stIns h with rfl | h
      · exact .inr (List.mem_cons_self ..)
      · exact .inl h
    · exact .inr (List.mem_cons_of_mem _ h)
theorem few_lt {n : Nat} (h : n ≤ 4) : n < 5864062014805 := by omega
theorem States_ev (c d : List Int) (m : Int) (hc : ∀ x ∈ c, 0 ≤ x ∧ x ≤ 255) (hcl : c.length ≤ 140737488351232) (hd : ∀ x ∈ d, 0 ≤ x ∧ x ≤ 255) (hdl : d.length ≤ 140737488351232) : ∃ L, OkL m L ∧ Ev (fun k => heliastlaw16_States.f k c d m) L := by
  obtain ⟨S, hS, hSe⟩ := State_ev c m hc hcl
  have key : ∀ (q i : Nat) (n : Int) (L : List (List En)), n = i + q → n ≤ 4 → L.length = i → (∀ s ∈ L, okSt m 40 s) → ∃ R, OkL m R ∧ Ev (fun k => heliastlaw16_States.l0 k c d m L n (i : Int)) R := by
    intro q
    induction q with
    | zero =>
      intro i n L hn h4 hL hok
      refine ⟨L, ⟨by omega, hok⟩, Ev.step (f := fun _ => some L) (fun k => ?_) (Ev.now _)⟩
      simp only [heliastlaw16_States.l0]; rw [if_neg (by omega)]
    | succ q ih =>
      intro i n L hn h4 hL hok
      have hi4 : L.length ≤ 4 := by omega
      have hLt := few_lt hi4
      have hw1 : wrap64 (3 * (i : Int)) = 3 * (i : Int) := wrap_small (by omega) (by omega)
      have hw2 : wrap64 (1 + 3 * (i : Int)) = 1 + 3 * (i : Int) := wrap_small (by omega) (by omega)
      obtain ⟨f, hf⟩ : ∃ f, f = mn (d.length : Int) (1 + 3 * (i : Int)) := ⟨_, rfl⟩
      have hf0 : 0 ≤ f ∧ f ≤ d.length := by rw [hf]; unfold mn; split <;> omega
      have hw3 : wrap64 (f + 6) = f + 6 := wrap_small (by omega) (by omega)
      obtain ⟨t, ht⟩ : ∃ t, t = mn (d.length : Int) (f + 6) := ⟨_, rfl⟩
      have ht0 : f ≤ t ∧ t ≤ d.length := by rw [ht]; unfold mn; split <;> omega
      have hw4 : wrap64 ((i : Int) + 1) = ((i + 1 : Nat) : Int) := by rw [wrap_small (by omega) (by omega)]; rfl
      obtain ⟨T, hT, hTe⟩ := State_ev ((d.take t.toNat).drop f.toNat) m (fun x hx => hd x (List.mem_of_mem_take (List.mem_of_mem_drop hx))) (by rw [List.length_drop, List.length_take]; omega)
      have hO := Over_ev S T hS.1 (by have := hS.2.1; have := hT.2.1; omega)
      have hok2 : okSt m 40 (overL S T) := ⟨srt_overL hS.1, by have := len_overL T S; have := hS.2.1; have := hT.2.1; omega, fun y hy => by
        rcases mem_overL hy with h | h
        · exact hS.2.2 y h
        · exact hT.2.2 y h⟩
      obtain ⟨R, hR, hRe⟩ := ih (i + 1) n (L ++ [overL S T]) (by omega) h4 (by simp; omega) (fun s hs => by
        rcases List.mem_append.1 hs with h | h
        · exact hok s h
        · rw [List.mem_singleton.1 h]; exact hok2)
      refine ⟨R, hR, Ev.step (f := fun k => (heliastlaw13_State.f k ((d.take t.toNat).drop f.toNat) m).bind fun t1 => (heliastlaw13_State.f k c m).bind fun t2 => (heliastref13_Over.f k t2 t1).bind fun t3 => heliastlaw16_States.l0 k c d m (L ++ [t3]) n ((i + 1 : Nat) : Int)) (fun k => ?_) ?_⟩
      · simp only [heliastlaw16_States.l0]
        rw [hw1, hw2, ← hf, hw3, ← ht, hw4, if_pos (by omega), if_pos (by omega), if_pos (by omega), if_pos (by omega)]
        simp only [if_pos hLt]
      · refine Ev.bind (g := fun k => heliastlaw13_State.f k ((d.take t.toNat).drop f.toNat) m) (f := fun k t1 => (heliastlaw13_State.f k c m).bind fun t2 => (heliastref13_Over.f k t2 t1).bind fun t3 => heliastlaw16_States.l0 k c d m (L ++ [t3]) n ((i + 1 : Nat) : Int)) hTe ?_
        refine Ev.bind (g := fun k => heliastlaw13_State.f k c m) (f := fun k t2 => (heliastref13_Over.f k t2 T).bind fun t3 => heliastlaw16_States.l0 k c d m (L ++ [t3]) n ((i + 1 : Nat) : Int)) hSe ?_
        exact Ev.bind (g := fun k => heliastref13_Over.f k S T) (f := fun k t3 => heliastlaw16_States.l0 k c d m (L ++ [t3]) n ((i + 1 : Nat) : Int)) hO hRe
  have hj : ∀ n : Int, 0 ≤ n → n ≤ 4 → ∃ R, OkL m R ∧ Ev (fun k => heliastlaw16_States.j0 k c d m [] n) R := fun n h0 h4 => by
    obtain ⟨R, hR, hRe⟩ := key n.toNat 0 n [] (by omega) h4 rfl (by simp)
    exact ⟨R, hR, Ev.step (f := fun k => heliastlaw16_States.l0 k c d m [] n 0) (fun k => by simp only [heliastlaw16_States.j0]) hRe⟩
  by_cases h : 0 < d.length
  · have hr : 0 ≤ rd d 0 ∧ rd d 0 ≤ 255 := by
      have : rd d 0 = d[0] := by simp [rd, h]
      rw [this]; exact hd _ (List.getElem_mem h)
    have e1 : Int.tmod (rd d 0) 5 = rd d 0 % 5 := Int.tmod_eq_emod_of_nonneg hr.1
    obtain ⟨R, hR, hRe⟩ := hj (rd d 0 % 5) (by omega) (by omega)
    refine ⟨R, hR, Ev.congr (fun k => ?_) hRe⟩
    unfold heliastlaw16_States.f
    rw [if_pos (by omega), if_pos (by omega), e1, wrap_small (by omega) (by omega)]
  · obtain ⟨R, hR, hRe⟩ := hj 2 (by omega) (by omega)
    refine ⟨R, hR, Ev.congr (fun k => ?_) hRe⟩
    unfold heliastlaw16_States.f
    rw [if_neg (by omega)]
end Sp
open Go.Proofs.He
namespace Sp
theorem rd_get {l : List Int} {i : Nat} (h : i < l.length) : rd l (i : Int) = l[i] := by simp [rd, h]
theorem wrap_sm {i : Int} (h0 : -9223372036854775808 ≤ i) (h : i ≤ 9223372036854775807) : wrap64 i = i := by unfold wrap64; omega
theorem g12_Same_l0 (a b : List Int) (hl : a.length = b.length) (hb : b.length < 4611686018427387904) (d : Nat) : ∀ (i k : Nat), i + d = a.length → d + 1 ≤ k → heliastref12_Same.l0 k a b (i : Int) = some (decide (a.drop i = b.drop i)) := by
  induction d with
  | zero =>
    intro i k hd hk
    obtain ⟨k, rfl⟩ : ∃ m, k = m + 1 := ⟨k - 1, by omega⟩
    simp only [heliastref12_Same.l0]
    rw [if_neg (by omega), List.drop_eq_nil_of_le (by omega), List.drop_eq_nil_of_le (by omega)]; rfl
  | succ d ih =>
    intro i k hd hk
    obtain ⟨k, rfl⟩ : ∃ m, k = m + 1 := ⟨k - 1, by omega⟩
    have hi : i < a.length := by omega
    have hj : i < b.length := by omega
    have hw : wrap64 ((i : Int) + 1) = ((i + 1 : Nat) : Int) := by rw [wrap_sm (by omega) (by omega)]; rfl
    have hd2 : (a.drop i = b.drop i) ↔ (a[i] = b[i] ∧ a.drop (i + 1) = b.drop (i + 1)) := by
      rw [List.drop_eq_getElem_cons hi, List.drop_eq_getElem_cons hj, List.cons.injEq]
    simp only [heliastref12_Same.l0]
    rw [if_pos (by omega), if_pos (by omega), if_pos (by omega), rd_get hi, rd_get hj, decide_eq_decide.2 hd2]
    by_cases he : a[i] = b[i]
    · rw [if_pos he, hw, ih (i + 1) k (by omega) (by omega)]
      simp only [he, true_and]
    · rw [if_neg he, decide_eq_false (fun h => he h.1)]
theorem g12_Same (a b : List Int) (hb : b.length < 4611686018427387904) (k : Nat) (hk : b.length + 1 ≤ k) : heliastref12_Same.f k a b = some (decide (a = b)) := by
  unfold heliastref12_Same.f
  by_cases hl : a.length = b.length
  · have h := g12_Same_l0 a b hl hb a.length 0 k (by omega) (by omega)
    rw [if_pos (by omega), show (0 : Int) = ((0 : Nat) : Int) from rfl, h]
    rfl
  · rw [if_neg (by omega)]
    have : a ≠ b := fun e => hl (by rw [e])
    simp [this]
theorem Same12_ev (a b : List Int) (hb : b.length < 4611686018427387904) : Ev (fun k => heliastref12_Same.f k a b) (decide (a = b)) := ⟨b.length + 1, fun k hk => g12_Same a b hb k hk⟩
end Sp
open Go.Proofs.He
namespace Sp
def g12_sel (c : List Int) (i j : Int) : Bool := decide ((Int.tmod (wrap64 ((wrap64 ((wrap64 (rd c i)) + (wrap64 (j * 7)))) + (wrap64 (rd c (Int.tmod (wrap64 (i + j)) (c.length : Int)))))) 5) = 0) || (decide (j = wrap64 (i - 1)) && decide ((Int.tmod (rd c i) 3) = 0))
theorem g12_Graph_l1 (c : List Int) (G : List (List Int)) (i : Nat) (hi : i < c.length) (hi2 : i < 24) (hG : G.length < 5864062014805) (d : Nat) : ∀ (j : Nat) (L : List Int) (K k : Nat), K = k + d + 1 → j + d = i → L.length ≤ j →
    heliastlaw12_Graph.l1 K c G (i : Int) L (j : Int) = heliastlaw12_Graph.l0 k c (G ++ [L ++ (seg j d).filter (g12_sel c i)]) (((i + 1 : Nat) : Int)) := by
  induction d with
  | zero =>
    intro j L K k hK hd hL
    subst hK
    have hw : wrap64 ((i : Int) + 1) = ((i + 1 : Nat) : Int) := by rw [wrap_sm (by omega) (by omega)]; rfl
    simp only [heliastlaw12_Graph.l1]
    rw [if_neg (by omega), if_pos hG, hw, seg_zero]
    simp
  | succ d ih =>
    intro j L K0 k hK hd hL
    obtain ⟨K, rfl⟩ : ∃ m, K0 = m + 1 := ⟨K0 - 1, by omega⟩
    have hw : wrap64 ((j : Int) + 1) = ((j + 1 : Nat) : Int) := by rw [wrap_sm (by omega) (by omega)]; rfl
    have hw2 : wrap64 ((i : Int) + j) = ((i + j : Nat) : Int) := by rw [wrap_sm (by omega) (by omega)]; rfl
    have hc0 : 0 < (c.length : Int) := by omega
    have hm0 : 0 ≤ Int.tmod ((i + j : Nat) : Int) (c.length : Int) := Int.tmod_nonneg _ (by omega)
    have hm1 : Int.tmod ((i + j : Nat) : Int) (c.length : Int) < (c.length : Int) := Int.tmod_lt_of_pos _ hc0
    simp only [heliastlaw12_Graph.l1]
    rw [if_pos (by omega), if_pos (by omega), if_pos (by omega), if_neg (by omega), hw2, if_pos hm0, if_pos hm1, hw, seg_succ]
    by_cases h1 : (Int.tmod (wrap64 ((wrap64 ((wrap64 (rd c i)) + (wrap64 ((j : Int) * 7)))) + (wrap64 (rd c (Int.tmod ((i + j : Nat) : Int) (c.length : Int)))))) 5) = 0
    · have hs : g12_sel c i j = true := by unfold g12_sel; rw [hw2, decide_eq_true h1]; rfl
      rw [if_pos h1, if_pos (by omega), ih (j + 1) (L ++ [(j : Int)]) K k (by omega) (by omega) (by simp; omega), List.filter_cons_of_pos hs]
      simp
    · rw [if_neg h1]
      by_cases h2 : (j : Int) = wrap64 ((i : Int) - 1)
      · rw [if_pos h2]
        by_cases h3 : (Int.tmod (rd c i) 3) = 0
        · have hs : g12_sel c i j = true := by unfold g12_sel; rw [hw2, decide_eq_false h1, decide_eq_true h2, decide_eq_true h3]; rfl
          rw [if_pos h3, if_pos (by omega), ih (j + 1) (L ++ [(j : Int)]) K k (by omega) (by omega) (by simp; omega), List.filter_cons_of_pos hs]
          simp
        · have hs : ¬ g12_sel c i j = true := by unfold g12_sel; rw [hw2, decide_eq_false h1, decide_eq_true h2, decide_eq_false h3]; simp
          rw [if_neg h3, ih (j + 1) L K k (by omega) (by omega) (by omega), List.filter_cons_of_neg hs]
      · have hs : ¬ g12_sel c i j = true := by unfold g12_sel; rw [hw2, decide_eq_false h1, decide_eq_false h2]; simp
        rw [if_neg h2, ih (j + 1) L K k (by omega) (by omega) (by omega), List.filter_cons_of_neg hs]
def g12_rows (c : List Int) (i d : Nat) : List (List Int) := (List.range' i d).map fun n => (seg 0 n).filter (g12_sel c n)
theorem g12_Graph_l0 (c : List Int) (m : Nat) (hm : m = min c.length 24) (d : Nat) : ∀ (i : Nat) (G : List (List Int)) (k : Nat), i + d = m → G.length = i → 30 * d + 3 ≤ k → heliastlaw12_Graph.l0 k c G (i : Int) = some (G ++ g12_rows c i d) := by
  induction d with
  | zero =>
    intro i G k hd hG hk
    obtain ⟨k, rfl⟩ : ∃ q, k = q + 2 := ⟨k - 2, by omega⟩
    simp only [heliastlaw12_Graph.l0, heliastlaw12_Graph.j1]
    by_cases h : (i : Int) < (c.length : Int)
    · rw [if_pos h, decide_eq_false (by omega)]; simp [g12_rows]
    · rw [if_neg h]; simp [g12_rows]
  | succ d ih =>
    intro i G k hd hG hk
    obtain ⟨k, rfl⟩ : ∃ q, k = (q + i + 1) + 2 := ⟨k - i - 3, by omega⟩
    have h1 := g12_Graph_l1 c G i (by omega) (by omega) (by omega) i 0 [] (k + i + 1) k rfl (by omega) (by simp)
    simp only [heliastlaw12_Graph.l0, heliastlaw12_Graph.j1]
    rw [if_pos (by omega), decide_eq_true (by omega), if_pos rfl, show (0 : Int) = ((0 : Nat) : Int) from rfl, h1, List.nil_append, ih (i + 1) _ k (by omega) (by simp; omega) (by omega)]
    unfold g12_rows
    rw [List.range'_succ, List.map_cons, List.append_assoc, List.singleton_append]
def g12_graph (c : List Int) : List (List Int) := g12_rows c 0 (min c.length 24)
theorem g12_Graph (c : List Int) (k : Nat) (hk : 1000 ≤ k) : heliastlaw12_Graph.f k c = some (g12_graph c) := by
  unfold heliastlaw12_Graph.f
  rw [show (0 : Int) = ((0 : Nat) : Int) from rfl, g12_Graph_l0 c (min c.length 24) rfl (min c.length 24) 0 [] k (by omega) rfl (by omega)]
  rfl
theorem g12_graph_length (c : List Int) : (g12_graph c).length = min c.length 24 := by simp [g12_graph, g12_rows]
end Sp
open Go.Proofs.He
namespace Sp
theorem pl_wrap {i : Int} (h0 : -9223372036854775808 ≤ i) (h : i ≤ 9223372036854775807) : wrap64 i = i := by unfold wrap64; omega
theorem pl_rd {l : List Int} {i : Nat} (h : i < l.length) : rd l (i : Int) = l[i] := by simp [rd, h]
theorem pl_Has_l0 (l : List Int) (x : Int) (hl : l.length < 4611686018427387904) (d : Nat) : ∀ (i k : Nat), i + d = l.length → d + 1 ≤ k → heliastref12_Has.l0 k l x (i : Int) = some (decide (x ∈ l.drop i)) := by
  induction d with
  | zero =>
    intro i k hd hk
    obtain ⟨k, rfl⟩ : ∃ m, k = m + 1 := ⟨k - 1, by omega⟩
    simp only [heliastref12_Has.l0]
    rw [if_neg (by omega), List.drop_eq_nil_of_le (by omega)]; simp
  | succ d ih =>
    intro i k hd hk
    obtain ⟨k, rfl⟩ : ∃ m, k = m + 1 := ⟨k - 1, by omega⟩
    have hi : i < l.length := by omega
    have hw : wrap64 ((i : Int) + 1) = ((i + 1 : Nat) : Int) := by rw [pl_wrap (by omega) (by omega)]; rfl
    simp only [heliastref12_Has.l0]
    rw [if_pos (by omega), if_pos (by omega), pl_rd hi, List.drop_eq_getElem_cons hi]
    by_cases he : l[i] = x
    · rw [if_pos he]; simp [he]
    · rw [if_neg he, hw, ih (i + 1) k (by omega) (by omega)]
      have hx : x ≠ l[i] := fun e => he e.symm
      refine congrArg some (decide_eq_decide.2 ?_)
      rw [List.mem_cons]
      exact ⟨fun h => .inr h, fun h => h.resolve_left hx⟩
theorem pl_Has (l : List Int) (x : Int) (hl : l.length < 4611686018427387904) (k : Nat) (hk : l.length + 1 ≤ k) : heliastref12_Has.f k l x = some (decide (x ∈ l)) := by
  unfold heliastref12_Has.f
  rw [show (0 : Int) = ((0 : Nat) : Int) from rfl, pl_Has_l0 l x hl l.length 0 k (by omega) hk]; rfl
theorem Has_ev (l : List Int) (x : Int) (hl : l.length < 4611686018427387904) : Ev (fun k => heliastref12_Has.f k l x) (decide (x ∈ l)) := ⟨l.length + 1, fun k hk => pl_Has l x hl k hk⟩
end Sp
end Go.Proofs.Ytmmalieacakcbaa.S
end
section
namespace Go.Proofs.Ytmmalieacakcbaa.S
open Go.RowKit Go.Proofs.YtmmalieacakcbaaW.PrintWords Go.Proofs.YtmmalieacakcbaaW.PrintLast Go.Proofs.YtmmalieacakcbaaW.PrintMore
attribute [local go_sem] max2_int min2_int max_two min_two max_three min_three max_four min_four
set_option linter.unusedVariables false
set_option linter.unusedSimpArgs false
open Go.Proofs.He
namespace Sp
theorem g12_row (g : List (List Int)) (i : Nat) : rd_L6 g (i : Int) = g.getD i [] := by unfold rd_L6; rw [Int.toNat_natCast]
def Marks (g : List (List Int)) (B : List Bool) (S : List Int) : Prop := B.length = g.length ∧ ∀ x : Nat, x < g.length → B.getD x false = decide ((x : Int) ∈ S)
theorem Marks.set {g : List (List Int)} {B : List Bool} {S : List Int} (h : Marks g B S) {x : Int} (h0 : 0 ≤ x) (h1 : x < g.length) : Marks g (B.set x.toNat true) (S ++ [x]) := by
  refine ⟨by rw [List.length_set]; exact h.1, fun y hy => ?_⟩
  have hy2 := h.2 y hy
  rw [List.getD_eq_getElem?_getD] at hy2 ⊢
  rw [List.getElem?_set]
  by_cases e : x.toNat = y
  · rw [if_pos e, if_pos (by rw [h.1]; omega)]
    simp; exact .inr (by omega)
  · rw [if_neg e, hy2]
    refine decide_eq_decide.2 ?_
    rw [List.mem_append, List.mem_singleton]
    exact ⟨.inl, fun h => h.resolve_right (by omega)⟩
theorem Marks.at {g : List (List Int)} {B : List Bool} {S : List Int} (h : Marks g B S) {x : Nat} (h1 : x < g.length) : rdOf false B (x : Int) = decide ((x : Int) ∈ S) := by
  unfold rdOf; rw [Int.toNat_natCast]; exact h.2 x h1
theorem gA_Reach_l0 (g : List (List Int)) (hg : g.length ≤ 5864062014805) (l : List Int) (hl : l.length < 4611686018427387904) (d : Nat) : ∀ (i : Nat) (B : List Bool) (S : List Int), i + d = l.length → Marks g B S →
    ∃ B', Marks g B' (S ++ (l.drop i).filter (okN g)) ∧ ∀ k, heliastref12_Reach.l0 (k + d + 1) g l B (i : Int) = heliastref12_Reach.l1 k g B' ((g.length : Int) - 1) := by
  induction d with
  | zero =>
    intro i B S hd hB
    refine ⟨B, by rw [List.drop_eq_nil_of_le (by omega)]; simpa using hB, fun k => ?_⟩
    rw [show k + 0 + 1 = k + 1 from rfl]
    simp only [heliastref12_Reach.l0]
    rw [if_neg (by omega), wrap_sm (by omega) (by omega)]
  | succ d ih =>
    intro i B S hd hB
    have hi : i < l.length := by omega
    have hw : wrap64 ((i : Int) + 1) = ((i + 1 : Nat) : Int) := by rw [wrap_sm (by omega) (by omega)]; rfl
    have hBl := hB.1
    rw [List.drop_eq_getElem_cons hi]
    by_cases h0 : l[i] ≥ 0
    · by_cases h1 : l[i] < (g.length : Int)
      · rw [List.filter_cons_of_pos (okN_iff.2 ⟨h0, h1⟩)]
        obtain ⟨B', h2, h3⟩ := ih (i + 1) _ _ (by omega) (hB.set h0 h1)
        refine ⟨B', by simpa using h2, fun k => ?_⟩
        rw [show k + (d + 1) + 1 = (k + d + 1) + 1 by omega]
        simp only [heliastref12_Reach.l0]
        rw [if_pos (by omega), if_pos (by omega), rd_get hi, hw, if_pos h0, if_pos h1, if_pos h0, if_pos (by omega)]
        exact h3 k
      · rw [List.filter_cons_of_neg (fun h => h1 (okN_iff.1 h).2)]
        obtain ⟨B', h2, h3⟩ := ih (i + 1) _ _ (by omega) hB
        refine ⟨B', h2, fun k => ?_⟩
        rw [show k + (d + 1) + 1 = (k + d + 1) + 1 by omega]
        simp only [heliastref12_Reach.l0]
        rw [if_pos (by omega), if_pos (by omega), rd_get hi, hw, if_pos h0, if_neg h1]
        exact h3 k
    · rw [List.filter_cons_of_neg (fun h => h0 (okN_iff.1 h).1)]
      obtain ⟨B', h2, h3⟩ := ih (i + 1) _ _ (by omega) hB
      refine ⟨B', h2, fun k => ?_⟩
      rw [show k + (d + 1) + 1 = (k + d + 1) + 1 by omega]
      simp only [heliastref12_Reach.l0]
      rw [if_pos (by omega), if_pos (by omega), rd_get hi, hw, if_neg h0]
      exact h3 k
theorem gA_Reach_l2 (g : List (List Int)) (hg : g.length ≤ 5864062014805) (n : Nat) (hn : n < g.length) (hr : (g.getD n []).length ≤ 17592186044416) (d : Nat) : ∀ (j : Nat) (B : List Bool) (S : List Int), j + d = (g.getD n []).length → Marks g B S → (n : Int) ∈ S →
    ∃ B', Marks g B' (S ++ ((g.getD n []).drop j).filter (fun b => decide (0 ≤ b) && decide (b < (n : Int)))) ∧ ∀ k, heliastref12_Reach.l2 (k + 2 * d + 2) g B (n : Int) (j : Int) = heliastref12_Reach.l1 k g B' ((n : Int) - 1) := by
  induction d with
  | zero =>
    intro j B S hd hB hnS
    refine ⟨B, by rw [List.drop_eq_nil_of_le (by omega)]; simpa using hB, fun k => ?_⟩
    rw [show k + 2 * 0 + 2 = k + 1 + 1 from rfl]
    simp only [heliastref12_Reach.l2, heliastref12_Reach.j3]
    rw [if_pos (by omega), if_pos (by omega), g12_row, if_neg (by omega), if_neg (by simp), wrap_sm (by omega) (by omega)]
  | succ d ih =>
    intro j B S hd hB hnS
    have hj : j < (g.getD n []).length := by omega
    have hw : wrap64 ((j : Int) + 1) = ((j + 1 : Nat) : Int) := by rw [wrap_sm (by omega) (by omega)]; rfl
    have hBl := hB.1
    rw [List.drop_eq_getElem_cons hj]
    have head : ∀ (k : Nat) (x : Option (List Int)), (if (g.getD n [])[j] ≥ 0 then (if (g.getD n [])[j] < (n : Int) then (if 0 ≤ (g.getD n [])[j] then (if (g.getD n [])[j] < (B.length : Int) then (heliastref12_Reach.l2 (k + 2 * d + 2) g (B.set ((g.getD n [])[j]).toNat true) (n : Int) ((j + 1 : Nat) : Int)) else none) else none) else (heliastref12_Reach.l2 (k + 2 * d + 2) g B (n : Int) ((j + 1 : Nat) : Int))) else (heliastref12_Reach.l2 (k + 2 * d + 2) g B (n : Int) ((j + 1 : Nat) : Int))) = x → heliastref12_Reach.l2 (k + 2 * (d + 1) + 2) g B (n : Int) (j : Int) = x := by
      intro k x hx
      obtain ⟨K, hK⟩ : ∃ K, K = k + 2 * d + 2 := ⟨_, rfl⟩
      rw [← hK] at hx
      rw [show k + 2 * (d + 1) + 2 = K + 1 + 1 by omega]
      simp only [heliastref12_Reach.l2, heliastref12_Reach.j3]
      rw [if_pos (by omega), if_pos (by omega), g12_row, if_pos (by omega), if_pos (by omega), hB.at hn, decide_eq_true hnS, if_pos rfl, if_pos (by omega), if_pos (by omega), if_pos (by omega), if_pos (by omega), rd_get hj, hw]
      exact hx
    by_cases h0 : (g.getD n [])[j] ≥ 0
    · by_cases h1 : (g.getD n [])[j] < (n : Int)
      · rw [List.filter_cons_of_pos (by rw [Bool.and_eq_true, decide_eq_true_eq, decide_eq_true_eq]; omega)]
        obtain ⟨B', h2, h3⟩ := ih (j + 1) _ _ (by omega) (hB.set h0 (by omega)) (List.mem_append_left _ hnS)
        refine ⟨B', by simpa using h2, fun k => head k _ ?_⟩
        rw [if_pos h0, if_pos h1, if_pos h0, if_pos (by omega)]
        exact h3 k
      · rw [List.filter_cons_of_neg (by rw [Bool.and_eq_true, decide_eq_true_eq, decide_eq_true_eq]; omega)]
        obtain ⟨B', h2, h3⟩ := ih (j + 1) _ _ (by omega) hB hnS
        refine ⟨B', h2, fun k => head k _ ?_⟩
        rw [if_pos h0, if_neg h1]
        exact h3 k
    · rw [List.filter_cons_of_neg (by rw [Bool.and_eq_true, decide_eq_true_eq, decide_eq_true_eq]; omega)]
      obtain ⟨B', h2, h3⟩ := ih (j + 1) _ _ (by omega) hB hnS
      refine ⟨B', h2, fun k => head k _ ?_⟩
      rw [if_neg h0]
      exact h3 k
theorem gA_Reach_skip (g : List (List Int)) (n : Nat) (hn : n < g.length) (hg : g.length ≤ 5864062014805) (B : List Bool) (S : List Int) (k : Nat) (hB : Marks g B S) (hnS : (n : Int) ∉ S) : heliastref12_Reach.l2 (k + 2) g B (n : Int) 0 = heliastref12_Reach.l1 k g B ((n : Int) - 1) := by
  have hBl := hB.1
  rw [show k + 2 = k + 1 + 1 from rfl]
  simp only [heliastref12_Reach.l2, heliastref12_Reach.j3]
  rw [if_pos (by omega), if_pos (by omega), hB.at hn, decide_eq_false hnS, if_pos (show (n : Int) < (B.length : Int) by omega)]
  simp only [Bool.false_eq_true, if_false]
  rw [wrap_sm (by omega) (by omega)]
  split <;> rfl
theorem gA_Reach_l3 (g : List (List Int)) (hg : g.length ≤ 5864062014805) (B : List Bool) (S : List Int) (hB : Marks g B S) (d : Nat) : ∀ (i : Nat) (out : List Int) (k : Nat), i + d = g.length → out.length ≤ i → d + 1 ≤ k →
    heliastref12_Reach.l3 k g B out (i : Int) = some (out ++ (seg i d).filter (fun x => decide (x ∈ S))) := by
  have hBl := hB.1
  induction d with
  | zero =>
    intro i out k hd ho hk
    obtain ⟨k, rfl⟩ : ∃ m, k = m + 1 := ⟨k - 1, by omega⟩
    simp only [heliastref12_Reach.l3]
    rw [if_neg (by omega), seg_zero]; simp
  | succ d ih =>
    intro i out k hd ho hk
    obtain ⟨k, rfl⟩ : ∃ m, k = m + 1 := ⟨k - 1, by omega⟩
    have hw : wrap64 ((i : Int) + 1) = ((i + 1 : Nat) : Int) := by rw [wrap_sm (by omega) (by omega)]; rfl
    simp only [heliastref12_Reach.l3]
    rw [if_pos (by omega), if_pos (by omega), if_pos (by omega), hB.at (by omega), hw, seg_succ]
    by_cases h : (i : Int) ∈ S
    · rw [if_pos (by simpa using h), if_pos (by omega), ih (i + 1) _ k (by omega) (by simp; omega) (by omega), List.filter_cons_of_pos (by simpa using h)]; simp
    · rw [if_neg (by simpa using h), ih (i + 1) _ k (by omega) (by omega) (by omega), List.filter_cons_of_neg (by simpa using h)]
theorem gA_Reach_l1 (g : List (List Int)) (hg : g.length ≤ 5864062014805) (hr : ∀ n, (g.getD n []).length ≤ 17592186044416) : ∀ (n : Nat) (B : List Bool) (S : List Int), n ≤ g.length → Marks g B S → ∃ k0, ∀ k, k0 ≤ k →
    heliastref12_Reach.l1 k g B ((n : Int) - 1) = some (pickL g (fun x => decide (x ∈ down g n S)))
  | 0, B, S, hn, hB => ⟨g.length + 2, fun k hk => by
    obtain ⟨k, rfl⟩ : ∃ m, k = m + 1 := ⟨k - 1, by omega⟩
    simp only [heliastref12_Reach.l1]
    rw [if_neg (by omega), show (0 : Int) = ((0 : Nat) : Int) from rfl, gA_Reach_l3 g hg B S hB g.length 0 [] k (by omega) (by simp) (by omega), pickL_seg]
    rfl⟩
  | n + 1, B, S, hn, hB => by
    have hrn := hr n
    have e : ((n + 1 : Nat) : Int) - 1 = (n : Int) := by omega
    rw [e]
    by_cases hS : (n : Int) ∈ S
    · obtain ⟨B', h2, h3⟩ := gA_Reach_l2 g hg n (by omega) hrn (g.getD n []).length 0 B S (by omega) hB hS
      obtain ⟨k0, hk0⟩ := gA_Reach_l1 g hg hr n B' _ (by omega) h2
      refine ⟨k0 + 2 * (g.getD n []).length + 3, fun k hk => ?_⟩
      obtain ⟨q, rfl⟩ : ∃ q, k = (q + 2 * (g.getD n []).length + 2) + 1 := ⟨k - 2 * (g.getD n []).length - 3, by omega⟩
      simp only [heliastref12_Reach.l1]
      rw [if_pos (by omega), show (0 : Int) = ((0 : Nat) : Int) from rfl, h3, hk0 q (by omega)]
      simp only [down, if_pos hS, List.drop_zero]
    · obtain ⟨k0, hk0⟩ := gA_Reach_l1 g hg hr n B S (by omega) hB
      refine ⟨k0 + 3, fun k hk => ?_⟩
      obtain ⟨q, rfl⟩ : ∃ q, k = (q + 2) + 1 := ⟨k - 3, by omega⟩
      simp only [heliastref12_Reach.l1]
      rw [if_pos (by omega), gA_Reach_skip g n (by omega) hg B S q hB hS, hk0 q (by omega)]
      simp only [down, if_neg hS]
theorem gA_Reach (g : List (List Int)) (l : List Int) (hg : g.length ≤ 5864062014805) (hr : ∀ n, (g.getD n []).length ≤ 17592186044416) (hl : l.length < 4611686018427387904) : ∃ k0, ∀ k, k0 ≤ k → heliastref12_Reach.f k g l = some (rchL g l) := by
  have h0 : Marks g (List.replicate ((g.length : Int)).toNat false) [] := ⟨by simp, fun x hx => by
    rw [List.getD_eq_getElem?_getD, List.getElem?_replicate]; split <;> simp⟩
  obtain ⟨B', h2, h3⟩ := gA_Reach_l0 g hg l hl l.length 0 _ [] (by omega) h0
  obtain ⟨k0, hk0⟩ := gA_Reach_l1 g hg hr g.length B' _ (Nat.le_refl _) h2
  refine ⟨k0 + l.length + 1, fun k hk => ?_⟩
  unfold heliastref12_Reach.f
  obtain ⟨q, rfl⟩ : ∃ q, k = q + l.length + 1 := ⟨k - l.length - 1, by omega⟩
  rw [if_pos (by omega), if_pos (by omega), show (0 : Int) = ((0 : Nat) : Int) from rfl, h3, hk0 q (by omega)]
  rfl
theorem Reach_ev (g : List (List Int)) (l : List Int) (hg : g.length ≤ 300) (hr : ∀ n, (g.getD n []).length ≤ 300) (hl : l.length ≤ 1000000) : Ev (fun k => heliastref12_Reach.f k g l) (rchL g l) := by
  obtain ⟨k0, h⟩ := gA_Reach g l (by omega) (fun n => by have := hr n; omega) (by omega)
  exact ⟨k0, h⟩
end Sp
open Go.Proofs.He
namespace Sp
theorem en_ext {a b : En} (h : a.f0.toList = b.f0.toList ∧ a.f1.toList = b.f1.toList ∧ a.f2 = b.f2) : a = b := by
  obtain ⟨h0, h1, h2⟩ := h
  cases a; cases b
  simp only at h0 h1 h2
  rw [ba_ext h0, ba_ext h1, h2]
theorem en_ne (a b : En) : ((!(a.f0.toList == b.f0.toList) || (!(a.f1.toList == b.f1.toList) || (!(a.f2 == b.f2)))) = true) ↔ a ≠ b := by
  constructor
  · rintro h rfl; simp at h
  · intro h
    apply Classical.byContradiction
    intro g
    apply h
    simp at g
    exact en_ext g
end Sp
open Go.Proofs.He
namespace Sp
theorem RSame_l0A (a b : List En) (hl : a.length = b.length) (hb : b.length < 3518437208882) (d : Nat) : ∀ (i k : Nat), i + d = a.length → d + 1 ≤ k → heliastref13_Same.l0 k a b (i : Int) = some (decide (a.drop i = b.drop i)) := by
  induction d with
  | zero =>
    intro i k hd hk
    obtain ⟨k, rfl⟩ : ∃ m, k = m + 1 := ⟨k - 1, by omega⟩
    simp only [heliastref13_Same.l0]
    rw [if_neg (by omega), List.drop_eq_nil_of_le (by omega), List.drop_eq_nil_of_le (by omega)]; rfl
  | succ d ih =>
    intro i k hd hk
    obtain ⟨k, rfl⟩ : ∃ m, k = m + 1 := ⟨k - 1, by omega⟩
    have hi : i < a.length := by omega
    have hj : i < b.length := by omega
    have hw : wrap64 ((i : Int) + 1) = ((i + 1 : Nat) : Int) := by rw [wrap_small (by omega) (by omega)]; rfl
    have hd2 : (a.drop i = b.drop i) ↔ (a[i] = b[i] ∧ a.drop (i + 1) = b.drop (i + 1)) := by
      rw [List.drop_eq_getElem_cons hi, List.drop_eq_getElem_cons hj, List.cons.injEq]
    simp only [heliastref13_Same.l0]
    rw [if_pos (by omega), if_pos (by omega), if_pos (by omega), rd_en hi, rd_en hj, decide_eq_decide.2 hd2]
    by_cases he : a[i] = b[i]
    · rw [if_neg (by rw [en_ne]; exact fun h => h he), hw, ih (i + 1) k (by omega) (by omega)]
      simp only [he, true_and]
    · rw [if_pos (by rw [en_ne]; exact he), decide_eq_false (fun h => he h.1)]
theorem RSame_fA (a b : List En) (ha : a.length < 3518437208882) (hb : b.length < 3518437208882) (k : Nat) (hk : a.length + 1 ≤ k) : heliastref13_Same.f k a b = some (decide (a = b)) := by
  unfold heliastref13_Same.f
  by_cases hl : a.length = b.length
  · have h := RSame_l0A a b hl hb a.length 0 k (by omega) hk
    rw [if_pos (by omega), show (0 : Int) = ((0 : Nat) : Int) from rfl, h]
    rfl
  · rw [if_neg (by omega)]
    have : a ≠ b := fun e => hl (by rw [e])
    simp [this]
theorem RSame_ev (a b : List En) (ha : a.length < 3518437208882) (hb : b.length < 3518437208882) : Ev (fun k => heliastref13_Same.f k a b) (decide (a = b)) := ⟨a.length + 1, fun k hk => RSame_fA a b ha hb k hk⟩
end Sp
open Go.Proofs.He
namespace Sp
theorem RRight_l0 (l : List En) (hl : l.length ≤ 3518437208882) (d : Nat) : ∀ (i k : Nat), 1 ≤ i → i + d = l.length → d + 5 ≤ k → heliastref13_Right.l0 k l (i : Int) = some (srtB (l.drop (i - 1))) := by
  induction d with
  | zero =>
    intro i k h1 hd hk
    obtain ⟨k, rfl⟩ : ∃ m, k = m + 1 := ⟨k - 1, by omega⟩
    have e : l.drop (i - 1) = [l[i - 1]'(by omega)] := by rw [List.drop_eq_getElem_cons (by omega), List.drop_eq_nil_of_le (by omega)]
    simp only [heliastref13_Right.l0]
    rw [if_neg (by omega), e]; rfl
  | succ d ih =>
    intro i k h1 hd hk
    obtain ⟨k, rfl⟩ : ∃ m, k = m + 1 + 1 := ⟨k - 2, by omega⟩
    have hi : i < l.length := by omega
    have hw : wrap64 ((i : Int) + 1) = ((i + 1 : Nat) : Int) := by rw [wrap_small (by omega) (by omega)]; rfl
    have hv : wrap64 ((i : Int) - 1) = ((i - 1 : Nat) : Int) := by rw [wrap_small (by omega) (by omega)]; omega
    have e : l.drop (i - 1) = l[i - 1] :: l[i] :: l.drop (i + 1) := by
      rw [List.drop_eq_getElem_cons (by omega), show i - 1 + 1 = i by omega, List.drop_eq_getElem_cons hi]
    have e2 : l.drop i = l[i] :: l.drop (i + 1) := List.drop_eq_getElem_cons hi
    have hih := ih (i + 1) (k + 1) (by omega) (by omega) (by omega)
    rw [heliastref13_Right.l0, hv, hw, if_pos (by omega), if_pos (by omega), if_pos (by omega), if_pos (by omega), rd_en (show i - 1 < l.length by omega), rd_en hi, ref_order, Option.bind_some, e, srtB]
    by_cases hc : cmpE l[i - 1] l[i] < 0
    · rw [if_neg (by omega), hih, show i + 1 - 1 = i by omega, e2]
      simp [hc]
    · rw [if_pos (by omega)]
      simp [hc]
theorem RRight_f (l : List En) (hl : l.length ≤ 3518437208882) (k : Nat) (hk : l.length + 6 ≤ k) : heliastref13_Right.f k l = some (srtB l) := by
  unfold heliastref13_Right.f
  rcases Nat.eq_zero_or_pos l.length with h0 | h0
  · obtain ⟨k, rfl⟩ : ∃ m, k = m + 1 := ⟨k - 1, by omega⟩
    simp only [heliastref13_Right.l0]
    rw [if_neg (by omega), List.eq_nil_of_length_eq_zero h0]; rfl
  · have := RRight_l0 l hl (l.length - 1) 1 k (by omega) (by omega) (by omega)
    exact this
theorem RRight_ev (l : List En) (hl : l.length ≤ 3518437208882) : Ev (fun k => heliastref13_Right.f k l) (srtB l) := ⟨l.length + 6, fun k hk => RRight_f l hl k hk⟩
end Sp
open Go.Proofs.He
namespace Sp
theorem placesL_specB (l : List En) : (placesL l).Pairwise (· < ·) ∧ (∀ x, x ∈ placesL l ↔ ∃ y ∈ l, y.f2 = x) := ⟨(riseL_spec _).1, fun x => by show x ∈ riseL (l.map fun x => x.f2) ↔ _; rw [(riseL_spec _).2, List.mem_map]⟩
def insGo (x : Int) : Bool → List Int → List Int
  | laid, [] => if laid = true then [] else [x]
  | laid, y :: t => if laid = false ∧ y ≥ x then x :: (if y = x then insGo x true t else y :: insGo x true t) else (if y = x then insGo x laid t else y :: insGo x laid t)
theorem insGo_true (x : Int) : ∀ t : List Int, insGo x true t = t.filter fun y => decide (y ≠ x)
  | [] => rfl
  | y :: t => by
    rw [insGo, if_neg (by simp), insGo_true x t]
    by_cases h : y = x
    · rw [if_pos h, List.filter_cons_of_neg (by simpa using h)]
    · rw [if_neg h, List.filter_cons_of_pos (by simpa using h)]
theorem insGo_spec (x : Int) : ∀ t : List Int, t.Pairwise (· < ·) → (insGo x false t).Pairwise (· < ·) ∧ (∀ z, z ∈ insGo x false t ↔ z = x ∨ z ∈ t) ∧ (insGo x false t).length ≤ t.length + 1
  | [], _ => by simp [insGo]
  | y :: t, hp => by
    rw [List.pairwise_cons] at hp
    obtain ⟨h1, h2, h3⟩ := insGo_spec x t hp.2
    have hl := List.length_filter_le (fun y => decide (y ≠ x)) t
    rw [insGo, insGo_true]
    by_cases hc : y ≥ x
    · rw [if_pos ⟨rfl, hc⟩]
      by_cases he : y = x
      · rw [if_pos he]
        subst he
        refine ⟨List.pairwise_cons.2 ⟨fun z hz => hp.1 z (List.mem_filter.1 hz).1, hp.2.filter _⟩, fun z => ?_, by simp only [List.length_cons]; omega⟩
        rw [List.mem_cons, List.mem_cons, List.mem_filter]
        constructor
        · rintro (h | ⟨h, _⟩)
          · exact .inl h
          · exact .inr (.inr h)
        · rintro (h | h | h)
          · exact .inl h
          · exact .inl h
          · exact .inr ⟨h, by have := hp.1 z h; simp; omega⟩
      · rw [if_neg he]
        refine ⟨List.pairwise_cons.2 ⟨fun z hz => ?_, List.pairwise_cons.2 ⟨fun z hz => hp.1 z (List.mem_filter.1 hz).1, hp.2.filter _⟩⟩, fun z => ?_, by simp only [List.length_cons]; omega⟩
        · rcases List.mem_cons.1 hz with rfl | hz
          · omega
          · have := hp.1 z (List.mem_filter.1 hz).1; omega
        · rw [List.mem_cons, List.mem_cons, List.mem_cons, List.mem_filter]
          constructor
          · rintro (h | h | ⟨h, _⟩)
            · exact .inl h
            · exact .inr (.inl h)
            · exact .inr (.inr h)
          · rintro (h | h | h)
            · exact .inl h
            · exact .inr (.inl h)
            · exact .inr (.inr ⟨h, by have := hp.1 z h; simp; omega⟩)
    · rw [if_neg (by omega), if_neg (by omega)]
      refine ⟨List.pairwise_cons.2 ⟨fun z hz => ?_, h1⟩, fun z => ?_, by simp only [List.length_cons]; omega⟩
      · rcases (h2 z).1 hz with rfl | hz
        · omega
        · exact hp.1 z hz
      · rw [List.mem_cons, List.mem_cons, h2]
        constructor
        · rintro (h | h | h)
          · exact .inr (.inl h)
          · exact .inl h
          · exact .inr (.inr h)
        · rintro (h | h | h)
          · exact .inr (.inl h)
          · exact .inl h
          · exact .inr (.inr h)
theorem Places_j2_t (l : List En) (o : List Int) (i j K : Nat) (next : List Int) (laid : Bool) (hi : i < l.length) (hj : j < o.length) (hn : next.length < 17592186044415) (hj2 : j ≤ 3518437208882) :
    heliastref13_Places.j2 (K + 1) l o (i : Int) next laid (j : Int) true = if o[j] = l[i].f2 then heliastref13_Places.l1 K l o (i : Int) (next ++ [l[i].f2]) true ((j + 1 : Nat) : Int) else heliastref13_Places.l1 K l o (i : Int) (next ++ [l[i].f2] ++ [o[j]]) true ((j + 1 : Nat) : Int) := by
  have hw : wrap64 ((j : Int) + 1) = ((j + 1 : Nat) : Int) := by rw [wrap_small (by omega) (by omega)]; rfl
  have hoj : rd o (j : Int) = o[j] := by simp [rd, hj]
  have a1 : (0 : Int) ≤ (i : Int) := by omega
  have a2 : (i : Int) < (l.length : Int) := by omega
  have a3 : next.length < 17592186044416 := by omega
  have a4 : (0 : Int) ≤ (j : Int) := by omega
  have a5 : (j : Int) < (o.length : Int) := by omega
  have a6 : (next ++ [l[i].f2]).length < 17592186044416 := by rw [List.length_append, List.length_singleton]; omega
  rw [heliastref13_Places.j2, hoj, hw, rd_en hi]
  generalize l[i].f2 = x at a6 ⊢
  generalize o[j] = y
  simp only [if_true, a1, a2, a3, a4, a5, a6, Option.bind_some]
theorem Places_j2_f (l : List En) (o : List Int) (i j K : Nat) (next : List Int) (laid : Bool) (hi : i < l.length) (hj : j < o.length) (hn : next.length < 17592186044415) (hj2 : j ≤ 3518437208882) :
    heliastref13_Places.j2 (K + 1) l o (i : Int) next laid (j : Int) false = if o[j] = l[i].f2 then heliastref13_Places.l1 K l o (i : Int) next laid ((j + 1 : Nat) : Int) else heliastref13_Places.l1 K l o (i : Int) (next ++ [o[j]]) laid ((j + 1 : Nat) : Int) := by
  have hw : wrap64 ((j : Int) + 1) = ((j + 1 : Nat) : Int) := by rw [wrap_small (by omega) (by omega)]; rfl
  have hoj : rd o (j : Int) = o[j] := by simp [rd, hj]
  have a1 : (0 : Int) ≤ (i : Int) := by omega
  have a2 : (i : Int) < (l.length : Int) := by omega
  have a3 : next.length < 17592186044416 := by omega
  have a4 : (0 : Int) ≤ (j : Int) := by omega
  have a5 : (j : Int) < (o.length : Int) := by omega
  rw [heliastref13_Places.j2, hoj, hw, rd_en hi]
  generalize l[i].f2 = x
  generalize o[j] = y
  simp only [Bool.false_eq_true, if_false, if_true, a1, a2, a3, a4, a5]
theorem RPl_true (l : List En) (i : Nat) (hi : i < l.length) (o : List Int) (ho : o.length ≤ 3518437208882) (hl : l.length ≤ 3518437208882) (d : Nat) : ∀ (j : Nat) (next : List Int) (k K : Nat), K = k + 2 * d + 1 → j + d = o.length → next.length ≤ j + 1 →
    heliastref13_Places.l1 K l o (i : Int) next true (j : Int) = heliastref13_Places.l0 k l (next ++ insGo l[i].f2 true (o.drop j)) ((i + 1 : Nat) : Int) := by
  have hwi : wrap64 ((i : Int) + 1) = ((i + 1 : Nat) : Int) := by rw [wrap_small (by omega) (by omega)]; rfl
  induction d with
  | zero =>
    intro j next k K hK hd hn
    obtain rfl : K = k + 1 := by omega
    have c : ¬ (j : Int) < (o.length : Int) := by omega
    rw [List.drop_eq_nil_of_le (by omega), heliastref13_Places.l1, if_neg c, if_pos (rfl : true = true), hwi, insGo, if_pos (rfl : true = true), List.append_nil]
  | succ d ih =>
    intro j next k K0 hK hd hn
    obtain ⟨K, hK1⟩ : ∃ m, K0 = m + 1 + 1 := ⟨K0 - 2, by omega⟩
    subst hK1
    have hj : j < o.length := by omega
    have c : (j : Int) < (o.length : Int) := by omega
    have n1 : next.length < 17592186044415 := by omega
    have n2 : j ≤ 3518437208882 := by omega
    have n3 : (next ++ [o[j]]).length ≤ (j + 1) + 1 := by rw [List.length_append, List.length_singleton]; omega
    have n4 : next.length ≤ (j + 1) + 1 := by omega
    have e1 : K = k + 2 * d + 1 := by omega
    have e2 : (j + 1) + d = o.length := by omega
    have h1 := ih (j + 1) next k K e1 e2 n4
    have h2 := ih (j + 1) (next ++ [o[j]]) k K e1 e2 n3
    have c3 : ¬ (true = false ∧ o[j] ≥ l[i].f2) := fun h => by cases h.1
    rw [List.drop_eq_getElem_cons hj, heliastref13_Places.l1, if_pos c, if_pos (rfl : true = true), Places_j2_f l o i j K next true hi hj n1 n2, h1, h2, insGo, if_neg c3]
    by_cases he : o[j] = l[i].f2
    · rw [if_pos he, if_pos he]
    · rw [if_neg he, if_neg he, List.append_assoc, List.singleton_append]
theorem RPl_false (l : List En) (i : Nat) (hi : i < l.length) (o : List Int) (ho : o.length ≤ 3518437208882) (hl : l.length ≤ 3518437208882) (d : Nat) : ∀ (j : Nat) (next : List Int) (k K : Nat), K = k + 2 * d + 1 → j + d = o.length → next.length ≤ j →
    heliastref13_Places.l1 K l o (i : Int) next false (j : Int) = heliastref13_Places.l0 k l (next ++ insGo l[i].f2 false (o.drop j)) ((i + 1 : Nat) : Int) := by
  have hwi : wrap64 ((i : Int) + 1) = ((i + 1 : Nat) : Int) := by rw [wrap_small (by omega) (by omega)]; rfl
  have b1 : (0 : Int) ≤ (i : Int) := by omega
  have b2 : (i : Int) < (l.length : Int) := by omega
  induction d with
  | zero =>
    intro j next k K hK hd hn
    obtain rfl : K = k + 1 := by omega
    have c : ¬ (j : Int) < (o.length : Int) := by omega
    have n0 : next.length < 17592186044416 := by omega
    have f : ¬ (false = true) := by simp
    rw [List.drop_eq_nil_of_le (by omega), heliastref13_Places.l1, if_neg c, if_neg f, if_pos b1, if_pos b2, if_pos n0, hwi, rd_en hi, insGo, if_neg f]
  | succ d ih =>
    intro j next k K0 hK hd hn
    obtain ⟨K, hK1⟩ : ∃ m, K0 = m + 1 + 1 := ⟨K0 - 2, by omega⟩
    subst hK1
    have hj : j < o.length := by omega
    have c : (j : Int) < (o.length : Int) := by omega
    have b4 : (0 : Int) ≤ (j : Int) := by omega
    have f : ¬ (false = true) := by simp
    have hoj : rd o (j : Int) = o[j] := by simp [rd, hj]
    have n1 : next.length < 17592186044415 := by omega
    have n2 : j ≤ 3518437208882 := by omega
    have e1 : K = k + 2 * d + 1 := by omega
    have e2 : (j + 1) + d = o.length := by omega
    rw [List.drop_eq_getElem_cons hj, heliastref13_Places.l1, if_pos c, if_neg f, if_pos b4, if_pos b1, if_pos b2, hoj, rd_en hi, insGo]
    by_cases hc : o[j] ≥ l[i].f2
    · have n3 : (next ++ [l[i].f2]).length ≤ (j + 1) + 1 := by rw [List.length_append, List.length_singleton]; omega
      have n4 : (next ++ [l[i].f2] ++ [o[j]]).length ≤ (j + 1) + 1 := by rw [List.length_append, List.length_append, List.length_singleton, List.length_singleton]; omega
      have h1 := RPl_true l i hi o ho hl d (j + 1) (next ++ [l[i].f2]) k K e1 e2 n3
      have h2 := RPl_true l i hi o ho hl d (j + 1) (next ++ [l[i].f2] ++ [o[j]]) k K e1 e2 n4
      have c3 : (false = false ∧ o[j] ≥ l[i].f2) := ⟨rfl, hc⟩
      rw [decide_eq_true hc, Places_j2_t l o i j K next false hi hj n1 n2, h1, h2, if_pos c3]
      by_cases he : o[j] = l[i].f2
      · rw [if_pos he, if_pos he, List.append_assoc, List.singleton_append]
      · rw [if_neg he, if_neg he]; simp
    · have n3 : next.length ≤ j + 1 := by omega
      have n4 : (next ++ [o[j]]).length ≤ j + 1 := by rw [List.length_append, List.length_singleton]; omega
      have h1 := ih (j + 1) next k K e1 e2 n3
      have h2 := ih (j + 1) (next ++ [o[j]]) k K e1 e2 n4
      have c3 : ¬ (false = false ∧ o[j] ≥ l[i].f2) := fun h => hc h.2
      rw [decide_eq_false hc, Places_j2_f l o i j K next false hi hj n1 n2, h1, h2, if_neg c3]
      by_cases he : o[j] = l[i].f2
      · rw [if_pos he, if_pos he]
      · rw [if_neg he, if_neg he, List.append_assoc, List.singleton_append]
theorem RPlaces_l0 (l : List En) (hl : l.length ≤ 3518437208882) (d : Nat) : ∃ k0, ∀ (i : Nat) (o : List Int) (k : Nat), i + d = l.length → o.length ≤ i → o.Pairwise (· < ·) → k0 ≤ k →
    ∃ r : List Int, heliastref13_Places.l0 k l o (i : Int) = some r ∧ r.Pairwise (· < ·) ∧ r.length ≤ l.length ∧ ∀ z, z ∈ r ↔ z ∈ o ∨ ∃ y ∈ l.drop i, y.f2 = z := by
  induction d with
  | zero =>
    refine ⟨1, fun i o k hd ho hp hk => ⟨o, ?_, hp, by omega, fun z => ?_⟩⟩
    · obtain ⟨k, rfl⟩ : ∃ m, k = m + 1 := ⟨k - 1, by omega⟩
      simp only [heliastref13_Places.l0]
      rw [if_neg (by omega)]
    · rw [List.drop_eq_nil_of_le (by omega)]; simp
  | succ d ih =>
    obtain ⟨k0, ih⟩ := ih
    refine ⟨k0 + 2 * l.length + 3, fun i o k hd ho hp hk => ?_⟩
    have hi : i < l.length := by omega
    obtain ⟨q, rfl⟩ : ∃ q, k = (q + 2 * o.length + 1) + 1 := ⟨k - 2 * o.length - 2, by omega⟩
    obtain ⟨h1, h2, h3⟩ := insGo_spec l[i].f2 o hp
    obtain ⟨r, g1, g2, g3, g4⟩ := ih (i + 1) (insGo l[i].f2 false o) q (by omega) (by omega) h1 (by omega)
    refine ⟨r, ?_, g2, g3, fun z => ?_⟩
    · rw [heliastref13_Places.l0, if_pos (by omega), show (0 : Int) = ((0 : Nat) : Int) from rfl, RPl_false l i hi o (by omega) hl o.length 0 [] q _ rfl (by omega) (by simp), List.drop_zero, List.nil_append]
      exact g1
    · rw [g4, h2, List.drop_eq_getElem_cons hi]
      constructor
      · rintro ((rfl | h) | ⟨y, hy, he⟩)
        · exact .inr ⟨l[i], List.mem_cons_self, rfl⟩
        · exact .inl h
        · exact .inr ⟨y, List.mem_cons_of_mem _ hy, he⟩
      · rintro (h | ⟨y, hy, he⟩)
        · exact .inl (.inr h)
        · rcases List.mem_cons.1 hy with rfl | hy
          · exact .inl (.inl he.symm)
          · exact .inr ⟨y, hy, he⟩
theorem RPlaces_f (l : List En) (hl : l.length ≤ 3518437208882) : ∃ k0, ∀ k, k0 ≤ k → heliastref13_Places.f k l = some (placesL l) := by
  obtain ⟨k0, hk0⟩ := RPlaces_l0 l hl l.length
  refine ⟨k0, fun k hk => ?_⟩
  obtain ⟨r, h1, h2, _, h4⟩ := hk0 0 [] k (by omega) (by simp) (by simp) hk
  obtain ⟨p1, p2⟩ := placesL_specB l
  have : r = placesL l := rises_eq h2 p1 (fun z => by rw [h4, p2, List.drop_zero]; simp)
  unfold heliastref13_Places.f
  rw [← this]; exact h1
theorem Places_ev (l : List En) (hl : l.length ≤ 3518437208882) : Ev (fun k => heliastref13_Places.f k l) (placesL l) := by
  obtain ⟨k0, h⟩ := RPlaces_f l hl
  exact ⟨k0, h⟩
end Sp
open Go.Proofs.He
namespace Sp
theorem ev_down {α : Type} {r : α} (g : Nat → Nat → Option α) (n : Nat) (hs : ∀ i, i < n → Ev (g (i + 1)) r → Ev (g i) r) (he : Ev (g n) r) : ∀ i, i ≤ n → Ev (g i) r := by
  have key : ∀ d i, i + d = n → Ev (g i) r := by
    intro d
    induction d with
    | zero => intro i h; have : i = n := by omega
              subst this; exact he
    | succ d ih => intro i h; exact hs i (by omega) (ih (i + 1) (by omega))
  exact fun i hi => key (n - i) i (by omega)
theorem sp_w1 {i : Nat} (h : i ≤ 1000000) : wrap64 ((i : Int) + 1) = ((i + 1 : Nat) : Int) := by rw [wrap_small (by omega) (by omega)]; rfl
theorem srt_nodup {s : List En} (h : spSrt s) : s.Nodup := h.imp (fun {a b} (h : kLt a b) e => by subst e; exact kLt_irrefl _ h)
theorem count_one {α : Type} [DecidableEq α] {s : List α} (h : s.Nodup) (x : α) : s.count x = if x ∈ s then 1 else 0 := by
  by_cases hx : x ∈ s
  · rw [if_pos hx]
    have h1 := List.count_pos_iff.2 hx
    have h2 := List.nodup_iff_count.1 h x
    omega
  · rw [if_neg hx]; exact List.count_eq_zero_of_not_mem hx
theorem count_rows {α : Type} [DecidableEq α] : ∀ {L : List (List α)}, (∀ s ∈ L, s.Nodup) → ∀ x, L.flatten.count x = L.countP (fun s => decide (x ∈ s))
  | [], _, x => by simp
  | s :: L, h, x => by
    rw [List.flatten_cons, List.count_append, List.countP_cons, count_rows (fun t ht => h t (List.mem_cons_of_mem _ ht)) x, count_one (h s (List.mem_cons_self ..))]
    by_cases hx : x ∈ s <;> simp [hx] <;> omega
theorem all_rows {α : Type} [DecidableEq α] {L : List (List α)} (h : ∀ s ∈ L, s.Nodup) (x : α) : ¬ ((L.flatten.count x : Int) < (L.length : Int)) ↔ ∀ s ∈ L, x ∈ s := by
  rw [count_rows h x]
  have h1 := List.countP_le_length (p := fun s => decide (x ∈ s)) (l := L)
  have h2 := List.countP_eq_length (p := fun s => decide (x ∈ s)) (l := L)
  simp only [decide_eq_true_eq] at h2
  rw [← h2]; omega
theorem mem_alike {L : List (List En)} (hs : ∀ s ∈ L, spSrt s) (hne : L ≠ []) {x : En} : x ∈ alikeL L ↔ ∀ s ∈ L, x ∈ s := by
  have ha := all_rows (fun s h => srt_nodup (hs s h)) x
  unfold alikeL
  rw [List.mem_filter]
  have e : (!decide ((L.flatten.count x : Int) < (L.length : Int))) = true ↔ ¬ ((L.flatten.count x : Int) < (L.length : Int)) := by simp
  rw [e, ha]
  constructor
  · exact fun h => h.2
  · intro h
    cases L with
    | nil => exact absurd rfl hne
    | cons s L => exact ⟨h s (List.mem_cons_self ..), h⟩
theorem mem_apart {L : List (List En)} (hs : ∀ s ∈ L, spSrt s) {p : Int} : p ∈ apartL L ↔ ∃ x, (∃ s ∈ L, x ∈ s) ∧ (¬ ∀ s ∈ L, x ∈ s) ∧ x.f2 = p := by
  unfold apartL
  rw [(riseL_spec _).2, List.mem_map]
  constructor
  · rintro ⟨x, h, rfl⟩
    obtain ⟨h1, h2⟩ := List.mem_filter.1 h
    obtain ⟨s, h3, h4⟩ := List.mem_flatten.1 h1
    rw [decide_eq_true_iff] at h2
    exact ⟨x, ⟨s, h3, h4⟩, fun h5 => (all_rows (fun s h => srt_nodup (hs s h)) x).2 h5 h2, rfl⟩
  · rintro ⟨x, ⟨s, h3, h4⟩, h5, rfl⟩
    refine ⟨x, List.mem_filter.2 ⟨List.mem_flatten.2 ⟨s, h3, h4⟩, ?_⟩, rfl⟩
    rw [decide_eq_true_iff]
    exact Classical.byContradiction fun h => h5 ((all_rows (fun s h => srt_nodup (hs s h)) x).1 h)
theorem mem_places (l : List En) (p : Int) : p ∈ placesL l ↔ ∃ y ∈ l, y.f2 = p := by
  show p ∈ riseL (l.map fun x => x.f2) ↔ _
  rw [(riseL_spec _).2, List.mem_map]
theorem flat_len {α : Type} {n : Nat} : ∀ {L : List (List α)}, (∀ s ∈ L, s.length ≤ n) → L.flatten.length ≤ L.length * n
  | [], _ => by simp
  | s :: L, h => by
    rw [List.flatten_cons, List.length_append, List.length_cons, Nat.succ_mul]
    have := flat_len (fun t ht => h t (List.mem_cons_of_mem _ ht)); have := h s (List.mem_cons_self ..)
    omega
structure Fine (L : List (List En)) : Prop where
  spSrt : ∀ s ∈ L, Sp.spSrt s
  len : L.length ≤ 300
  row : ∀ s ∈ L, s.length ≤ 300
  ok : ∀ x ∈ L.flatten, EOk x
theorem Fine.flat {L : List (List En)} (h : Fine L) : L.flatten.length ≤ 90000 := by
  have h1 := flat_len h.row
  have h2 := Nat.mul_le_mul_right 300 h.len
  omega
theorem OkL.fine {m : Int} {L : List (List En)} (h : OkL m L) (hm : m ≤ 1000) : Fine L where
  spSrt s hs := (h.ok s hs).1
  len := by have := h.few; omega
  row s hs := by have := (h.ok s hs).2.1; omega
  ok x hx := by
    obtain ⟨s, hs, hx⟩ := List.mem_flatten.1 hx
    obtain ⟨⟨h1, h2⟩, h3, h4⟩ := (h.ok s hs).2.2 x hx
    have : mx m 1 ≤ 1000 := by unfold mx; split <;> omega
    exact ⟨by omega, by omega, by omega, by omega⟩
theorem Alike_f {L : List (List En)} (h : Fine L) : split_Alike.f L = some (alikeL L) := by
  unfold split_Alike.f; rw [if_pos ⟨Nat.lt_of_le_of_lt h.flat (by decide), h.ok⟩]
theorem Apart_f {L : List (List En)} (h : Fine L) : split_Apart.f L = some (apartL L) := by
  unfold split_Apart.f; rw [if_pos ⟨Nat.lt_of_le_of_lt h.flat (by decide), h.ok⟩]
theorem alike_len {L : List (List En)} (h : Fine L) : (alikeL L).length ≤ 300 := by
  unfold alikeL
  refine Nat.le_trans (List.length_filter_le _ _) ?_
  cases L with
  | nil => simp
  | cons s L => exact h.row s (List.mem_cons_self ..)
theorem apart_len {L : List (List En)} (h : Fine L) : (apartL L).length ≤ 90000 := by
  unfold apartL
  refine Nat.le_trans (riseL_length _) ?_
  rw [List.length_map]
  exact Nat.le_trans (List.length_filter_le _ _) h.flat
end Sp
open Go.Proofs.He
namespace Sp
theorem rch_nodup (g : List (List Int)) (l : List Int) : (rchL g l).Nodup := by
  have h : (rchL g l).Pairwise (· < ·) := pickL_rises g _
  exact h.imp (fun {a b} h e => by omega)
theorem mem_chains {g : List (List Int)} {L : List (List En)} {n : Int} : n ∈ chainsL g L ↔ (∃ s ∈ L, n ∈ rchL g (placesL s)) ∧ ¬ ∀ s ∈ L, n ∈ rchL g (placesL s) := by
  have hn : ∀ s ∈ chainRows g L, s.Nodup := fun s hs => by
    unfold chainRows at hs; obtain ⟨t, _, rfl⟩ := List.mem_map.1 hs; exact rch_nodup _ _
  have ha := all_rows hn n
  have hl : (chainRows g L).length = L.length := by simp [chainRows]
  have h1 : n ∈ (chainRows g L).flatten ↔ ∃ s ∈ L, n ∈ rchL g (placesL s) := by
    unfold chainRows
    rw [List.mem_flatten]
    constructor
    · rintro ⟨r, hr, hn⟩; obtain ⟨s, hs, rfl⟩ := List.mem_map.1 hr; exact ⟨s, hs, hn⟩
    · rintro ⟨s, hs, hn⟩; exact ⟨_, List.mem_map.2 ⟨s, hs, rfl⟩, hn⟩
  have h2 : (∀ s ∈ chainRows g L, n ∈ s) ↔ ∀ s ∈ L, n ∈ rchL g (placesL s) := by simp [chainRows]
  rw [hl, h2] at ha
  unfold chainsL
  rw [(riseL_spec _).2, List.mem_filter, h1, decide_eq_true_iff]
  constructor
  · rintro ⟨h3, h4⟩; exact ⟨h3, fun h5 => ha.2 h5 h4⟩
  · rintro ⟨h3, h4⟩; exact ⟨h3, Classical.byContradiction fun h5 => h4 (ha.1 h5)⟩
theorem Fine.fits {L : List (List En)} (h : Fine L) {g : List (List Int)} (hg : g.length ≤ 300) : SplitFits g L := by
  have h1 := h.flat
  have h2 := h.len
  have h3 := Nat.mul_le_mul h2 hg
  refine ⟨?_, ?_, ?_, ?_⟩ <;> omega
theorem Chains_f {L : List (List En)} (h : Fine L) {g : List (List Int)} (hg : g.length ≤ 300) : split_Chains.f g L = some (chainsL g L) := by
  unfold split_Chains.f; rw [if_pos (h.fits hg)]
theorem chains_len {L : List (List En)} (h : Fine L) {g : List (List Int)} (hg : g.length ≤ 300) : (chainsL g L).length ≤ 90000 := by
  unfold chainsL
  refine Nat.le_trans (riseL_length _) (Nat.le_trans (List.length_filter_le _ _) (Nat.le_trans (chain_flat g L) ?_))
  have := Nat.mul_le_mul h.len hg
  omega
end Sp
end Go.Proofs.Ytmmalieacakcbaa.S
end
section
namespace Go.Proofs.Ytmmalieacakcbaa.S
open Go.RowKit Go.Proofs.YtmmalieacakcbaaW.PrintWords Go.Proofs.YtmmalieacakcbaaW.PrintLast Go.Proofs.YtmmalieacakcbaaW.PrintMore
attribute [local go_sem] max2_int min2_int max_two min_two max_three min_three max_four min_four
set_option linter.unusedVariables false
set_option linter.unusedSimpArgs false
open Go.Proofs.He
namespace Sp
theorem rows_atA {L : List (List En)} {i : Nat} (h : i < L.length) : rd_L4 L (i : Int) = L[i] := by
  unfold rd_L4; rw [Int.toNat_natCast, List.getD_eq_getElem?_getD, List.getElem?_eq_getElem h]; rfl
theorem rows_at0 {L : List (List En)} (h : 0 < L.length) : rd_L4 L 0 = L[0] := rows_atA (i := 0) h
theorem Both_fA {L : List (List En)} (h : Fine L) {g : List (List Int)} (hg : g.length ≤ 300) : split_Both.f g L = some (bothL g L) := by
  unfold split_Both.f; rw [if_pos ⟨h.fits hg, h.ok⟩]
theorem hasR_ev (l : List En) (x : En) (hl : l.length ≤ 1000000) : Ev (fun k => heliastref16_has.f k l x.f0 x.f1 x.f2) (decide (x ∈ l)) := by
  have key : ∀ d i, i + d = l.length → Ev (fun k => heliastref16_has.l0 k l (i : Int) x.f0 x.f1 x.f2) (decide (x ∈ l.drop i)) := by
    intro d
    induction d with
    | zero =>
      intro i hi
      rw [List.drop_eq_nil_of_le (by omega)]
      refine Ev.step (f := fun _ => some false) (fun k => ?_) (Ev.now _)
      simp only [heliastref16_has.l0]; rw [if_neg (by omega)]
    | succ d ih =>
      intro i hi
      have hlt : i < l.length := by omega
      rw [List.drop_eq_getElem_cons hlt]
      by_cases e : l[i] = x
      · have h2 : decide (x ∈ l[i] :: l.drop (i + 1)) = true := by rw [e]; simp
        rw [h2]
        refine Ev.step (f := fun _ => some true) (fun k => ?_) (Ev.now _)
        simp only [heliastref16_has.l0]; rw [if_pos (by omega), if_pos (by omega), rd_en hlt, e, if_pos (by simp)]
      · have h2 : decide (x ∈ l[i] :: l.drop (i + 1)) = decide (x ∈ l.drop (i + 1)) := by
          rw [decide_eq_decide, List.mem_cons]; exact ⟨fun h => h.resolve_left (fun h => e h.symm), .inr⟩
        rw [h2]
        refine Ev.step (f := fun k => heliastref16_has.l0 k l ((i + 1 : Nat) : Int) x.f0 x.f1 x.f2) (fun k => ?_) (ih (i + 1) (by omega))
        simp only [heliastref16_has.l0]
        rw [if_pos (by omega), if_pos (by omega), rd_en hlt, sp_w1 (by omega), if_neg]
        intro h
        simp only [Bool.and_eq_true, beq_iff_eq] at h
        exact e (by obtain ⟨h1, h2, h3⟩ := h; cases hl : l[i]; cases x; rw [hl] at h1 h2 h3; simp only at h1 h2 h3; rw [ba_ext h1, ba_ext h2, h3])
  have := key l.length 0 (by omega)
  simpa [heliastref16_has.f] using this
def inAll (L : List (List En)) (x : En) : Bool := L.all fun s => decide (x ∈ s)
theorem alike_inAll {L : List (List En)} (h : Fine L) (hp : 0 < L.length) : alikeL L = L[0].filter (inAll L) := by
  have e : L.getD 0 [] = L[0] := by rw [List.getD_eq_getElem?_getD, List.getElem?_eq_getElem hp]; rfl
  unfold alikeL
  rw [e]
  refine List.filter_congr (fun x _ => ?_)
  have ha := all_rows (fun s hs => srt_nodup (h.spSrt s hs)) x
  rw [Bool.eq_iff_iff]
  unfold inAll
  rw [List.all_eq_true]
  simp only [Bool.not_eq_true', decide_eq_false_iff_not, decide_eq_true_eq]
  exact ha
theorem AlikeR_ev {L : List (List En)} (h : Fine L) : Ev (fun k => heliastref16_Alike.f k L) (alikeL L) := by
  have hll := h.len
  by_cases hp : 0 < L.length
  · have hrow := h.row L[0] (List.getElem_mem hp)
    rw [alike_inAll h hp]
    have key : ∀ d i (out : List En), i + d = L[0].length → out.length ≤ i → Ev (fun k => heliastref16_Alike.l0 k L out (i : Int)) (out ++ (L[0].drop i).filter (inAll L)) := by
      intro d
      induction d with
      | zero =>
        intro i out hi ho
        rw [List.drop_eq_nil_of_le (by omega), List.filter_nil, List.append_nil]
        refine Ev.step (f := fun k => heliastref16_Alike.j1 k L out (i : Int) false) (fun k => ?_) ?_
        · simp only [heliastref16_Alike.l0]
          rw [if_pos (by omega), if_pos (by omega), rows_at0 hp, decide_eq_false (by omega)]
        · refine Ev.step (f := fun _ => some out) (fun k => ?_) (Ev.now _)
          simp only [heliastref16_Alike.j1]; rw [if_neg (by simp)]
      | succ d ih =>
        intro i out hi ho
        have hlt : i < L[0].length := by omega
        have hlt2 : out.length < 3518437208883 := Nat.lt_of_le_of_lt (show out.length ≤ 300 by omega) (by decide)
        obtain ⟨x, hx⟩ : ∃ x, x = L[0][i] := ⟨_, rfl⟩
        have hrx : rd_T69 L[0] (i : Int) = x := by rw [hx]; exact rd_en hlt
        rw [List.drop_eq_getElem_cons hlt, ← hx]
        have inner : ∀ e j (b : Bool), j + e = L.length → (b && (L.drop j).all fun s => decide (x ∈ s)) = inAll L x → Ev (fun k => heliastref16_Alike.l1 k L out (i : Int) b (j : Int)) (out ++ (x :: L[0].drop (i + 1)).filter (inAll L)) := by
          intro e
          induction e with
          | zero =>
            intro j b hj hb
            rw [List.drop_eq_nil_of_le (by omega)] at hb
            simp only [List.all_nil, Bool.and_true] at hb
            cases b with
            | true =>
              rw [List.filter_cons_of_pos hb.symm]
              have := ih (i + 1) (out ++ [x]) (by omega) (by simp; omega)
              rw [List.append_assoc, List.singleton_append] at this
              refine Ev.step (fun k => ?_) this
              simp only [heliastref16_Alike.l1]
              rw [if_neg (by omega), if_pos trivial, if_pos (by omega), if_pos (by omega), rows_at0 hp, if_pos (by omega), if_pos hlt2, hrx, sp_w1 (by omega)]
            | false =>
              rw [List.filter_cons_of_neg (by rw [← hb]; simp)]
              refine Ev.step (fun k => ?_) (ih (i + 1) out (by omega) (by omega))
              simp only [heliastref16_Alike.l1]
              rw [if_neg (by omega), if_neg (by simp), sp_w1 (by omega)]
          | succ e ihe =>
            intro j b hj hb
            have hj2 : j < L.length := by omega
            rw [List.drop_eq_getElem_cons hj2, List.all_cons, ← Bool.and_assoc] at hb
            cases b with
            | false =>
              refine Ev.step (fun k => ?_) (ihe (j + 1) false (by omega) (by simpa using hb))
              simp only [heliastref16_Alike.l1]
              rw [if_pos (by omega), if_neg (by simp), sp_w1 (by omega)]
            | true =>
              rw [Bool.true_and] at hb
              refine Ev.step (f := fun k => (heliastref16_has.f k L[j] x.f0 x.f1 x.f2).bind fun t => heliastref16_Alike.l1 k L out (i : Int) t ((j + 1 : Nat) : Int)) (fun k => ?_) ?_
              · simp only [heliastref16_Alike.l1]
                rw [if_pos (by omega), if_pos trivial, if_pos (by omega), if_pos (by omega), if_pos (by omega), rows_at0 hp, if_pos (by omega), rows_atA hj2, hrx, sp_w1 (by omega)]
              · have hr2 := h.row L[j] (List.getElem_mem hj2)
                exact Ev.bind (g := fun k => heliastref16_has.f k L[j] x.f0 x.f1 x.f2) (f := fun k t => heliastref16_Alike.l1 k L out (i : Int) t ((j + 1 : Nat) : Int)) (hasR_ev L[j] x (by omega)) (ihe (j + 1) _ (by omega) hb)
        refine Ev.step (f := fun k => heliastref16_Alike.j1 k L out (i : Int) true) (fun k => ?_) ?_
        · simp only [heliastref16_Alike.l0]
          rw [if_pos (by omega), if_pos (by omega), rows_at0 hp, decide_eq_true (by omega)]
        · refine Ev.step (fun k => ?_) (inner L.length 0 true (by omega) (by rw [Bool.true_and, List.drop_zero]; rfl))
          simp only [heliastref16_Alike.j1]; rw [if_pos trivial]; rfl
    have := key L[0].length 0 [] (by omega) (by simp)
    simpa [heliastref16_Alike.f] using this
  · have : L = [] := List.eq_nil_of_length_eq_zero (by omega)
    subst this
    refine Ev.step (f := fun k => heliastref16_Alike.j1 k [] [] 0 false) (fun k => ?_) ?_
    · unfold heliastref16_Alike.f; simp [heliastref16_Alike.l0]
    · refine Ev.step (f := fun _ => some []) (fun k => ?_) (Ev.now _)
      simp [heliastref16_Alike.j1]
theorem ApartR_ev {L : List (List En)} (h : Fine L) : Ev (fun k => heliastref16_Apart.f k L) (apartL L) := by
  have hll := h.len
  have hal := alike_len h
  have hfl := h.flat
  obtain ⟨S, hS⟩ : ∃ S, S = alikeL L := ⟨_, rfl⟩
  rw [← hS] at hal
  have hlim : ∀ i j, (readTo L i j).length ≤ 90000 := fun i j => Nat.le_trans (readTo_length i j) hfl
  obtain ⟨P, hP⟩ : ∃ P : En → Bool, P = fun x => !decide (x ∈ S) := ⟨_, rfl⟩
  have fin : placesL (L.flatten.filter P) = apartL L := rises_eq (riseL_spec _).1 (riseL_spec _).1 (fun p => by
    show p ∈ placesL _ ↔ p ∈ apartL L
    rw [mem_places, mem_apart h.spSrt]
    by_cases hne : L = []
    · subst hne; simp
    · constructor
      · rintro ⟨y, hy, rfl⟩
        obtain ⟨h1, h2⟩ := List.mem_filter.1 hy
        obtain ⟨s, h3, h4⟩ := List.mem_flatten.1 h1
        refine ⟨y, ⟨s, h3, h4⟩, fun ha => ?_, rfl⟩
        rw [hP, hS] at h2
        simp [(mem_alike h.spSrt hne).2 ha] at h2
      · rintro ⟨x, ⟨s, h3, h4⟩, h5, rfl⟩
        refine ⟨x, List.mem_filter.2 ⟨List.mem_flatten.2 ⟨s, h3, h4⟩, ?_⟩, rfl⟩
        rw [hP, hS]
        simp only [Bool.not_eq_true', decide_eq_false_iff_not]
        exact fun hx => h5 ((mem_alike h.spSrt hne).1 hx))
  have outer : ∀ d i, i + d = L.length → Ev (fun k => heliastref16_Apart.l0 k L S ((readTo L i 0).filter P) (i : Int)) (apartL L) := by
    intro d
    induction d with
    | zero =>
      intro i hi
      have hi2 : i = L.length := by omega
      subst hi2
      rw [readTo_zero, List.take_length]
      refine Ev.step (f := fun k => (heliastref13_Places.f k (L.flatten.filter P)).bind fun t => some t) (fun k => ?_) ?_
      · simp only [heliastref16_Apart.l0]; rw [if_neg (by omega)]
      · have hle := List.length_filter_le P L.flatten
        refine Ev.bind (g := fun k => heliastref13_Places.f k (L.flatten.filter P)) (f := fun _ t => some t) (Places_ev _ (by omega)) ?_
        rw [fin]; exact Ev.now _
    | succ d ih =>
      intro i hi
      have hlt : i < L.length := by omega
      have hrow := h.row L[i] (List.getElem_mem hlt)
      have hg : L.getD i [] = L[i] := by rw [List.getD_eq_getElem?_getD, List.getElem?_eq_getElem hlt]; rfl
      refine Ev.step (f := fun k => heliastref16_Apart.l1 k L S ((readTo L i 0).filter P) (i : Int) 0) (fun k => ?_) ?_
      · simp only [heliastref16_Apart.l0]; rw [if_pos (by omega)]
      · refine ev_down (fun j k => heliastref16_Apart.l1 k L S ((readTo L i j).filter P) (i : Int) (j : Int)) L[i].length (fun j hj hn => ?_) ?_ 0 (Nat.zero_le _)
        · obtain ⟨x, hx⟩ : ∃ x, x = L[i][j] := ⟨_, rfl⟩
          have hrx : rd_T69 L[i] (j : Int) = x := by rw [hx]; exact rd_en hj
          have hr : readTo L i (j + 1) = readTo L i j ++ [x] := by rw [readTo_succ (by rw [hg]; exact hj), hx]; congr 2; simp only [hg]
          have hle : ((readTo L i j).filter P).length < 3518437208883 := Nat.lt_of_le_of_lt (Nat.le_trans (List.length_filter_le _ _) (hlim i j)) (by decide)
          rw [hr, List.filter_append] at hn
          refine Ev.step (f := fun k => (heliastref16_has.f k S x.f0 x.f1 x.f2).bind fun t => if t = true then heliastref16_Apart.l1 k L S ((readTo L i j).filter P) (i : Int) ((j + 1 : Nat) : Int) else heliastref16_Apart.l1 k L S ((readTo L i j).filter P ++ [x]) (i : Int) ((j + 1 : Nat) : Int)) (fun k => ?_) ?_
          · simp only [heliastref16_Apart.l1]
            rw [if_pos (by omega), if_pos (by omega), rows_atA hlt, if_pos (by omega), if_pos (by omega), hrx, sp_w1 (by omega)]
            simp only [if_pos hle]
          · refine Ev.bind (g := fun k => heliastref16_has.f k S x.f0 x.f1 x.f2) (f := fun k t => if t = true then heliastref16_Apart.l1 k L S ((readTo L i j).filter P) (i : Int) ((j + 1 : Nat) : Int) else heliastref16_Apart.l1 k L S ((readTo L i j).filter P ++ [x]) (i : Int) ((j + 1 : Nat) : Int)) (hasR_ev S x (by omega)) ?_
            by_cases hin : x ∈ S
            · have e1 : [x].filter P = [] := by rw [hP]; simp [hin]
              rw [e1, List.append_nil] at hn
              refine Ev.congr (fun k => ?_) hn
              rw [decide_eq_true hin, if_pos rfl]
            · have e1 : [x].filter P = [x] := by rw [hP]; simp [hin]
              rw [e1] at hn
              refine Ev.congr (fun k => ?_) hn
              rw [decide_eq_false hin, if_neg (by simp)]
        · have := ih (i + 1) (by omega)
          rw [readTo_zero, ← readTo_row hlt, hg] at this
          refine Ev.step (fun k => ?_) this
          simp only [heliastref16_Apart.l1]
          rw [if_pos (by omega), if_pos (by omega), rows_atA hlt, if_neg (by omega), sp_w1 (by omega)]
  unfold heliastref16_Apart.f
  refine Ev.bind (g := fun k => heliastref16_Alike.f k L) (f := fun k t => heliastref16_Apart.l0 k L t [] 0) (AlikeR_ev h) ?_
  rw [← hS]
  exact outer L.length 0 (by omega)
theorem ChainsR_ev {L : List (List En)} (h : Fine L) {g : List (List Int)} (hg : g.length ≤ 300) (hgr : ∀ n, (g.getD n []).length ≤ 300) : Ev (fun k => heliastref16_Chains.f k g L) (chainsL g L) := by
  have hll := h.len
  obtain ⟨Q, hQ⟩ : ∃ Q : Int → List En → Bool, Q = fun n s => decide (n ∈ rchL g (placesL s)) := ⟨_, rfl⟩
  obtain ⟨P, hP⟩ : ∃ P : Int → Bool, P = fun n => decide (0 < L.countP (Q n)) && decide (L.countP (Q n) < L.length) := ⟨_, rfl⟩
  have fin : ((List.range' 0 g.length).map Int.ofNat).filter P = chainsL g L := rises_eq (List.Pairwise.filter _ (by
      rw [List.pairwise_map]
      exact (List.pairwise_lt_range' (s := 0) (n := g.length)).imp (fun {a b} h => by show (a : Int) < (b : Int); omega))) (riseL_spec _).1 (fun n => by
    show _ ↔ n ∈ chainsL g L
    rw [List.mem_filter, mem_chains, hP]
    simp only [Bool.and_eq_true, decide_eq_true_eq]
    have h1 : 0 < L.countP (Q n) ↔ ∃ s ∈ L, n ∈ rchL g (placesL s) := by rw [List.countP_pos_iff, hQ]; simp
    have h2 : L.countP (Q n) < L.length ↔ ¬ ∀ s ∈ L, n ∈ rchL g (placesL s) := by
      have hq : ∀ s, Q n s = true ↔ n ∈ rchL g (placesL s) := fun s => by rw [hQ]; exact decide_eq_true_iff
      have h4 := List.countP_le_length (p := Q n) (l := L)
      have h3 := List.countP_eq_length (p := Q n) (l := L)
      simp only [hq] at h3
      rw [← h3]; omega
    rw [h1, h2]
    constructor
    · exact fun h => h.2
    · intro h
      obtain ⟨s, hs, hn⟩ := h.1
      have := rch_range hn
      exact ⟨List.mem_map.2 ⟨n.toNat, List.mem_range'_1.2 (by omega), by show ((n.toNat : Nat) : Int) = n; omega⟩, h⟩)
  have outer : ∀ d i (out : List Int), i + d = g.length → out.length ≤ i → Ev (fun k => heliastref16_Chains.l0 k g L out (i : Int)) (out ++ ((List.range' i d).map Int.ofNat).filter P) := by
    intro d
    induction d with
    | zero =>
      intro i out hi ho
      refine Ev.step (f := fun _ => some out) (fun k => ?_) (by simpa using Ev.now out)
      simp only [heliastref16_Chains.l0]; rw [if_neg (by omega)]
    | succ d ih =>
      intro i out hi ho
      have hlt : out.length < 17592186044416 := Nat.lt_of_le_of_lt (show out.length ≤ 300 by omega) (by decide)
      rw [List.range'_succ, List.map_cons]
      have inner : ∀ e j, j + e = L.length → Ev (fun k => heliastref16_Chains.l1 k g L out (i : Int) (((L.take j).countP (Q (i : Int)) : Nat) : Int) (j : Int)) (out ++ ((i : Int) :: (List.range' (i + 1) d).map Int.ofNat).filter P) := by
        intro e
        induction e with
        | zero =>
          intro j hj
          have hj2 : j = L.length := by omega
          subst hj2
          rw [List.take_length]
          have hc := List.countP_le_length (p := Q (i : Int)) (l := L)
          by_cases h1 : 0 < L.countP (Q (i : Int)) ∧ L.countP (Q (i : Int)) < L.length
          · rw [List.filter_cons_of_pos (by rw [hP]; simp [h1])]
            have := ih (i + 1) (out ++ [(i : Int)]) (by omega) (by simp; omega)
            rw [List.append_assoc, List.singleton_append] at this
            refine Ev.step (fun k => ?_) this
            simp only [heliastref16_Chains.l1]
            rw [if_neg (by omega), if_pos (by omega), if_pos (by omega), if_pos hlt, sp_w1 (by omega)]
          · rw [List.filter_cons_of_neg (by rw [hP]; intro h; simp only [Bool.and_eq_true, decide_eq_true_eq] at h; exact h1 h)]
            refine Ev.step (fun k => ?_) (ih (i + 1) out (by omega) (by omega))
            simp only [heliastref16_Chains.l1]
            rw [if_neg (by omega), sp_w1 (by omega)]
            by_cases h2 : 0 < L.countP (Q (i : Int))
            · rw [if_pos (by omega), if_neg (by omega)]
            · rw [if_neg (by omega)]
        | succ e ihe =>
          intro j hj
          have hj2 : j < L.length := by omega
          have hrow := h.row L[j] (List.getElem_mem hj2)
          have hpl : (placesL L[j]).length ≤ 300 := by
            show (riseL (L[j].map fun x => x.f2)).length ≤ 300
            refine Nat.le_trans (riseL_length _) ?_; rw [List.length_map]; exact hrow
          have hrl := small_rch g (placesL L[j])
          have hct := List.countP_le_length (p := Q (i : Int)) (l := L.take j)
          have hct2 : (L.take j).length ≤ j := by rw [List.length_take]; omega
          have nx := ihe (j + 1) (by omega)
          rw [List.take_succ_eq_append_getElem hj2, List.countP_append, List.countP_singleton] at nx
          refine Ev.step (f := fun k => (heliastref13_Places.f k L[j]).bind fun t1 => (heliastref12_Reach.f k g t1).bind fun t2 => (heliastref12_Has.f k t2 (i : Int)).bind fun t3 => if t3 = true then heliastref16_Chains.l1 k g L out (i : Int) ((((L.take j).countP (Q (i : Int)) + 1 : Nat)) : Int) ((j + 1 : Nat) : Int) else heliastref16_Chains.l1 k g L out (i : Int) (((L.take j).countP (Q (i : Int)) : Nat) : Int) ((j + 1 : Nat) : Int)) (fun k => ?_) ?_
          · simp only [heliastref16_Chains.l1]
            rw [if_pos (by omega), if_pos (by omega), rows_atA hj2, sp_w1 (by omega), sp_w1 (by omega)]
          · refine Ev.bind (g := fun k => heliastref13_Places.f k L[j]) (f := fun k t1 => (heliastref12_Reach.f k g t1).bind fun t2 => (heliastref12_Has.f k t2 (i : Int)).bind fun t3 => if t3 = true then heliastref16_Chains.l1 k g L out (i : Int) ((((L.take j).countP (Q (i : Int)) + 1 : Nat)) : Int) ((j + 1 : Nat) : Int) else heliastref16_Chains.l1 k g L out (i : Int) (((L.take j).countP (Q (i : Int)) : Nat) : Int) ((j + 1 : Nat) : Int)) (Places_ev L[j] (by omega)) ?_
            refine Ev.bind (g := fun k => heliastref12_Reach.f k g (placesL L[j])) (f := fun k t2 => (heliastref12_Has.f k t2 (i : Int)).bind fun t3 => if t3 = true then heliastref16_Chains.l1 k g L out (i : Int) ((((L.take j).countP (Q (i : Int)) + 1 : Nat)) : Int) ((j + 1 : Nat) : Int) else heliastref16_Chains.l1 k g L out (i : Int) (((L.take j).countP (Q (i : Int)) : Nat) : Int) ((j + 1 : Nat) : Int)) (Reach_ev g (placesL L[j]) hg hgr (by omega)) ?_
            refine Ev.bind (g := fun k => heliastref12_Has.f k (rchL g (placesL L[j])) (i : Int)) (f := fun k t3 => if t3 = true then heliastref16_Chains.l1 k g L out (i : Int) ((((L.take j).countP (Q (i : Int)) + 1 : Nat)) : Int) ((j + 1 : Nat) : Int) else heliastref16_Chains.l1 k g L out (i : Int) (((L.take j).countP (Q (i : Int)) : Nat) : Int) ((j + 1 : Nat) : Int)) (Has_ev (rchL g (placesL L[j])) (i : Int) (by omega)) ?_
            have hQi : decide ((i : Int) ∈ rchL g (placesL L[j])) = Q (i : Int) L[j] := by rw [hQ]
            rw [hQi]
            refine Ev.congr (fun k => ?_) nx
            cases Q (i : Int) L[j] <;> simp
      refine Ev.step (fun k => ?_) (inner L.length 0 (by omega))
      simp only [heliastref16_Chains.l0]; rw [if_pos (by omega)]; rfl
  have := outer g.length 0 [] (by omega) (by simp)
  rw [List.nil_append, fin] at this
  simpa [heliastref16_Chains.f] using this
def mkEn (a : Int) : En := ⟨⟨#[]⟩, ⟨#[]⟩, a⟩
theorem BothR_ev {L : List (List En)} (h : Fine L) {g : List (List Int)} (hg : g.length ≤ 300) (hgr : ∀ n, (g.getD n []).length ≤ 300) : Ev (fun k => heliastref16_Both.f k g L) (bothL g L) := by
  have hal := apart_len h
  have hcl := chains_len h hg
  obtain ⟨a, ha⟩ : ∃ a, a = apartL L := ⟨_, rfl⟩
  obtain ⟨b, hb⟩ : ∃ b, b = chainsL g L := ⟨_, rfl⟩
  have e0 : bothL g L = riseL (a ++ b) := by rw [ha, hb]; rfl
  have hA := ApartR_ev h
  have hC := ChainsR_ev h hg hgr
  rw [← ha] at hal hA
  rw [← hb] at hcl hC
  have fin : placesL (a.map mkEn ++ b.map mkEn) = riseL (a ++ b) := by
    show riseL ((a.map mkEn ++ b.map mkEn).map fun x => x.f2) = _
    rw [List.map_append, List.map_map, List.map_map]
    congr 1
    have : ((fun x : En => x.f2) ∘ mkEn) = id := rfl
    rw [this, List.map_id, List.map_id]
  have l1 : ∀ d i, i + d = b.length → Ev (fun k => heliastref16_Both.l1 k b (a.map mkEn ++ (b.take i).map mkEn) (i : Int)) (riseL (a ++ b)) := by
    intro d
    induction d with
    | zero =>
      intro i hi
      rw [show b.take i = b from List.take_of_length_le (by omega)]
      refine Ev.step (f := fun k => (heliastref13_Places.f k (a.map mkEn ++ b.map mkEn)).bind fun t => some t) (fun k => ?_) ?_
      · simp only [heliastref16_Both.l1]; rw [if_neg (by omega)]
      · refine Ev.bind (g := fun k => heliastref13_Places.f k (a.map mkEn ++ b.map mkEn)) (f := fun _ t => some t) (Places_ev _ (by rw [List.length_append, List.length_map, List.length_map]; omega)) ?_
        rw [fin]; exact Ev.now _
    | succ d ih =>
      intro i hi
      have hlt : i < b.length := by omega
      have hle : (a.map mkEn ++ (b.take i).map mkEn).length < 3518437208883 := Nat.lt_of_le_of_lt (show _ ≤ 200000 by rw [List.length_append, List.length_map, List.length_map, List.length_take]; omega) (by decide)
      have nx := ih (i + 1) (by omega)
      rw [List.take_succ_eq_append_getElem hlt, List.map_append, ← List.append_assoc] at nx
      refine Ev.step (fun k => ?_) nx
      simp only [heliastref16_Both.l1]
      rw [if_pos (by omega), if_pos (by omega), if_pos hle, pl_rd hlt, sp_w1 (by omega)]; rfl
  have l0 : ∀ d i, i + d = a.length → Ev (fun k => heliastref16_Both.l0 k a b ((a.take i).map mkEn) (i : Int)) (riseL (a ++ b)) := by
    intro d
    induction d with
    | zero =>
      intro i hi
      rw [show a.take i = a from List.take_of_length_le (by omega)]
      have := l1 b.length 0 (by omega)
      rw [List.take_zero, List.map_nil, List.append_nil] at this
      refine Ev.step (fun k => ?_) this
      simp only [heliastref16_Both.l0]; rw [if_neg (by omega)]; rfl
    | succ d ih =>
      intro i hi
      have hlt : i < a.length := by omega
      have hle : ((a.take i).map mkEn).length < 3518437208883 := Nat.lt_of_le_of_lt (show _ ≤ 200000 by rw [List.length_map, List.length_take]; omega) (by decide)
      have nx := ih (i + 1) (by omega)
      rw [List.take_succ_eq_append_getElem hlt, List.map_append] at nx
      refine Ev.step (fun k => ?_) nx
      simp only [heliastref16_Both.l0]
      rw [if_pos (by omega), if_pos (by omega), if_pos hle, pl_rd hlt, sp_w1 (by omega)]; rfl
  unfold heliastref16_Both.f
  rw [e0]
  refine Ev.bind (g := fun k => heliastref16_Apart.f k L) (f := fun k t1 => (heliastref16_Chains.f k g L).bind fun t2 => heliastref16_Both.l0 k t1 t2 [] 0) hA ?_
  refine Ev.bind (g := fun k => heliastref16_Chains.f k g L) (f := fun k t2 => heliastref16_Both.l0 k a t2 [] 0) hC ?_
  exact l0 a.length 0 (by omega)
theorem asks16_ev {L : List (List En)} (h : Fine L) {g : List (List Int)} (hg : g.length ≤ 300) (hgr : ∀ n, (g.getD n []).length ≤ 300) : Ev (fun k => heliastlaw16_asks.f k g L) true := by
  have hal := alike_len h
  have hap := apart_len h
  have hcl := chains_len h hg
  have hbo : (bothL g L).length ≤ 180000 := by
    unfold bothL; refine Nat.le_trans (riseL_length _) ?_; rw [List.length_append]; omega
  have s1 := RSame_ev (alikeL L) (alikeL L) (by omega) (by omega)
  have s2 := Same12_ev (apartL L) (apartL L) (by omega)
  have s3 := Same12_ev (chainsL g L) (chainsL g L) (by omega)
  have s4 := Same12_ev (bothL g L) (bothL g L) (by omega)
  rw [decide_eq_true rfl] at s1 s2 s3 s4
  unfold heliastlaw16_asks.f
  simp only [Alike_f h, Apart_f h, Chains_f h hg, Both_fA h hg, Option.bind_some]
  refine Ev.bind (g := fun k => heliastref16_Alike.f k L) (AlikeR_ev h) ?_
  refine Ev.bind (g := fun k => heliastref13_Same.f k (alikeL L) (alikeL L)) s1 ?_
  refine Ev.congr (fun k => if_pos rfl) ?_
  refine Ev.bind (g := fun k => heliastref16_Apart.f k L) (ApartR_ev h) ?_
  refine Ev.bind (g := fun k => heliastref12_Same.f k (apartL L) (apartL L)) s2 ?_
  refine Ev.congr (fun k => if_pos rfl) ?_
  refine Ev.bind (g := fun k => heliastref16_Chains.f k g L) (ChainsR_ev h hg hgr) ?_
  refine Ev.bind (g := fun k => heliastref12_Same.f k (chainsL g L) (chainsL g L)) s3 ?_
  refine Ev.congr (fun k => if_pos rfl) ?_
  refine Ev.bind (g := fun k => heliastref16_Both.f k g L) (BothR_ev h hg hgr) ?_
  exact Ev.bind (g := fun k => heliastref12_Same.f k (bothL g L) (bothL g L)) (f := fun _ t => some t) s4 (Ev.now true)
theorem heavy_num (p q : Nat) (n : Int) (hp : p ≤ 140737488351232) (hq : q ≤ 140737488351232) (h0 : 0 ≤ n) (h2 : n ≤ 200) : wrap64 (1 + (p : Int)) = 1 + (p : Int) ∧ wrap64 (1 + (p : Int) + (q : Int)) = 1 + (p : Int) + (q : Int) ∧ wrap64 (n + (1 + (p : Int) + (q : Int))) = n + (1 + (p : Int) + (q : Int)) :=
  ⟨wrap_small (by omega) (by omega), wrap_small (by omega) (by omega), wrap_small (by omega) (by omega)⟩
theorem heavy_over (L : List (List En)) (i : Nat) (n : Int) (hn : 200 < n) : Ev (fun k => heliastlaw16_heavy.l0 k L n (i : Int)) true := by
  refine Ev.step (f := fun k => heliastlaw16_heavy.j1 k L n (i : Int) false) (fun k => ?_) ?_
  · simp only [heliastlaw16_heavy.l0]
    by_cases h : (i : Int) < (L.length : Int)
    · rw [if_pos h, decide_eq_false (by omega)]
    · rw [if_neg h]
  · refine Ev.step (f := fun _ => some true) (fun k => ?_) (Ev.now _)
    simp only [heliastlaw16_heavy.j1]
    rw [if_neg (by simp), decide_eq_true (by omega)]
def HeavyTells (L : List (List En)) (i : Nat) (b : Bool) : Prop := b = false → L.length ≤ 200 ∧ ∀ j (hj : j < L.length), i ≤ j → L[j].length ≤ 200 ∧ spSrt L[j]
structure RowSmall (s : List En) : Prop where
  right : Ev (fun k => heliastref13_Right.f k s) (srtB s)
  size : ∀ j (hj : j < s.length), s[j].f0.size ≤ 140737488351232 ∧ s[j].f1.size ≤ 140737488351232
theorem heavy_row (L : List (List En)) (i : Nat) (hlt : i < L.length) (hi : i ≤ 200) (hrow : RowSmall L[i]) (ih : ∀ n : Int, ((i + 1 : Nat) : Int) ≤ n → ∃ b, Ev (fun k => heliastlaw16_heavy.l0 k L n ((i + 1 : Nat) : Int)) b ∧ HeavyTells L (i + 1) b) :
    ∀ e j (n : Int), j + e = L[i].length → (i : Int) + 1 + j ≤ n → ∃ b, Ev (fun k => heliastlaw16_heavy.l1 k L n (i : Int) (j : Int)) b ∧ HeavyTells L i b := by
  have HWI := Aside0.mk (sp_w1 (i := i) (by omega))
  have q0 : (0 : Int) ≤ (i : Int) := by omega
  have q1 : (i : Int) < (L.length : Int) := by omega
  intro e
  induction e with
  | zero =>
    intro j n hj hn
    have q2 : ¬ (j : Int) < (L[i].length : Int) := by omega
    by_cases h2 : n ≤ 200
    · have step : ∀ k, heliastlaw16_heavy.l1 (k + 1) L n (i : Int) (j : Int) = (heliastref13_Right.f k L[i]).bind fun t => if t = true then heliastlaw16_heavy.l0 k L n ((i + 1 : Nat) : Int) else some true := fun k => by
        simp only [heliastlaw16_heavy.l1]
        rw [if_pos q0, if_pos q1, rows_atA hlt, if_neg q2, if_pos h2, HWI.out]
      have hr := hrow.right
      cases hs : srtB L[i] with
      | true =>
        rw [hs] at hr
        obtain ⟨b, hb1, hb2⟩ := ih n (by omega)
        refine ⟨b, Ev.step step ?_, fun h => ?_⟩
        · refine Ev.bind (g := fun k => heliastref13_Right.f k L[i]) (f := fun k t => if t = true then heliastlaw16_heavy.l0 k L n ((i + 1 : Nat) : Int) else some true) hr ?_
          exact Ev.congr (fun k => if_pos rfl) hb1
        · obtain ⟨g1, g2⟩ := hb2 h
          refine ⟨g1, fun q hq hiq => ?_⟩
          by_cases hqe : q = i
          · subst hqe; exact ⟨by omega, srtB_iff.1 hs⟩
          · exact g2 q hq (by omega)
      | false =>
        rw [hs] at hr
        refine ⟨true, Ev.step step ?_, fun h => by cases h⟩
        refine Ev.bind (g := fun k => heliastref13_Right.f k L[i]) (f := fun k t => if t = true then heliastlaw16_heavy.l0 k L n ((i + 1 : Nat) : Int) else some true) hr ?_
        exact Ev.congr (f := fun _ => some true) (fun k => if_neg (by simp)) (Ev.now true)
    · refine ⟨true, Ev.step (f := fun k => heliastlaw16_heavy.l0 k L n ((i + 1 : Nat) : Int)) (fun k => ?_) (heavy_over L (i + 1) n (by omega)), fun h => by cases h⟩
      simp only [heliastlaw16_heavy.l1]
      rw [if_pos q0, if_pos q1, rows_atA hlt, if_neg q2, if_neg h2, HWI.out]
  | succ e ihe =>
    intro j n hj hn
    have hj2 : j < L[i].length := by omega
    have q2 : (j : Int) < (L[i].length : Int) := by omega
    have q3 : (0 : Int) ≤ (j : Int) := by omega
    by_cases h2 : n ≤ 200
    · obtain ⟨x0, x1⟩ := hrow.size j hj2
      obtain ⟨p, hp⟩ : ∃ p, p = L[i][j].f0.size := ⟨_, rfl⟩
      obtain ⟨q, hq⟩ : ∃ q, q = L[i][j].f1.size := ⟨_, rfl⟩
      rw [← hp] at x0
      rw [← hq] at x1
      have HP := Aside0.mk hp
      have HQ := Aside0.mk hq
      clear hp hq
      have hn0 : 0 ≤ n := by omega
      have HW := Aside0.mk (heavy_num p q n x0 x1 hn0 h2)
      have hj1 : j ≤ 1000000 := by omega
      have HJ := Aside0.mk (sp_w1 hj1)
      clear x0 x1
      obtain ⟨b, hb1, hb2⟩ := ihe (j + 1) (n + (1 + (p : Int) + (q : Int))) (by omega) (by omega)
      refine ⟨b, Ev.step (f := fun k => heliastlaw16_heavy.l1 k L (n + (1 + (p : Int) + (q : Int))) (i : Int) ((j + 1 : Nat) : Int)) (fun k => ?_) hb1, hb2⟩
      simp only [heliastlaw16_heavy.l1]
      rw [if_pos q0, if_pos q1, rows_atA hlt, if_pos q2, if_pos h2, if_pos q3, rd_en hj2, ← HP.out, ← HQ.out, HW.out.1, HW.out.2.1, HW.out.2.2, HJ.out]
    · refine ⟨true, Ev.step (f := fun k => heliastlaw16_heavy.l0 k L n ((i + 1 : Nat) : Int)) (fun k => ?_) (heavy_over L (i + 1) n (by omega)), fun h => by cases h⟩
      simp only [heliastlaw16_heavy.l1]
      rw [if_pos q0, if_pos q1, rows_atA hlt, if_pos q2, if_neg h2, HWI.out]
theorem heavy_all (L : List (List En)) (hrow : ∀ j (hj : j < L.length), RowSmall L[j]) : ∀ d i (n : Int), i + d = L.length → (i : Int) ≤ n → ∃ b, Ev (fun k => heliastlaw16_heavy.l0 k L n (i : Int)) b ∧ HeavyTells L i b := by
  intro d
  induction d with
  | zero =>
    intro i n hi hn
    have q1 : ¬ (i : Int) < (L.length : Int) := by omega
    refine ⟨decide (n > 200), Ev.step (f := fun k => heliastlaw16_heavy.j1 k L n (i : Int) false) (fun k => ?_) ?_, fun h => ?_⟩
    · simp only [heliastlaw16_heavy.l0]; rw [if_neg q1]
    · refine Ev.step (f := fun _ => some (decide (n > 200))) (fun k => ?_) (Ev.now _)
      simp only [heliastlaw16_heavy.j1]; rw [if_neg (by simp)]
    · have := of_decide_eq_false h
      exact ⟨by omega, fun j hj h2 => by omega⟩
  | succ d ih =>
    intro i n hi hn
    by_cases h200 : 200 < n
    · exact ⟨true, heavy_over L i n h200, fun h => by cases h⟩
    · have hlt : i < L.length := by omega
      have hw : wrap64 (n + 1) = n + 1 := wrap_small (by omega) (by omega)
      obtain ⟨b, hb1, hb2⟩ := heavy_row L i hlt (by omega) (hrow i hlt) (fun n hn => ih (i + 1) n (by omega) hn) L[i].length 0 (n + 1) (by omega) (by omega)
      refine ⟨b, Ev.step (f := fun k => heliastlaw16_heavy.j1 k L n (i : Int) true) (fun k => ?_) (Ev.step (f := fun k => heliastlaw16_heavy.l1 k L (n + 1) (i : Int) 0) (fun k => ?_) hb1), hb2⟩
      · simp only [heliastlaw16_heavy.l0]; rw [if_pos (by omega), decide_eq_true (by omega)]
      · simp only [heliastlaw16_heavy.j1]; rw [if_pos trivial, hw]
theorem heavy_ev {L : List (List En)} (hrow : ∀ s ∈ L, s.length ≤ 3518437208882 ∧ ∀ x ∈ s, x.f0.size ≤ 140737488351232 ∧ x.f1.size ≤ 140737488351232) :
    ∃ b, Ev (fun k => heliastlaw16_heavy.f k L) b ∧ (b = false → L.length ≤ 200 ∧ ∀ s ∈ L, s.length ≤ 200 ∧ spSrt s) := by
  obtain ⟨b, hb1, hb2⟩ := heavy_all L (fun j hj => ⟨RRight_ev _ (hrow _ (List.getElem_mem hj)).1, fun q hq => (hrow _ (List.getElem_mem hj)).2 _ (List.getElem_mem hq)⟩) L.length 0 0 (Nat.zero_add _) (by simp)
  refine ⟨b, hb1, fun h => ?_⟩
  obtain ⟨g1, g2⟩ := hb2 h
  refine ⟨g1, fun s hs => ?_⟩
  obtain ⟨j, hj, rfl⟩ := List.getElem_of_mem hs
  exact g2 j hj (Nat.zero_le _)
theorem Graph_evA (c : List Int) : ∃ g, g.length ≤ 24 ∧ (∀ n, (g.getD n []).length ≤ 300) ∧ Ev (fun k => heliastlaw12_Graph.f k c) g := by
  refine ⟨g12_graph c, by rw [g12_graph_length]; omega, fun n => ?_, 1000, fun k hk => g12_Graph c k hk⟩
  unfold g12_graph g12_rows
  rw [List.getD_eq_getElem?_getD, List.getElem?_map]
  by_cases hn : n < min c.length 24
  · rw [List.getElem?_range' hn, Option.map_some, Option.getD_some]
    refine Nat.le_trans (List.length_filter_le _ _) ?_
    simp [seg]; omega
  · rw [List.getElem?_eq_none (by rw [List.length_range']; omega)]; simp
theorem SplitAsks_any (L : List (List En)) (c d e : List Int) (hL : L.length ≤ 140737488351232) (hrow : ∀ s ∈ L, s.length ≤ 3518437208882 ∧ ∀ x ∈ s, (x.f0.size ≤ 140737488351232 ∧ x.f1.size ≤ 140737488351232) ∧ (Lit.int .i64 x.f2).wf = true)
    (hc1 : c.length ≤ 140737488351232) (hc3 : ∀ x ∈ c, (Lit.int .u8 x).wf = true) (hd1 : d.length ≤ 140737488351232) (hd3 : ∀ x ∈ d, (Lit.int .u8 x).wf = true) : ∃ k, heliastlaw16_SplitAsks.f k L c d e = some true := by
  obtain ⟨g, hg, hgr, hge⟩ := Graph_evA e
  have hw : wrap64 ((g.length : Int) + 9) = (g.length : Int) + 9 := wrap_small (by omega) (by omega)
  obtain ⟨A, hA, hAe⟩ := States_ev c d (g.length : Int) (wf_u8 hc3) (by omega) (wf_u8 hd3) (by omega)
  obtain ⟨B, hB, hBe⟩ := States_ev c d ((g.length : Int) + 9) (wf_u8 hc3) (by omega) (wf_u8 hd3) (by omega)
  have fA := hA.fine (by omega)
  have fB := hB.fine (by omega)
  have hg3 : g.length ≤ 300 := by omega
  obtain ⟨b, hb1, hb2⟩ := heavy_ev (fun s hs => ⟨(hrow s hs).1, fun x hx => ((hrow s hs).2 x hx).1⟩)
  refine Ev.rounds (g := fun k => heliastlaw16_SplitAsks.f k L c d e) ?_
  unfold heliastlaw16_SplitAsks.f
  refine Ev.bind (g := fun k => heliastlaw12_Graph.f k e) hge ?_
  refine Ev.congr (f := fun k => (heliastlaw16_States.f k c d (g.length : Int)).bind fun t380 => (heliastlaw16_asks.f k g t380).bind fun t383 => if t383 = true then (heliastlaw16_States.f k c d (wrap64 ((g.length : Int) + 9))).bind fun t384 => (heliastlaw16_asks.f k g t384).bind fun t387 => if t387 = true then (heliastlaw16_heavy.f k L).bind fun t388 => if t388 = true then some true else (heliastlaw16_asks.f k g L).bind fun t389 => some t389 else some false else some false) (fun k => rfl) ?_
  refine Ev.bind (g := fun k => heliastlaw16_States.f k c d (g.length : Int)) hAe ?_
  refine Ev.bind (g := fun k => heliastlaw16_asks.f k g A) (asks16_ev fA hg3 hgr) ?_
  refine Ev.congr (fun k => if_pos rfl) ?_
  refine Ev.bind (g := fun k => heliastlaw16_States.f k c d (wrap64 ((g.length : Int) + 9))) (by rw [hw]; exact hBe) ?_
  refine Ev.bind (g := fun k => heliastlaw16_asks.f k g B) (asks16_ev fB hg3 hgr) ?_
  refine Ev.congr (fun k => if_pos rfl) ?_
  refine Ev.bind (g := fun k => heliastlaw16_heavy.f k L) hb1 ?_
  cases b with
  | true => exact Ev.congr (f := fun _ => some true) (fun k => if_pos rfl) (Ev.now true)
  | false =>
    obtain ⟨h1, h2⟩ := hb2 rfl
    have fL : Fine L := ⟨fun s hs => (h2 s hs).2, by omega, fun s hs => by have := (h2 s hs).1; omega, fun x hx => by
      obtain ⟨s, hs, hx⟩ := List.mem_flatten.1 hx
      obtain ⟨⟨q1, q2⟩, q3⟩ := (hrow s hs).2 x hx
      have := (wf_iff x.f2).1 q3
      exact ⟨by omega, by omega, this.1, this.2⟩⟩
    refine Ev.congr (f := fun k => (heliastlaw16_asks.f k g L).bind fun t389 => some t389) (fun k => if_neg (by simp)) ?_
    exact Ev.bind (g := fun k => heliastlaw16_asks.f k g L) (f := fun _ t => some t) (asks16_ev fL hg3 hgr) (Ev.now true)
end Sp
end Go.Proofs.Ytmmalieacakcbaa.S
end

-- Written by heprint.py (this session's, over the kit's print.py): not trusted, Lean checks it.
import Derived.Test.YtobdaiaaejlbkaaSd0
import Derived.Test.YtobdaiaaejlbkaaSd1
import Derived.Test.YtobdaiaaejlbkaaSd4
import Derived.Test.YtobdaiaaejlbkaaSd5
namespace Go.Proofs.Ytobdaiaaejlbkaa.S
open Go.RowKit Go.Proofs.YtobdaiaaejlbkaaW.PrintWords Go.Proofs.YtobdaiaaejlbkaaW.PrintLast Go.Proofs.YtobdaiaaejlbkaaW.PrintMore
attribute [local go_sem] max2_int min2_int max_two min_two max_three min_three max_four min_four   -- for this text's walks alone
set_option linter.unusedVariables false
set_option linter.unusedSimpArgs false

attribute [local go_sem high] eqA62
/-! ### state_Get: function 55 -/
-- GIVEN heliast/state.Get making uses heliast/state.Get$1 uses slices.IndexFunc[[]heliast/api.Entry,heliast/api.Entry]
open Go.Proofs.He
def stGet (l0 : List S62) (a1 a2 : ByteArray) : Int := match l0.find? (fun y => cmpE ⟨a1, a2, 0⟩ y == 0) with | some y => y.f2 | none => -1
theorem stGet_hit {l0 : List S62} {a1 a2 : ByteArray} {i : Int} (h : idxOf (fun y => cmpE ⟨a1, a2, 0⟩ y == 0) l0 = i) (h0 : 0 ≤ i) : i < l0.length ∧ stGet l0 a1 a2 = (rd_T62 l0 i).f2 := by
  subst h
  unfold idxOf at *
  cases hf : l0.findIdx? (fun y => cmpE ⟨a1, a2, 0⟩ y == 0) with
  | none => rw [hf] at h0; simp at h0
  | some i =>
    obtain ⟨hi, h1, h2⟩ := List.findIdx?_eq_some_iff_getElem.1 hf
    have : l0.find? (fun y => cmpE ⟨a1, a2, 0⟩ y == 0) = some l0[i] := by
      rw [List.find?_eq_some_iff_getElem]
      exact ⟨h1, i, hi, rfl, fun j hj => by simpa using h2 j hj⟩
    simp [stGet, this, rd_T62, hi]
theorem stGet_miss {l0 : List S62} {a1 a2 : ByteArray} (h : idxOf (fun y => cmpE ⟨a1, a2, 0⟩ y == 0) l0 < 0) : stGet l0 a1 a2 = -1 := by
  unfold idxOf at *
  cases hf : l0.findIdx? (fun y => cmpE ⟨a1, a2, 0⟩ y == 0) with
  | some i => rw [hf] at h; simp at h; omega
  | none =>
    have : l0.find? (fun y => cmpE ⟨a1, a2, 0⟩ y == 0) = none := by
      rw [List.find?_eq_none]; rw [List.findIdx?_eq_none_iff] at hf
      intro x hx; simpa using hf x hx
    simp [stGet, this]
set_option maxHeartbeats 4000000 in
set_option maxRecDepth 100000 in
theorem state_Get.walk (A0 : Option Addr) (c0 : Nat) (l0 : List S62) (a1 a2 : ByteArray) (w : World) (hr0 : Kd.C k62 w A0 l0.length l0) (hc0 : l0.length ≤ c0) :
    Calls Try.prog 55 #[.slice A0 l0.length c0, .string a1, .string a2] w fun e w' => e = .returned (.int .i64 (stGet l0 a1 a2)) ∧ Below w.heap.size w w' := by
  have hu62 := Try.underlying62
  have HR0 := Aside0.mk hr0
  have hlen : l0.length ≤ 9223372036854775807 := hr0.2.1
  clear hr0
  have HC := Aside0.mk (fun W hb => slices_IndexFunc_Entry.calls 123 #[.pointer (some ⟨w.heap.size, 0, none⟩)] (enters_of Try.func123 (by kernel_rfl) rfl) (fun y => cmpE ⟨a1, a2, 0⟩ y == 0) A0 c0 l0 W hb)
  obtain ⟨i, hi⟩ : ∃ i, i = idxOf (fun y => cmpE ⟨a1, a2, 0⟩ y == 0) l0 := ⟨_, rfl⟩
  rw [← hi] at HC
  have HI := Aside0.mk hi
  clear hi
  go_enter Try.func55, Try.ntmps55
  go_wp2_with fail
  have HB1 := Aside0.mk ((Below.refl w.heap.size w).alloc (Nat.le_refl _) (Obj.cells #[Value.string a1, Value.string a2, Value.int IntKind.i64 0] 62))
  refine (HC.out _ (Kd.C_below HR0.out HB1.out) (fun y W hW => (state_Get_1.calls w.heap.size ⟨a1, a2, 0⟩ y W ?_).mono (fun e W' ⟨he, hb⟩ => ⟨he, below_then hW (by exact hW.size) hb⟩))).mono ?_
  · rw [hW.block _ (by simp)]; exact heap_alloc_new w _
  rintro e w1 ⟨rfl, hb1⟩
  replace HB1 := Aside0.mk (below_then HB1.out (by simp) hb1)
  clear hb1 HC
  by_cases h0 : 0 ≤ i
  · obtain ⟨hlt, hget⟩ := stGet_hit HI.out.symm h0
    obtain ⟨ad, e, hx0, hx1, hx2⟩ := at_T62 HR0.out i h0 hlt
    cases e
    replace hx2 := (HB1.out.cell (World.block_lt_of_cell? w _ hx2)).trans hx2
    clear hx0 hx1
    have HG := Aside0.mk hget
    clear hget
    have hn : ¬ i < 0 := by omega
    go_wp2
    go_ret
    exact ⟨by rw [HG.out]; rfl, HB1.out⟩
  · have hn : i < 0 := by omega
    have HG := Aside0.mk (stGet_miss (by rw [← HI.out]; exact hn))
    go_wp2
    go_ret
    exact ⟨by rw [HG.out]; rfl, HB1.out⟩
def state_Get.f (l0 : List S62) (a1 a2 : ByteArray) : Option Int := some (stGet l0 a1 a2)
theorem state_Get.calls (A0 : Option Addr) (c0 : Nat) (l0 : List S62) (a1 a2 : ByteArray) (r : Int) (w : World) (hr0 : Kd.C k62 w A0 l0.length l0) (hc0 : l0.length ≤ c0) (h : state_Get.f l0 a1 a2 = some r) :
    Calls Try.prog 55 #[.slice A0 l0.length c0, .string a1, .string a2] w fun e w' => e = .returned (.int .i64 r) ∧ Below w.heap.size w w' := by
  obtain rfl := Option.some.inj h
  exact state_Get.walk A0 c0 l0 a1 a2 w hr0 hc0

/-! ### heliastlaw13_known: function 51 -/
def heliastlaw13_known.f (k : Nat)  : Option (Bool) := (some (([(⟨(⟨#[109, 46, 114, 111, 111, 109, 46, 99, 114, 101, 97, 116, 101]⟩ : ByteArray), (⟨#[]⟩ : ByteArray), 0⟩ : S62)] : List (S62)) : List (S62))).bind fun y148 => ((state_Get.f y148 (⟨#[109, 46, 114, 111, 111, 109, 46, 99, 114, 101, 97, 116, 101]⟩ : ByteArray) (⟨#[]⟩ : ByteArray)).bind fun t151 => (if t151 = 0 then ((state_Get.f y148 (⟨#[120]⟩ : ByteArray) (⟨#[]⟩ : ByteArray)).bind fun t152 => (if t152 = (-1) then ((state_Right.f k y148).bind fun t153 => (if t153 = true then ((state_Put.f y148 (⟨#[97]⟩ : ByteArray) (⟨#[]⟩ : ByteArray) 3).bind fun t154 => (some ((t154.length : Int) == 2))) else (some false))) else (some false))) else (some false)))
theorem heliastlaw13_known.mono : ∀ k, LeO (heliastlaw13_known.f k ) (heliastlaw13_known.f (k + 1) ) := by
  intro  k
  unfold heliastlaw13_known.f
  repeat' first
      | (with_reducible exact state_Right.mono _ _)
      | (with_reducible exact LeO.refl _)
      | (with_reducible exact LeO.none _)
      | (with_reducible refine LeO.ite ?_ ?_)
      | (with_reducible refine LeO.bind ?_ (fun _ => ?_))
      | exact state_Right.mono _ _
      | exact LeO.none _
      | refine LeO.ite ?_ ?_
      | refine LeO.bind ?_ (fun _ => ?_)
set_option maxHeartbeats 8000000 in
set_option maxRecDepth 100000 in
theorem heliastlaw13_known.calls (k : Nat)  (r : Bool) (w : World) (h : heliastlaw13_known.f k  = some r) (hlaw : r = true) :
    Calls Try.prog 51 #[] w fun e w' => e = .returned (.bool r) ∧ Below w.heap.size w w' := by
  have hu62 := Try.underlying62
  have HLAW := Aside0.mk hlaw
  clear hlaw
  have HB := Aside0.mk (Below.refl w.heap.size w)
  have H : ((some (([(⟨(⟨#[109, 46, 114, 111, 111, 109, 46, 99, 114, 101, 97, 116, 101]⟩ : ByteArray), (⟨#[]⟩ : ByteArray), 0⟩ : S62)] : List (S62)) : List (S62))).bind fun y148 => ((state_Get.f y148 (⟨#[109, 46, 114, 111, 111, 109, 46, 99, 114, 101, 97, 116, 101]⟩ : ByteArray) (⟨#[]⟩ : ByteArray)).bind fun t151 => (if t151 = 0 then ((state_Get.f y148 (⟨#[120]⟩ : ByteArray) (⟨#[]⟩ : ByteArray)).bind fun t152 => (if t152 = (-1) then ((state_Right.f k y148).bind fun t153 => (if t153 = true then ((state_Put.f y148 (⟨#[97]⟩ : ByteArray) (⟨#[]⟩ : ByteArray) 3).bind fun t154 => (some ((t154.length : Int) == 2))) else (some false))) else (some false))) else (some false)))) = some r := h
  clear h
  obtain ⟨y148, hy148⟩ : ∃ y_ : List (S62), y_ = (([(⟨(⟨#[109, 46, 114, 111, 111, 109, 46, 99, 114, 101, 97, 116, 101]⟩ : ByteArray), (⟨#[]⟩ : ByteArray), 0⟩ : S62)] : List (S62))) := ⟨_, rfl⟩
  replace H : ((state_Get.f y148 (⟨#[109, 46, 114, 111, 111, 109, 46, 99, 114, 101, 97, 116, 101]⟩ : ByteArray) (⟨#[]⟩ : ByteArray)).bind fun t151 => (if t151 = 0 then ((state_Get.f y148 (⟨#[120]⟩ : ByteArray) (⟨#[]⟩ : ByteArray)).bind fun t152 => (if t152 = (-1) then ((state_Right.f k y148).bind fun t153 => (if t153 = true then ((state_Put.f y148 (⟨#[97]⟩ : ByteArray) (⟨#[]⟩ : ByteArray) 3).bind fun t154 => (some ((t154.length : Int) == 2))) else (some false))) else (some false))) else (some false))) = some r := by first | (rw [hy148]; with_reducible exact H) | (have H2_ := (Option.bind_some _ _).symm.trans H; rw [hy148]; with_reducible exact H2_) | (have H2_ := (Option.bind_some _ _).symm.trans H; with_reducible exact H2_) | with_reducible exact H | (rw [hy148]; exact H) | exact H
  have Ny148 := Aside0.mk hy148
  clear hy148
  replace H := Option.bind_eq_some_iff.mp H
  obtain ⟨t151, A10, H⟩ := H
  replace H : (if t151 = 0 then ((state_Get.f y148 (⟨#[120]⟩ : ByteArray) (⟨#[]⟩ : ByteArray)).bind fun t152 => (if t152 = (-1) then ((state_Right.f k y148).bind fun t153 => (if t153 = true then ((state_Put.f y148 (⟨#[97]⟩ : ByteArray) (⟨#[]⟩ : ByteArray) 3).bind fun t154 => (some ((t154.length : Int) == 2))) else (some false))) else (some false))) else (some false)) = some r := H
  have A1 := Aside0.mk A10
  clear A10
  by_cases c2 : t151 = 0
  · rw [if_pos c2] at H
    have c2b0 : (t151 == 0) = true := beq_iff_eq.mpr c2
    have c2b1 : (t151 != 0) = false := bne_eq_false_iff_eq.mpr c2
    clear c2
    replace H := Option.bind_eq_some_iff.mp H
    obtain ⟨t152, A30, H⟩ := H
    replace H : (if t152 = (-1) then ((state_Right.f k y148).bind fun t153 => (if t153 = true then ((state_Put.f y148 (⟨#[97]⟩ : ByteArray) (⟨#[]⟩ : ByteArray) 3).bind fun t154 => (some ((t154.length : Int) == 2))) else (some false))) else (some false)) = some r := H
    have A3 := Aside0.mk A30
    clear A30
    by_cases c4 : t152 = (-1)
    · rw [if_pos c4] at H
      have c4b0 : (t152 == (-1)) = true := beq_iff_eq.mpr c4
      have c4b1 : (t152 != (-1)) = false := bne_eq_false_iff_eq.mpr c4
      clear c4
      replace H := Option.bind_eq_some_iff.mp H
      obtain ⟨t153, A50, H⟩ := H
      replace H : (if t153 = true then ((state_Put.f y148 (⟨#[97]⟩ : ByteArray) (⟨#[]⟩ : ByteArray) 3).bind fun t154 => (some ((t154.length : Int) == 2))) else (some false)) = some r := H
      have A5 := Aside0.mk A50
      clear A50
      by_cases c6 : t153 = true
      · subst c6
        have H1 : ((state_Put.f y148 (⟨#[97]⟩ : ByteArray) (⟨#[]⟩ : ByteArray) 3).bind fun t154 => (some ((t154.length : Int) == 2))) = some r := by rw [if_pos rfl] at H; exact H
        clear H
        have H := H1
        clear H1
        replace H := Option.bind_eq_some_iff.mp H
        obtain ⟨t154, A70, H⟩ := H
        replace H : (some ((t154.length : Int) == 2)) = some r := H
        have A7 := Aside0.mk A70
        clear A70
        obtain rfl := Option.some.inj H
        go_enter Try.func51, Try.ntmps51
        go_wp2_with (first | ((with_reducible refine gate_dst (N := 3) rfl ?_); (try (refine gate_guard (by rfl) ?_; dsimp only)); refine Kd.R_lit k62 _ 62 ?hg (N := 3) ?hd (xs := ([(⟨(⟨#[109, 46, 114, 111, 111, 109, 46, 99, 114, 101, 97, 116, 101]⟩ : ByteArray), (⟨#[]⟩ : ByteArray), 0⟩ : S62)] : List (S62))) (inner := [.string (⟨#[109, 46, 114, 111, 111, 109, 46, 99, 114, 101, 97, 116, 101]⟩ : ByteArray), .string (⟨#[]⟩ : ByteArray), .int .i64 0]) (ok := fun _ => True) (okp := fun _ => True) ?hr ?hp (fun _ hk => hk) trivial (Below.refl _ _) (Nat.le_refl _) (by simp) ?_; (case hd => rfl); (case hg => rfl); (case hr => first | (go_simp; done) | (go_simp; rfl)); (case hp => exact (Reps.c3 (show Kd.M k62 _ _ _ (⟨(⟨#[109, 46, 114, 111, 111, 109, 46, 99, 114, 101, 97, 116, 101]⟩ : ByteArray), (⟨#[]⟩ : ByteArray), 0⟩ : S62) [.string (⟨#[109, 46, 114, 111, 111, 109, 46, 99, 114, 101, 97, 116, 101]⟩ : ByteArray), .string (⟨#[]⟩ : ByteArray), .int .i64 0] from (k62_mkM _ _ _ (⟨(⟨#[109, 46, 114, 111, 111, 109, 46, 99, 114, 101, 97, 116, 101]⟩ : ByteArray), (⟨#[]⟩ : ByteArray), 0⟩ : S62) )) (Reps.none _ _))); intro v149 w8 ho9 hb hg_ hnew_; clear hg_ hnew_; (first | rw [← Ny148.out] at ho9 | (simp only [Int.reduceToNat] at ho9; rw [← Ny148.out] at ho9)); have n0_ := Aside0.mk (Kd.R_lower ho9 (below_size (by repeat (first | (with_reducible first | exact HB.out | apply below_alloc | apply pw_below_drewN | apply below_drew1) | exact HB.out)))); have n1_ := Aside0.mk (below_step (by repeat (first | (with_reducible first | exact HB.out | apply below_alloc | apply pw_below_drewN | apply below_drew1) | exact HB.out)) hb); clear HB; have HO150 := n0_; have HB := n1_; clear n0_ n1_; clear hb ho9; obtain ⟨Ao10, co10, eo10⟩ := Kd.R_slice HO150.out; subst eo10) | ((with_reducible refine gate_callee (f := 55) rfl ?_); refine goesL_ (some 5) rfl rfl Try.func55 (by kernel_rfl) rfl #[.slice Ao10 y148.length co10, .string (⟨#[109, 46, 114, 111, 111, 109, 46, 99, 114, 101, 97, 116, 101]⟩ : ByteArray), .string (⟨#[]⟩ : ByteArray)] rfl (by (try simp only [List.map_toArray, List.map_cons, List.map_nil]); first | done | rfl | (simp only [List.length_drop, List.length_take]; rfl)) ?_; (with_reducible refine (state_Get.calls _ _ y148 (⟨#[109, 46, 114, 111, 111, 109, 46, 99, 114, 101, 97, 116, 101]⟩ : ByteArray) (⟨#[]⟩ : ByteArray) t151 _ ?side1 ?side2 A1.out).mono ?_); (case side1 => repeat (first | exact (Kd.R_reads' HO150.out).2.2 | (with_reducible refine Kd.C_alloc ?_ _) | (with_reducible refine Kd.C_drewN ?_ _) | (with_reducible refine Kd.C_drew ?_))); (case side2 => exact (Kd.R_reads' HO150.out).2.1); rintro e w11 ⟨rfl, hb⟩; refine ⟨_, rfl, ?_⟩; have n0_ := Aside0.mk (Kd.R_below (by (with_reducible repeat (first | apply Kd.R_alloc | apply Kd.R_drewN | apply Kd.R_drew)); exact HO150.out) hb); have n1_ := Aside0.mk (below_step (by repeat (first | (with_reducible first | exact HB.out | apply below_alloc | apply pw_below_drewN | apply below_drew1) | exact HB.out)) hb); clear HO150; clear HB; have HO150 := n0_; have HB := n1_; clear n0_ n1_; (try clear hb); (try clear hb2); (try clear hk); (try clear hi)) | (go_at_call 55; (with_reducible refine (state_Get.calls _ _ y148 (⟨#[120]⟩ : ByteArray) (⟨#[]⟩ : ByteArray) t152 _ ?side1 ?side2 A3.out).mono ?_); (case side1 => repeat (first | exact (Kd.R_reads' HO150.out).2.2 | (with_reducible refine Kd.C_alloc ?_ _) | (with_reducible refine Kd.C_drewN ?_ _) | (with_reducible refine Kd.C_drew ?_))); (case side2 => exact (Kd.R_reads' HO150.out).2.1); rintro e w12 ⟨rfl, hb⟩; have n0_ := Aside0.mk (Kd.R_below (by (with_reducible repeat (first | apply Kd.R_alloc | apply Kd.R_drewN | apply Kd.R_drew)); exact HO150.out) hb); have n1_ := Aside0.mk (below_step (by repeat (first | (with_reducible first | exact HB.out | apply below_alloc | apply pw_below_drewN | apply below_drew1) | exact HB.out)) hb); clear HO150; clear HB; have HO150 := n0_; have HB := n1_; clear n0_ n1_; (try clear hb); (try clear hb2); (try clear hk); (try clear hi)) | (go_at_call 52; (with_reducible refine (state_Right.calls k _ _ y148 true _ ?side1 ?side2 A5.out).mono ?_); (case side1 => repeat (first | exact (Kd.R_reads' HO150.out).2.2 | (with_reducible refine Kd.C_alloc ?_ _) | (with_reducible refine Kd.C_drewN ?_ _) | (with_reducible refine Kd.C_drew ?_))); (case side2 => exact (Kd.R_reads' HO150.out).2.1); rintro e w13 ⟨rfl, hb⟩; have n0_ := Aside0.mk (Kd.R_below (by (with_reducible repeat (first | apply Kd.R_alloc | apply Kd.R_drewN | apply Kd.R_drew)); exact HO150.out) hb); have n1_ := Aside0.mk (below_step (by repeat (first | (with_reducible first | exact HB.out | apply below_alloc | apply pw_below_drewN | apply below_drew1) | exact HB.out)) hb); clear HO150; clear HB; have HO150 := n0_; have HB := n1_; clear n0_ n1_; (try clear hb); (try clear hb2); (try clear hk); (try clear hi)) | (go_at_call 54; (with_reducible refine (state_Put.calls _ _ y148 (⟨#[97]⟩ : ByteArray) (⟨#[]⟩ : ByteArray) 3 t154 _ ?side1 ?side2 A7.out).mono ?_); (case side1 => repeat (first | exact (Kd.R_reads' HO150.out).2.2 | (with_reducible refine Kd.C_alloc ?_ _) | (with_reducible refine Kd.C_drewN ?_ _) | (with_reducible refine Kd.C_drew ?_))); (case side2 => exact (Kd.R_reads' HO150.out).2.1); rintro e w14 ⟨v155, rfl, ho0, hb⟩; have n0_ := Aside0.mk (Kd.R_elder' (by (with_reducible repeat (first | apply Kd.R_alloc | apply Kd.R_drewN | apply Kd.R_drew)); exact HO150.out) (Kd.R_base ho0) hb); have n1_ := Aside0.mk (Kd.R_lower (Kd.R_new' ho0 (Kd.R_lt (by (with_reducible repeat (first | apply Kd.R_alloc | apply Kd.R_drewN | apply Kd.R_drew)); exact HO150.out))) (below_size (by repeat (first | (with_reducible first | exact HB.out | apply below_alloc | apply pw_below_drewN | apply below_drew1) | exact HB.out)))); have n2_ := Aside0.mk (below_step (by repeat (first | (with_reducible first | exact HB.out | apply below_alloc | apply pw_below_drewN | apply below_drew1) | exact HB.out)) hb); clear HO150; clear HB; have HO150 := n0_; have HO156 := n1_; have HB := n2_; clear n0_ n1_ n2_; (try clear hb); (try clear hb2); (try clear hk); (try clear hi); (try clear ho0); obtain ⟨Ao15, co15, eo15⟩ := Kd.R_slice HO156.out; subst eo15))
        go_ret
        exact ⟨by first | rfl | (simp [errW_none, errW_some] <;> rfl) | (simp [*, errW_none, errW_some] <;> rfl), by repeat (first | (with_reducible first | exact HB.out | apply below_alloc | apply pw_below_drewN | apply below_drew1) | exact HB.out)⟩
      · replace c6 := Bool.eq_false_iff.mpr c6
        subst c6
        have H1 : (some false) = some r := by rw [if_neg (show ¬ (false = true) by decide)] at H; exact H
        clear H
        have H := H1
        clear H1
        exact absurd ((Option.some.inj H).trans HLAW.out) (by decide)
    · rw [if_neg c4] at H
      have c4b0 : (t152 == (-1)) = false := beq_eq_false_iff_ne.mpr c4
      have c4b1 : (t152 != (-1)) = true := bne_iff_ne.mpr c4
      exact absurd ((Option.some.inj H).trans HLAW.out) (by decide)
  · rw [if_neg c2] at H
    have c2b0 : (t151 == 0) = false := beq_eq_false_iff_ne.mpr c2
    have c2b1 : (t151 != 0) = true := bne_iff_ne.mpr c2
    exact absurd ((Option.some.inj H).trans HLAW.out) (by decide)

/-! ### api_Entry_124: function 124 -/
def api_Entry_124.l0 : Nat → List (S62) → List (S62) → Int → Int → Option (Bool)
  | 0, _, _, _, _ => none
  | k + 1, x0, x1, x12, x13 => if x13 < x12 then (if 0 ≤ x13 then (if x13 < (x0.length : Int) then (if x13 < (x1.length : Int) then (if (!((((rd_T62 x0 x13).f0).toList) == (((rd_T62 x1 x13).f0).toList)) || (!((((rd_T62 x0 x13).f1).toList) == (((rd_T62 x1 x13).f1).toList)) || (!(((rd_T62 x0 x13).f2) == ((rd_T62 x1 x13).f2))))) = true then (some false) else (api_Entry_124.l0 k x0 x1 x12 (wrap64 (x13 + 1)))) else (none)) else (none)) else (none)) else (some true)
def api_Entry_124.f (k : Nat) (l0 : List (S62)) (l1 : List (S62)) : Option (Bool) := if (l0.length : Int) = (l1.length : Int) then (api_Entry_124.l0 k l0 l1 (l0.length : Int) 0) else (some false)
theorem api_Entry_124.mono_l : ∀ k, (∀ y0 y1 y2 y3, LeO (api_Entry_124.l0 k y0 y1 y2 y3) (api_Entry_124.l0 (k + 1) y0 y1 y2 y3))
  | 0 => fun _ _ _ _ r h => by simp [api_Entry_124.l0] at h
  | k + 1 => by
    have ih0 := api_Entry_124.mono_l k
    · intro y0 y1 y2 y3
      unfold api_Entry_124.l0
      repeat' first
      | (with_reducible exact ih0 _ _ _ _)
      | (with_reducible exact LeO.refl _)
      | (with_reducible exact LeO.none _)
      | (with_reducible refine LeO.ite ?_ ?_)
      | (with_reducible refine LeO.bind ?_ (fun _ => ?_))
      | exact ih0 _ _ _ _
      | exact LeO.none _
      | refine LeO.ite ?_ ?_
      | refine LeO.bind ?_ (fun _ => ?_)
theorem api_Entry_124.mono : ∀ a0 a1 k, LeO (api_Entry_124.f k a0 a1) (api_Entry_124.f (k + 1) a0 a1) := by
  intro a0 a1 k
  have ih0 := api_Entry_124.mono_l k
  unfold api_Entry_124.f
  repeat' first
      | (with_reducible exact ih0 _ _ _ _)
      | (with_reducible exact LeO.refl _)
      | (with_reducible exact LeO.none _)
      | (with_reducible refine LeO.ite ?_ ?_)
      | (with_reducible refine LeO.bind ?_ (fun _ => ?_))
      | exact ih0 _ _ _ _
      | exact LeO.none _
      | refine LeO.ite ?_ ?_
      | refine LeO.bind ?_ (fun _ => ?_)
set_option maxHeartbeats 8000000 in
set_option maxRecDepth 100000 in
theorem api_Entry_124.calls (k : Nat) (A0 : Option Addr) (c0 : Nat) (l0 : List (S62)) (A1 : Option Addr) (c1 : Nat) (l1 : List (S62)) (r : Bool) (w : World) (hr0 : Kd.C k62 w A0 l0.length l0) (hc0 : l0.length ≤ c0) (hr1 : Kd.C k62 w A1 l1.length l1) (hc1 : l1.length ≤ c1) (h : api_Entry_124.f k l0 l1 = some r) :
    Calls Try.prog 124 #[.slice A0 l0.length c0, .slice A1 l1.length c1] w fun e w' => e = .returned (.bool r) ∧ Drawn0 w w' := by
  have hu62 := Try.underlying62
  have HR0 := Aside0.mk hr0
  have HC0 := Aside0.mk hc0
  clear hr0 hc0
  have HR1 := Aside0.mk hr1
  have HC1 := Aside0.mk hc1
  clear hr1 hc1
  have H : (if (l0.length : Int) = (l1.length : Int) then (api_Entry_124.l0 k l0 l1 (l0.length : Int) 0) else (some false)) = some r := h
  clear h
  by_cases c3 : (l0.length : Int) = (l1.length : Int)
  · rw [if_pos c3] at H
    have c3b0 : ((l0.length : Int) == (l1.length : Int)) = true := beq_iff_eq.mpr c3
    have c3b1 : ((l0.length : Int) != (l1.length : Int)) = false := bne_eq_false_iff_eq.mpr c3
    have c3b2 : (l0.length == l1.length) = true := by first | simpa using c3 | (simp at c3 ⊢; omega)
    clear c3
    have H' := Aside0.mk H
    clear H
    go_enter Try.func124, Try.ntmps124
    go_wp2
    repeat (go_quiet (fail); try go_wp2)
    go_loopg [13] k (fun kq v13 w' => ∃ (x13_1 : Int), v13 = .int .i64 x13_1 ∧ Aside0 (api_Entry_124.l0 kq l0 l1 (l0.length : Int) x13_1 = some r) ∧ Aside0 (kq ≤ k) ∧ Drawn0 w w')
    case atStart => exact ⟨(0), (by first | rfl | (simp; done) | (simp [*]; done)), H', ⟨Nat.le_refl _⟩, by repeat (first | exact Drawn0.refl _ | apply Drawn0.step)⟩
    case round =>
      clear H'
      try clear c1
      try clear p2
      try clear c3
      try clear c3b0
      try clear c3b1
      try clear c3b2
      obtain ⟨x13_1, rfl, HA, HK1, ⟨m1, rfl⟩⟩ := hrel
      cases gk with
      | zero => exact absurd HA.out (by simp [api_Entry_124.l0])
      | succ k1 =>
        have H := HA.out
        clear HA
        simp only [api_Entry_124.l0] at H
        by_cases c4 : x13_1 < (l0.length : Int)
        · rw [if_pos c4] at H
          have c4b0 : decide (x13_1 < (l0.length : Int)) = true := decide_eq_true c4
          clear c4
          by_cases c5 : 0 ≤ x13_1
          · rw [if_pos c5] at H
            have c5b0 : decide (0 ≤ x13_1) = true := decide_eq_true c5
            clear c5
            by_cases c6 : x13_1 < (l0.length : Int)
            · rw [if_pos c6] at H
              have c6b0 : decide (x13_1 < (l0.length : Int)) = true := decide_eq_true c6
              clear c6
              by_cases c7 : x13_1 < (l1.length : Int)
              · rw [if_pos c7] at H
                have c7b0 : decide (x13_1 < (l1.length : Int)) = true := decide_eq_true c7
                clear c7
                by_cases c8 : (!((((rd_T62 l0 x13_1).f0).toList) == (((rd_T62 l1 x13_1).f0).toList)) || (!((((rd_T62 l0 x13_1).f1).toList) == (((rd_T62 l1 x13_1).f1).toList)) || (!(((rd_T62 l0 x13_1).f2) == ((rd_T62 l1 x13_1).f2))))) = true
                · rw [if_pos c8] at H
                  have c8b0 : (!((((rd_T62 l0 x13_1).f0).toList) == (((rd_T62 l1 x13_1).f0).toList)) || (!((((rd_T62 l0 x13_1).f1).toList) == (((rd_T62 l1 x13_1).f1).toList)) || (!(((rd_T62 l0 x13_1).f2) == ((rd_T62 l1 x13_1).f2))))) = true := c8
                  clear c8
                  obtain rfl := Option.some.inj H
                  have p157 : 0 ≤ (x13_1 : Int) := of_decide_eq_true (by first | (with_reducible assumption) | assumption)
                  have q157 : x13_1 < (l0.length : Int) := of_decide_eq_true (by first | (with_reducible assumption) | assumption)
                  obtain ⟨ad157, e157, hx157_0, hx157_1, hx157_2⟩ := at_T62 HR0.out x13_1 p157 q157
                  cases e157
                  replace p157 := eq_true p157
                  replace q157 := eq_true q157
                  have p158 : 0 ≤ (x13_1 : Int) := of_decide_eq_true (by first | (with_reducible assumption) | assumption)
                  have q158 : x13_1 < (l1.length : Int) := of_decide_eq_true (by first | (with_reducible assumption) | assumption)
                  obtain ⟨ad158, e158, hx158_0, hx158_1, hx158_2⟩ := at_T62 HR1.out x13_1 p158 q158
                  cases e158
                  replace p158 := eq_true p158
                  replace q158 := eq_true q158
                  go_wp2
                  repeat (go_quiet (fail); try go_wp2)
                  go_ret
                  exact ⟨by first | rfl | (simp; done) | (simp [*]; done), by repeat (first | exact Drawn0.refl _ | apply Drawn0.step)⟩
                · rw [if_neg c8] at H
                  have c8b0 : (!((((rd_T62 l0 x13_1).f0).toList) == (((rd_T62 l1 x13_1).f0).toList)) || (!((((rd_T62 l0 x13_1).f1).toList) == (((rd_T62 l1 x13_1).f1).toList)) || (!(((rd_T62 l0 x13_1).f2) == ((rd_T62 l1 x13_1).f2))))) = false := by simpa using c8
                  clear c8
                  have H' := Aside0.mk H
                  clear H
                  have p157 : 0 ≤ (x13_1 : Int) := of_decide_eq_true (by first | (with_reducible assumption) | assumption)
                  have q157 : x13_1 < (l0.length : Int) := of_decide_eq_true (by first | (with_reducible assumption) | assumption)
                  obtain ⟨ad157, e157, hx157_0, hx157_1, hx157_2⟩ := at_T62 HR0.out x13_1 p157 q157
                  cases e157
                  replace p157 := eq_true p157
                  replace q157 := eq_true q157
                  have p158 : 0 ≤ (x13_1 : Int) := of_decide_eq_true (by first | (with_reducible assumption) | assumption)
                  have q158 : x13_1 < (l1.length : Int) := of_decide_eq_true (by first | (with_reducible assumption) | assumption)
                  obtain ⟨ad158, e158, hx158_0, hx158_1, hx158_2⟩ := at_T62 HR1.out x13_1 p158 q158
                  cases e158
                  replace p158 := eq_true p158
                  replace q158 := eq_true q158
                  go_wp2
                  repeat (go_quiet (fail); try go_wp2)
                  go_roundg k1
                  case measure => have := HK1.out; omega
                  case rel => exact ⟨(wrap64 (x13_1 + 1)), (by first | rfl | (simp; done) | (simp [*]; done)), H', ⟨by have := HK1.out; omega⟩, by repeat (first | exact Drawn0.refl _ | apply Drawn0.step)⟩
              · rw [if_neg c7] at H
                exact absurd H (by simp)
            · rw [if_neg c6] at H
              exact absurd H (by simp)
          · rw [if_neg c5] at H
            exact absurd H (by simp)
        · rw [if_neg c4] at H
          have c4b0 : decide (x13_1 < (l0.length : Int)) = false := decide_eq_false c4
          clear c4
          obtain rfl := Option.some.inj H
          go_wp2
          repeat (go_quiet (fail); try go_wp2)
          go_ret
          exact ⟨by first | rfl | (simp; done) | (simp [*]; done), by repeat (first | exact Drawn0.refl _ | apply Drawn0.step)⟩
  · rw [if_neg c3] at H
    have c3b0 : ((l0.length : Int) == (l1.length : Int)) = false := beq_eq_false_iff_ne.mpr c3
    have c3b1 : ((l0.length : Int) != (l1.length : Int)) = true := bne_iff_ne.mpr c3
    have c3b2 : (l0.length == l1.length) = false := by first | simpa using c3 | (simp at c3 ⊢; omega)
    obtain rfl := Option.some.inj H
    go_enter Try.func124, Try.ntmps124
    go_wp2
    repeat (go_quiet (fail); try go_wp2)
    go_ret
    exact ⟨by first | rfl | (simp; done) | (simp [*]; done), by repeat (first | exact Drawn0.refl _ | apply Drawn0.step)⟩

/-! ### state_Same: function 56 -/
def state_Same.f (k : Nat) (l0 : List (S62)) (l1 : List (S62)) : Option (Bool) := (api_Entry_124.f k l0 l1).bind fun t159 => (some t159)
theorem state_Same.mono : ∀ a0 a1 k, LeO (state_Same.f k a0 a1) (state_Same.f (k + 1) a0 a1) := by
  intro a0 a1 k
  unfold state_Same.f
  repeat' first
      | (with_reducible exact api_Entry_124.mono _ _ _)
      | (with_reducible exact LeO.refl _)
      | (with_reducible exact LeO.none _)
      | (with_reducible refine LeO.ite ?_ ?_)
      | (with_reducible refine LeO.bind ?_ (fun _ => ?_))
      | exact api_Entry_124.mono _ _ _
      | exact LeO.none _
      | refine LeO.ite ?_ ?_
      | refine LeO.bind ?_ (fun _ => ?_)
set_option maxHeartbeats 8000000 in
set_option maxRecDepth 100000 in
theorem state_Same.calls (k : Nat) (A0 : Option Addr) (c0 : Nat) (l0 : List (S62)) (A1 : Option Addr) (c1 : Nat) (l1 : List (S62)) (r : Bool) (w : World) (hr0 : Kd.C k62 w A0 l0.length l0) (hc0 : l0.length ≤ c0) (hr1 : Kd.C k62 w A1 l1.length l1) (hc1 : l1.length ≤ c1) (h : state_Same.f k l0 l1 = some r) :
    Calls Try.prog 56 #[.slice A0 l0.length c0, .slice A1 l1.length c1] w fun e w' => e = .returned (.bool r) ∧ Drawn0 w w' := by
  have HR0 := Aside0.mk hr0
  have HC0 := Aside0.mk hc0
  clear hr0 hc0
  have HR1 := Aside0.mk hr1
  have HC1 := Aside0.mk hc1
  clear hr1 hc1
  have H : ((api_Entry_124.f k l0 l1).bind fun t159 => (some t159)) = some r := h
  clear h
  replace H := Option.bind_eq_some_iff.mp H
  obtain ⟨t159, A30, H⟩ := H
  replace H : (some t159) = some r := H
  have A3 := Aside0.mk A30
  clear A30
  obtain rfl := Option.some.inj H
  go_enter Try.func56, Try.ntmps56
  go_wp2_with (first | ((with_reducible refine gate_callee (f := 124) rfl ?_); refine goesL_ (some 7) rfl rfl Try.func124 (by kernel_rfl) rfl #[.slice A0 l0.length c0, .slice A1 l1.length c1] rfl (by (try simp only [List.map_toArray, List.map_cons, List.map_nil]); first | done | rfl | (simp only [List.length_drop, List.length_take]; rfl)) ?_; (with_reducible refine (api_Entry_124.calls k _ _ l0 _ _ l1 t159 _ ?side1 ?side2 ?side3 ?side4 A3.out).mono ?_); (case side1 => repeat (first | exact HR0.out | (with_reducible refine Kd.C_alloc ?_ _) | (with_reducible refine Kd.C_drewN ?_ _) | (with_reducible refine Kd.C_drew ?_))); (case side2 => exact HC0.out); (case side3 => repeat (first | exact HR1.out | (with_reducible refine Kd.C_alloc ?_ _) | (with_reducible refine Kd.C_drewN ?_ _) | (with_reducible refine Kd.C_drew ?_))); (case side4 => exact HC1.out); rintro e w' ⟨rfl, ⟨nd, rfl⟩⟩; refine ⟨_, rfl, ?_⟩))
  go_ret
  exact ⟨by first | rfl | (simp; done) | (simp [*]; done), by repeat (first | exact Drawn0.refl _ | apply Drawn0.step)⟩

end Go.Proofs.Ytobdaiaaejlbkaa.S

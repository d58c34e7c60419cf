-- Written by heprint.py (this session's, over the kit's print.py): not trusted, Lean checks it.
import Derived.Test.YtobdaiaaejlbkaaSc0
import Derived.Test.YtobdaiaaejlbkaaSc1
import Derived.Test.YtobdaiaaejlbkaaSc3
import Derived.Test.YtobdaiaaejlbkaaSc4
import Derived.Test.YtobdaiaaejlbkaaSc5
namespace Go.Proofs.Ytobdaiaaejlbkaa.S
open Go.RowKit Go.Proofs.YtobdaiaaejlbkaaW.PrintWords Go.Proofs.YtobdaiaaejlbkaaW.PrintLast Go.Proofs.YtobdaiaaejlbkaaW.PrintMore
attribute [local go_sem] max2_int min2_int max_two min_two max_three min_three max_four min_four   -- for this text's walks alone
set_option linter.unusedVariables false
set_option linter.unusedSimpArgs false

attribute [local go_sem high] eqA62
/-! ### state_Get: function 55 -/
-- GIVEN heliast/state.Get making uses heliast/state.Get$1 uses slices.IndexFunc[[]heliast/api.Entry,heliast/api.Entry]
open Go.Proofs.He
def stGet (l0 : List S62) (a1 a2 : ByteArray) : Int := match l0.find? (fun y => cmpE ⟨a1, a2, 0⟩ y == 0) with | some y => y.f2 | none => -1
theorem stGet_hit {l0 : List S62} {a1 a2 : ByteArray} {i : Int} (h : idxOf (fun y => cmpE ⟨a1, a2, 0⟩ y == 0) l0 = i) (h0 : 0 ≤ i) : i < l0.length ∧ stGet l0 a1 a2 = (rd_T62 l0 i).f2 := by
  subst h
  unfold idxOf at *
  cases hf : l0.findIdx? (fun y => cmpE ⟨a1, a2, 0⟩ y == 0) with
  | none => rw [hf] at h0; simp at h0
  | some i =>
    obtain ⟨hi, h1, h2⟩ := List.findIdx?_eq_some_iff_getElem.1 hf
    have : l0.find? (fun y => cmpE ⟨a1, a2, 0⟩ y == 0) = some l0[i] := by
      rw [List.find?_eq_some_iff_getElem]
      exact ⟨h1, i, hi, rfl, fun j hj => by simpa using h2 j hj⟩
    simp [stGet, this, rd_T62, hi]
theorem stGet_miss {l0 : List S62} {a1 a2 : ByteArray} (h : idxOf (fun y => cmpE ⟨a1, a2, 0⟩ y == 0) l0 < 0) : stGet l0 a1 a2 = -1 := by
  unfold idxOf at *
  cases hf : l0.findIdx? (fun y => cmpE ⟨a1, a2, 0⟩ y == 0) with
  | some i => rw [hf] at h; simp at h; omega
  | none =>
    have : l0.find? (fun y => cmpE ⟨a1, a2, 0⟩ y == 0) = none := by
      rw [List.find?_eq_none]; rw [List.findIdx?_eq_none_iff] at hf
      intro x hx; simpa using hf x hx
    simp [stGet, this]
set_option maxHeartbeats 4000000 in
set_option maxRecDepth 100000 in
theorem state_Get.walk (A0 : Option Addr) (c0 : Nat) (l0 : List S62) (a1 a2 : ByteArray) (w : World) (hr0 : Kd.C k62 w A0 l0.length l0) (hc0 : l0.length ≤ c0) :
    Calls Try.prog 55 #[.slice A0 l0.length c0, .string a1, .string a2] w fun e w' => e = .returned (.int .i64 (stGet l0 a1 a2)) ∧ Below w.heap.size w w' := by
  have hu62 := Try.underlying62
  have HR0 := Aside0.mk hr0
  have hlen : l0.length ≤ 9223372036854775807 := hr0.2.1
  clear hr0
  have HC := Aside0.mk (fun W hb => slices_IndexFunc_Entry.calls 123 #[.pointer (some ⟨w.heap.size, 0, none⟩)] (enters_of Try.func123 (by kernel_rfl) rfl) (fun y => cmpE ⟨a1, a2, 0⟩ y == 0) A0 c0 l0 W hb)
  obtain ⟨i, hi⟩ : ∃ i, i = idxOf (fun y => cmpE ⟨a1, a2, 0⟩ y == 0) l0 := ⟨_, rfl⟩
  rw [← hi] at HC
  have HI := Aside0.mk hi
  clear hi
  go_enter Try.func55, Try.ntmps55
  go_wp2_with fail
  have HB1 := Aside0.mk ((Below.refl w.heap.size w).alloc (Nat.le_refl _) (Obj.cells #[Value.string a1, Value.string a2, Value.int IntKind.i64 0] 62))
  refine (HC.out _ (Kd.C_below HR0.out HB1.out) (fun y W hW => (state_Get_1.calls w.heap.size ⟨a1, a2, 0⟩ y W ?_).mono (fun e W' ⟨he, hb⟩ => ⟨he, below_then hW (by exact hW.size) hb⟩))).mono ?_
  · rw [hW.block _ (by simp)]; exact heap_alloc_new w _
  rintro e w1 ⟨rfl, hb1⟩
  replace HB1 := Aside0.mk (below_then HB1.out (by simp) hb1)
  clear hb1 HC
  by_cases h0 : 0 ≤ i
  · obtain ⟨hlt, hget⟩ := stGet_hit HI.out.symm h0
    obtain ⟨ad, e, hx0, hx1, hx2⟩ := at_T62 HR0.out i h0 hlt
    cases e
    replace hx2 := (HB1.out.cell (World.block_lt_of_cell? w _ hx2)).trans hx2
    clear hx0 hx1
    have HG := Aside0.mk hget
    clear hget
    have hn : ¬ i < 0 := by omega
    go_wp2
    go_ret
    exact ⟨by rw [HG.out]; rfl, HB1.out⟩
  · have hn : i < 0 := by omega
    have HG := Aside0.mk (stGet_miss (by rw [← HI.out]; exact hn))
    go_wp2
    go_ret
    exact ⟨by rw [HG.out]; rfl, HB1.out⟩
def state_Get.f (l0 : List S62) (a1 a2 : ByteArray) : Option Int := some (stGet l0 a1 a2)
theorem state_Get.calls (A0 : Option Addr) (c0 : Nat) (l0 : List S62) (a1 a2 : ByteArray) (r : Int) (w : World) (hr0 : Kd.C k62 w A0 l0.length l0) (hc0 : l0.length ≤ c0) (h : state_Get.f l0 a1 a2 = some r) :
    Calls Try.prog 55 #[.slice A0 l0.length c0, .string a1, .string a2] w fun e w' => e = .returned (.int .i64 r) ∧ Below w.heap.size w w' := by
  obtain rfl := Option.some.inj h
  exact state_Get.walk A0 c0 l0 a1 a2 w hr0 hc0

/-! ### heliastlaw13_known: function 51 -/
def heliastlaw13_known.f (k : Nat)  : Option (Bool) := (some (([(⟨(⟨#[109, 46, 114, 111, 111, 109, 46, 99, 114, 101, 97, 116, 101]⟩ : ByteArray), (⟨#[]⟩ : ByteArray), 0⟩ : S62)] : List (S62)) : List (S62))).bind fun y148 => ((state_Get.f y148 (⟨#[109, 46, 114, 111, 111, 109, 46, 99, 114, 101, 97, 116, 101]⟩ : ByteArray) (⟨#[]⟩ : ByteArray)).bind fun t151 => (if t151 = 0 then ((state_Get.f y148 (⟨#[120]⟩ : ByteArray) (⟨#[]⟩ : ByteArray)).bind fun t152 => (if t152 = (-1) then ((state_Right.f k y148).bind fun t153 => (if t153 = true then ((state_Put.f y148 (⟨#[97]⟩ : ByteArray) (⟨#[]⟩ : ByteArray) 3).bind fun t154 => (some ((t154.length : Int) == 2))) else (some false))) else (some false))) else (some false)))
theorem heliastlaw13_known.mono : ∀ k, LeO (heliastlaw13_known.f k ) (heliastlaw13_known.f (k + 1) ) := by
  intro  k
  unfold heliastlaw13_known.f
  repeat' first
      | (with_reducible exact state_Right.mono _ _)
      | (with_reducible exact LeO.refl _)
      | (with_reducible exact LeO.none _)
      | (with_reducible refine LeO.ite ?_ ?_)
      | (with_reducible refine LeO.bind ?_ (fun _ => ?_))
      | exact state_Right.mono _ _
      | exact LeO.none _
      | refine LeO.ite ?_ ?_
      | refine LeO.bind ?_ (fun _ => ?_)
set_option maxHeartbeats 8000000 in
set_option maxRecDepth 100000 in
theorem heliastlaw13_known.calls (k : Nat)  (r : Bool) (w : World) (h : heliastlaw13_known.f k  = some r) (hlaw : r = true) :
    Calls Try.prog 51 #[] w fun e w' => e = .returned (.bool r) ∧ Below w.heap.size w w' := by
  have hu62 := Try.underlying62
  have HLAW := Aside0.mk hlaw
  clear hlaw
  have HB := Aside0.mk (Below.refl w.heap.size w)
  have H : ((some (([(⟨(⟨#[109, 46, 114, 111, 111, 109, 46, 99, 114, 101, 97, 116, 101]⟩ : ByteArray), (⟨#[]⟩ : ByteArray), 0⟩ : S62)] : List (S62)) : List (S62))).bind fun y148 => ((state_Get.f y148 (⟨#[109, 46, 114, 111, 111, 109, 46, 99, 114, 101, 97, 116, 101]⟩ : ByteArray) (⟨#[]⟩ : ByteArray)).bind fun t151 => (if t151 = 0 then ((state_Get.f y148 (⟨#[120]⟩ : ByteArray) (⟨#[]⟩ : ByteArray)).bind fun t152 => (if t152 = (-1) then ((state_Right.f k y148).bind fun t153 => (if t153 = true then ((state_Put.f y148 (⟨#[97]⟩ : ByteArray) (⟨#[]⟩ : ByteArray) 3).bind fun t154 => (some ((t154.length : Int) == 2))) else (some false))) else (some false))) else (some false)))) = some r := h
  clear h
  obtain ⟨y148, hy148⟩ : ∃ y_ : List (S62), y_ = (([(⟨(⟨#[109, 46, 114, 111, 111, 109, 46, 99, 114, 101, 97, 116, 101]⟩ : ByteArray), (⟨#[]⟩ : ByteArray), 0⟩ : S62)] : List (S62))) := ⟨_, rfl⟩
  replace H : ((state_Get.f y148 (⟨#[109, 46, 114, 111, 111, 109, 46, 99, 114, 101, 97, 116, 101]⟩ : ByteArray) (⟨#[]⟩ : ByteArray)).bind fun t151 => (if t151 = 0 then ((state_Get.f y148 (⟨#[120]⟩ : ByteArray) (⟨#[]⟩ : ByteArray)).bind fun t152 => (if t152 = (-1) then ((state_Right.f k y148).bind fun t153 => (if t153 = true then ((state_Put.f y148 (⟨#[97]⟩ : ByteArray) (⟨#[]⟩ : ByteArray) 3).bind fun t154 => (some ((t154.length : Int) == 2))) else (some false))) else (some false))) else (some false))) = some r := by first | (rw [hy148]; with_reducible exact H) | (have H2_ := (Option.bind_some _ _).symm.trans H; rw [hy148]; with_reducible exact H2_) | (have H2_ := (Option.bind_some _ _).symm.trans H; with_reducible exact H2_) | with_reducible exact H | (rw [hy148]; exact H) | exact H
  have Ny148 := Aside0.mk hy148
  clear hy148
  replace H := Option.bind_eq_some_iff.mp H
  obtain ⟨t151, A10, H⟩ := H
  replace H : (if t151 = 0 then ((state_Get.f y148 (⟨#[120]⟩ : ByteArray) (⟨#[]⟩ : ByteArray)).bind fun t152 => (if t152 = (-1) then ((state_Right.f k y148).bind fun t153 => (if t153 = true then ((state_Put.f y148 (⟨#[97]⟩ : ByteArray) (⟨#[]⟩ : ByteArray) 3).bind fun t154 => (some ((t154.length : Int) == 2))) else (some false))) else (some false))) else (some false)) = some r := H
  have A1 := Aside0.mk A10
  clear A10
  by_cases c2 : t151 = 0
  · rw [if_pos c2] at H
    have c2b0 : (t151 == 0) = true := beq_iff_eq.mpr c2
    have c2b1 : (t151 != 0) = false := bne_eq_false_iff_eq.mpr c2
    clear c2
    replace H := Option.bind_eq_some_iff.mp H
    obtain ⟨t152, A30, H⟩ := H
    replace H : (if t152 = (-1) then ((state_Right.f k y148).bind fun t153 => (if t153 = true then ((state_Put.f y148 (⟨#[97]⟩ : ByteArray) (⟨#[]⟩ : ByteArray) 3).bind fun t154 => (some ((t154.length : Int) == 2))) else (some false))) else (some false)) = some r := H
    have A3 := Aside0.mk A30
    clear A30
    by_cases c4 : t152 = (-1)
    · rw [if_pos c4] at H
      have c4b0 : (t152 == (-1)) = true := beq_iff_eq.mpr c4
      have c4b1 : (t152 != (-1)) = false := bne_eq_false_iff_eq.mpr c4
      clear c4
      replace H := Option.bind_eq_some_iff.mp H
      obtain ⟨t153, A50, H⟩ := H
      replace H : (if t153 = true then ((state_Put.f y148 (⟨#[97]⟩ : ByteArray) (⟨#[]⟩ : ByteArray) 3).bind fun t154 => (some ((t154.length : Int) == 2))) else (some false)) = some r := H
      have A5 := Aside0.mk A50
      clear A50
      by_cases c6 : t153 = true
      · subst c6
        have H1 : ((state_Put.f y148 (⟨#[97]⟩ : ByteArray) (⟨#[]⟩ : ByteArray) 3).bind fun t154 => (some ((t154.length : Int) == 2))) = some r := by rw [if_pos rfl] at H; exact H
        clear H
        have H := H1
        clear H1
        replace H := Option.bind_eq_some_iff.mp H
        obtain ⟨t154, A70, H⟩ := H
        replace H : (some ((t154.length : Int) == 2)) = some r := H
        have A7 := Aside0.mk A70
        clear A70
        obtain rfl := Option.some.inj H
        go_enter Try.func51, Try.ntmps51
        go_wp2_with (first | ((with_reducible refine gate_dst (N := 3) rfl ?_); (try (refine gate_guard (by rfl) ?_; dsimp only)); refine Kd.R_lit k62 _ 62 ?hg (N := 3) ?hd (xs := ([(⟨(⟨#[109, 46, 114, 111, 111, 109, 46, 99, 114, 101, 97, 116, 101]⟩ : ByteArray), (⟨#[]⟩ : ByteArray), 0⟩ : S62)] : List (S62))) (inner := [.string (⟨#[109, 46, 114, 111, 111, 109, 46, 99, 114, 101, 97, 116, 101]⟩ : ByteArray), .string (⟨#[]⟩ : ByteArray), .int .i64 0]) (ok := fun _ => True) (okp := fun _ => True) ?hr ?hp (fun _ hk => hk) trivial (Below.refl _ _) (Nat.le_refl _) (by simp) ?_; (case hd => rfl); (case hg => rfl); (case hr => first | (go_simp; done) | (go_simp; rfl)); (case hp => exact (Reps.c3 (show Kd.M k62 _ _ _ (⟨(⟨#[109, 46, 114, 111, 111, 109, 46, 99, 114, 101, 97, 116, 101]⟩ : ByteArray), (⟨#[]⟩ : ByteArray), 0⟩ : S62) [.string (⟨#[109, 46, 114, 111, 111, 109, 46, 99, 114, 101, 97, 116, 101]⟩ : ByteArray), .string (⟨#[]⟩ : ByteArray), .int .i64 0] from (k62_mkM _ _ _ (⟨(⟨#[109, 46, 114, 111, 111, 109, 46, 99, 114, 101, 97, 116, 101]⟩ : ByteArray), (⟨#[]⟩ : ByteArray), 0⟩ : S62) )) (Reps.none _ _))); intro v149 w8 ho9 hb hg_ hnew_; clear hg_ hnew_; (first | rw [← Ny148.out] at ho9 | (simp only [Int.reduceToNat] at ho9; rw [← Ny148.out] at ho9)); have n0_ := Aside0.mk (Kd.R_lower ho9 (below_size (by repeat (first | (with_reducible first | exact HB.out | apply below_alloc | apply pw_below_drewN | apply below_drew1) | exact HB.out)))); have n1_ := Aside0.mk (below_step (by repeat (first | (with_reducible first | exact HB.out | apply below_alloc | apply pw_below_drewN | apply below_drew1) | exact HB.out)) hb); clear HB; have HO150 := n0_; have HB := n1_; clear n0_ n1_; clear hb ho9; obtain ⟨Ao10, co10, eo10⟩ := Kd.R_slice HO150.out; subst eo10) | ((with_reducible refine gate_callee (f := 55) rfl ?_); refine goesL_ (some 5) rfl rfl Try.func55 (by kernel_rfl) rfl #[.slice Ao10 y148.length co10, .string (⟨#[109, 46, 114, 111, 111, 109, 46, 99, 114, 101, 97, 116, 101]⟩ : ByteArray), .string (⟨#[]⟩ : ByteArray)] rfl (by (try simp only [List.map_toArray, List.map_cons, List.map_nil]); first | done | rfl | (simp only [List.length_drop, List.length_take]; rfl)) ?_; (with_reducible refine (state_Get.calls _ _ y148 (⟨#[109, 46, 114, 111, 111, 109, 46, 99, 114, 101, 97, 116, 101]⟩ : ByteArray) (⟨#[]⟩ : ByteArray) t151 _ ?side1 ?side2 A1.out).mono ?_); (case side1 => repeat (first | exact (Kd.R_reads' HO150.out).2.2 | (with_reducible refine Kd.C_alloc ?_ _) | (with_reducible refine Kd.C_drewN ?_ _) | (with_reducible refine Kd.C_drew ?_))); (case side2 => exact (Kd.R_reads' HO150.out).2.1); rintro e w11 ⟨rfl, hb⟩; refine ⟨_, rfl, ?_⟩; have n0_ := Aside0.mk (Kd.R_below (by (with_reducible repeat (first | apply Kd.R_alloc | apply Kd.R_drewN | apply Kd.R_drew)); exact HO150.out) hb); have n1_ := Aside0.mk (below_step (by repeat (first | (with_reducible first | exact HB.out | apply below_alloc | apply pw_below_drewN | apply below_drew1) | exact HB.out)) hb); clear HO150; clear HB; have HO150 := n0_; have HB := n1_; clear n0_ n1_; (try clear hb); (try clear hb2); (try clear hk); (try clear hi)) | (go_at_call 55; (with_reducible refine (state_Get.calls _ _ y148 (⟨#[120]⟩ : ByteArray) (⟨#[]⟩ : ByteArray) t152 _ ?side1 ?side2 A3.out).mono ?_); (case side1 => repeat (first | exact (Kd.R_reads' HO150.out).2.2 | (with_reducible refine Kd.C_alloc ?_ _) | (with_reducible refine Kd.C_drewN ?_ _) | (with_reducible refine Kd.C_drew ?_))); (case side2 => exact (Kd.R_reads' HO150.out).2.1); rintro e w12 ⟨rfl, hb⟩; have n0_ := Aside0.mk (Kd.R_below (by (with_reducible repeat (first | apply Kd.R_alloc | apply Kd.R_drewN | apply Kd.R_drew)); exact HO150.out) hb); have n1_ := Aside0.mk (below_step (by repeat (first | (with_reducible first | exact HB.out | apply below_alloc | apply pw_below_drewN | apply below_drew1) | exact HB.out)) hb); clear HO150; clear HB; have HO150 := n0_; have HB := n1_; clear n0_ n1_; (try clear hb); (try clear hb2); (try clear hk); (try clear hi)) | (go_at_call 52; (with_reducible refine (state_Right.calls k _ _ y148 true _ ?side1 ?side2 A5.out).mono ?_); (case side1 => repeat (first | exact (Kd.R_reads' HO150.out).2.2 | (with_reducible refine Kd.C_alloc ?_ _) | (with_reducible refine Kd.C_drewN ?_ _) | (with_reducible refine Kd.C_drew ?_))); (case side2 => exact (Kd.R_reads' HO150.out).2.1); rintro e w13 ⟨rfl, hb⟩; have n0_ := Aside0.mk (Kd.R_below (by (with_reducible repeat (first | apply Kd.R_alloc | apply Kd.R_drewN | apply Kd.R_drew)); exact HO150.out) hb); have n1_ := Aside0.mk (below_step (by repeat (first | (with_reducible first | exact HB.out | apply below_alloc | apply pw_below_drewN | apply below_drew1) | exact HB.out)) hb); clear HO150; clear HB; have HO150 := n0_; have HB := n1_; clear n0_ n1_; (try clear hb); (try clear hb2); (try clear hk); (try clear hi)) | (go_at_call 54; (with_reducible refine (state_Put.calls _ _ y148 (⟨#[97]⟩ : ByteArray) (⟨#[]⟩ : ByteArray) 3 t154 _ ?side1 ?side2 A7.out).mono ?_); (case side1 => repeat (first | exact (Kd.R_reads' HO150.out).2.2 | (with_reducible refine Kd.C_alloc ?_ _) | (with_reducible refine Kd.C_drewN ?_ _) | (with_reducible refine Kd.C_drew ?_))); (case side2 => exact (Kd.R_reads' HO150.out).2.1); rintro e w14 ⟨v155, rfl, ho0, hb⟩; have n0_ := Aside0.mk (Kd.R_elder' (by (with_reducible repeat (first | apply Kd.R_alloc | apply Kd.R_drewN | apply Kd.R_drew)); exact HO150.out) (Kd.R_base ho0) hb); have n1_ := Aside0.mk (Kd.R_lower (Kd.R_new' ho0 (Kd.R_lt (by (with_reducible repeat (first | apply Kd.R_alloc | apply Kd.R_drewN | apply Kd.R_drew)); exact HO150.out))) (below_size (by repeat (first | (with_reducible first | exact HB.out | apply below_alloc | apply pw_below_drewN | apply below_drew1) | exact HB.out)))); have n2_ := Aside0.mk (below_step (by repeat (first | (with_reducible first | exact HB.out | apply below_alloc | apply pw_below_drewN | apply below_drew1) | exact HB.out)) hb); clear HO150; clear HB; have HO150 := n0_; have HO156 := n1_; have HB := n2_; clear n0_ n1_ n2_; (try clear hb); (try clear hb2); (try clear hk); (try clear hi); (try clear ho0); obtain ⟨Ao15, co15, eo15⟩ := Kd.R_slice HO156.out; subst eo15))
        go_ret
        exact ⟨by first | rfl | (simp [errW_none, errW_some] <;> rfl) | (simp [*, errW_none, errW_some] <;> rfl), by repeat (first | (with_reducible first | exact HB.out | apply below_alloc | apply pw_below_drewN | apply below_drew1) | exact HB.out)⟩
      · replace c6 := Bool.eq_false_iff.mpr c6
        subst c6
        have H1 : (some false) = some r := by rw [if_neg (show ¬ (false = true) by decide)] at H; exact H
        clear H
        have H := H1
        clear H1
        exact absurd ((Option.some.inj H).trans HLAW.out) (by decide)
    · rw [if_neg c4] at H
      have c4b0 : (t152 == (-1)) = false := beq_eq_false_iff_ne.mpr c4
      have c4b1 : (t152 != (-1)) = true := bne_iff_ne.mpr c4
      exact absurd ((Option.some.inj H).trans HLAW.out) (by decide)
  · rw [if_neg c2] at H
    have c2b0 : (t151 == 0) = false := beq_eq_false_iff_ne.mpr c2
    have c2b1 : (t151 != 0) = true := bne_iff_ne.mpr c2
    exact absurd ((Option.some.inj H).trans HLAW.out) (by decide)

/-! ### api_Entry_124: function 124 -/
def api_Entry_124.l0 : Nat → List (S62) → List (S62) → Int → Int → Option (Bool)
  | 0, _, _, _, _ => none
  | k + 1, x0, x1, x12, x13 => if x13 < x12 then (if 0 ≤ x13 then (if x13 < (x0.length : Int) then (if x13 < (x1.length : Int) then (if (!((((rd_T62 x0 x13).f0).toList) == (((rd_T62 x1 x13).f0).toList)) || (!((((rd_T62 x0 x13).f1).toList) == (((rd_T62 x1 x13).f1).toList)) || (!(((rd_T62 x0 x13).f2) == ((rd_T62 x1 x13).f2))))) = true then (some false) else (api_Entry_124.l0 k x0 x1 x12 (wrap64 (x13 + 1)))) else (none)) else (none)) else (none)) else (some true)
def api_Entry_124.f (k : Nat) (l0 : List (S62)) (l1 : List (S62)) : Option (Bool) := if (l0.length : Int) = (l1.length : Int) then (api_Entry_124.l0 k l0 l1 (l0.length : Int) 0) else (some false)
theorem api_Entry_124.mono_l : ∀ k, (∀ y0 y1 y2 y3, LeO (api_Entry_124.l0 k y0 y1 y2 y3) (api_Entry_124.l0 (k + 1) y0 y1 y2 y3))
  | 0 => fun _ _ _ _ r h => by simp [api_Entry_124.l0] at h
  | k + 1 => by
    have ih0 := api_Entry_124.mono_l k
    · intro y0 y1 y2 y3
      unfold api_Entry_124.l0
      repeat' first
      | (with_reducible exact ih0 _ _ _ _)
      | (with_reducible exact LeO.refl _)
      | (with_reducible exact LeO.none _)
      | (with_reducible refine LeO.ite ?_ ?_)
      | (with_reducible refine LeO.bind ?_ (fun _ => ?_))
      | exact ih0 _ _ _ _
      | exact LeO.none _
      | refine LeO.ite ?_ ?_
      | refine LeO.bind ?_ (fun _ => ?_)
theorem api_Entry_124.mono : ∀ a0 a1 k, LeO (api_Entry_124.f k a0 a1) (api_Entry_124.f (k + 1) a0 a1) := by
  intro a0 a1 k
  have ih0 := api_Entry_124.mono_l k
  unfold api_Entry_124.f
  repeat' first
      | (with_reducible exact ih0 _ _ _ _)
      | (with_reducible exact LeO.refl _)
      | (with_reducible exact LeO.none _)
      | (with_reducible refine LeO.ite ?_ ?_)
      | (with_reducible refine LeO.bind ?_ (fun _ => ?_))
      | exact ih0 _ _ _ _
      | exact LeO.none _
      | refine LeO.ite ?_ ?_
      | refine LeO.bind ?_ (fun _ => ?_)
set_option maxHeartbeats 8000000 in
set_option maxRecDepth 100000 in
theorem api_Entry_124.calls (k : Nat) (A0 : Option Addr) (c0 : Nat) (l0 : List (S62)) (A1 : Option Addr) (c1 : Nat) (l1 : List (S62)) (r : Bool) (w : World) (hr0 : Kd.C k62 w A0 l0.length l0) (hc0 : l0.length ≤ c0) (hr1 : Kd.C k62 w A1 l1.length l1) (hc1 : l1.length ≤ c1) (h : api_Entry_124.f k l0 l1 = some r) :
    Calls Try.prog 124 #[.slice A0 l0.length c0, .slice A1 l1.length c1] w fun e w' => e = .returned (.bool r) ∧ Drawn0 w w' := by
  have hu62 := Try.underlying62
  have HR0 := Aside0.mk hr0
  have HC0 := Aside0.mk hc0
  clear hr0 hc0
  have HR1 := Aside0.mk hr1
  have HC1 := Aside0.mk hc1
  clear hr1 hc1
  have H : (if (l0.length : Int) = (l1.length : Int) then (api_Entry_124.l0 k l0 l1 (l0.length : Int) 0) else (some false)) = some r := h
  clear h
  by_cases c3 : (l0.length : Int) = (l1.length : Int)
  · rw [if_pos c3] at H
    have c3b0 : ((l0.length : Int) == (l1.length : Int)) = true := beq_iff_eq.mpr c3
    have c3b1 : ((l0.length : Int) != (l1.length : Int)) = false := bne_eq_false_iff_eq.mpr c3
    have c3b2 : (l0.length == l1.length) = true := by first | simpa using c3 | (simp at c3 ⊢; omega)
    clear c3
    have H' := Aside0.mk H
    clear H
    go_enter Try.func124, Try.ntmps124
    go_wp2
    repeat (go_quiet (fail); try go_wp2)
    go_loopg [13] k (fun kq v13 w' => ∃ (x13_1 : Int), v13 = .int .i64 x13_1 ∧ Aside0 (api_Entry_124.l0 kq l0 l1 (l0.length : Int) x13_1 = some r) ∧ Aside0 (kq ≤ k) ∧ Drawn0 w w')
    case atStart => exact ⟨(0), (by first | rfl | (simp; done) | (simp [*]; done)), H', ⟨Nat.le_refl _⟩, by repeat (first | exact Drawn0.refl _ | apply Drawn0.step)⟩
    case round =>
      clear H'
      try clear c1
      try clear p2
      try clear c3
      try clear c3b0
      try clear c3b1
      try clear c3b2
      obtain ⟨x13_1, rfl, HA, HK1, ⟨m1, rfl⟩⟩ := hrel
      cases gk with
      | zero => exact absurd HA.out (by simp [api_Entry_124.l0])
      | succ k1 =>
        have H := HA.out
        clear HA
        simp only [api_Entry_124.l0] at H
        by_cases c4 : x13_1 < (l0.length : Int)
        · rw [if_pos c4] at H
          have c4b0 : decide (x13_1 < (l0.length : Int)) = true := decide_eq_true c4
          clear c4
          by_cases c5 : 0 ≤ x13_1
          · rw [if_pos c5] at H
            have c5b0 : decide (0 ≤ x13_1) = true := decide_eq_true c5
            clear c5
            by_cases c6 : x13_1 < (l0.length : Int)
            · rw [if_pos c6] at H
              have c6b0 : decide (x13_1 < (l0.length : Int)) = true := decide_eq_true c6
              clear c6
              by_cases c7 : x13_1 < (l1.length : Int)
              · rw [if_pos c7] at H
                have c7b0 : decide (x13_1 < (l1.length : Int)) = true := decide_eq_true c7
                clear c7
                by_cases c8 : (!((((rd_T62 l0 x13_1).f0).toList) == (((rd_T62 l1 x13_1).f0).toList)) || (!((((rd_T62 l0 x13_1).f1).toList) == (((rd_T62 l1 x13_1).f1).toList)) || (!(((rd_T62 l0 x13_1).f2) == ((rd_T62 l1 x13_1).f2))))) = true
                · rw [if_pos c8] at H
                  have c8b0 : (!((((rd_T62 l0 x13_1).f0).toList) == (((rd_T62 l1 x13_1).f0).toList)) || (!((((rd_T62 l0 x13_1).f1).toList) == (((rd_T62 l1 x13_1).f1).toList)) || (!(((rd_T62 l0 x13_1).f2) == ((rd_T62 l1 x13_1).f2))))) = true := c8
                  clear c8
                  obtain rfl := Option.some.inj H
                  have p157 : 0 ≤ (x13_1 : Int) := of_decide_eq_true (by first | (with_reducible assumption) | assumption)
                  have q157 : x13_1 < (l0.length : Int) := of_decide_eq_true (by first | (with_reducible assumption) | assumption)
                  obtain ⟨ad157, e157, hx157_0, hx157_1, hx157_2⟩ := at_T62 HR0.out x13_1 p157 q157
                  cases e157
                  replace p157 := eq_true p157
                  replace q157 := eq_true q157
                  have p158 : 0 ≤ (x13_1 : Int) := of_decide_eq_true (by first | (with_reducible assumption) | assumption)
                  have q158 : x13_1 < (l1.length : Int) := of_decide_eq_true (by first | (with_reducible assumption) | assumption)
                  obtain ⟨ad158, e158, hx158_0, hx158_1, hx158_2⟩ := at_T62 HR1.out x13_1 p158 q158
                  cases e158
                  replace p158 := eq_true p158
                  replace q158 := eq_true q158
                  go_wp2
                  repeat (go_quiet (fail); try go_wp2)
                  go_ret
                  exact ⟨by first | rfl | (simp; done) | (simp [*]; done), by repeat (first | exact Drawn0.refl _ | apply Drawn0.step)⟩
                · rw [if_neg c8] at H
                  have c8b0 : (!((((rd_T62 l0 x13_1).f0).toList) == (((rd_T62 l1 x13_1).f0).toList)) || (!((((rd_T62 l0 x13_1).f1).toList) == (((rd_T62 l1 x13_1).f1).toList)) || (!(((rd_T62 l0 x13_1).f2) == ((rd_T62 l1 x13_1).f2))))) = false := by simpa using c8
                  clear c8
                  have H' := Aside0.mk H
                  clear H
                  have p157 : 0 ≤ (x13_1 : Int) := of_decide_eq_true (by first | (with_reducible assumption) | assumption)
                  have q157 : x13_1 < (l0.length : Int) := of_decide_eq_true (by first | (with_reducible assumption) | assumption)
                  obtain ⟨ad157, e157, hx157_0, hx157_1, hx157_2⟩ := at_T62 HR0.out x13_1 p157 q157
                  cases e157
                  replace p157 := eq_true p157
                  replace q157 := eq_true q157
                  have p158 : 0 ≤ (x13_1 : Int) := of_decide_eq_true (by first | (with_reducible assumption) | assumption)
                  have q158 : x13_1 < (l1.length : Int) := of_decide_eq_true (by first | (with_reducible assumption) | assumption)
                  obtain ⟨ad158, e158, hx158_0, hx158_1, hx158_2⟩ := at_T62 HR1.out x13_1 p158 q158
                  cases e158
                  replace p158 := eq_true p158
                  replace q158 := eq_true q158
                  go_wp2
                  repeat (go_quiet (fail); try go_wp2)
                  go_roundg k1
                  case measure => have := HK1.out; omega
                  case rel => exact ⟨(wrap64 (x13_1 + 1)), (by first | rfl | (simp; done) | (simp [*]; done)), H', ⟨by have := HK1.out; omega⟩, by repeat (first | exact Drawn0.refl _ | apply Drawn0.step)⟩
              · rw [if_neg c7] at H
                exact absurd H (by simp)
            · rw [if_neg c6] at H
              exact absurd H (by simp)
          · rw [if_neg c5] at H
            exact absurd H (by simp)
        · rw [if_neg c4] at H
          have c4b0 : decide (x13_1 < (l0.length : Int)) = false := decide_eq_false c4
          clear c4
          obtain rfl := Option.some.inj H
          go_wp2
          repeat (go_quiet (fail); try go_wp2)
          go_ret
          exact ⟨by first | rfl | (simp; done) | (simp [*]; done), by repeat (first | exact Drawn0.refl _ | apply Drawn0.step)⟩
  · rw [if_neg c3] at H
    have c3b0 : ((l0.length : Int) == (l1.length : Int)) = false := beq_eq_false_iff_ne.mpr c3
    have c3b1 : ((l0.length : Int) != (l1.length : Int)) = true := bne_iff_ne.mpr c3
    have c3b2 : (l0.length == l1.length) = false := by first | simpa using c3 | (simp at c3 ⊢; omega)
    obtain rfl := Option.some.inj H
    go_enter Try.func124, Try.ntmps124
    go_wp2
    repeat (go_quiet (fail); try go_wp2)
    go_ret
    exact ⟨by first | rfl | (simp; done) | (simp [*]; done), by repeat (first | exact Drawn0.refl _ | apply Drawn0.step)⟩

/-! ### state_Same: function 56 -/
def state_Same.f (k : Nat) (l0 : List (S62)) (l1 : List (S62)) : Option (Bool) := (api_Entry_124.f k l0 l1).bind fun t159 => (some t159)
theorem state_Same.mono : ∀ a0 a1 k, LeO (state_Same.f k a0 a1) (state_Same.f (k + 1) a0 a1) := by
  intro a0 a1 k
  unfold state_Same.f
  repeat' first
      | (with_reducible exact api_Entry_124.mono _ _ _)
      | (with_reducible exact LeO.refl _)
      | (with_reducible exact LeO.none _)
      | (with_reducible refine LeO.ite ?_ ?_)
      | (with_reducible refine LeO.bind ?_ (fun _ => ?_))
      | exact api_Entry_124.mono _ _ _
      | exact LeO.none _
      | refine LeO.ite ?_ ?_
      | refine LeO.bind ?_ (fun _ => ?_)
set_option maxHeartbeats 8000000 in
set_option maxRecDepth 100000 in
theorem state_Same.calls (k : Nat) (A0 : Option Addr) (c0 : Nat) (l0 : List (S62)) (A1 : Option Addr) (c1 : Nat) (l1 : List (S62)) (r : Bool) (w : World) (hr0 : Kd.C k62 w A0 l0.length l0) (hc0 : l0.length ≤ c0) (hr1 : Kd.C k62 w A1 l1.length l1) (hc1 : l1.length ≤ c1) (h : state_Same.f k l0 l1 = some r) :
    Calls Try.prog 56 #[.slice A0 l0.length c0, .slice A1 l1.length c1] w fun e w' => e = .returned (.bool r) ∧ Drawn0 w w' := by
  have HR0 := Aside0.mk hr0
  have HC0 := Aside0.mk hc0
  clear hr0 hc0
  have HR1 := Aside0.mk hr1
  have HC1 := Aside0.mk hc1
  clear hr1 hc1
  have H : ((api_Entry_124.f k l0 l1).bind fun t159 => (some t159)) = some r := h
  clear h
  replace H := Option.bind_eq_some_iff.mp H
  obtain ⟨t159, A30, H⟩ := H
  replace H : (some t159) = some r := H
  have A3 := Aside0.mk A30
  clear A30
  obtain rfl := Option.some.inj H
  go_enter Try.func56, Try.ntmps56
  go_wp2_with (first | ((with_reducible refine gate_callee (f := 124) rfl ?_); refine goesL_ (some 7) rfl rfl Try.func124 (by kernel_rfl) rfl #[.slice A0 l0.length c0, .slice A1 l1.length c1] rfl (by (try simp only [List.map_toArray, List.map_cons, List.map_nil]); first | done | rfl | (simp only [List.length_drop, List.length_take]; rfl)) ?_; (with_reducible refine (api_Entry_124.calls k _ _ l0 _ _ l1 t159 _ ?side1 ?side2 ?side3 ?side4 A3.out).mono ?_); (case side1 => repeat (first | exact HR0.out | (with_reducible refine Kd.C_alloc ?_ _) | (with_reducible refine Kd.C_drewN ?_ _) | (with_reducible refine Kd.C_drew ?_))); (case side2 => exact HC0.out); (case side3 => repeat (first | exact HR1.out | (with_reducible refine Kd.C_alloc ?_ _) | (with_reducible refine Kd.C_drewN ?_ _) | (with_reducible refine Kd.C_drew ?_))); (case side4 => exact HC1.out); rintro e w' ⟨rfl, ⟨nd, rfl⟩⟩; refine ⟨_, rfl, ?_⟩))
  go_ret
  exact ⟨by first | rfl | (simp; done) | (simp [*]; done), by repeat (first | exact Drawn0.refl _ | apply Drawn0.step)⟩

/-! ### state_Over: function 57 -/
def state_Over.l0 : Nat → List (S62) → List (S62) → Int → Int → Option ((List (S62)))
  | 0, _, _, _, _ => none
  | k + 1, x5, x10, x11, x12 => if x12 < x11 then (if 0 ≤ x12 then (if x12 < (x10.length : Int) then ((state_Put.f x5 ((rd_T62 x10 x12).f0) ((rd_T62 x10 x12).f1) ((rd_T62 x10 x12).f2)).bind fun t165 => (state_Over.l0 k t165 x10 x11 (wrap64 (x12 + 1)))) else (none)) else (none)) else (some x5)
def state_Over.f (k : Nat) (l0 : List (S62)) (l1 : List (S62)) : Option ((List (S62))) := (slices_Clone_Entry.f l0).bind fun t160 => (state_Over.l0 k t160 l1 (l1.length : Int) 0)
theorem state_Over.mono_l : ∀ k, (∀ y0 y1 y2 y3, LeO (state_Over.l0 k y0 y1 y2 y3) (state_Over.l0 (k + 1) y0 y1 y2 y3))
  | 0 => fun _ _ _ _ r h => by simp [state_Over.l0] at h
  | k + 1 => by
    have ih0 := state_Over.mono_l k
    · intro y0 y1 y2 y3
      unfold state_Over.l0
      repeat' first
      | (with_reducible exact ih0 _ _ _ _)
      | (with_reducible exact LeO.refl _)
      | (with_reducible exact LeO.none _)
      | (with_reducible refine LeO.ite ?_ ?_)
      | (with_reducible refine LeO.bind ?_ (fun _ => ?_))
      | exact ih0 _ _ _ _
      | exact LeO.none _
      | refine LeO.ite ?_ ?_
      | refine LeO.bind ?_ (fun _ => ?_)
theorem state_Over.mono : ∀ a0 a1 k, LeO (state_Over.f k a0 a1) (state_Over.f (k + 1) a0 a1) := by
  intro a0 a1 k
  have ih0 := state_Over.mono_l k
  unfold state_Over.f
  repeat' first
      | (with_reducible exact ih0 _ _ _ _)
      | (with_reducible exact LeO.refl _)
      | (with_reducible exact LeO.none _)
      | (with_reducible refine LeO.ite ?_ ?_)
      | (with_reducible refine LeO.bind ?_ (fun _ => ?_))
      | exact ih0 _ _ _ _
      | exact LeO.none _
      | refine LeO.ite ?_ ?_
      | refine LeO.bind ?_ (fun _ => ?_)
set_option maxHeartbeats 8000000 in
set_option maxRecDepth 100000 in
theorem state_Over.calls (k : Nat) (A0 : Option Addr) (c0 : Nat) (l0 : List (S62)) (A1 : Option Addr) (c1 : Nat) (l1 : List (S62)) (r : List (S62)) (w : World) (hr0 : Kd.C k62 w A0 l0.length l0) (hc0 : l0.length ≤ c0) (hr1 : Kd.C k62 w A1 l1.length l1) (hc1 : l1.length ≤ c1) (h : state_Over.f k l0 l1 = some r) :
    Calls Try.prog 57 #[.slice A0 l0.length c0, .slice A1 l1.length c1] w fun e w' => ∃ v0_ : Value, e = .returned (v0_) ∧ Kd.R k62 62 w' w.heap.size (fun _ => True) v0_ r ∧ Below w.heap.size w w' := by
  have hu62 := Try.underlying62
  have HR0 := Aside0.mk hr0
  have HC0 := Aside0.mk hc0
  clear hr0 hc0
  have HR1 := Aside0.mk hr1
  have HC1 := Aside0.mk hc1
  clear hr1 hc1
  have HB := Aside0.mk (Below.refl w.heap.size w)
  have H : ((slices_Clone_Entry.f l0).bind fun t160 => (state_Over.l0 k t160 l1 (l1.length : Int) 0)) = some r := h
  clear h
  replace H := Option.bind_eq_some_iff.mp H
  obtain ⟨t160, A30, H⟩ := H
  replace H : (state_Over.l0 k t160 l1 (l1.length : Int) 0) = some r := H
  have A3 := Aside0.mk A30
  clear A30
  have H' := Aside0.mk H
  clear H
  go_enter Try.func57, Try.ntmps57
  go_wp2_with (first | ((with_reducible refine gate_callee (f := 119) rfl ?_); refine goesL_ (some 9) rfl rfl Try.func119 (by kernel_rfl) rfl #[.slice A0 l0.length c0] rfl (by (try simp only [List.map_toArray, List.map_cons, List.map_nil]); first | done | rfl | (simp only [List.length_drop, List.length_take]; rfl)) ?_; (with_reducible refine (slices_Clone_Entry.calls _ _ l0 t160 _ ?side1 ?side2 A3.out).mono ?_); (case side1 => repeat (first | exact HR0.out | (with_reducible refine Kd.C_alloc ?_ _) | (with_reducible refine Kd.C_drewN ?_ _) | (with_reducible refine Kd.C_drew ?_))); (case side2 => exact HC0.out); rintro e w4 ⟨v161, rfl, ho0, hb⟩; refine ⟨_, rfl, ?_⟩; have n0_ := Aside0.mk (Kd.R_lower ho0 (below_size (by repeat (first | (with_reducible first | exact HB.out | apply below_alloc | apply pw_below_drewN | apply below_drew1) | exact HB.out)))); have n1_ := Aside0.mk (below_step (by repeat (first | (with_reducible first | exact HB.out | apply below_alloc | apply pw_below_drewN | apply below_drew1) | exact HB.out)) hb); clear HB; have HO162 := n0_; have HB := n1_; clear n0_ n1_; (try clear hb); (try clear hb2); (try clear hk); (try clear hi); (try clear ho0)))
  go_loopg [5, 12] k (fun kq v5 v12 w' => ∃ (x5_1 : List (S62)) (x12_1 : Int), v12 = .int .i64 x12_1 ∧ Aside0 (state_Over.l0 kq x5_1 l1 (l1.length : Int) x12_1 = some r) ∧ Aside0 (kq ≤ k) ∧ Aside0 (Kd.R k62 62 w' w.heap.size (fun _ => True) v5 x5_1) ∧ Aside0 (Below w.heap.size w w'))
  case atStart => exact ⟨(t160), (0), (by first | rfl | (simp; done) | (simp [*]; done)), H', ⟨Nat.le_refl _⟩, ⟨by (with_reducible repeat (first | apply Kd.R_alloc | apply Kd.R_drewN | apply Kd.R_drew)); exact HO162.out⟩, ⟨by repeat (first | (with_reducible first | exact HB.out | apply below_alloc | apply pw_below_drewN | apply below_drew1) | exact HB.out)⟩⟩
  case round =>
    clear H'
    try clear c1
    try clear p2
    obtain ⟨x5_1, x12_1, rfl, HA, HK1, HO_5, HB⟩ := hrel
    cases gk with
    | zero => exact absurd HA.out (by simp [state_Over.l0])
    | succ k1 =>
      have H := HA.out
      clear HA
      simp only [state_Over.l0] at H
      by_cases c5 : x12_1 < (l1.length : Int)
      · rw [if_pos c5] at H
        have c5b0 : decide (x12_1 < (l1.length : Int)) = true := decide_eq_true c5
        clear c5
        by_cases c6 : 0 ≤ x12_1
        · rw [if_pos c6] at H
          have c6b0 : decide (0 ≤ x12_1) = true := decide_eq_true c6
          clear c6
          by_cases c7 : x12_1 < (l1.length : Int)
          · rw [if_pos c7] at H
            have c7b0 : decide (x12_1 < (l1.length : Int)) = true := decide_eq_true c7
            clear c7
            replace H := Option.bind_eq_some_iff.mp H
            obtain ⟨t165, A80, H⟩ := H
            replace H : (state_Over.l0 k1 t165 l1 (l1.length : Int) (wrap64 (x12_1 + 1))) = some r := H
            have A8 := Aside0.mk A80
            clear A80
            have H' := Aside0.mk H
            clear H
            have p163 : 0 ≤ (x12_1 : Int) := of_decide_eq_true (by first | (with_reducible assumption) | assumption)
            have q163 : x12_1 < (l1.length : Int) := of_decide_eq_true (by first | (with_reducible assumption) | assumption)
            obtain ⟨ad163, e163, hx163_0, hx163_1, hx163_2⟩ := at_T62 HR1.out x12_1 p163 q163
            cases e163
            replace hx163_0 := (HB.out.cell (World.block_lt_of_cell? w _ hx163_0)).trans hx163_0
            replace hx163_1 := (HB.out.cell (World.block_lt_of_cell? w _ hx163_1)).trans hx163_1
            replace hx163_2 := (HB.out.cell (World.block_lt_of_cell? w _ hx163_2)).trans hx163_2
            replace p163 := eq_true p163
            replace q163 := eq_true q163
            go_wp2_with (first | ((with_reducible refine gate_dst (N := 7) rfl ?_); refine box_event ?hg (N := 7) ?hd (cs := #[.string (⟨#[]⟩ : ByteArray), .string (⟨#[]⟩ : ByteArray), .int .i64 0]) (t := 62) ?hr ?_; (case hd => rfl); (case hg => rfl); (case hr => first | (go_simp; done) | (go_simp; rfl)); intro gb164 hg w9 hbox hb; have n0_ := Aside0.mk (Kd.R_below (Kd.R_elderB (by (with_reducible repeat (first | apply Kd.R_alloc | apply Kd.R_drewN | apply Kd.R_drew)); exact HO_5.out) gb164 (Nat.le_of_eq hg.symm)) hb); have n1_ := Aside0.mk (below_step (by repeat (first | (with_reducible first | exact HB.out | apply below_alloc | apply pw_below_drewN | apply below_drew1) | exact HB.out)) hb); have n2_ := Aside0.mk (hbox); have n3_ := Aside0.mk ((by rw [hg]; exact (below_size (by repeat (first | (with_reducible first | exact HB.out | apply below_alloc | apply pw_below_drewN | apply below_drew1) | exact HB.out))) : w.heap.size ≤ gb164)); have n4_ := Aside0.mk ((by rw [hg]; exact (below_size (by repeat (first | (with_reducible first | exact HB.out | apply below_alloc | apply pw_below_drewN | apply below_drew1) | exact HB.out))) : w.heap.size ≤ gb164)); clear HO_5; clear HB; have HO_5 := n0_; have HB := n1_; have BK164 := n2_; have GW164 := n3_; have GE164 := n4_; clear n0_ n1_ n2_ n3_ n4_; clear hb hbox hg; have hcz10_0 : w9.cell? ⟨gb164, 0, none⟩ = some (.string (⟨#[]⟩ : ByteArray)) := (blk_cell BK164.out 0).trans rfl; have hcz10_1 : w9.cell? ⟨gb164, 1, none⟩ = some (.string (⟨#[]⟩ : ByteArray)) := (blk_cell BK164.out 1).trans rfl; have hcz10_2 : w9.cell? ⟨gb164, 2, none⟩ = some (.int .i64 0) := (blk_cell BK164.out 2).trans rfl; have hfz10_0 := blk_frozen BK164.out 0; have hfz10_1 := blk_frozen BK164.out 1; have hfz10_2 := blk_frozen BK164.out 2; obtain ⟨Ao11, co11, eo11⟩ := Kd.R_slice HO_5.out; subst eo11) | ((with_reducible refine gate_callee (f := 54) rfl ?_); refine goesL_ (some 18) rfl rfl Try.func54 (by kernel_rfl) rfl #[.slice Ao11 x5_1.length co11, .agg #[.string ((rd_T62 l1 x12_1).f0), .string ((rd_T62 l1 x12_1).f1), .int .i64 ((rd_T62 l1 x12_1).f2)]] rfl (by (try simp only [List.map_toArray, List.map_cons, List.map_nil]); first | done | rfl | (simp only [List.length_drop, List.length_take]; rfl)) ?_; (with_reducible refine (state_Put.calls _ _ x5_1 ((rd_T62 l1 x12_1).f0) ((rd_T62 l1 x12_1).f1) ((rd_T62 l1 x12_1).f2) t165 _ ?side1 ?side2 A8.out).mono ?_); (case side1 => refine (Kd.R_reads' (e := 62) (base := w.heap.size) (ok := fun k_ => (True ∧ k_ ≠ gb164)) (n := x5_1.length) (c := co11) ?_).2.2; exact (by (with_reducible repeat (first | apply Kd.R_alloc | apply Kd.R_drewN | apply Kd.R_drew)); exact (Kd.R_mono (Kd.R_far (p := ⟨gb164, 2, none⟩) (Kd.R_far (p := ⟨gb164, 1, none⟩) (Kd.R_far (p := ⟨gb164, 0, none⟩) (Kd.R_mono HO_5.out (fun k_ hk => (⟨hk, hk.2⟩ : _ ∧ k_ ≠ gb164))) (fun _ hk => hk.2) (.string ((rd_T62 l1 x12_1).f0))) (fun _ hk => hk.2) (.string ((rd_T62 l1 x12_1).f1))) (fun _ hk => hk.2) (.int .i64 ((rd_T62 l1 x12_1).f2))) (fun _ h_ => h_.1)))); (case side2 => exact (Kd.R_reads' HO_5.out).2.1); rintro e w12 ⟨v166, rfl, ho0, hb⟩; refine ⟨_, rfl, ?_⟩; have n0_ := Aside0.mk (Kd.R_elder' (by (with_reducible repeat (first | apply Kd.R_alloc | apply Kd.R_drewN | apply Kd.R_drew)); exact (Kd.R_mono (Kd.R_far (p := ⟨gb164, 2, none⟩) (Kd.R_far (p := ⟨gb164, 1, none⟩) (Kd.R_far (p := ⟨gb164, 0, none⟩) (Kd.R_mono HO_5.out (fun k_ hk => (⟨hk, hk.2⟩ : _ ∧ k_ ≠ gb164))) (fun _ hk => hk.2) (.string ((rd_T62 l1 x12_1).f0))) (fun _ hk => hk.2) (.string ((rd_T62 l1 x12_1).f1))) (fun _ hk => hk.2) (.int .i64 ((rd_T62 l1 x12_1).f2))) (fun _ h_ => h_.1))) (Kd.R_base ho0) hb); have n1_ := Aside0.mk (Kd.R_lower (Kd.R_newB (Kd.R_new' ho0 (Kd.R_lt (by (with_reducible repeat (first | apply Kd.R_alloc | apply Kd.R_drewN | apply Kd.R_drew)); exact (Kd.R_mono (Kd.R_far (p := ⟨gb164, 2, none⟩) (Kd.R_far (p := ⟨gb164, 1, none⟩) (Kd.R_far (p := ⟨gb164, 0, none⟩) (Kd.R_mono HO_5.out (fun k_ hk => (⟨hk, hk.2⟩ : _ ∧ k_ ≠ gb164))) (fun _ hk => hk.2) (.string ((rd_T62 l1 x12_1).f0))) (fun _ hk => hk.2) (.string ((rd_T62 l1 x12_1).f1))) (fun _ hk => hk.2) (.int .i64 ((rd_T62 l1 x12_1).f2))) (fun _ h_ => h_.1))))) (g := gb164) (o := .cells #[.string ((rd_T62 l1 x12_1).f0), .string ((rd_T62 l1 x12_1).f1), .int .i64 ((rd_T62 l1 x12_1).f2)] 62 (0, 0)) (by (with_reducible repeat (first | refine blk_drewN ?_ _ | refine blk_drew ?_ | refine blk_alloc ?_ _)); refine blk_put (cs := #[.string ((rd_T62 l1 x12_1).f0), .string ((rd_T62 l1 x12_1).f1), .int .i64 0]) ?_ 2 _ rfl; (with_reducible repeat (first | refine blk_drewN ?_ _ | refine blk_drew ?_ | refine blk_alloc ?_ _)); refine blk_put (cs := #[.string ((rd_T62 l1 x12_1).f0), .string (⟨#[]⟩ : ByteArray), .int .i64 0]) ?_ 1 _ rfl; (with_reducible repeat (first | refine blk_drewN ?_ _ | refine blk_drew ?_ | refine blk_alloc ?_ _)); refine blk_put (cs := #[.string (⟨#[]⟩ : ByteArray), .string (⟨#[]⟩ : ByteArray), .int .i64 0]) ?_ 0 _ rfl; (with_reducible repeat (first | refine blk_drewN ?_ _ | refine blk_drew ?_ | refine blk_alloc ?_ _)); exact BK164.out)) (below_size (by repeat (first | (with_reducible first | exact HB.out | apply below_alloc | apply pw_below_drewN | apply below_drew1 | refine below_set ?_ GE164.out) | exact HB.out)))); have n2_ := Aside0.mk (blk_below (g := gb164) (o := .cells #[.string ((rd_T62 l1 x12_1).f0), .string ((rd_T62 l1 x12_1).f1), .int .i64 ((rd_T62 l1 x12_1).f2)] 62 (0, 0)) (by (with_reducible repeat (first | refine blk_drewN ?_ _ | refine blk_drew ?_ | refine blk_alloc ?_ _)); refine blk_put (cs := #[.string ((rd_T62 l1 x12_1).f0), .string ((rd_T62 l1 x12_1).f1), .int .i64 0]) ?_ 2 _ rfl; (with_reducible repeat (first | refine blk_drewN ?_ _ | refine blk_drew ?_ | refine blk_alloc ?_ _)); refine blk_put (cs := #[.string ((rd_T62 l1 x12_1).f0), .string (⟨#[]⟩ : ByteArray), .int .i64 0]) ?_ 1 _ rfl; (with_reducible repeat (first | refine blk_drewN ?_ _ | refine blk_drew ?_ | refine blk_alloc ?_ _)); refine blk_put (cs := #[.string (⟨#[]⟩ : ByteArray), .string (⟨#[]⟩ : ByteArray), .int .i64 0]) ?_ 0 _ rfl; (with_reducible repeat (first | refine blk_drewN ?_ _ | refine blk_drew ?_ | refine blk_alloc ?_ _)); exact BK164.out) hb); have n3_ := Aside0.mk (below_step (by repeat (first | (with_reducible first | exact HB.out | apply below_alloc | apply pw_below_drewN | apply below_drew1 | refine below_set ?_ GE164.out) | exact HB.out)) hb); clear HO_5; clear BK164; clear HB; have HO_5 := n0_; have HO167 := n1_; have BK164 := n2_; have HB := n3_; clear n0_ n1_ n2_ n3_; (try clear hb); (try clear hb2); (try clear hk); (try clear hi); (try clear ho0)))
            go_roundg k1
            case measure => have := HK1.out; omega
            case rel => exact ⟨(t165), (wrap64 (x12_1 + 1)), (by first | rfl | (simp; done) | (simp [*]; done)), H', ⟨by have := HK1.out; omega⟩, ⟨by (with_reducible repeat (first | apply Kd.R_alloc | apply Kd.R_drewN | apply Kd.R_drew)); exact Kd.R_mono HO167.out (fun _ hk => trivial)⟩, ⟨by repeat (first | (with_reducible first | exact HB.out | apply below_alloc | apply pw_below_drewN | apply below_drew1 | refine below_set ?_ GE164.out) | exact HB.out)⟩⟩
          · rw [if_neg c7] at H
            exact absurd H (by simp)
        · rw [if_neg c6] at H
          exact absurd H (by simp)
      · rw [if_neg c5] at H
        have c5b0 : decide (x12_1 < (l1.length : Int)) = false := decide_eq_false c5
        clear c5
        obtain rfl := Option.some.inj H
        go_wp2
        go_ret
        exact ⟨_, by first | rfl | (simp [errW_none, errW_some] <;> rfl) | (simp [*, errW_none, errW_some] <;> rfl), by (with_reducible repeat (first | apply Kd.R_alloc | apply Kd.R_drewN | apply Kd.R_drew)); exact HO_5.out, by repeat (first | (with_reducible first | exact HB.out | apply below_alloc | apply pw_below_drewN | apply below_drew1) | exact HB.out)⟩

/-! ### heliastlaw13_StateBoth: function 10 -/
def heliastlaw13_StateBoth.f (k : Nat) (l0 : List Int) (l1 : List Int) (l2 : List Int) : Option (Bool) := (heliastlaw13_State.f k l0 30).bind fun t168 => ((heliastlaw13_State.f k l1 30).bind fun t171 => ((heliastlaw13_State.f k l2 30).bind fun t174 => ((heliastlaw13_known.f k).bind fun t177 => (if t177 = true then ((state_Over.f k t168 t171).bind fun t178 => ((state_Over.f k t178 t174).bind fun t181 => ((state_Over.f k t171 t174).bind fun t184 => ((state_Over.f k t168 t184).bind fun t187 => ((state_Same.f k t181 t187).bind fun t190 => (if t190 = true then ((state_Over.f k t168 t171).bind fun t191 => ((state_Over.f k t191 t171).bind fun t194 => ((state_Over.f k t168 t171).bind fun t197 => ((state_Same.f k t194 t197).bind fun t200 => (some t200))))) else (some false))))))) else (some false)))))
theorem heliastlaw13_StateBoth.mono : ∀ a0 a1 a2 k, LeO (heliastlaw13_StateBoth.f k a0 a1 a2) (heliastlaw13_StateBoth.f (k + 1) a0 a1 a2) := by
  intro a0 a1 a2 k
  unfold heliastlaw13_StateBoth.f
  repeat' first
      | (with_reducible exact heliastlaw13_State.mono _ _ _)
      | (with_reducible exact heliastlaw13_known.mono _)
      | (with_reducible exact state_Over.mono _ _ _)
      | (with_reducible exact state_Same.mono _ _ _)
      | (with_reducible exact LeO.refl _)
      | (with_reducible exact LeO.none _)
      | (with_reducible refine LeO.ite ?_ ?_)
      | (with_reducible refine LeO.bind ?_ (fun _ => ?_))
      | exact heliastlaw13_State.mono _ _ _
      | exact heliastlaw13_known.mono _
      | exact state_Over.mono _ _ _
      | exact state_Same.mono _ _ _
      | exact LeO.none _
      | refine LeO.ite ?_ ?_
      | refine LeO.bind ?_ (fun _ => ?_)
set_option maxHeartbeats 8000000 in
set_option maxRecDepth 100000 in
theorem heliastlaw13_StateBoth.calls (k : Nat) (A0 : Option Addr) (c0 : Nat) (l0 : List Int) (A1 : Option Addr) (c1 : Nat) (l1 : List Int) (A2 : Option Addr) (c2 : Nat) (l2 : List Int) (r : Bool) (w : World) (hr0 : Kd.C (Kd.int .u8) w A0 l0.length l0) (hc0 : l0.length ≤ c0) (hr1 : Kd.C (Kd.int .u8) w A1 l1.length l1) (hc1 : l1.length ≤ c1) (hr2 : Kd.C (Kd.int .u8) w A2 l2.length l2) (hc2 : l2.length ≤ c2) (h : heliastlaw13_StateBoth.f k l0 l1 l2 = some r) (hlaw : r = true) :
    Calls Try.prog 10 #[.slice A0 l0.length c0, .slice A1 l1.length c1, .slice A2 l2.length c2] w fun e w' => e = .returned (.bool r) ∧ Below w.heap.size w w' := by
  have HLAW := Aside0.mk hlaw
  clear hlaw
  have HR0 := Aside0.mk hr0
  have HC0 := Aside0.mk hc0
  clear hr0 hc0
  have HR1 := Aside0.mk hr1
  have HC1 := Aside0.mk hc1
  clear hr1 hc1
  have HR2 := Aside0.mk hr2
  have HC2 := Aside0.mk hc2
  clear hr2 hc2
  have HB := Aside0.mk (Below.refl w.heap.size w)
  have H : ((heliastlaw13_State.f k l0 30).bind fun t168 => ((heliastlaw13_State.f k l1 30).bind fun t171 => ((heliastlaw13_State.f k l2 30).bind fun t174 => ((heliastlaw13_known.f k).bind fun t177 => (if t177 = true then ((state_Over.f k t168 t171).bind fun t178 => ((state_Over.f k t178 t174).bind fun t181 => ((state_Over.f k t171 t174).bind fun t184 => ((state_Over.f k t168 t184).bind fun t187 => ((state_Same.f k t181 t187).bind fun t190 => (if t190 = true then ((state_Over.f k t168 t171).bind fun t191 => ((state_Over.f k t191 t171).bind fun t194 => ((state_Over.f k t168 t171).bind fun t197 => ((state_Same.f k t194 t197).bind fun t200 => (some t200))))) else (some false))))))) else (some false)))))) = some r := h
  clear h
  replace H := Option.bind_eq_some_iff.mp H
  obtain ⟨t168, A40, H⟩ := H
  replace H : ((heliastlaw13_State.f k l1 30).bind fun t171 => ((heliastlaw13_State.f k l2 30).bind fun t174 => ((heliastlaw13_known.f k).bind fun t177 => (if t177 = true then ((state_Over.f k t168 t171).bind fun t178 => ((state_Over.f k t178 t174).bind fun t181 => ((state_Over.f k t171 t174).bind fun t184 => ((state_Over.f k t168 t184).bind fun t187 => ((state_Same.f k t181 t187).bind fun t190 => (if t190 = true then ((state_Over.f k t168 t171).bind fun t191 => ((state_Over.f k t191 t171).bind fun t194 => ((state_Over.f k t168 t171).bind fun t197 => ((state_Same.f k t194 t197).bind fun t200 => (some t200))))) else (some false))))))) else (some false))))) = some r := H
  have A4 := Aside0.mk A40
  clear A40
  replace H := Option.bind_eq_some_iff.mp H
  obtain ⟨t171, A50, H⟩ := H
  replace H : ((heliastlaw13_State.f k l2 30).bind fun t174 => ((heliastlaw13_known.f k).bind fun t177 => (if t177 = true then ((state_Over.f k t168 t171).bind fun t178 => ((state_Over.f k t178 t174).bind fun t181 => ((state_Over.f k t171 t174).bind fun t184 => ((state_Over.f k t168 t184).bind fun t187 => ((state_Same.f k t181 t187).bind fun t190 => (if t190 = true then ((state_Over.f k t168 t171).bind fun t191 => ((state_Over.f k t191 t171).bind fun t194 => ((state_Over.f k t168 t171).bind fun t197 => ((state_Same.f k t194 t197).bind fun t200 => (some t200))))) else (some false))))))) else (some false)))) = some r := H
  have A5 := Aside0.mk A50
  clear A50
  replace H := Option.bind_eq_some_iff.mp H
  obtain ⟨t174, A60, H⟩ := H
  replace H : ((heliastlaw13_known.f k).bind fun t177 => (if t177 = true then ((state_Over.f k t168 t171).bind fun t178 => ((state_Over.f k t178 t174).bind fun t181 => ((state_Over.f k t171 t174).bind fun t184 => ((state_Over.f k t168 t184).bind fun t187 => ((state_Same.f k t181 t187).bind fun t190 => (if t190 = true then ((state_Over.f k t168 t171).bind fun t191 => ((state_Over.f k t191 t171).bind fun t194 => ((state_Over.f k t168 t171).bind fun t197 => ((state_Same.f k t194 t197).bind fun t200 => (some t200))))) else (some false))))))) else (some false))) = some r := H
  have A6 := Aside0.mk A60
  clear A60
  replace H := Option.bind_eq_some_iff.mp H
  obtain ⟨t177, A70, H⟩ := H
  replace H : (if t177 = true then ((state_Over.f k t168 t171).bind fun t178 => ((state_Over.f k t178 t174).bind fun t181 => ((state_Over.f k t171 t174).bind fun t184 => ((state_Over.f k t168 t184).bind fun t187 => ((state_Same.f k t181 t187).bind fun t190 => (if t190 = true then ((state_Over.f k t168 t171).bind fun t191 => ((state_Over.f k t191 t171).bind fun t194 => ((state_Over.f k t168 t171).bind fun t197 => ((state_Same.f k t194 t197).bind fun t200 => (some t200))))) else (some false))))))) else (some false)) = some r := H
  have A7 := Aside0.mk A70
  clear A70
  by_cases c8 : t177 = true
  · subst c8
    have H1 : ((state_Over.f k t168 t171).bind fun t178 => ((state_Over.f k t178 t174).bind fun t181 => ((state_Over.f k t171 t174).bind fun t184 => ((state_Over.f k t168 t184).bind fun t187 => ((state_Same.f k t181 t187).bind fun t190 => (if t190 = true then ((state_Over.f k t168 t171).bind fun t191 => ((state_Over.f k t191 t171).bind fun t194 => ((state_Over.f k t168 t171).bind fun t197 => ((state_Same.f k t194 t197).bind fun t200 => (some t200))))) else (some false))))))) = some r := by rw [if_pos rfl] at H; exact H
    clear H
    have H := H1
    clear H1
    replace H := Option.bind_eq_some_iff.mp H
    obtain ⟨t178, A90, H⟩ := H
    replace H : ((state_Over.f k t178 t174).bind fun t181 => ((state_Over.f k t171 t174).bind fun t184 => ((state_Over.f k t168 t184).bind fun t187 => ((state_Same.f k t181 t187).bind fun t190 => (if t190 = true then ((state_Over.f k t168 t171).bind fun t191 => ((state_Over.f k t191 t171).bind fun t194 => ((state_Over.f k t168 t171).bind fun t197 => ((state_Same.f k t194 t197).bind fun t200 => (some t200))))) else (some false)))))) = some r := H
    have A9 := Aside0.mk A90
    clear A90
    replace H := Option.bind_eq_some_iff.mp H
    obtain ⟨t181, A100, H⟩ := H
    replace H : ((state_Over.f k t171 t174).bind fun t184 => ((state_Over.f k t168 t184).bind fun t187 => ((state_Same.f k t181 t187).bind fun t190 => (if t190 = true then ((state_Over.f k t168 t171).bind fun t191 => ((state_Over.f k t191 t171).bind fun t194 => ((state_Over.f k t168 t171).bind fun t197 => ((state_Same.f k t194 t197).bind fun t200 => (some t200))))) else (some false))))) = some r := H
    have A10 := Aside0.mk A100
    clear A100
    replace H := Option.bind_eq_some_iff.mp H
    obtain ⟨t184, A110, H⟩ := H
    replace H : ((state_Over.f k t168 t184).bind fun t187 => ((state_Same.f k t181 t187).bind fun t190 => (if t190 = true then ((state_Over.f k t168 t171).bind fun t191 => ((state_Over.f k t191 t171).bind fun t194 => ((state_Over.f k t168 t171).bind fun t197 => ((state_Same.f k t194 t197).bind fun t200 => (some t200))))) else (some false)))) = some r := H
    have A11 := Aside0.mk A110
    clear A110
    replace H := Option.bind_eq_some_iff.mp H
    obtain ⟨t187, A120, H⟩ := H
    replace H : ((state_Same.f k t181 t187).bind fun t190 => (if t190 = true then ((state_Over.f k t168 t171).bind fun t191 => ((state_Over.f k t191 t171).bind fun t194 => ((state_Over.f k t168 t171).bind fun t197 => ((state_Same.f k t194 t197).bind fun t200 => (some t200))))) else (some false))) = some r := H
    have A12 := Aside0.mk A120
    clear A120
    replace H := Option.bind_eq_some_iff.mp H
    obtain ⟨t190, A130, H⟩ := H
    replace H : (if t190 = true then ((state_Over.f k t168 t171).bind fun t191 => ((state_Over.f k t191 t171).bind fun t194 => ((state_Over.f k t168 t171).bind fun t197 => ((state_Same.f k t194 t197).bind fun t200 => (some t200))))) else (some false)) = some r := H
    have A13 := Aside0.mk A130
    clear A130
    by_cases c14 : t190 = true
    · subst c14
      have H1 : ((state_Over.f k t168 t171).bind fun t191 => ((state_Over.f k t191 t171).bind fun t194 => ((state_Over.f k t168 t171).bind fun t197 => ((state_Same.f k t194 t197).bind fun t200 => (some t200))))) = some r := by rw [if_pos rfl] at H; exact H
      clear H
      have H := H1
      clear H1
      replace H := Option.bind_eq_some_iff.mp H
      obtain ⟨t191, A150, H⟩ := H
      replace H : ((state_Over.f k t191 t171).bind fun t194 => ((state_Over.f k t168 t171).bind fun t197 => ((state_Same.f k t194 t197).bind fun t200 => (some t200)))) = some r := H
      have A15 := Aside0.mk A150
      clear A150
      replace H := Option.bind_eq_some_iff.mp H
      obtain ⟨t194, A160, H⟩ := H
      replace H : ((state_Over.f k t168 t171).bind fun t197 => ((state_Same.f k t194 t197).bind fun t200 => (some t200))) = some r := H
      have A16 := Aside0.mk A160
      clear A160
      replace H := Option.bind_eq_some_iff.mp H
      obtain ⟨t197, A170, H⟩ := H
      replace H : ((state_Same.f k t194 t197).bind fun t200 => (some t200)) = some r := H
      have A17 := Aside0.mk A170
      clear A170
      replace H := Option.bind_eq_some_iff.mp H
      obtain ⟨t200, A180, H⟩ := H
      replace H : (some t200) = some r := H
      have A18 := Aside0.mk A180
      clear A180
      obtain rfl := Option.some.inj H
      go_enter Try.func10, Try.ntmps10
      have tok1_ : True := trivial
      have tok2_ : True := trivial
      have tok3_ : True := trivial
      have tok4_ : True := trivial
      have tok5_ : True := trivial
      have tok6_ : True := trivial
      have tok7_ : True := trivial
      have tok8_ : True := trivial
      have tok9_ : True := trivial
      go_wp2_with (first | ((with_reducible refine gate_callee (f := 50) rfl ?_); refine goesL_ (some 11) rfl rfl Try.func50 (by kernel_rfl) rfl #[.slice A0 l0.length c0, .int .i64 30] rfl (by (try simp only [List.map_toArray, List.map_cons, List.map_nil]); first | done | rfl | (simp only [List.length_drop, List.length_take]; rfl)) ?_; (with_reducible refine (heliastlaw13_State.calls k _ _ l0 30 t168 _ ?side1 ?side2 A4.out).mono ?_); (case side1 => repeat (first | exact HR0.out | (with_reducible refine Kd.C_alloc ?_ _) | (with_reducible refine Kd.C_drewN ?_ _) | (with_reducible refine Kd.C_drew ?_))); (case side2 => exact HC0.out); rintro e w19 ⟨v169, rfl, ho0, hb⟩; refine ⟨_, rfl, ?_⟩; have n0_ := Aside0.mk (Kd.R_lower ho0 (below_size (by repeat (first | (with_reducible first | exact HB.out | apply below_alloc | apply pw_below_drewN | apply below_drew1) | exact HB.out)))); have n1_ := Aside0.mk (below_step (by repeat (first | (with_reducible first | exact HB.out | apply below_alloc | apply pw_below_drewN | apply below_drew1) | exact HB.out)) hb); clear HB; have HO170 := n0_; have HB := n1_; clear n0_ n1_; (try clear hb); (try clear hb2); (try clear hk); (try clear hi); (try clear ho0)) | ((with_reducible refine gate_callee (f := 50) rfl ?_); refine goesL_ (some 13) rfl rfl Try.func50 (by kernel_rfl) rfl #[.slice A1 l1.length c1, .int .i64 30] rfl (by (try simp only [List.map_toArray, List.map_cons, List.map_nil]); first | done | rfl | (simp only [List.length_drop, List.length_take]; rfl)) ?_; (with_reducible refine (heliastlaw13_State.calls k _ _ l1 30 t171 _ ?side1 ?side2 A5.out).mono ?_); (case side1 => repeat (first | exact (Kd.C_below HR1.out HB.out) | (with_reducible refine Kd.C_alloc ?_ _) | (with_reducible refine Kd.C_drewN ?_ _) | (with_reducible refine Kd.C_drew ?_))); (case side2 => exact HC1.out); rintro e w20 ⟨v172, rfl, ho0, hb⟩; refine ⟨_, rfl, ?_⟩; have n0_ := Aside0.mk (Kd.R_elder' (by (with_reducible repeat (first | apply Kd.R_alloc | apply Kd.R_drewN | apply Kd.R_drew)); exact HO170.out) (Kd.R_base ho0) hb); have n1_ := Aside0.mk (Kd.R_lower (Kd.R_new' ho0 (Kd.R_lt (by (with_reducible repeat (first | apply Kd.R_alloc | apply Kd.R_drewN | apply Kd.R_drew)); exact HO170.out))) (below_size (by repeat (first | (with_reducible first | exact HB.out | apply below_alloc | apply pw_below_drewN | apply below_drew1) | exact HB.out)))); have n2_ := Aside0.mk (below_step (by repeat (first | (with_reducible first | exact HB.out | apply below_alloc | apply pw_below_drewN | apply below_drew1) | exact HB.out)) hb); clear HO170; clear HB; have HO170 := n0_; have HO173 := n1_; have HB := n2_; clear n0_ n1_ n2_; (try clear hb); (try clear hb2); (try clear hk); (try clear hi); (try clear ho0)) | ((with_reducible refine gate_callee (f := 50) rfl ?_); refine goesL_ (some 15) rfl rfl Try.func50 (by kernel_rfl) rfl #[.slice A2 l2.length c2, .int .i64 30] rfl (by (try simp only [List.map_toArray, List.map_cons, List.map_nil]); first | done | rfl | (simp only [List.length_drop, List.length_take]; rfl)) ?_; (with_reducible refine (heliastlaw13_State.calls k _ _ l2 30 t174 _ ?side1 ?side2 A6.out).mono ?_); (case side1 => repeat (first | exact (Kd.C_below HR2.out HB.out) | (with_reducible refine Kd.C_alloc ?_ _) | (with_reducible refine Kd.C_drewN ?_ _) | (with_reducible refine Kd.C_drew ?_))); (case side2 => exact HC2.out); rintro e w21 ⟨v175, rfl, ho0, hb⟩; refine ⟨_, rfl, ?_⟩; have n0_ := Aside0.mk (Kd.R_elder' (by (with_reducible repeat (first | apply Kd.R_alloc | apply Kd.R_drewN | apply Kd.R_drew)); exact HO170.out) (Kd.R_base ho0) hb); have n1_ := Aside0.mk (Kd.R_elder' (by (with_reducible repeat (first | apply Kd.R_alloc | apply Kd.R_drewN | apply Kd.R_drew)); exact HO173.out) (Kd.R_base ho0) hb); have n2_ := Aside0.mk (Kd.R_lower (Kd.R_new' (Kd.R_new' ho0 (Kd.R_lt (by (with_reducible repeat (first | apply Kd.R_alloc | apply Kd.R_drewN | apply Kd.R_drew)); exact HO170.out))) (Kd.R_lt (by (with_reducible repeat (first | apply Kd.R_alloc | apply Kd.R_drewN | apply Kd.R_drew)); exact HO173.out))) (below_size (by repeat (first | (with_reducible first | exact HB.out | apply below_alloc | apply pw_below_drewN | apply below_drew1) | exact HB.out)))); have n3_ := Aside0.mk (below_step (by repeat (first | (with_reducible first | exact HB.out | apply below_alloc | apply pw_below_drewN | apply below_drew1) | exact HB.out)) hb); clear HO170; clear HO173; clear HB; have HO170 := n0_; have HO173 := n1_; have HO176 := n2_; have HB := n3_; clear n0_ n1_ n2_ n3_; (try clear hb); (try clear hb2); (try clear hk); (try clear hi); (try clear ho0)) | ((with_reducible refine gate_callee (f := 51) rfl ?_); refine goesL_ (some 16) rfl rfl Try.func51 (by kernel_rfl) rfl #[] rfl (by (try simp only [List.map_toArray, List.map_cons, List.map_nil]); first | done | rfl | (simp only [List.length_drop, List.length_take]; rfl)) ?_; (with_reducible refine (heliastlaw13_known.calls k  true _ A7.out (by first | rfl | exact HLAW.out)).mono ?_); rintro e w22 ⟨rfl, hb⟩; refine ⟨_, rfl, ?_⟩; have n0_ := Aside0.mk (Kd.R_below (by (with_reducible repeat (first | apply Kd.R_alloc | apply Kd.R_drewN | apply Kd.R_drew)); exact HO170.out) hb); have n1_ := Aside0.mk (Kd.R_below (by (with_reducible repeat (first | apply Kd.R_alloc | apply Kd.R_drewN | apply Kd.R_drew)); exact HO173.out) hb); have n2_ := Aside0.mk (Kd.R_below (by (with_reducible repeat (first | apply Kd.R_alloc | apply Kd.R_drewN | apply Kd.R_drew)); exact HO176.out) hb); have n3_ := Aside0.mk (below_step (by repeat (first | (with_reducible first | exact HB.out | apply below_alloc | apply pw_below_drewN | apply below_drew1) | exact HB.out)) hb); clear HO170; clear HO173; clear HO176; clear HB; have HO170 := n0_; have HO173 := n1_; have HO176 := n2_; have HB := n3_; clear n0_ n1_ n2_ n3_; (try clear hb); (try clear hb2); (try clear hk); (try clear hi); obtain ⟨Ao23, co23, eo23⟩ := Kd.R_slice HO170.out; subst eo23; obtain ⟨Ao24, co24, eo24⟩ := Kd.R_slice HO173.out; subst eo24) | (go_at_call 57; clear tok1_; (with_reducible refine (state_Over.calls k _ _ t168 _ _ t171 t178 _ ?side1 ?side2 ?side3 ?side4 A9.out).mono ?_); (case side1 => repeat (first | exact (Kd.R_reads' HO170.out).2.2 | (with_reducible refine Kd.C_alloc ?_ _) | (with_reducible refine Kd.C_drewN ?_ _) | (with_reducible refine Kd.C_drew ?_))); (case side2 => exact (Kd.R_reads' HO170.out).2.1); (case side3 => repeat (first | exact (Kd.R_reads' HO173.out).2.2 | (with_reducible refine Kd.C_alloc ?_ _) | (with_reducible refine Kd.C_drewN ?_ _) | (with_reducible refine Kd.C_drew ?_))); (case side4 => exact (Kd.R_reads' HO173.out).2.1); rintro e w25 ⟨v179, rfl, ho0, hb⟩; have n0_ := Aside0.mk (Kd.R_elder' (by (with_reducible repeat (first | apply Kd.R_alloc | apply Kd.R_drewN | apply Kd.R_drew)); exact HO170.out) (Kd.R_base ho0) hb); have n1_ := Aside0.mk (Kd.R_elder' (by (with_reducible repeat (first | apply Kd.R_alloc | apply Kd.R_drewN | apply Kd.R_drew)); exact HO173.out) (Kd.R_base ho0) hb); have n2_ := Aside0.mk (Kd.R_elder' (by (with_reducible repeat (first | apply Kd.R_alloc | apply Kd.R_drewN | apply Kd.R_drew)); exact HO176.out) (Kd.R_base ho0) hb); have n3_ := Aside0.mk (Kd.R_lower (Kd.R_new' (Kd.R_new' (Kd.R_new' ho0 (Kd.R_lt (by (with_reducible repeat (first | apply Kd.R_alloc | apply Kd.R_drewN | apply Kd.R_drew)); exact HO170.out))) (Kd.R_lt (by (with_reducible repeat (first | apply Kd.R_alloc | apply Kd.R_drewN | apply Kd.R_drew)); exact HO173.out))) (Kd.R_lt (by (with_reducible repeat (first | apply Kd.R_alloc | apply Kd.R_drewN | apply Kd.R_drew)); exact HO176.out))) (below_size (by repeat (first | (with_reducible first | exact HB.out | apply below_alloc | apply pw_below_drewN | apply below_drew1) | exact HB.out)))); have n4_ := Aside0.mk (below_step (by repeat (first | (with_reducible first | exact HB.out | apply below_alloc | apply pw_below_drewN | apply below_drew1) | exact HB.out)) hb); clear HO170; clear HO173; clear HO176; clear HB; have HO170 := n0_; have HO173 := n1_; have HO176 := n2_; have HO180 := n3_; have HB := n4_; clear n0_ n1_ n2_ n3_ n4_; (try clear hb); (try clear hb2); (try clear hk); (try clear hi); (try clear ho0); obtain ⟨Ao26, co26, eo26⟩ := Kd.R_slice HO180.out; subst eo26; obtain ⟨Ao27, co27, eo27⟩ := Kd.R_slice HO176.out; subst eo27) | (go_at_call 57; clear tok2_; (with_reducible refine (state_Over.calls k _ _ t178 _ _ t174 t181 _ ?side1 ?side2 ?side3 ?side4 A10.out).mono ?_); (case side1 => repeat (first | exact (Kd.R_reads' HO180.out).2.2 | (with_reducible refine Kd.C_alloc ?_ _) | (with_reducible refine Kd.C_drewN ?_ _) | (with_reducible refine Kd.C_drew ?_))); (case side2 => exact (Kd.R_reads' HO180.out).2.1); (case side3 => repeat (first | exact (Kd.R_reads' HO176.out).2.2 | (with_reducible refine Kd.C_alloc ?_ _) | (with_reducible refine Kd.C_drewN ?_ _) | (with_reducible refine Kd.C_drew ?_))); (case side4 => exact (Kd.R_reads' HO176.out).2.1); rintro e w28 ⟨v182, rfl, ho0, hb⟩; have n0_ := Aside0.mk (Kd.R_elder' (by (with_reducible repeat (first | apply Kd.R_alloc | apply Kd.R_drewN | apply Kd.R_drew)); exact HO170.out) (Kd.R_base ho0) hb); have n1_ := Aside0.mk (Kd.R_elder' (by (with_reducible repeat (first | apply Kd.R_alloc | apply Kd.R_drewN | apply Kd.R_drew)); exact HO173.out) (Kd.R_base ho0) hb); have n2_ := Aside0.mk (Kd.R_elder' (by (with_reducible repeat (first | apply Kd.R_alloc | apply Kd.R_drewN | apply Kd.R_drew)); exact HO176.out) (Kd.R_base ho0) hb); have n3_ := Aside0.mk (Kd.R_elder' (by (with_reducible repeat (first | apply Kd.R_alloc | apply Kd.R_drewN | apply Kd.R_drew)); exact HO180.out) (Kd.R_base ho0) hb); have n4_ := Aside0.mk (Kd.R_lower (Kd.R_new' (Kd.R_new' (Kd.R_new' (Kd.R_new' ho0 (Kd.R_lt (by (with_reducible repeat (first | apply Kd.R_alloc | apply Kd.R_drewN | apply Kd.R_drew)); exact HO170.out))) (Kd.R_lt (by (with_reducible repeat (first | apply Kd.R_alloc | apply Kd.R_drewN | apply Kd.R_drew)); exact HO173.out))) (Kd.R_lt (by (with_reducible repeat (first | apply Kd.R_alloc | apply Kd.R_drewN | apply Kd.R_drew)); exact HO176.out))) (Kd.R_lt (by (with_reducible repeat (first | apply Kd.R_alloc | apply Kd.R_drewN | apply Kd.R_drew)); exact HO180.out))) (below_size (by repeat (first | (with_reducible first | exact HB.out | apply below_alloc | apply pw_below_drewN | apply below_drew1) | exact HB.out)))); have n5_ := Aside0.mk (below_step (by repeat (first | (with_reducible first | exact HB.out | apply below_alloc | apply pw_below_drewN | apply below_drew1) | exact HB.out)) hb); clear HO170; clear HO173; clear HO176; clear HO180; clear HB; have HO170 := n0_; have HO173 := n1_; have HO176 := n2_; have HO180 := n3_; have HO183 := n4_; have HB := n5_; clear n0_ n1_ n2_ n3_ n4_ n5_; (try clear hb); (try clear hb2); (try clear hk); (try clear hi); (try clear ho0)) | (go_at_call 57; clear tok3_; (with_reducible refine (state_Over.calls k _ _ t171 _ _ t174 t184 _ ?side1 ?side2 ?side3 ?side4 A11.out).mono ?_); (case side1 => repeat (first | exact (Kd.R_reads' HO173.out).2.2 | (with_reducible refine Kd.C_alloc ?_ _) | (with_reducible refine Kd.C_drewN ?_ _) | (with_reducible refine Kd.C_drew ?_))); (case side2 => exact (Kd.R_reads' HO173.out).2.1); (case side3 => repeat (first | exact (Kd.R_reads' HO176.out).2.2 | (with_reducible refine Kd.C_alloc ?_ _) | (with_reducible refine Kd.C_drewN ?_ _) | (with_reducible refine Kd.C_drew ?_))); (case side4 => exact (Kd.R_reads' HO176.out).2.1); rintro e w29 ⟨v185, rfl, ho0, hb⟩; have n0_ := Aside0.mk (Kd.R_elder' (by (with_reducible repeat (first | apply Kd.R_alloc | apply Kd.R_drewN | apply Kd.R_drew)); exact HO170.out) (Kd.R_base ho0) hb); have n1_ := Aside0.mk (Kd.R_elder' (by (with_reducible repeat (first | apply Kd.R_alloc | apply Kd.R_drewN | apply Kd.R_drew)); exact HO173.out) (Kd.R_base ho0) hb); have n2_ := Aside0.mk (Kd.R_elder' (by (with_reducible repeat (first | apply Kd.R_alloc | apply Kd.R_drewN | apply Kd.R_drew)); exact HO176.out) (Kd.R_base ho0) hb); have n3_ := Aside0.mk (Kd.R_elder' (by (with_reducible repeat (first | apply Kd.R_alloc | apply Kd.R_drewN | apply Kd.R_drew)); exact HO180.out) (Kd.R_base ho0) hb); have n4_ := Aside0.mk (Kd.R_elder' (by (with_reducible repeat (first | apply Kd.R_alloc | apply Kd.R_drewN | apply Kd.R_drew)); exact HO183.out) (Kd.R_base ho0) hb); have n5_ := Aside0.mk (Kd.R_lower (Kd.R_new' (Kd.R_new' (Kd.R_new' (Kd.R_new' (Kd.R_new' ho0 (Kd.R_lt (by (with_reducible repeat (first | apply Kd.R_alloc | apply Kd.R_drewN | apply Kd.R_drew)); exact HO170.out))) (Kd.R_lt (by (with_reducible repeat (first | apply Kd.R_alloc | apply Kd.R_drewN | apply Kd.R_drew)); exact HO173.out))) (Kd.R_lt (by (with_reducible repeat (first | apply Kd.R_alloc | apply Kd.R_drewN | apply Kd.R_drew)); exact HO176.out))) (Kd.R_lt (by (with_reducible repeat (first | apply Kd.R_alloc | apply Kd.R_drewN | apply Kd.R_drew)); exact HO180.out))) (Kd.R_lt (by (with_reducible repeat (first | apply Kd.R_alloc | apply Kd.R_drewN | apply Kd.R_drew)); exact HO183.out))) (below_size (by repeat (first | (with_reducible first | exact HB.out | apply below_alloc | apply pw_below_drewN | apply below_drew1) | exact HB.out)))); have n6_ := Aside0.mk (below_step (by repeat (first | (with_reducible first | exact HB.out | apply below_alloc | apply pw_below_drewN | apply below_drew1) | exact HB.out)) hb); clear HO170; clear HO173; clear HO176; clear HO180; clear HO183; clear HB; have HO170 := n0_; have HO173 := n1_; have HO176 := n2_; have HO180 := n3_; have HO183 := n4_; have HO186 := n5_; have HB := n6_; clear n0_ n1_ n2_ n3_ n4_ n5_ n6_; (try clear hb); (try clear hb2); (try clear hk); (try clear hi); (try clear ho0); obtain ⟨Ao30, co30, eo30⟩ := Kd.R_slice HO186.out; subst eo30) | (go_at_call 57; clear tok4_; (with_reducible refine (state_Over.calls k _ _ t168 _ _ t184 t187 _ ?side1 ?side2 ?side3 ?side4 A12.out).mono ?_); (case side1 => repeat (first | exact (Kd.R_reads' HO170.out).2.2 | (with_reducible refine Kd.C_alloc ?_ _) | (with_reducible refine Kd.C_drewN ?_ _) | (with_reducible refine Kd.C_drew ?_))); (case side2 => exact (Kd.R_reads' HO170.out).2.1); (case side3 => repeat (first | exact (Kd.R_reads' HO186.out).2.2 | (with_reducible refine Kd.C_alloc ?_ _) | (with_reducible refine Kd.C_drewN ?_ _) | (with_reducible refine Kd.C_drew ?_))); (case side4 => exact (Kd.R_reads' HO186.out).2.1); rintro e w31 ⟨v188, rfl, ho0, hb⟩; have n0_ := Aside0.mk (Kd.R_elder' (by (with_reducible repeat (first | apply Kd.R_alloc | apply Kd.R_drewN | apply Kd.R_drew)); exact HO170.out) (Kd.R_base ho0) hb); have n1_ := Aside0.mk (Kd.R_elder' (by (with_reducible repeat (first | apply Kd.R_alloc | apply Kd.R_drewN | apply Kd.R_drew)); exact HO173.out) (Kd.R_base ho0) hb); have n2_ := Aside0.mk (Kd.R_elder' (by (with_reducible repeat (first | apply Kd.R_alloc | apply Kd.R_drewN | apply Kd.R_drew)); exact HO176.out) (Kd.R_base ho0) hb); have n3_ := Aside0.mk (Kd.R_elder' (by (with_reducible repeat (first | apply Kd.R_alloc | apply Kd.R_drewN | apply Kd.R_drew)); exact HO180.out) (Kd.R_base ho0) hb); have n4_ := Aside0.mk (Kd.R_elder' (by (with_reducible repeat (first | apply Kd.R_alloc | apply Kd.R_drewN | apply Kd.R_drew)); exact HO183.out) (Kd.R_base ho0) hb); have n5_ := Aside0.mk (Kd.R_elder' (by (with_reducible repeat (first | apply Kd.R_alloc | apply Kd.R_drewN | apply Kd.R_drew)); exact HO186.out) (Kd.R_base ho0) hb); have n6_ := Aside0.mk (Kd.R_lower (Kd.R_new' (Kd.R_new' (Kd.R_new' (Kd.R_new' (Kd.R_new' (Kd.R_new' ho0 (Kd.R_lt (by (with_reducible repeat (first | apply Kd.R_alloc | apply Kd.R_drewN | apply Kd.R_drew)); exact HO170.out))) (Kd.R_lt (by (with_reducible repeat (first | apply Kd.R_alloc | apply Kd.R_drewN | apply Kd.R_drew)); exact HO173.out))) (Kd.R_lt (by (with_reducible repeat (first | apply Kd.R_alloc | apply Kd.R_drewN | apply Kd.R_drew)); exact HO176.out))) (Kd.R_lt (by (with_reducible repeat (first | apply Kd.R_alloc | apply Kd.R_drewN | apply Kd.R_drew)); exact HO180.out))) (Kd.R_lt (by (with_reducible repeat (first | apply Kd.R_alloc | apply Kd.R_drewN | apply Kd.R_drew)); exact HO183.out))) (Kd.R_lt (by (with_reducible repeat (first | apply Kd.R_alloc | apply Kd.R_drewN | apply Kd.R_drew)); exact HO186.out))) (below_size (by repeat (first | (with_reducible first | exact HB.out | apply below_alloc | apply pw_below_drewN | apply below_drew1) | exact HB.out)))); have n7_ := Aside0.mk (below_step (by repeat (first | (with_reducible first | exact HB.out | apply below_alloc | apply pw_below_drewN | apply below_drew1) | exact HB.out)) hb); clear HO170; clear HO173; clear HO176; clear HO180; clear HO183; clear HO186; clear HB; have HO170 := n0_; have HO173 := n1_; have HO176 := n2_; have HO180 := n3_; have HO183 := n4_; have HO186 := n5_; have HO189 := n6_; have HB := n7_; clear n0_ n1_ n2_ n3_ n4_ n5_ n6_ n7_; (try clear hb); (try clear hb2); (try clear hk); (try clear hi); (try clear ho0); obtain ⟨Ao32, co32, eo32⟩ := Kd.R_slice HO183.out; subst eo32; obtain ⟨Ao33, co33, eo33⟩ := Kd.R_slice HO189.out; subst eo33) | (go_at_call 56; clear tok5_; (with_reducible refine (state_Same.calls k _ _ t181 _ _ t187 true _ ?side1 ?side2 ?side3 ?side4 A13.out).mono ?_); (case side1 => repeat (first | exact (Kd.R_reads' HO183.out).2.2 | (with_reducible refine Kd.C_alloc ?_ _) | (with_reducible refine Kd.C_drewN ?_ _) | (with_reducible refine Kd.C_drew ?_))); (case side2 => exact (Kd.R_reads' HO183.out).2.1); (case side3 => repeat (first | exact (Kd.R_reads' HO189.out).2.2 | (with_reducible refine Kd.C_alloc ?_ _) | (with_reducible refine Kd.C_drewN ?_ _) | (with_reducible refine Kd.C_drew ?_))); (case side4 => exact (Kd.R_reads' HO189.out).2.1); rintro e w' ⟨rfl, ⟨nd, rfl⟩⟩) | (go_at_call 57; clear tok6_; (with_reducible refine (state_Over.calls k _ _ t168 _ _ t171 t191 _ ?side1 ?side2 ?side3 ?side4 A15.out).mono ?_); (case side1 => repeat (first | exact (Kd.R_reads' HO170.out).2.2 | (with_reducible refine Kd.C_alloc ?_ _) | (with_reducible refine Kd.C_drewN ?_ _) | (with_reducible refine Kd.C_drew ?_))); (case side2 => exact (Kd.R_reads' HO170.out).2.1); (case side3 => repeat (first | exact (Kd.R_reads' HO173.out).2.2 | (with_reducible refine Kd.C_alloc ?_ _) | (with_reducible refine Kd.C_drewN ?_ _) | (with_reducible refine Kd.C_drew ?_))); (case side4 => exact (Kd.R_reads' HO173.out).2.1); rintro e w34 ⟨v192, rfl, ho0, hb⟩; have n0_ := Aside0.mk (Kd.R_elder' (by (with_reducible repeat (first | apply Kd.R_alloc | apply Kd.R_drewN | apply Kd.R_drew)); exact HO170.out) (Kd.R_base ho0) hb); have n1_ := Aside0.mk (Kd.R_elder' (by (with_reducible repeat (first | apply Kd.R_alloc | apply Kd.R_drewN | apply Kd.R_drew)); exact HO173.out) (Kd.R_base ho0) hb); have n2_ := Aside0.mk (Kd.R_elder' (by (with_reducible repeat (first | apply Kd.R_alloc | apply Kd.R_drewN | apply Kd.R_drew)); exact HO176.out) (Kd.R_base ho0) hb); have n3_ := Aside0.mk (Kd.R_elder' (by (with_reducible repeat (first | apply Kd.R_alloc | apply Kd.R_drewN | apply Kd.R_drew)); exact HO180.out) (Kd.R_base ho0) hb); have n4_ := Aside0.mk (Kd.R_elder' (by (with_reducible repeat (first | apply Kd.R_alloc | apply Kd.R_drewN | apply Kd.R_drew)); exact HO183.out) (Kd.R_base ho0) hb); have n5_ := Aside0.mk (Kd.R_elder' (by (with_reducible repeat (first | apply Kd.R_alloc | apply Kd.R_drewN | apply Kd.R_drew)); exact HO186.out) (Kd.R_base ho0) hb); have n6_ := Aside0.mk (Kd.R_elder' (by (with_reducible repeat (first | apply Kd.R_alloc | apply Kd.R_drewN | apply Kd.R_drew)); exact HO189.out) (Kd.R_base ho0) hb); have n7_ := Aside0.mk (Kd.R_lower (Kd.R_new' (Kd.R_new' (Kd.R_new' (Kd.R_new' (Kd.R_new' (Kd.R_new' (Kd.R_new' ho0 (Kd.R_lt (by (with_reducible repeat (first | apply Kd.R_alloc | apply Kd.R_drewN | apply Kd.R_drew)); exact HO170.out))) (Kd.R_lt (by (with_reducible repeat (first | apply Kd.R_alloc | apply Kd.R_drewN | apply Kd.R_drew)); exact HO173.out))) (Kd.R_lt (by (with_reducible repeat (first | apply Kd.R_alloc | apply Kd.R_drewN | apply Kd.R_drew)); exact HO176.out))) (Kd.R_lt (by (with_reducible repeat (first | apply Kd.R_alloc | apply Kd.R_drewN | apply Kd.R_drew)); exact HO180.out))) (Kd.R_lt (by (with_reducible repeat (first | apply Kd.R_alloc | apply Kd.R_drewN | apply Kd.R_drew)); exact HO183.out))) (Kd.R_lt (by (with_reducible repeat (first | apply Kd.R_alloc | apply Kd.R_drewN | apply Kd.R_drew)); exact HO186.out))) (Kd.R_lt (by (with_reducible repeat (first | apply Kd.R_alloc | apply Kd.R_drewN | apply Kd.R_drew)); exact HO189.out))) (below_size (by repeat (first | (with_reducible first | exact HB.out | apply below_alloc | apply pw_below_drewN | apply below_drew1) | exact HB.out)))); have n8_ := Aside0.mk (below_step (by repeat (first | (with_reducible first | exact HB.out | apply below_alloc | apply pw_below_drewN | apply below_drew1) | exact HB.out)) hb); clear HO170; clear HO173; clear HO176; clear HO180; clear HO183; clear HO186; clear HO189; clear HB; have HO170 := n0_; have HO173 := n1_; have HO176 := n2_; have HO180 := n3_; have HO183 := n4_; have HO186 := n5_; have HO189 := n6_; have HO193 := n7_; have HB := n8_; clear n0_ n1_ n2_ n3_ n4_ n5_ n6_ n7_ n8_; (try clear hb); (try clear hb2); (try clear hk); (try clear hi); (try clear ho0); obtain ⟨Ao35, co35, eo35⟩ := Kd.R_slice HO193.out; subst eo35) | (go_at_call 57; clear tok7_; (with_reducible refine (state_Over.calls k _ _ t191 _ _ t171 t194 _ ?side1 ?side2 ?side3 ?side4 A16.out).mono ?_); (case side1 => repeat (first | exact (Kd.R_reads' HO193.out).2.2 | (with_reducible refine Kd.C_alloc ?_ _) | (with_reducible refine Kd.C_drewN ?_ _) | (with_reducible refine Kd.C_drew ?_))); (case side2 => exact (Kd.R_reads' HO193.out).2.1); (case side3 => repeat (first | exact (Kd.R_reads' HO173.out).2.2 | (with_reducible refine Kd.C_alloc ?_ _) | (with_reducible refine Kd.C_drewN ?_ _) | (with_reducible refine Kd.C_drew ?_))); (case side4 => exact (Kd.R_reads' HO173.out).2.1); rintro e w36 ⟨v195, rfl, ho0, hb⟩; have n0_ := Aside0.mk (Kd.R_elder' (by (with_reducible repeat (first | apply Kd.R_alloc | apply Kd.R_drewN | apply Kd.R_drew)); exact HO170.out) (Kd.R_base ho0) hb); have n1_ := Aside0.mk (Kd.R_elder' (by (with_reducible repeat (first | apply Kd.R_alloc | apply Kd.R_drewN | apply Kd.R_drew)); exact HO173.out) (Kd.R_base ho0) hb); have n2_ := Aside0.mk (Kd.R_elder' (by (with_reducible repeat (first | apply Kd.R_alloc | apply Kd.R_drewN | apply Kd.R_drew)); exact HO176.out) (Kd.R_base ho0) hb); have n3_ := Aside0.mk (Kd.R_elder' (by (with_reducible repeat (first | apply Kd.R_alloc | apply Kd.R_drewN | apply Kd.R_drew)); exact HO180.out) (Kd.R_base ho0) hb); have n4_ := Aside0.mk (Kd.R_elder' (by (with_reducible repeat (first | apply Kd.R_alloc | apply Kd.R_drewN | apply Kd.R_drew)); exact HO183.out) (Kd.R_base ho0) hb); have n5_ := Aside0.mk (Kd.R_elder' (by (with_reducible repeat (first | apply Kd.R_alloc | apply Kd.R_drewN | apply Kd.R_drew)); exact HO186.out) (Kd.R_base ho0) hb); have n6_ := Aside0.mk (Kd.R_elder' (by (with_reducible repeat (first | apply Kd.R_alloc | apply Kd.R_drewN | apply Kd.R_drew)); exact HO189.out) (Kd.R_base ho0) hb); have n7_ := Aside0.mk (Kd.R_elder' (by (with_reducible repeat (first | apply Kd.R_alloc | apply Kd.R_drewN | apply Kd.R_drew)); exact HO193.out) (Kd.R_base ho0) hb); have n8_ := Aside0.mk (Kd.R_lower (Kd.R_new' (Kd.R_new' (Kd.R_new' (Kd.R_new' (Kd.R_new' (Kd.R_new' (Kd.R_new' (Kd.R_new' ho0 (Kd.R_lt (by (with_reducible repeat (first | apply Kd.R_alloc | apply Kd.R_drewN | apply Kd.R_drew)); exact HO170.out))) (Kd.R_lt (by (with_reducible repeat (first | apply Kd.R_alloc | apply Kd.R_drewN | apply Kd.R_drew)); exact HO173.out))) (Kd.R_lt (by (with_reducible repeat (first | apply Kd.R_alloc | apply Kd.R_drewN | apply Kd.R_drew)); exact HO176.out))) (Kd.R_lt (by (with_reducible repeat (first | apply Kd.R_alloc | apply Kd.R_drewN | apply Kd.R_drew)); exact HO180.out))) (Kd.R_lt (by (with_reducible repeat (first | apply Kd.R_alloc | apply Kd.R_drewN | apply Kd.R_drew)); exact HO183.out))) (Kd.R_lt (by (with_reducible repeat (first | apply Kd.R_alloc | apply Kd.R_drewN | apply Kd.R_drew)); exact HO186.out))) (Kd.R_lt (by (with_reducible repeat (first | apply Kd.R_alloc | apply Kd.R_drewN | apply Kd.R_drew)); exact HO189.out))) (Kd.R_lt (by (with_reducible repeat (first | apply Kd.R_alloc | apply Kd.R_drewN | apply Kd.R_drew)); exact HO193.out))) (below_size (by repeat (first | (with_reducible first | exact HB.out | apply below_alloc | apply pw_below_drewN | apply below_drew1) | exact HB.out)))); have n9_ := Aside0.mk (below_step (by repeat (first | (with_reducible first | exact HB.out | apply below_alloc | apply pw_below_drewN | apply below_drew1) | exact HB.out)) hb); clear HO170; clear HO173; clear HO176; clear HO180; clear HO183; clear HO186; clear HO189; clear HO193; clear HB; have HO170 := n0_; have HO173 := n1_; have HO176 := n2_; have HO180 := n3_; have HO183 := n4_; have HO186 := n5_; have HO189 := n6_; have HO193 := n7_; have HO196 := n8_; have HB := n9_; clear n0_ n1_ n2_ n3_ n4_ n5_ n6_ n7_ n8_ n9_; (try clear hb); (try clear hb2); (try clear hk); (try clear hi); (try clear ho0)) | (go_at_call 57; clear tok8_; (with_reducible refine (state_Over.calls k _ _ t168 _ _ t171 t197 _ ?side1 ?side2 ?side3 ?side4 A17.out).mono ?_); (case side1 => repeat (first | exact (Kd.R_reads' HO170.out).2.2 | (with_reducible refine Kd.C_alloc ?_ _) | (with_reducible refine Kd.C_drewN ?_ _) | (with_reducible refine Kd.C_drew ?_))); (case side2 => exact (Kd.R_reads' HO170.out).2.1); (case side3 => repeat (first | exact (Kd.R_reads' HO173.out).2.2 | (with_reducible refine Kd.C_alloc ?_ _) | (with_reducible refine Kd.C_drewN ?_ _) | (with_reducible refine Kd.C_drew ?_))); (case side4 => exact (Kd.R_reads' HO173.out).2.1); rintro e w37 ⟨v198, rfl, ho0, hb⟩; have n0_ := Aside0.mk (Kd.R_elder' (by (with_reducible repeat (first | apply Kd.R_alloc | apply Kd.R_drewN | apply Kd.R_drew)); exact HO170.out) (Kd.R_base ho0) hb); have n1_ := Aside0.mk (Kd.R_elder' (by (with_reducible repeat (first | apply Kd.R_alloc | apply Kd.R_drewN | apply Kd.R_drew)); exact HO173.out) (Kd.R_base ho0) hb); have n2_ := Aside0.mk (Kd.R_elder' (by (with_reducible repeat (first | apply Kd.R_alloc | apply Kd.R_drewN | apply Kd.R_drew)); exact HO176.out) (Kd.R_base ho0) hb); have n3_ := Aside0.mk (Kd.R_elder' (by (with_reducible repeat (first | apply Kd.R_alloc | apply Kd.R_drewN | apply Kd.R_drew)); exact HO180.out) (Kd.R_base ho0) hb); have n4_ := Aside0.mk (Kd.R_elder' (by (with_reducible repeat (first | apply Kd.R_alloc | apply Kd.R_drewN | apply Kd.R_drew)); exact HO183.out) (Kd.R_base ho0) hb); have n5_ := Aside0.mk (Kd.R_elder' (by (with_reducible repeat (first | apply Kd.R_alloc | apply Kd.R_drewN | apply Kd.R_drew)); exact HO186.out) (Kd.R_base ho0) hb); have n6_ := Aside0.mk (Kd.R_elder' (by (with_reducible repeat (first | apply Kd.R_alloc | apply Kd.R_drewN | apply Kd.R_drew)); exact HO189.out) (Kd.R_base ho0) hb); have n7_ := Aside0.mk (Kd.R_elder' (by (with_reducible repeat (first | apply Kd.R_alloc | apply Kd.R_drewN | apply Kd.R_drew)); exact HO193.out) (Kd.R_base ho0) hb); have n8_ := Aside0.mk (Kd.R_elder' (by (with_reducible repeat (first | apply Kd.R_alloc | apply Kd.R_drewN | apply Kd.R_drew)); exact HO196.out) (Kd.R_base ho0) hb); have n9_ := Aside0.mk (Kd.R_lower (Kd.R_new' (Kd.R_new' (Kd.R_new' (Kd.R_new' (Kd.R_new' (Kd.R_new' (Kd.R_new' (Kd.R_new' (Kd.R_new' ho0 (Kd.R_lt (by (with_reducible repeat (first | apply Kd.R_alloc | apply Kd.R_drewN | apply Kd.R_drew)); exact HO170.out))) (Kd.R_lt (by (with_reducible repeat (first | apply Kd.R_alloc | apply Kd.R_drewN | apply Kd.R_drew)); exact HO173.out))) (Kd.R_lt (by (with_reducible repeat (first | apply Kd.R_alloc | apply Kd.R_drewN | apply Kd.R_drew)); exact HO176.out))) (Kd.R_lt (by (with_reducible repeat (first | apply Kd.R_alloc | apply Kd.R_drewN | apply Kd.R_drew)); exact HO180.out))) (Kd.R_lt (by (with_reducible repeat (first | apply Kd.R_alloc | apply Kd.R_drewN | apply Kd.R_drew)); exact HO183.out))) (Kd.R_lt (by (with_reducible repeat (first | apply Kd.R_alloc | apply Kd.R_drewN | apply Kd.R_drew)); exact HO186.out))) (Kd.R_lt (by (with_reducible repeat (first | apply Kd.R_alloc | apply Kd.R_drewN | apply Kd.R_drew)); exact HO189.out))) (Kd.R_lt (by (with_reducible repeat (first | apply Kd.R_alloc | apply Kd.R_drewN | apply Kd.R_drew)); exact HO193.out))) (Kd.R_lt (by (with_reducible repeat (first | apply Kd.R_alloc | apply Kd.R_drewN | apply Kd.R_drew)); exact HO196.out))) (below_size (by repeat (first | (with_reducible first | exact HB.out | apply below_alloc | apply pw_below_drewN | apply below_drew1) | exact HB.out)))); have n10_ := Aside0.mk (below_step (by repeat (first | (with_reducible first | exact HB.out | apply below_alloc | apply pw_below_drewN | apply below_drew1) | exact HB.out)) hb); clear HO170; clear HO173; clear HO176; clear HO180; clear HO183; clear HO186; clear HO189; clear HO193; clear HO196; clear HB; have HO170 := n0_; have HO173 := n1_; have HO176 := n2_; have HO180 := n3_; have HO183 := n4_; have HO186 := n5_; have HO189 := n6_; have HO193 := n7_; have HO196 := n8_; have HO199 := n9_; have HB := n10_; clear n0_ n1_ n2_ n3_ n4_ n5_ n6_ n7_ n8_ n9_ n10_; (try clear hb); (try clear hb2); (try clear hk); (try clear hi); (try clear ho0); obtain ⟨Ao38, co38, eo38⟩ := Kd.R_slice HO196.out; subst eo38; obtain ⟨Ao39, co39, eo39⟩ := Kd.R_slice HO199.out; subst eo39) | (go_at_call 56; clear tok9_; (with_reducible refine (state_Same.calls k _ _ t194 _ _ t197 t200 _ ?side1 ?side2 ?side3 ?side4 A18.out).mono ?_); (case side1 => repeat (first | exact (Kd.R_reads' HO196.out).2.2 | (with_reducible refine Kd.C_alloc ?_ _) | (with_reducible refine Kd.C_drewN ?_ _) | (with_reducible refine Kd.C_drew ?_))); (case side2 => exact (Kd.R_reads' HO196.out).2.1); (case side3 => repeat (first | exact (Kd.R_reads' HO199.out).2.2 | (with_reducible refine Kd.C_alloc ?_ _) | (with_reducible refine Kd.C_drewN ?_ _) | (with_reducible refine Kd.C_drew ?_))); (case side4 => exact (Kd.R_reads' HO199.out).2.1); rintro e w' ⟨rfl, ⟨nd, rfl⟩⟩))
      go_ret
      exact ⟨by first | rfl | (simp [errW_none, errW_some] <;> rfl) | (simp [*, errW_none, errW_some] <;> rfl), by repeat (first | (with_reducible first | exact HB.out | apply below_alloc | apply pw_below_drewN | apply below_drew1) | exact HB.out)⟩
    · replace c14 := Bool.eq_false_iff.mpr c14
      subst c14
      have H1 : (some false) = some r := by rw [if_neg (show ¬ (false = true) by decide)] at H; exact H
      clear H
      have H := H1
      clear H1
      exact absurd ((Option.some.inj H).trans HLAW.out) (by decide)
  · replace c8 := Bool.eq_false_iff.mpr c8
    subst c8
    have H1 : (some false) = some r := by rw [if_neg (show ¬ (false = true) by decide)] at H; exact H
    clear H
    have H := H1
    clear H1
    exact absurd ((Option.some.inj H).trans HLAW.out) (by decide)

/-- THE ONE PURE STATEMENT of heliastlaw13_StateBoth: yours. -/
def heliastlaw13_StateBoth.Pure : Prop := ∀ (l0 : List Int) (l1 : List Int) (l2 : List Int), l0.length ≤ maxLen → l0.length * 1 ≤ 140737488351232 → (∀ x ∈ l0, (Lit.int .u8 x).wf = true) → l1.length ≤ maxLen → l1.length * 1 ≤ 140737488351232 → (∀ x ∈ l1, (Lit.int .u8 x).wf = true) → l2.length ≤ maxLen → l2.length * 1 ≤ 140737488351232 → (∀ x ∈ l2, (Lit.int .u8 x).wf = true) → ∃ k, heliastlaw13_StateBoth.f k l0 l1 l2 = some true
theorem heliastlaw13_StateBoth.walk (P : heliastlaw13_StateBoth.Pure) (a0 : Option Addr) (len0 cap0 : Nat) (z0 : List Int) (a1 : Option Addr) (len1 cap1 : Nat) (z1 : List Int) (a2 : Option Addr) (len2 cap2 : Nat) (z2 : List Int) (w : World) (w0 : (a0 = none ∧ len0 = 0 ∧ cap0 = 0 ∧ z0 = []) ∨ ∃ x, a0 = some x ∧ len0 ≤ cap0 ∧ cap0 ≤ maxLen ∧ z0.length = cap0 ∧ (∀ i, i < z0.length → w.cell? (x.add i) = some (.int .u8 (z0.getD i 0))) ∧ ∀ n ∈ z0, (Lit.int .u8 n).wf = true) (y0 : len0 * 1 ≤ 140737488351232) (w1 : (a1 = none ∧ len1 = 0 ∧ cap1 = 0 ∧ z1 = []) ∨ ∃ x, a1 = some x ∧ len1 ≤ cap1 ∧ cap1 ≤ maxLen ∧ z1.length = cap1 ∧ (∀ i, i < z1.length → w.cell? (x.add i) = some (.int .u8 (z1.getD i 0))) ∧ ∀ n ∈ z1, (Lit.int .u8 n).wf = true) (y1 : len1 * 1 ≤ 140737488351232) (w2 : (a2 = none ∧ len2 = 0 ∧ cap2 = 0 ∧ z2 = []) ∨ ∃ x, a2 = some x ∧ len2 ≤ cap2 ∧ cap2 ≤ maxLen ∧ z2.length = cap2 ∧ (∀ i, i < z2.length → w.cell? (x.add i) = some (.int .u8 (z2.getD i 0))) ∧ ∀ n ∈ z2, (Lit.int .u8 n).wf = true) (y2 : len2 * 1 ≤ 140737488351232) :
    Calls Try.prog 10 #[.slice a0 len0 cap0, .slice a1 len1 cap1, .slice a2 len2 cap2] w fun e w' => e = .returned (.bool true) ∧ Below w.heap.size w w' := by
  obtain ⟨l0, rfl, hr0, hm0, hw0, hc0⟩ := ReadsInt.ofRowC w0
  obtain ⟨l1, rfl, hr1, hm1, hw1, hc1⟩ := ReadsInt.ofRowC w1
  obtain ⟨l2, rfl, hr2, hm2, hw2, hc2⟩ := ReadsInt.ofRowC w2
  obtain ⟨k, h⟩ := P l0 l1 l2 hm0 y0 hw0 hm1 y1 hw1 hm2 y2 hw2
  refine (heliastlaw13_StateBoth.calls k _ _ l0 _ _ l1 _ _ l2 true w (Kd.C_of_reads (d := (0 : Int)) (h1 := fun _ => rfl) hr0) hc0 (Kd.C_of_reads (d := (0 : Int)) (h1 := fun _ => rfl) hr1) hc1 (Kd.C_of_reads (d := (0 : Int)) (h1 := fun _ => rfl) hr2) hc2 h rfl).mono ?_
  rintro e w' ⟨rfl, hd⟩
  exact ⟨rfl, hd⟩

/-! ### pure St0 -/
-- PURE needs heliast/heliastref13.Put needs heliast/state.Put needs heliast/state.Get
open Go.Proofs.He
abbrev En := S62
instance : DecidableEq En := fun a b => decidable_of_iff (a.f0 = b.f0 ∧ a.f1 = b.f1 ∧ a.f2 = b.f2) ⟨fun h => by cases a; cases b; simp_all, fun h => by subst h; exact ⟨rfl, rfl, rfl⟩⟩
/-! states as maps -/
def look (l : List En) (a b : ByteArray) : Option En := l.find? (fun y => decide (y.f0 = a ∧ y.f1 = b))
theorem stGet_look (l : List En) (a b : ByteArray) : stGet l a b = match look l a b with | some y => y.f2 | none => -1 := by
  unfold stGet look
  have : (fun y : En => cmpE ⟨a, b, 0⟩ y == 0) = (fun y : En => decide (y.f0 = a ∧ y.f1 = b)) := by
    funext y
    rw [Bool.eq_iff_iff]
    simp only [beq_iff_eq, cmpE_zero, decide_eq_true_eq]
    exact ⟨fun h => ⟨h.1.symm, h.2.symm⟩, fun h => ⟨h.1.symm, h.2.symm⟩⟩
  rw [this]
  cases l.find? (fun y : En => decide (y.f0 = a ∧ y.f1 = b)) <;> rfl
theorem look_nil (a b : ByteArray) : look [] a b = none := rfl
theorem look_cons (y : En) (l : List En) (a b : ByteArray) : look (y :: l) a b = if y.f0 = a ∧ y.f1 = b then some y else look l a b := by
  unfold look
  rw [List.find?_cons]
  by_cases h : y.f0 = a ∧ y.f1 = b
  · simp [h]
  · simp only [h, decide_false, if_false]
theorem kLt_irrefl (x : En) : ¬ kLt x x := by
  rintro (h | ⟨_, h⟩) <;> exact List.lt_irrefl _ h
theorem kLt_key {x y z : En} (h : kLt x y) (h0 : y.f0 = z.f0) (h1 : y.f1 = z.f1) : kLt x z := by
  unfold kLt at *; rw [← h0, ← h1]; exact h
theorem kLt_key' {x y z : En} (h : kLt y x) (h0 : y.f0 = z.f0) (h1 : y.f1 = z.f1) : kLt z x := by
  unfold kLt at *; rw [← h0, ← h1]; exact h
theorem kLt_tri (x y : En) : kLt x y ∨ (x.f0 = y.f0 ∧ x.f1 = y.f1) ∨ kLt y x := by
  rcases lt_cases x.f0.toList y.f0.toList with h | h | h
  · exact .inl (.inl h)
  · rcases lt_cases x.f1.toList y.f1.toList with g | g | g
    · exact .inl (.inr ⟨h, g⟩)
    · exact .inr (.inl ⟨ba_ext h, ba_ext g⟩)
    · exact .inr (.inr (.inr ⟨h.symm, g⟩))
  · exact .inr (.inr (.inl h))
theorem kLt_ne {x y : En} (h : kLt x y) : ¬ (x.f0 = y.f0 ∧ x.f1 = y.f1) := fun e => kLt_irrefl y (kLt_key' h e.1 e.2)
theorem look_stIns (x : En) (a b : ByteArray) : ∀ l : List En, look (stIns x l) a b = if x.f0 = a ∧ x.f1 = b then some x else look l a b
  | [] => by rw [stIns, look_cons, look_nil]
  | y :: l => by
    rw [stIns]
    split
    · rename_i h
      rw [look_cons, look_stIns x a b l, look_cons]
      by_cases h1 : x.f0 = a ∧ x.f1 = b
      · rw [if_pos h1, if_pos h1]
        have := kLt_ne (cmpE_neg.1 h)
        rw [if_neg (fun e => this ⟨e.1.trans h1.1.symm, e.2.trans h1.2.symm⟩)]
      · rw [if_neg h1, if_neg h1]
    · split
      · rename_i h
        obtain ⟨e0, e1⟩ := cmpE_zero.1 h
        rw [look_cons, look_cons, e0, e1]
        by_cases h1 : x.f0 = a ∧ x.f1 = b
        · rw [if_pos h1, if_pos h1]
        · rw [if_neg h1, if_neg h1, if_neg h1]
      · rw [look_cons]
theorem mem_stIns {x z : En} : ∀ {l : List En}, z ∈ stIns x l → z = x ∨ z ∈ l
  | [], h => by simp [stIns] at h; exact .inl h
  | y :: l, h => by
    rw [stIns] at h
    split at h
    · rcases List.mem_cons.1 h with h | h
      · exact .inr (by rw [h]; exact List.mem_cons_self ..)
      · rcases mem_stIns h with h | h
        · exact .inl h
        · exact .inr (List.mem_cons_of_mem _ h)
    · split at h
      · rcases List.mem_cons.1 h with h | h
        · exact .inl h
        · exact .inr (List.mem_cons_of_mem _ h)
      · rcases List.mem_cons.1 h with h | h
        · exact .inl h
        · exact .inr h
theorem srt_stIns (x : En) : ∀ {l : List En}, srt l → srt (stIns x l)
  | [], _ => by simp [stIns, srt]
  | y :: l, h => by
    obtain ⟨h1, h2⟩ := List.pairwise_cons.1 h
    rw [stIns]
    split
    · rename_i hn
      refine List.pairwise_cons.2 ⟨fun z hz => ?_, srt_stIns x h2⟩
      rcases mem_stIns hz with rfl | hz
      · exact cmpE_neg.1 hn
      · exact h1 z hz
    · split
      · rename_i he
        obtain ⟨e0, e1⟩ := cmpE_zero.1 he
        exact List.pairwise_cons.2 ⟨fun z hz => kLt_key' (h1 z hz) e0 e1, h2⟩
      · rename_i hn he
        have hxy : kLt x y := by
          rcases kLt_tri x y with h | h | h
          · exact h
          · exact absurd (cmpE_zero.2 ⟨h.1.symm, h.2.symm⟩) he
          · exact absurd (cmpE_neg.2 h) hn
        refine List.pairwise_cons.2 ⟨fun z hz => ?_, h⟩
        rcases List.mem_cons.1 hz with rfl | hz
        · exact hxy
        · exact kLt_trans hxy (h1 z hz)
theorem len_stIns (x : En) : ∀ l : List En, (stIns x l).length ≤ l.length + 1
  | [] => by simp [stIns]
  | y :: l => by
    have := len_stIns x l
    rw [stIns]
    split
    · simp; omega
    · split <;> simp
theorem look_above {x : En} : ∀ {l : List En}, (∀ z ∈ l, kLt x z) → look l x.f0 x.f1 = none
  | [], _ => rfl
  | y :: l, h => by
    rw [look_cons, if_neg (fun e => kLt_ne (h y (List.mem_cons_self ..)) ⟨e.1.symm, e.2.symm⟩)]
    exact look_above (fun z hz => h z (List.mem_cons_of_mem _ hz))
theorem look_key {l : List En} {a b : ByteArray} {y : En} (h : look l a b = some y) : y.f0 = a ∧ y.f1 = b := by
  have := List.find?_some h
  simpa using this
theorem look_mem {l : List En} {a b : ByteArray} {y : En} (h : look l a b = some y) : y ∈ l := List.mem_of_find?_eq_some h
theorem mem_look : ∀ {l : List En}, srt l → ∀ {y}, y ∈ l → look l y.f0 y.f1 = some y
  | z :: l, h, y, hy => by
    obtain ⟨h1, h2⟩ := List.pairwise_cons.1 h
    rw [look_cons]
    rcases List.mem_cons.1 hy with rfl | hy
    · rw [if_pos ⟨rfl, rfl⟩]
    · rw [if_neg (kLt_ne (h1 y hy))]
      exact mem_look h2 hy
theorem st_ext : ∀ {a b : List En}, srt a → srt b → (∀ p q, look a p q = look b p q) → a = b
  | [], [], _, _, _ => rfl
  | [], y :: b, _, _, h => by
    have := h y.f0 y.f1
    rw [look_nil, look_cons, if_pos ⟨rfl, rfl⟩] at this
    cases this
  | x :: a, [], _, _, h => by
    have := h x.f0 x.f1
    rw [look_nil, look_cons, if_pos ⟨rfl, rfl⟩] at this
    cases this
  | x :: a, y :: b, ha, hb, h => by
    obtain ⟨a1, a2⟩ := List.pairwise_cons.1 ha
    obtain ⟨b1, b2⟩ := List.pairwise_cons.1 hb
    have hkey : x.f0 = y.f0 ∧ x.f1 = y.f1 := by
      rcases kLt_tri x y with g | g | g
      · have := h x.f0 x.f1
        rw [look_cons, if_pos ⟨rfl, rfl⟩, look_above (x := x) (fun z hz => by
          rcases List.mem_cons.1 hz with rfl | hz
          · exact g
          · exact kLt_trans g (b1 z hz))] at this
        cases this
      · exact g
      · have := h y.f0 y.f1
        rw [look_cons y, if_pos ⟨rfl, rfl⟩, look_above (x := y) (fun z hz => by
          rcases List.mem_cons.1 hz with rfl | hz
          · exact g
          · exact kLt_trans g (a1 z hz))] at this
        cases this
    have hxy : x = y := by
      have := h x.f0 x.f1
      rw [look_cons, if_pos ⟨rfl, rfl⟩, look_cons, if_pos ⟨hkey.1.symm, hkey.2.symm⟩] at this
      exact Option.some.inj this
    subst hxy
    rw [st_ext a2 b2 (fun p q => ?_)]
    have := h p q
    rw [look_cons, look_cons] at this
    by_cases e : x.f0 = p ∧ x.f1 = q
    · rw [← e.1, ← e.2, look_above a1, look_above b1]
    · rwa [if_neg e, if_neg e] at this
def overL (a b : List En) : List En := b.foldl (fun s y => stIns y s) a
theorem srt_overL : ∀ {b a : List En}, srt a → srt (overL a b)
  | [], _, h => h
  | y :: b, a, h => srt_overL (b := b) (srt_stIns y h)
theorem len_overL : ∀ (b a : List En), (overL a b).length ≤ a.length + b.length
  | [], _ => by simp [overL]
  | y :: b, a => by
    have h := len_overL b (stIns y a)
    have := len_stIns y a
    simp only [overL, List.foldl_cons, List.length_cons] at *
    omega
theorem look_overL (p q : ByteArray) : ∀ {b a : List En}, srt b → look (overL a b) p q = (look b p q).or (look a p q)
  | [], a, _ => by simp [overL, look_nil]
  | y :: b, a, h => by
    obtain ⟨h1, h2⟩ := List.pairwise_cons.1 h
    have ih := look_overL p q (b := b) (a := stIns y a) h2
    have e : overL a (y :: b) = overL (stIns y a) b := rfl
    rw [e, ih, look_stIns, look_cons]
    by_cases g : y.f0 = p ∧ y.f1 = q
    · rw [if_pos g, if_pos g, ← g.1, ← g.2, look_above h1]; rfl
    · rw [if_neg g, if_neg g]
theorem srt_nil : srt ([] : List En) := List.Pairwise.nil
/-! the reference's Put -/
def refIns (x : En) : List En → List En
  | [] => [x]
  | y :: l => if 0 ≤ cmpE y x then x :: ((if cmpE y x = 0 then [] else [y]) ++ l.filter (fun z => cmpE z x != 0)) else y :: refIns x l
theorem refIns_eq (x : En) : ∀ {l : List En}, srt l → refIns x l = stIns x l
  | [], _ => rfl
  | y :: l, h => by
    obtain ⟨h1, h2⟩ := List.pairwise_cons.1 h
    rw [refIns, stIns]
    by_cases hn : cmpE y x < 0
    · rw [if_neg (by omega), if_pos hn, refIns_eq x h2]
    · have hf : l.filter (fun z => cmpE z x != 0) = l := by
        rw [List.filter_eq_self]
        intro z hz
        have hyz := h1 z hz
        simp only [bne_iff_ne, ne_eq]
        intro e
        obtain ⟨e0, e1⟩ := cmpE_zero.1 e
        exact hn (cmpE_neg.2 (kLt_key hyz e0 e1))
      rw [if_pos (by omega), if_neg hn, hf]
      by_cases h0 : cmpE y x = 0
      · rw [if_pos h0, if_pos h0]; rfl
      · rw [if_neg h0, if_neg h0]; rfl

end Go.Proofs.Ytobdaiaaejlbkaa.S

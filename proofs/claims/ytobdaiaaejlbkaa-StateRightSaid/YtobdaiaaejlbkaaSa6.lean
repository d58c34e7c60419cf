-- Written by heprint.py (this session's, over the kit's print.py): not trusted, Lean checks it.
import Derived.Test.YtobdaiaaejlbkaaSa0
import Derived.Test.YtobdaiaaejlbkaaSa1
import Derived.Test.YtobdaiaaejlbkaaSa3
import Derived.Test.YtobdaiaaejlbkaaSa4
import Derived.Test.YtobdaiaaejlbkaaSa5
namespace Go.Proofs.Ytobdaiaaejlbkaa.S
open Go.RowKit Go.Proofs.YtobdaiaaejlbkaaW.PrintWords Go.Proofs.YtobdaiaaejlbkaaW.PrintLast Go.Proofs.YtobdaiaaejlbkaaW.PrintMore
attribute [local go_sem] max2_int min2_int max_two min_two max_three min_three max_four min_four   -- for this text's walks alone
set_option linter.unusedVariables false
set_option linter.unusedSimpArgs false

attribute [local go_sem high] eqA62
/-! ### state_Get: function 55 -/
-- GIVEN heliast/state.Get making uses heliast/state.Get$1 uses slices.IndexFunc[[]heliast/api.Entry,heliast/api.Entry]
open Go.Proofs.He
def stGet (l0 : List S62) (a1 a2 : ByteArray) : Int := match l0.find? (fun y => cmpE ⟨a1, a2, 0⟩ y == 0) with | some y => y.f2 | none => -1
theorem stGet_hit {l0 : List S62} {a1 a2 : ByteArray} {i : Int} (h : idxOf (fun y => cmpE ⟨a1, a2, 0⟩ y == 0) l0 = i) (h0 : 0 ≤ i) : i < l0.length ∧ stGet l0 a1 a2 = (rd_T62 l0 i).f2 := by
  subst h
  unfold idxOf at *
  cases hf : l0.findIdx? (fun y => cmpE ⟨a1, a2, 0⟩ y == 0) with
  | none => rw [hf] at h0; simp at h0
  | some i =>
    obtain ⟨hi, h1, h2⟩ := List.findIdx?_eq_some_iff_getElem.1 hf
    have : l0.find? (fun y => cmpE ⟨a1, a2, 0⟩ y == 0) = some l0[i] := by
      rw [List.find?_eq_some_iff_getElem]
      exact ⟨h1, i, hi, rfl, fun j hj => by simpa using h2 j hj⟩
    simp [stGet, this, rd_T62, hi]
theorem stGet_miss {l0 : List S62} {a1 a2 : ByteArray} (h : idxOf (fun y => cmpE ⟨a1, a2, 0⟩ y == 0) l0 < 0) : stGet l0 a1 a2 = -1 := by
  unfold idxOf at *
  cases hf : l0.findIdx? (fun y => cmpE ⟨a1, a2, 0⟩ y == 0) with
  | some i => rw [hf] at h; simp at h; omega
  | none =>
    have : l0.find? (fun y => cmpE ⟨a1, a2, 0⟩ y == 0) = none := by
      rw [List.find?_eq_none]; rw [List.findIdx?_eq_none_iff] at hf
      intro x hx; simpa using hf x hx
    simp [stGet, this]
set_option maxHeartbeats 4000000 in
set_option maxRecDepth 100000 in
theorem state_Get.walk (A0 : Option Addr) (c0 : Nat) (l0 : List S62) (a1 a2 : ByteArray) (w : World) (hr0 : Kd.C k62 w A0 l0.length l0) (hc0 : l0.length ≤ c0) :
    Calls Try.prog 55 #[.slice A0 l0.length c0, .string a1, .string a2] w fun e w' => e = .returned (.int .i64 (stGet l0 a1 a2)) ∧ Below w.heap.size w w' := by
  have hu62 := Try.underlying62
  have HR0 := Aside0.mk hr0
  have hlen : l0.length ≤ 9223372036854775807 := hr0.2.1
  clear hr0
  have HC := Aside0.mk (fun W hb => slices_IndexFunc_Entry.calls 123 #[.pointer (some ⟨w.heap.size, 0, none⟩)] (enters_of Try.func123 (by kernel_rfl) rfl) (fun y => cmpE ⟨a1, a2, 0⟩ y == 0) A0 c0 l0 W hb)
  obtain ⟨i, hi⟩ : ∃ i, i = idxOf (fun y => cmpE ⟨a1, a2, 0⟩ y == 0) l0 := ⟨_, rfl⟩
  rw [← hi] at HC
  have HI := Aside0.mk hi
  clear hi
  go_enter Try.func55, Try.ntmps55
  go_wp2_with fail
  have HB1 := Aside0.mk ((Below.refl w.heap.size w).alloc (Nat.le_refl _) (Obj.cells #[Value.string a1, Value.string a2, Value.int IntKind.i64 0] 62))
  refine (HC.out _ (Kd.C_below HR0.out HB1.out) (fun y W hW => (state_Get_1.calls w.heap.size ⟨a1, a2, 0⟩ y W ?_).mono (fun e W' ⟨he, hb⟩ => ⟨he, below_then hW (by exact hW.size) hb⟩))).mono ?_
  · rw [hW.block _ (by simp)]; exact heap_alloc_new w _
  rintro e w1 ⟨rfl, hb1⟩
  replace HB1 := Aside0.mk (below_then HB1.out (by simp) hb1)
  clear hb1 HC
  by_cases h0 : 0 ≤ i
  · obtain ⟨hlt, hget⟩ := stGet_hit HI.out.symm h0
    obtain ⟨ad, e, hx0, hx1, hx2⟩ := at_T62 HR0.out i h0 hlt
    cases e
    replace hx2 := (HB1.out.cell (World.block_lt_of_cell? w _ hx2)).trans hx2
    clear hx0 hx1
    have HG := Aside0.mk hget
    clear hget
    have hn : ¬ i < 0 := by omega
    go_wp2
    go_ret
    exact ⟨by rw [HG.out]; rfl, HB1.out⟩
  · have hn : i < 0 := by omega
    have HG := Aside0.mk (stGet_miss (by rw [← HI.out]; exact hn))
    go_wp2
    go_ret
    exact ⟨by rw [HG.out]; rfl, HB1.out⟩
def state_Get.f (l0 : List S62) (a1 a2 : ByteArray) : Option Int := some (stGet l0 a1 a2)
theorem state_Get.calls (A0 : Option Addr) (c0 : Nat) (l0 : List S62) (a1 a2 : ByteArray) (r : Int) (w : World) (hr0 : Kd.C k62 w A0 l0.length l0) (hc0 : l0.length ≤ c0) (h : state_Get.f l0 a1 a2 = some r) :
    Calls Try.prog 55 #[.slice A0 l0.length c0, .string a1, .string a2] w fun e w' => e = .returned (.int .i64 r) ∧ Below w.heap.size w w' := by
  obtain rfl := Option.some.inj h
  exact state_Get.walk A0 c0 l0 a1 a2 w hr0 hc0

/-! ### heliastlaw13_known: function 51 -/
def heliastlaw13_known.f (k : Nat)  : Option (Bool) := (some (([(⟨(⟨#[109, 46, 114, 111, 111, 109, 46, 99, 114, 101, 97, 116, 101]⟩ : ByteArray), (⟨#[]⟩ : ByteArray), 0⟩ : S62)] : List (S62)) : List (S62))).bind fun y148 => ((state_Get.f y148 (⟨#[109, 46, 114, 111, 111, 109, 46, 99, 114, 101, 97, 116, 101]⟩ : ByteArray) (⟨#[]⟩ : ByteArray)).bind fun t151 => (if t151 = 0 then ((state_Get.f y148 (⟨#[120]⟩ : ByteArray) (⟨#[]⟩ : ByteArray)).bind fun t152 => (if t152 = (-1) then ((state_Right.f k y148).bind fun t153 => (if t153 = true then ((state_Put.f y148 (⟨#[97]⟩ : ByteArray) (⟨#[]⟩ : ByteArray) 3).bind fun t154 => (some ((t154.length : Int) == 2))) else (some false))) else (some false))) else (some false)))
theorem heliastlaw13_known.mono : ∀ k, LeO (heliastlaw13_known.f k ) (heliastlaw13_known.f (k + 1) ) := by
  intro  k
  unfold heliastlaw13_known.f
  repeat' first
      | (with_reducible exact state_Right.mono _ _)
      | (with_reducible exact LeO.refl _)
      | (with_reducible exact LeO.none _)
      | (with_reducible refine LeO.ite ?_ ?_)
      | (with_reducible refine LeO.bind ?_ (fun _ => ?_))
      | exact state_Right.mono _ _
      | exact LeO.none _
      | refine LeO.ite ?_ ?_
      | refine LeO.bind ?_ (fun _ => ?_)
set_option maxHeartbeats 8000000 in
set_option maxRecDepth 100000 in
theorem heliastlaw13_known.calls (k : Nat)  (r : Bool) (w : World) (h : heliastlaw13_known.f k  = some r) (hlaw : r = true) :
    Calls Try.prog 51 #[] w fun e w' => e = .returned (.bool r) ∧ Below w.heap.size w w' := by
  have hu62 := Try.underlying62
  have HLAW := Aside0.mk hlaw
  clear hlaw
  have HB := Aside0.mk (Below.refl w.heap.size w)
  have H : ((some (([(⟨(⟨#[109, 46, 114, 111, 111, 109, 46, 99, 114, 101, 97, 116, 101]⟩ : ByteArray), (⟨#[]⟩ : ByteArray), 0⟩ : S62)] : List (S62)) : List (S62))).bind fun y148 => ((state_Get.f y148 (⟨#[109, 46, 114, 111, 111, 109, 46, 99, 114, 101, 97, 116, 101]⟩ : ByteArray) (⟨#[]⟩ : ByteArray)).bind fun t151 => (if t151 = 0 then ((state_Get.f y148 (⟨#[120]⟩ : ByteArray) (⟨#[]⟩ : ByteArray)).bind fun t152 => (if t152 = (-1) then ((state_Right.f k y148).bind fun t153 => (if t153 = true then ((state_Put.f y148 (⟨#[97]⟩ : ByteArray) (⟨#[]⟩ : ByteArray) 3).bind fun t154 => (some ((t154.length : Int) == 2))) else (some false))) else (some false))) else (some false)))) = some r := h
  clear h
  obtain ⟨y148, hy148⟩ : ∃ y_ : List (S62), y_ = (([(⟨(⟨#[109, 46, 114, 111, 111, 109, 46, 99, 114, 101, 97, 116, 101]⟩ : ByteArray), (⟨#[]⟩ : ByteArray), 0⟩ : S62)] : List (S62))) := ⟨_, rfl⟩
  replace H : ((state_Get.f y148 (⟨#[109, 46, 114, 111, 111, 109, 46, 99, 114, 101, 97, 116, 101]⟩ : ByteArray) (⟨#[]⟩ : ByteArray)).bind fun t151 => (if t151 = 0 then ((state_Get.f y148 (⟨#[120]⟩ : ByteArray) (⟨#[]⟩ : ByteArray)).bind fun t152 => (if t152 = (-1) then ((state_Right.f k y148).bind fun t153 => (if t153 = true then ((state_Put.f y148 (⟨#[97]⟩ : ByteArray) (⟨#[]⟩ : ByteArray) 3).bind fun t154 => (some ((t154.length : Int) == 2))) else (some false))) else (some false))) else (some false))) = some r := by first | (rw [hy148]; with_reducible exact H) | (have H2_ := (Option.bind_some _ _).symm.trans H; rw [hy148]; with_reducible exact H2_) | (have H2_ := (Option.bind_some _ _).symm.trans H; with_reducible exact H2_) | with_reducible exact H | (rw [hy148]; exact H) | exact H
  have Ny148 := Aside0.mk hy148
  clear hy148
  replace H := Option.bind_eq_some_iff.mp H
  obtain ⟨t151, A10, H⟩ := H
  replace H : (if t151 = 0 then ((state_Get.f y148 (⟨#[120]⟩ : ByteArray) (⟨#[]⟩ : ByteArray)).bind fun t152 => (if t152 = (-1) then ((state_Right.f k y148).bind fun t153 => (if t153 = true then ((state_Put.f y148 (⟨#[97]⟩ : ByteArray) (⟨#[]⟩ : ByteArray) 3).bind fun t154 => (some ((t154.length : Int) == 2))) else (some false))) else (some false))) else (some false)) = some r := H
  have A1 := Aside0.mk A10
  clear A10
  by_cases c2 : t151 = 0
  · rw [if_pos c2] at H
    have c2b0 : (t151 == 0) = true := beq_iff_eq.mpr c2
    have c2b1 : (t151 != 0) = false := bne_eq_false_iff_eq.mpr c2
    clear c2
    replace H := Option.bind_eq_some_iff.mp H
    obtain ⟨t152, A30, H⟩ := H
    replace H : (if t152 = (-1) then ((state_Right.f k y148).bind fun t153 => (if t153 = true then ((state_Put.f y148 (⟨#[97]⟩ : ByteArray) (⟨#[]⟩ : ByteArray) 3).bind fun t154 => (some ((t154.length : Int) == 2))) else (some false))) else (some false)) = some r := H
    have A3 := Aside0.mk A30
    clear A30
    by_cases c4 : t152 = (-1)
    · rw [if_pos c4] at H
      have c4b0 : (t152 == (-1)) = true := beq_iff_eq.mpr c4
      have c4b1 : (t152 != (-1)) = false := bne_eq_false_iff_eq.mpr c4
      clear c4
      replace H := Option.bind_eq_some_iff.mp H
      obtain ⟨t153, A50, H⟩ := H
      replace H : (if t153 = true then ((state_Put.f y148 (⟨#[97]⟩ : ByteArray) (⟨#[]⟩ : ByteArray) 3).bind fun t154 => (some ((t154.length : Int) == 2))) else (some false)) = some r := H
      have A5 := Aside0.mk A50
      clear A50
      by_cases c6 : t153 = true
      · subst c6
        have H1 : ((state_Put.f y148 (⟨#[97]⟩ : ByteArray) (⟨#[]⟩ : ByteArray) 3).bind fun t154 => (some ((t154.length : Int) == 2))) = some r := by rw [if_pos rfl] at H; exact H
        clear H
        have H := H1
        clear H1
        replace H := Option.bind_eq_some_iff.mp H
        obtain ⟨t154, A70, H⟩ := H
        replace H : (some ((t154.length : Int) == 2)) = some r := H
        have A7 := Aside0.mk A70
        clear A70
        obtain rfl := Option.some.inj H
        go_enter Try.func51, Try.ntmps51
        go_wp2_with (first | ((with_reducible refine gate_dst (N := 3) rfl ?_); (try (refine gate_guard (by rfl) ?_; dsimp only)); refine Kd.R_lit k62 _ 62 ?hg (N := 3) ?hd (xs := ([(⟨(⟨#[109, 46, 114, 111, 111, 109, 46, 99, 114, 101, 97, 116, 101]⟩ : ByteArray), (⟨#[]⟩ : ByteArray), 0⟩ : S62)] : List (S62))) (inner := [.string (⟨#[109, 46, 114, 111, 111, 109, 46, 99, 114, 101, 97, 116, 101]⟩ : ByteArray), .string (⟨#[]⟩ : ByteArray), .int .i64 0]) (ok := fun _ => True) (okp := fun _ => True) ?hr ?hp (fun _ hk => hk) trivial (Below.refl _ _) (Nat.le_refl _) (by simp) ?_; (case hd => rfl); (case hg => rfl); (case hr => first | (go_simp; done) | (go_simp; rfl)); (case hp => exact (Reps.c3 (show Kd.M k62 _ _ _ (⟨(⟨#[109, 46, 114, 111, 111, 109, 46, 99, 114, 101, 97, 116, 101]⟩ : ByteArray), (⟨#[]⟩ : ByteArray), 0⟩ : S62) [.string (⟨#[109, 46, 114, 111, 111, 109, 46, 99, 114, 101, 97, 116, 101]⟩ : ByteArray), .string (⟨#[]⟩ : ByteArray), .int .i64 0] from (k62_mkM _ _ _ (⟨(⟨#[109, 46, 114, 111, 111, 109, 46, 99, 114, 101, 97, 116, 101]⟩ : ByteArray), (⟨#[]⟩ : ByteArray), 0⟩ : S62) )) (Reps.none _ _))); intro v149 w8 ho9 hb hg_ hnew_; clear hg_ hnew_; (first | rw [← Ny148.out] at ho9 | (simp only [Int.reduceToNat] at ho9; rw [← Ny148.out] at ho9)); have n0_ := Aside0.mk (Kd.R_lower ho9 (below_size (by repeat (first | (with_reducible first | exact HB.out | apply below_alloc | apply pw_below_drewN | apply below_drew1) | exact HB.out)))); have n1_ := Aside0.mk (below_step (by repeat (first | (with_reducible first | exact HB.out | apply below_alloc | apply pw_below_drewN | apply below_drew1) | exact HB.out)) hb); clear HB; have HO150 := n0_; have HB := n1_; clear n0_ n1_; clear hb ho9; obtain ⟨Ao10, co10, eo10⟩ := Kd.R_slice HO150.out; subst eo10) | ((with_reducible refine gate_callee (f := 55) rfl ?_); refine goesL_ (some 5) rfl rfl Try.func55 (by kernel_rfl) rfl #[.slice Ao10 y148.length co10, .string (⟨#[109, 46, 114, 111, 111, 109, 46, 99, 114, 101, 97, 116, 101]⟩ : ByteArray), .string (⟨#[]⟩ : ByteArray)] rfl (by (try simp only [List.map_toArray, List.map_cons, List.map_nil]); first | done | rfl | (simp only [List.length_drop, List.length_take]; rfl)) ?_; (with_reducible refine (state_Get.calls _ _ y148 (⟨#[109, 46, 114, 111, 111, 109, 46, 99, 114, 101, 97, 116, 101]⟩ : ByteArray) (⟨#[]⟩ : ByteArray) t151 _ ?side1 ?side2 A1.out).mono ?_); (case side1 => repeat (first | exact (Kd.R_reads' HO150.out).2.2 | (with_reducible refine Kd.C_alloc ?_ _) | (with_reducible refine Kd.C_drewN ?_ _) | (with_reducible refine Kd.C_drew ?_))); (case side2 => exact (Kd.R_reads' HO150.out).2.1); rintro e w11 ⟨rfl, hb⟩; refine ⟨_, rfl, ?_⟩; have n0_ := Aside0.mk (Kd.R_below (by (with_reducible repeat (first | apply Kd.R_alloc | apply Kd.R_drewN | apply Kd.R_drew)); exact HO150.out) hb); have n1_ := Aside0.mk (below_step (by repeat (first | (with_reducible first | exact HB.out | apply below_alloc | apply pw_below_drewN | apply below_drew1) | exact HB.out)) hb); clear HO150; clear HB; have HO150 := n0_; have HB := n1_; clear n0_ n1_; (try clear hb); (try clear hb2); (try clear hk); (try clear hi)) | (go_at_call 55; (with_reducible refine (state_Get.calls _ _ y148 (⟨#[120]⟩ : ByteArray) (⟨#[]⟩ : ByteArray) t152 _ ?side1 ?side2 A3.out).mono ?_); (case side1 => repeat (first | exact (Kd.R_reads' HO150.out).2.2 | (with_reducible refine Kd.C_alloc ?_ _) | (with_reducible refine Kd.C_drewN ?_ _) | (with_reducible refine Kd.C_drew ?_))); (case side2 => exact (Kd.R_reads' HO150.out).2.1); rintro e w12 ⟨rfl, hb⟩; have n0_ := Aside0.mk (Kd.R_below (by (with_reducible repeat (first | apply Kd.R_alloc | apply Kd.R_drewN | apply Kd.R_drew)); exact HO150.out) hb); have n1_ := Aside0.mk (below_step (by repeat (first | (with_reducible first | exact HB.out | apply below_alloc | apply pw_below_drewN | apply below_drew1) | exact HB.out)) hb); clear HO150; clear HB; have HO150 := n0_; have HB := n1_; clear n0_ n1_; (try clear hb); (try clear hb2); (try clear hk); (try clear hi)) | (go_at_call 52; (with_reducible refine (state_Right.calls k _ _ y148 true _ ?side1 ?side2 A5.out).mono ?_); (case side1 => repeat (first | exact (Kd.R_reads' HO150.out).2.2 | (with_reducible refine Kd.C_alloc ?_ _) | (with_reducible refine Kd.C_drewN ?_ _) | (with_reducible refine Kd.C_drew ?_))); (case side2 => exact (Kd.R_reads' HO150.out).2.1); rintro e w13 ⟨rfl, hb⟩; have n0_ := Aside0.mk (Kd.R_below (by (with_reducible repeat (first | apply Kd.R_alloc | apply Kd.R_drewN | apply Kd.R_drew)); exact HO150.out) hb); have n1_ := Aside0.mk (below_step (by repeat (first | (with_reducible first | exact HB.out | apply below_alloc | apply pw_below_drewN | apply below_drew1) | exact HB.out)) hb); clear HO150; clear HB; have HO150 := n0_; have HB := n1_; clear n0_ n1_; (try clear hb); (try clear hb2); (try clear hk); (try clear hi)) | (go_at_call 54; (with_reducible refine (state_Put.calls _ _ y148 (⟨#[97]⟩ : ByteArray) (⟨#[]⟩ : ByteArray) 3 t154 _ ?side1 ?side2 A7.out).mono ?_); (case side1 => repeat (first | exact (Kd.R_reads' HO150.out).2.2 | (with_reducible refine Kd.C_alloc ?_ _) | (with_reducible refine Kd.C_drewN ?_ _) | (with_reducible refine Kd.C_drew ?_))); (case side2 => exact (Kd.R_reads' HO150.out).2.1); rintro e w14 ⟨v155, rfl, ho0, hb⟩; have n0_ := Aside0.mk (Kd.R_elder' (by (with_reducible repeat (first | apply Kd.R_alloc | apply Kd.R_drewN | apply Kd.R_drew)); exact HO150.out) (Kd.R_base ho0) hb); have n1_ := Aside0.mk (Kd.R_lower (Kd.R_new' ho0 (Kd.R_lt (by (with_reducible repeat (first | apply Kd.R_alloc | apply Kd.R_drewN | apply Kd.R_drew)); exact HO150.out))) (below_size (by repeat (first | (with_reducible first | exact HB.out | apply below_alloc | apply pw_below_drewN | apply below_drew1) | exact HB.out)))); have n2_ := Aside0.mk (below_step (by repeat (first | (with_reducible first | exact HB.out | apply below_alloc | apply pw_below_drewN | apply below_drew1) | exact HB.out)) hb); clear HO150; clear HB; have HO150 := n0_; have HO156 := n1_; have HB := n2_; clear n0_ n1_ n2_; (try clear hb); (try clear hb2); (try clear hk); (try clear hi); (try clear ho0); obtain ⟨Ao15, co15, eo15⟩ := Kd.R_slice HO156.out; subst eo15))
        go_ret
        exact ⟨by first | rfl | (simp [errW_none, errW_some] <;> rfl) | (simp [*, errW_none, errW_some] <;> rfl), by repeat (first | (with_reducible first | exact HB.out | apply below_alloc | apply pw_below_drewN | apply below_drew1) | exact HB.out)⟩
      · replace c6 := Bool.eq_false_iff.mpr c6
        subst c6
        have H1 : (some false) = some r := by rw [if_neg (show ¬ (false = true) by decide)] at H; exact H
        clear H
        have H := H1
        clear H1
        exact absurd ((Option.some.inj H).trans HLAW.out) (by decide)
    · rw [if_neg c4] at H
      have c4b0 : (t152 == (-1)) = false := beq_eq_false_iff_ne.mpr c4
      have c4b1 : (t152 != (-1)) = true := bne_iff_ne.mpr c4
      exact absurd ((Option.some.inj H).trans HLAW.out) (by decide)
  · rw [if_neg c2] at H
    have c2b0 : (t151 == 0) = false := beq_eq_false_iff_ne.mpr c2
    have c2b1 : (t151 != 0) = true := bne_iff_ne.mpr c2
    exact absurd ((Option.some.inj H).trans HLAW.out) (by decide)

/-! ### heliastref13_Same: function 53 -/
def heliastref13_Same.l0 : Nat → List (S62) → List (S62) → Int → Option (Bool)
  | 0, _, _, _ => none
  | k + 1, x0, x1, x5 => if x5 < (x0.length : Int) then (if 0 ≤ x5 then (if x5 < (x1.length : Int) then (if (!((((rd_T62 x0 x5).f0).toList) == (((rd_T62 x1 x5).f0).toList)) || (!((((rd_T62 x0 x5).f1).toList) == (((rd_T62 x1 x5).f1).toList)) || (!(((rd_T62 x0 x5).f2) == ((rd_T62 x1 x5).f2))))) = true then (some false) else (heliastref13_Same.l0 k x0 x1 (wrap64 (x5 + 1)))) else (none)) else (none)) else (some true)
def heliastref13_Same.f (k : Nat) (l0 : List (S62)) (l1 : List (S62)) : Option (Bool) := if (l0.length : Int) = (l1.length : Int) then (heliastref13_Same.l0 k l0 l1 0) else (some false)
theorem heliastref13_Same.mono_l : ∀ k, (∀ y0 y1 y2, LeO (heliastref13_Same.l0 k y0 y1 y2) (heliastref13_Same.l0 (k + 1) y0 y1 y2))
  | 0 => fun _ _ _ r h => by simp [heliastref13_Same.l0] at h
  | k + 1 => by
    have ih0 := heliastref13_Same.mono_l k
    · intro y0 y1 y2
      unfold heliastref13_Same.l0
      repeat' first
      | (with_reducible exact ih0 _ _ _)
      | (with_reducible exact LeO.refl _)
      | (with_reducible exact LeO.none _)
      | (with_reducible refine LeO.ite ?_ ?_)
      | (with_reducible refine LeO.bind ?_ (fun _ => ?_))
      | exact ih0 _ _ _
      | exact LeO.none _
      | refine LeO.ite ?_ ?_
      | refine LeO.bind ?_ (fun _ => ?_)
theorem heliastref13_Same.mono : ∀ a0 a1 k, LeO (heliastref13_Same.f k a0 a1) (heliastref13_Same.f (k + 1) a0 a1) := by
  intro a0 a1 k
  have ih0 := heliastref13_Same.mono_l k
  unfold heliastref13_Same.f
  repeat' first
      | (with_reducible exact ih0 _ _ _)
      | (with_reducible exact LeO.refl _)
      | (with_reducible exact LeO.none _)
      | (with_reducible refine LeO.ite ?_ ?_)
      | (with_reducible refine LeO.bind ?_ (fun _ => ?_))
      | exact ih0 _ _ _
      | exact LeO.none _
      | refine LeO.ite ?_ ?_
      | refine LeO.bind ?_ (fun _ => ?_)
set_option maxHeartbeats 8000000 in
set_option maxRecDepth 100000 in
theorem heliastref13_Same.calls (k : Nat) (A0 : Option Addr) (c0 : Nat) (l0 : List (S62)) (A1 : Option Addr) (c1 : Nat) (l1 : List (S62)) (r : Bool) (w : World) (hr0 : Kd.C k62 w A0 l0.length l0) (hc0 : l0.length ≤ c0) (hr1 : Kd.C k62 w A1 l1.length l1) (hc1 : l1.length ≤ c1) (h : heliastref13_Same.f k l0 l1 = some r) :
    Calls Try.prog 53 #[.slice A0 l0.length c0, .slice A1 l1.length c1] w fun e w' => e = .returned (.bool r) ∧ Drawn0 w w' := by
  have hu62 := Try.underlying62
  have HR0 := Aside0.mk hr0
  have HC0 := Aside0.mk hc0
  clear hr0 hc0
  have HR1 := Aside0.mk hr1
  have HC1 := Aside0.mk hc1
  clear hr1 hc1
  have H : (if (l0.length : Int) = (l1.length : Int) then (heliastref13_Same.l0 k l0 l1 0) else (some false)) = some r := h
  clear h
  by_cases c3 : (l0.length : Int) = (l1.length : Int)
  · rw [if_pos c3] at H
    have c3b0 : ((l0.length : Int) == (l1.length : Int)) = true := beq_iff_eq.mpr c3
    have c3b1 : ((l0.length : Int) != (l1.length : Int)) = false := bne_eq_false_iff_eq.mpr c3
    have c3b2 : (l0.length == l1.length) = true := by first | simpa using c3 | (simp at c3 ⊢; omega)
    clear c3
    have H' := Aside0.mk H
    clear H
    go_enter Try.func53, Try.ntmps53
    go_wp2
    repeat (go_quiet (fail); try go_wp2)
    go_loopg [5] k (fun kq v5 w' => ∃ (x5_1 : Int), v5 = .int .i64 x5_1 ∧ Aside0 (heliastref13_Same.l0 kq l0 l1 x5_1 = some r) ∧ Aside0 (kq ≤ k) ∧ Drawn0 w w')
    case atStart => exact ⟨(0), (by first | rfl | (simp; done) | (simp [*]; done)), H', ⟨Nat.le_refl _⟩, by repeat (first | exact Drawn0.refl _ | apply Drawn0.step)⟩
    case round =>
      clear H'
      try clear c1
      try clear p2
      try clear c3
      try clear c3b0
      try clear c3b1
      try clear c3b2
      obtain ⟨x5_1, rfl, HA, HK1, ⟨m1, rfl⟩⟩ := hrel
      cases gk with
      | zero => exact absurd HA.out (by simp [heliastref13_Same.l0])
      | succ k1 =>
        have H := HA.out
        clear HA
        simp only [heliastref13_Same.l0] at H
        by_cases c4 : x5_1 < (l0.length : Int)
        · rw [if_pos c4] at H
          have c4b0 : decide (x5_1 < (l0.length : Int)) = true := decide_eq_true c4
          clear c4
          by_cases c5 : 0 ≤ x5_1
          · rw [if_pos c5] at H
            have c5b0 : decide (0 ≤ x5_1) = true := decide_eq_true c5
            clear c5
            by_cases c6 : x5_1 < (l1.length : Int)
            · rw [if_pos c6] at H
              have c6b0 : decide (x5_1 < (l1.length : Int)) = true := decide_eq_true c6
              clear c6
              by_cases c7 : (!((((rd_T62 l0 x5_1).f0).toList) == (((rd_T62 l1 x5_1).f0).toList)) || (!((((rd_T62 l0 x5_1).f1).toList) == (((rd_T62 l1 x5_1).f1).toList)) || (!(((rd_T62 l0 x5_1).f2) == ((rd_T62 l1 x5_1).f2))))) = true
              · rw [if_pos c7] at H
                have c7b0 : (!((((rd_T62 l0 x5_1).f0).toList) == (((rd_T62 l1 x5_1).f0).toList)) || (!((((rd_T62 l0 x5_1).f1).toList) == (((rd_T62 l1 x5_1).f1).toList)) || (!(((rd_T62 l0 x5_1).f2) == ((rd_T62 l1 x5_1).f2))))) = true := c7
                clear c7
                obtain rfl := Option.some.inj H
                have p157 : 0 ≤ (x5_1 : Int) := of_decide_eq_true (by first | (with_reducible assumption) | assumption)
                have q157 : x5_1 < (l0.length : Int) := of_decide_eq_true (by first | (with_reducible assumption) | assumption)
                obtain ⟨ad157, e157, hx157_0, hx157_1, hx157_2⟩ := at_T62 HR0.out x5_1 p157 q157
                cases e157
                replace p157 := eq_true p157
                replace q157 := eq_true q157
                have p158 : 0 ≤ (x5_1 : Int) := of_decide_eq_true (by first | (with_reducible assumption) | assumption)
                have q158 : x5_1 < (l1.length : Int) := of_decide_eq_true (by first | (with_reducible assumption) | assumption)
                obtain ⟨ad158, e158, hx158_0, hx158_1, hx158_2⟩ := at_T62 HR1.out x5_1 p158 q158
                cases e158
                replace p158 := eq_true p158
                replace q158 := eq_true q158
                go_wp2
                repeat (go_quiet (fail); try go_wp2)
                go_ret
                exact ⟨by first | rfl | (simp; done) | (simp [*]; done), by repeat (first | exact Drawn0.refl _ | apply Drawn0.step)⟩
              · rw [if_neg c7] at H
                have c7b0 : (!((((rd_T62 l0 x5_1).f0).toList) == (((rd_T62 l1 x5_1).f0).toList)) || (!((((rd_T62 l0 x5_1).f1).toList) == (((rd_T62 l1 x5_1).f1).toList)) || (!(((rd_T62 l0 x5_1).f2) == ((rd_T62 l1 x5_1).f2))))) = false := by simpa using c7
                clear c7
                have H' := Aside0.mk H
                clear H
                have p157 : 0 ≤ (x5_1 : Int) := of_decide_eq_true (by first | (with_reducible assumption) | assumption)
                have q157 : x5_1 < (l0.length : Int) := of_decide_eq_true (by first | (with_reducible assumption) | assumption)
                obtain ⟨ad157, e157, hx157_0, hx157_1, hx157_2⟩ := at_T62 HR0.out x5_1 p157 q157
                cases e157
                replace p157 := eq_true p157
                replace q157 := eq_true q157
                have p158 : 0 ≤ (x5_1 : Int) := of_decide_eq_true (by first | (with_reducible assumption) | assumption)
                have q158 : x5_1 < (l1.length : Int) := of_decide_eq_true (by first | (with_reducible assumption) | assumption)
                obtain ⟨ad158, e158, hx158_0, hx158_1, hx158_2⟩ := at_T62 HR1.out x5_1 p158 q158
                cases e158
                replace p158 := eq_true p158
                replace q158 := eq_true q158
                go_wp2
                repeat (go_quiet (fail); try go_wp2)
                go_roundg k1
                case measure => have := HK1.out; omega
                case rel => exact ⟨(wrap64 (x5_1 + 1)), (by first | rfl | (simp; done) | (simp [*]; done)), H', ⟨by have := HK1.out; omega⟩, by repeat (first | exact Drawn0.refl _ | apply Drawn0.step)⟩
            · rw [if_neg c6] at H
              exact absurd H (by simp)
          · rw [if_neg c5] at H
            exact absurd H (by simp)
        · rw [if_neg c4] at H
          have c4b0 : decide (x5_1 < (l0.length : Int)) = false := decide_eq_false c4
          clear c4
          obtain rfl := Option.some.inj H
          go_wp2
          repeat (go_quiet (fail); try go_wp2)
          go_ret
          exact ⟨by first | rfl | (simp; done) | (simp [*]; done), by repeat (first | exact Drawn0.refl _ | apply Drawn0.step)⟩
  · rw [if_neg c3] at H
    have c3b0 : ((l0.length : Int) == (l1.length : Int)) = false := beq_eq_false_iff_ne.mpr c3
    have c3b1 : ((l0.length : Int) != (l1.length : Int)) = true := bne_iff_ne.mpr c3
    have c3b2 : (l0.length == l1.length) = false := by first | simpa using c3 | (simp at c3 ⊢; omega)
    obtain rfl := Option.some.inj H
    go_enter Try.func53, Try.ntmps53
    go_wp2
    repeat (go_quiet (fail); try go_wp2)
    go_ret
    exact ⟨by first | rfl | (simp; done) | (simp [*]; done), by repeat (first | exact Drawn0.refl _ | apply Drawn0.step)⟩

/-! ### heliastlaw13_StateRight: function 7 -/
def heliastlaw13_StateRight.f (k : Nat) (l0 : List Int) (a1 : Int) : Option (Bool) := (heliastlaw13_State.f k l0 30).bind fun t159 => (if (t159.length : Int) < 2 then ((heliastlaw13_known.f k).bind fun t162 => (if t162 = true then ((state_Right.f k t159).bind fun t163 => (some t163)) else (some false))) else (if (wrap64 ((t159.length : Int) - 1)) = 0 then (none) else (if ([] : List (S62)).length + t159.length < 3518437208883 then ((some (([] : List (S62)) ++ t159 : List (S62))).bind fun y164 => (if 0 ≤ (wrap64 ((Int.tmod (wrap64 (a1)) (wrap64 ((t159.length : Int) - 1))) + 1)) then (if (wrap64 ((Int.tmod (wrap64 (a1)) (wrap64 ((t159.length : Int) - 1))) + 1)) < (t159.length : Int) then (if 0 ≤ (Int.tmod (wrap64 (a1)) (wrap64 ((t159.length : Int) - 1))) then (if (Int.tmod (wrap64 (a1)) (wrap64 ((t159.length : Int) - 1))) < (t159.length : Int) then (if (Int.tmod (wrap64 (a1)) (wrap64 ((t159.length : Int) - 1))) < (y164.length : Int) then (if (wrap64 ((Int.tmod (wrap64 (a1)) (wrap64 ((t159.length : Int) - 1))) + 1)) < (y164.length : Int) then (if (wrap64 ((Int.tmod (wrap64 (a1)) (wrap64 ((t159.length : Int) - 1))) + 1)) ≤ (t159.length : Int) then ((some (t159.take ((wrap64 ((Int.tmod (wrap64 (a1)) (wrap64 ((t159.length : Int) - 1))) + 1)) : Int).toNat : List (S62))).bind fun y171 => (if ([] : List (S62)).length + y171.length < 3518437208883 then ((some (([] : List (S62)) ++ y171 : List (S62))).bind fun y175 => (if (Int.tmod (wrap64 (a1)) (wrap64 ((t159.length : Int) - 1))) ≤ (t159.length : Int) then ((some (t159.drop ((Int.tmod (wrap64 (a1)) (wrap64 ((t159.length : Int) - 1))) : Int).toNat : List (S62))).bind fun y178 => (if y175.length + y178.length < 3518437208883 then ((heliastlaw13_known.f k).bind fun t185 => (if t185 = true then ((state_Right.f k t159).bind fun t186 => (if t186 = true then ((state_Right.f k ((y164.set ((Int.tmod (wrap64 (a1)) (wrap64 ((t159.length : Int) - 1))) : Int).toNat (⟨(rd_T62 t159 (wrap64 ((Int.tmod (wrap64 (a1)) (wrap64 ((t159.length : Int) - 1))) + 1))).f0, (rd_T62 t159 (wrap64 ((Int.tmod (wrap64 (a1)) (wrap64 ((t159.length : Int) - 1))) + 1))).f1, (rd_T62 t159 (wrap64 ((Int.tmod (wrap64 (a1)) (wrap64 ((t159.length : Int) - 1))) + 1))).f2⟩ : S62)).set ((wrap64 ((Int.tmod (wrap64 (a1)) (wrap64 ((t159.length : Int) - 1))) + 1)) : Int).toNat (⟨(rd_T62 t159 (Int.tmod (wrap64 (a1)) (wrap64 ((t159.length : Int) - 1)))).f0, (rd_T62 t159 (Int.tmod (wrap64 (a1)) (wrap64 ((t159.length : Int) - 1)))).f1, (rd_T62 t159 (Int.tmod (wrap64 (a1)) (wrap64 ((t159.length : Int) - 1)))).f2⟩ : S62))).bind fun t187 => (if t187 = true then (some false) else ((state_Right.f k (y175 ++ y178)).bind fun t188 => (if t188 = true then (some false) else ((state_Right.f k (t159.take ((Int.tmod (wrap64 (a1)) (wrap64 ((t159.length : Int) - 1))) : Int).toNat)).bind fun t193 => (if t193 = true then ((heliastlaw13_State.f k l0 30).bind fun t194 => ((heliastref13_Same.f k t159 t194).bind fun t197 => (some t197))) else (some false))))))) else (some false))) else (some false))) else (none))) else (none))) else (none))) else (none)) else (none)) else (none)) else (none)) else (none)) else (none)) else (none))) else (none))))
theorem heliastlaw13_StateRight.mono : ∀ a0 a1 k, LeO (heliastlaw13_StateRight.f k a0 a1) (heliastlaw13_StateRight.f (k + 1) a0 a1) := by
  intro a0 a1 k
  unfold heliastlaw13_StateRight.f
  repeat' first
      | (with_reducible exact heliastlaw13_State.mono _ _ _)
      | (with_reducible exact heliastlaw13_known.mono _)
      | (with_reducible exact heliastref13_Same.mono _ _ _)
      | (with_reducible exact state_Right.mono _ _)
      | (with_reducible exact LeO.refl _)
      | (with_reducible exact LeO.none _)
      | (with_reducible refine LeO.ite ?_ ?_)
      | (with_reducible refine LeO.bind ?_ (fun _ => ?_))
      | exact heliastlaw13_State.mono _ _ _
      | exact heliastlaw13_known.mono _
      | exact heliastref13_Same.mono _ _ _
      | exact state_Right.mono _ _
      | exact LeO.none _
      | refine LeO.ite ?_ ?_
      | refine LeO.bind ?_ (fun _ => ?_)
def heliastlaw13_StateRight.T7 : Bool × List (List Nat × List Nat) := (true, [([], []), ([], []), ([], []), ([], []), ([3], [3]), ([], []), ([], []), ([6], [6]), ([5, 7], [5, 7]), ([8], [8]), ([], []), ([], []), ([10, 11], [10, 11]), ([12], [12]), ([0, 1, 0, 1, 5, 6, 7, 8, 9, 13], [0, 1]), ([14, 9, 0, 1, 5, 6, 7, 8, 9, 13], [9, 14]), ([2, 4, 0, 1, 2, 3, 4, 5, 6, 7, 8, 9, 10, 11, 12, 13, 14, 15], [2, 4]), ([16, 13, 15, 0, 1, 2, 3, 4, 5, 6, 7, 8, 9, 10, 11, 12, 13, 14, 15], [13, 16])])
def heliastlaw13_StateRight.B7 : List Nat := [0, 0, 0, 0, 8, 0, 0, 64, 224, 480, 0, 0, 3072, 7168, 16355, 32739, 65535, 131071]
theorem heliastlaw13_StateRight.tab7 : rtab .any (opsOf Try.f7 7) = heliastlaw13_StateRight.T7 := by kernel_rfl
theorem heliastlaw13_StateRight.bits7 : waitsOk heliastlaw13_StateRight.T7.2 heliastlaw13_StateRight.B7 = true := by kernel_rfl
set_option maxHeartbeats 8000000 in
set_option maxRecDepth 100000 in
theorem heliastlaw13_StateRight.calls (k : Nat) (A0 : Option Addr) (c0 : Nat) (l0 : List Int) (a1 : Int) (r : Bool) (w : World) (hr0 : Kd.C (Kd.int .u8) w A0 l0.length l0) (hc0 : l0.length ≤ c0) (h : heliastlaw13_StateRight.f k l0 a1 = some r) (hlaw : r = true) :
    Calls Try.prog 7 #[.slice A0 l0.length c0, .int .u8 a1] w fun e w' => e = .returned (.bool r) ∧ Below w.heap.size w w' := by
  have hu62 := Try.underlying62
  have HLAW := Aside0.mk hlaw
  clear hlaw
  have HR0 := Aside0.mk hr0
  have HC0 := Aside0.mk hc0
  clear hr0 hc0
  have HB := Aside0.mk (Below.refl w.heap.size w)
  have H : ((heliastlaw13_State.f k l0 30).bind fun t159 => (if (t159.length : Int) < 2 then ((heliastlaw13_known.f k).bind fun t162 => (if t162 = true then ((state_Right.f k t159).bind fun t163 => (some t163)) else (some false))) else (if (wrap64 ((t159.length : Int) - 1)) = 0 then (none) else (if ([] : List (S62)).length + t159.length < 3518437208883 then ((some (([] : List (S62)) ++ t159 : List (S62))).bind fun y164 => (if 0 ≤ (wrap64 ((Int.tmod (wrap64 (a1)) (wrap64 ((t159.length : Int) - 1))) + 1)) then (if (wrap64 ((Int.tmod (wrap64 (a1)) (wrap64 ((t159.length : Int) - 1))) + 1)) < (t159.length : Int) then (if 0 ≤ (Int.tmod (wrap64 (a1)) (wrap64 ((t159.length : Int) - 1))) then (if (Int.tmod (wrap64 (a1)) (wrap64 ((t159.length : Int) - 1))) < (t159.length : Int) then (if (Int.tmod (wrap64 (a1)) (wrap64 ((t159.length : Int) - 1))) < (y164.length : Int) then (if (wrap64 ((Int.tmod (wrap64 (a1)) (wrap64 ((t159.length : Int) - 1))) + 1)) < (y164.length : Int) then (if (wrap64 ((Int.tmod (wrap64 (a1)) (wrap64 ((t159.length : Int) - 1))) + 1)) ≤ (t159.length : Int) then ((some (t159.take ((wrap64 ((Int.tmod (wrap64 (a1)) (wrap64 ((t159.length : Int) - 1))) + 1)) : Int).toNat : List (S62))).bind fun y171 => (if ([] : List (S62)).length + y171.length < 3518437208883 then ((some (([] : List (S62)) ++ y171 : List (S62))).bind fun y175 => (if (Int.tmod (wrap64 (a1)) (wrap64 ((t159.length : Int) - 1))) ≤ (t159.length : Int) then ((some (t159.drop ((Int.tmod (wrap64 (a1)) (wrap64 ((t159.length : Int) - 1))) : Int).toNat : List (S62))).bind fun y178 => (if y175.length + y178.length < 3518437208883 then ((heliastlaw13_known.f k).bind fun t185 => (if t185 = true then ((state_Right.f k t159).bind fun t186 => (if t186 = true then ((state_Right.f k ((y164.set ((Int.tmod (wrap64 (a1)) (wrap64 ((t159.length : Int) - 1))) : Int).toNat (⟨(rd_T62 t159 (wrap64 ((Int.tmod (wrap64 (a1)) (wrap64 ((t159.length : Int) - 1))) + 1))).f0, (rd_T62 t159 (wrap64 ((Int.tmod (wrap64 (a1)) (wrap64 ((t159.length : Int) - 1))) + 1))).f1, (rd_T62 t159 (wrap64 ((Int.tmod (wrap64 (a1)) (wrap64 ((t159.length : Int) - 1))) + 1))).f2⟩ : S62)).set ((wrap64 ((Int.tmod (wrap64 (a1)) (wrap64 ((t159.length : Int) - 1))) + 1)) : Int).toNat (⟨(rd_T62 t159 (Int.tmod (wrap64 (a1)) (wrap64 ((t159.length : Int) - 1)))).f0, (rd_T62 t159 (Int.tmod (wrap64 (a1)) (wrap64 ((t159.length : Int) - 1)))).f1, (rd_T62 t159 (Int.tmod (wrap64 (a1)) (wrap64 ((t159.length : Int) - 1)))).f2⟩ : S62))).bind fun t187 => (if t187 = true then (some false) else ((state_Right.f k (y175 ++ y178)).bind fun t188 => (if t188 = true then (some false) else ((state_Right.f k (t159.take ((Int.tmod (wrap64 (a1)) (wrap64 ((t159.length : Int) - 1))) : Int).toNat)).bind fun t193 => (if t193 = true then ((heliastlaw13_State.f k l0 30).bind fun t194 => ((heliastref13_Same.f k t159 t194).bind fun t197 => (some t197))) else (some false))))))) else (some false))) else (some false))) else (none))) else (none))) else (none))) else (none)) else (none)) else (none)) else (none)) else (none)) else (none)) else (none))) else (none))))) = some r := h
  clear h
  replace H := Option.bind_eq_some_iff.mp H
  obtain ⟨t159, A30, H⟩ := H
  replace H : (if (t159.length : Int) < 2 then ((heliastlaw13_known.f k).bind fun t162 => (if t162 = true then ((state_Right.f k t159).bind fun t163 => (some t163)) else (some false))) else (if (wrap64 ((t159.length : Int) - 1)) = 0 then (none) else (if ([] : List (S62)).length + t159.length < 3518437208883 then ((some (([] : List (S62)) ++ t159 : List (S62))).bind fun y164 => (if 0 ≤ (wrap64 ((Int.tmod (wrap64 (a1)) (wrap64 ((t159.length : Int) - 1))) + 1)) then (if (wrap64 ((Int.tmod (wrap64 (a1)) (wrap64 ((t159.length : Int) - 1))) + 1)) < (t159.length : Int) then (if 0 ≤ (Int.tmod (wrap64 (a1)) (wrap64 ((t159.length : Int) - 1))) then (if (Int.tmod (wrap64 (a1)) (wrap64 ((t159.length : Int) - 1))) < (t159.length : Int) then (if (Int.tmod (wrap64 (a1)) (wrap64 ((t159.length : Int) - 1))) < (y164.length : Int) then (if (wrap64 ((Int.tmod (wrap64 (a1)) (wrap64 ((t159.length : Int) - 1))) + 1)) < (y164.length : Int) then (if (wrap64 ((Int.tmod (wrap64 (a1)) (wrap64 ((t159.length : Int) - 1))) + 1)) ≤ (t159.length : Int) then ((some (t159.take ((wrap64 ((Int.tmod (wrap64 (a1)) (wrap64 ((t159.length : Int) - 1))) + 1)) : Int).toNat : List (S62))).bind fun y171 => (if ([] : List (S62)).length + y171.length < 3518437208883 then ((some (([] : List (S62)) ++ y171 : List (S62))).bind fun y175 => (if (Int.tmod (wrap64 (a1)) (wrap64 ((t159.length : Int) - 1))) ≤ (t159.length : Int) then ((some (t159.drop ((Int.tmod (wrap64 (a1)) (wrap64 ((t159.length : Int) - 1))) : Int).toNat : List (S62))).bind fun y178 => (if y175.length + y178.length < 3518437208883 then ((heliastlaw13_known.f k).bind fun t185 => (if t185 = true then ((state_Right.f k t159).bind fun t186 => (if t186 = true then ((state_Right.f k ((y164.set ((Int.tmod (wrap64 (a1)) (wrap64 ((t159.length : Int) - 1))) : Int).toNat (⟨(rd_T62 t159 (wrap64 ((Int.tmod (wrap64 (a1)) (wrap64 ((t159.length : Int) - 1))) + 1))).f0, (rd_T62 t159 (wrap64 ((Int.tmod (wrap64 (a1)) (wrap64 ((t159.length : Int) - 1))) + 1))).f1, (rd_T62 t159 (wrap64 ((Int.tmod (wrap64 (a1)) (wrap64 ((t159.length : Int) - 1))) + 1))).f2⟩ : S62)).set ((wrap64 ((Int.tmod (wrap64 (a1)) (wrap64 ((t159.length : Int) - 1))) + 1)) : Int).toNat (⟨(rd_T62 t159 (Int.tmod (wrap64 (a1)) (wrap64 ((t159.length : Int) - 1)))).f0, (rd_T62 t159 (Int.tmod (wrap64 (a1)) (wrap64 ((t159.length : Int) - 1)))).f1, (rd_T62 t159 (Int.tmod (wrap64 (a1)) (wrap64 ((t159.length : Int) - 1)))).f2⟩ : S62))).bind fun t187 => (if t187 = true then (some false) else ((state_Right.f k (y175 ++ y178)).bind fun t188 => (if t188 = true then (some false) else ((state_Right.f k (t159.take ((Int.tmod (wrap64 (a1)) (wrap64 ((t159.length : Int) - 1))) : Int).toNat)).bind fun t193 => (if t193 = true then ((heliastlaw13_State.f k l0 30).bind fun t194 => ((heliastref13_Same.f k t159 t194).bind fun t197 => (some t197))) else (some false))))))) else (some false))) else (some false))) else (none))) else (none))) else (none))) else (none)) else (none)) else (none)) else (none)) else (none)) else (none)) else (none))) else (none)))) = some r := H
  have A3 := Aside0.mk A30
  clear A30
  by_cases c4 : (t159.length : Int) < 2
  · rw [if_pos c4] at H
    have c4b0 : decide ((t159.length : Int) < 2) = true := decide_eq_true c4
    have c4b1 : decide (t159.length < 2) = true := decide_eq_true (by omega)
    clear c4
    replace H := Option.bind_eq_some_iff.mp H
    obtain ⟨t162, A50, H⟩ := H
    replace H : (if t162 = true then ((state_Right.f k t159).bind fun t163 => (some t163)) else (some false)) = some r := H
    have A5 := Aside0.mk A50
    clear A50
    by_cases c6 : t162 = true
    · subst c6
      have H1 : ((state_Right.f k t159).bind fun t163 => (some t163)) = some r := by rw [if_pos rfl] at H; exact H
      clear H
      have H := H1
      clear H1
      replace H := Option.bind_eq_some_iff.mp H
      obtain ⟨t163, A70, H⟩ := H
      replace H : (some t163) = some r := H
      have A7 := Aside0.mk A70
      clear A70
      obtain rfl := Option.some.inj H
      go_enter Try.func7, Try.ntmps7
      go_wp2_with (first | ((with_reducible refine gate_callee (f := 50) rfl ?_); refine goesL_ (some 10) rfl rfl Try.func50 (by kernel_rfl) rfl #[.slice A0 l0.length c0, .int .i64 30] rfl (by (try simp only [List.map_toArray, List.map_cons, List.map_nil]); first | done | rfl | (simp only [List.length_drop, List.length_take]; rfl)) ?_; (with_reducible refine (heliastlaw13_State.calls k _ _ l0 30 t159 _ ?side1 ?side2 A3.out).mono ?_); (case side1 => repeat (first | exact HR0.out | (with_reducible refine Kd.C_alloc ?_ _) | (with_reducible refine Kd.C_drewN ?_ _) | (with_reducible refine Kd.C_drew ?_))); (case side2 => exact HC0.out); rintro e w8 ⟨v160, rfl, ho0, hb⟩; refine ⟨_, rfl, ?_⟩; have n0_ := Aside0.mk (Kd.R_lower ho0 (below_size (by repeat (first | (with_reducible first | exact HB.out | apply below_alloc | apply pw_below_drewN | apply below_drew1) | exact HB.out)))); have n1_ := Aside0.mk (below_step (by repeat (first | (with_reducible first | exact HB.out | apply below_alloc | apply pw_below_drewN | apply below_drew1) | exact HB.out)) hb); clear HB; have HO161 := n0_; have HB := n1_; clear n0_ n1_; (try clear hb); (try clear hb2); (try clear hk); (try clear hi); (try clear ho0); obtain ⟨Ao9, co9, eo9⟩ := Kd.R_slice HO161.out; subst eo9) | ((with_reducible refine gate_callee (f := 51) rfl ?_); refine goesL_ (some 14) rfl rfl Try.func51 (by kernel_rfl) rfl #[] rfl (by (try simp only [List.map_toArray, List.map_cons, List.map_nil]); first | done | rfl | (simp only [List.length_drop, List.length_take]; rfl)) ?_; (with_reducible refine (heliastlaw13_known.calls k  true _ A5.out (by first | rfl | exact HLAW.out)).mono ?_); rintro e w10 ⟨rfl, hb⟩; refine ⟨_, rfl, ?_⟩; have n0_ := Aside0.mk (Kd.R_below (by (with_reducible repeat (first | apply Kd.R_alloc | apply Kd.R_drewN | apply Kd.R_drew)); exact HO161.out) hb); have n1_ := Aside0.mk (below_step (by repeat (first | (with_reducible first | exact HB.out | apply below_alloc | apply pw_below_drewN | apply below_drew1) | exact HB.out)) hb); clear HO161; clear HB; have HO161 := n0_; have HB := n1_; clear n0_ n1_; (try clear hb); (try clear hb2); (try clear hk); (try clear hi)) | (go_at_call 52; (with_reducible refine (state_Right.calls k _ _ t159 t163 _ ?side1 ?side2 A7.out).mono ?_); (case side1 => repeat (first | exact (Kd.R_reads' HO161.out).2.2 | (with_reducible refine Kd.C_alloc ?_ _) | (with_reducible refine Kd.C_drewN ?_ _) | (with_reducible refine Kd.C_drew ?_))); (case side2 => exact (Kd.R_reads' HO161.out).2.1); rintro e w11 ⟨rfl, hb⟩; have n0_ := Aside0.mk (Kd.R_below (by (with_reducible repeat (first | apply Kd.R_alloc | apply Kd.R_drewN | apply Kd.R_drew)); exact HO161.out) hb); have n1_ := Aside0.mk (below_step (by repeat (first | (with_reducible first | exact HB.out | apply below_alloc | apply pw_below_drewN | apply below_drew1) | exact HB.out)) hb); clear HO161; clear HB; have HO161 := n0_; have HB := n1_; clear n0_ n1_; (try clear hb); (try clear hb2); (try clear hk); (try clear hi)))
      go_ret
      exact ⟨by first | rfl | (simp [errW_none, errW_some] <;> rfl) | (simp [*, errW_none, errW_some] <;> rfl), by repeat (first | (with_reducible first | exact HB.out | apply below_alloc | apply pw_below_drewN | apply below_drew1) | exact HB.out)⟩
    · replace c6 := Bool.eq_false_iff.mpr c6
      subst c6
      have H1 : (some false) = some r := by rw [if_neg (show ¬ (false = true) by decide)] at H; exact H
      clear H
      have H := H1
      clear H1
      exact absurd ((Option.some.inj H).trans HLAW.out) (by decide)
  · rw [if_neg c4] at H
    have c4b0 : decide ((t159.length : Int) < 2) = false := decide_eq_false c4
    have c4b1 : decide (t159.length < 2) = false := decide_eq_false (by omega)
    clear c4
    by_cases c12 : (wrap64 ((t159.length : Int) - 1)) = 0
    · rw [if_pos c12] at H
      exact absurd H (by simp)
    · rw [if_neg c12] at H
      have c12b0 : ((wrap64 ((t159.length : Int) - 1)) == 0) = false := beq_eq_false_iff_ne.mpr c12
      have c12b1 : ((wrap64 ((t159.length : Int) - 1)) != 0) = true := bne_iff_ne.mpr c12
      by_cases c13 : ([] : List (S62)).length + t159.length < 3518437208883
      · rw [if_pos c13] at H
        have LMc13 := Aside0.mk c13
        clear c13
        obtain ⟨y164, hy164⟩ : ∃ y_ : List (S62), y_ = (([] : List (S62)) ++ t159) := ⟨_, rfl⟩
        replace H : (if 0 ≤ (wrap64 ((Int.tmod (wrap64 (a1)) (wrap64 ((t159.length : Int) - 1))) + 1)) then (if (wrap64 ((Int.tmod (wrap64 (a1)) (wrap64 ((t159.length : Int) - 1))) + 1)) < (t159.length : Int) then (if 0 ≤ (Int.tmod (wrap64 (a1)) (wrap64 ((t159.length : Int) - 1))) then (if (Int.tmod (wrap64 (a1)) (wrap64 ((t159.length : Int) - 1))) < (t159.length : Int) then (if (Int.tmod (wrap64 (a1)) (wrap64 ((t159.length : Int) - 1))) < (y164.length : Int) then (if (wrap64 ((Int.tmod (wrap64 (a1)) (wrap64 ((t159.length : Int) - 1))) + 1)) < (y164.length : Int) then (if (wrap64 ((Int.tmod (wrap64 (a1)) (wrap64 ((t159.length : Int) - 1))) + 1)) ≤ (t159.length : Int) then ((some (t159.take ((wrap64 ((Int.tmod (wrap64 (a1)) (wrap64 ((t159.length : Int) - 1))) + 1)) : Int).toNat : List (S62))).bind fun y171 => (if ([] : List (S62)).length + y171.length < 3518437208883 then ((some (([] : List (S62)) ++ y171 : List (S62))).bind fun y175 => (if (Int.tmod (wrap64 (a1)) (wrap64 ((t159.length : Int) - 1))) ≤ (t159.length : Int) then ((some (t159.drop ((Int.tmod (wrap64 (a1)) (wrap64 ((t159.length : Int) - 1))) : Int).toNat : List (S62))).bind fun y178 => (if y175.length + y178.length < 3518437208883 then ((heliastlaw13_known.f k).bind fun t185 => (if t185 = true then ((state_Right.f k t159).bind fun t186 => (if t186 = true then ((state_Right.f k ((y164.set ((Int.tmod (wrap64 (a1)) (wrap64 ((t159.length : Int) - 1))) : Int).toNat (⟨(rd_T62 t159 (wrap64 ((Int.tmod (wrap64 (a1)) (wrap64 ((t159.length : Int) - 1))) + 1))).f0, (rd_T62 t159 (wrap64 ((Int.tmod (wrap64 (a1)) (wrap64 ((t159.length : Int) - 1))) + 1))).f1, (rd_T62 t159 (wrap64 ((Int.tmod (wrap64 (a1)) (wrap64 ((t159.length : Int) - 1))) + 1))).f2⟩ : S62)).set ((wrap64 ((Int.tmod (wrap64 (a1)) (wrap64 ((t159.length : Int) - 1))) + 1)) : Int).toNat (⟨(rd_T62 t159 (Int.tmod (wrap64 (a1)) (wrap64 ((t159.length : Int) - 1)))).f0, (rd_T62 t159 (Int.tmod (wrap64 (a1)) (wrap64 ((t159.length : Int) - 1)))).f1, (rd_T62 t159 (Int.tmod (wrap64 (a1)) (wrap64 ((t159.length : Int) - 1)))).f2⟩ : S62))).bind fun t187 => (if t187 = true then (some false) else ((state_Right.f k (y175 ++ y178)).bind fun t188 => (if t188 = true then (some false) else ((state_Right.f k (t159.take ((Int.tmod (wrap64 (a1)) (wrap64 ((t159.length : Int) - 1))) : Int).toNat)).bind fun t193 => (if t193 = true then ((heliastlaw13_State.f k l0 30).bind fun t194 => ((heliastref13_Same.f k t159 t194).bind fun t197 => (some t197))) else (some false))))))) else (some false))) else (some false))) else (none))) else (none))) else (none))) else (none)) else (none)) else (none)) else (none)) else (none)) else (none)) else (none)) = some r := by first | (rw [hy164]; with_reducible exact H) | (have H2_ := (Option.bind_some _ _).symm.trans H; rw [hy164]; with_reducible exact H2_) | (have H2_ := (Option.bind_some _ _).symm.trans H; with_reducible exact H2_) | with_reducible exact H | (rw [hy164]; exact H) | exact H
        have Ny164 := Aside0.mk hy164
        clear hy164
        obtain ⟨ji14, hji14⟩ : ∃ j_ : Int, (wrap64 ((Int.tmod (wrap64 (a1)) (wrap64 ((t159.length : Int) - 1))) + 1)) = j_ := ⟨_, rfl⟩
        replace H : (if 0 ≤ (ji14) then (if (ji14) < (t159.length : Int) then (if 0 ≤ (Int.tmod (wrap64 (a1)) (wrap64 ((t159.length : Int) - 1))) then (if (Int.tmod (wrap64 (a1)) (wrap64 ((t159.length : Int) - 1))) < (t159.length : Int) then (if (Int.tmod (wrap64 (a1)) (wrap64 ((t159.length : Int) - 1))) < (y164.length : Int) then (if (ji14) < (y164.length : Int) then (if (ji14) ≤ (t159.length : Int) then ((some (t159.take ((ji14) : Int).toNat : List (S62))).bind fun y171 => (if ([] : List (S62)).length + y171.length < 3518437208883 then ((some (([] : List (S62)) ++ y171 : List (S62))).bind fun y175 => (if (Int.tmod (wrap64 (a1)) (wrap64 ((t159.length : Int) - 1))) ≤ (t159.length : Int) then ((some (t159.drop ((Int.tmod (wrap64 (a1)) (wrap64 ((t159.length : Int) - 1))) : Int).toNat : List (S62))).bind fun y178 => (if y175.length + y178.length < 3518437208883 then ((heliastlaw13_known.f k).bind fun t185 => (if t185 = true then ((state_Right.f k t159).bind fun t186 => (if t186 = true then ((state_Right.f k ((y164.set ((Int.tmod (wrap64 (a1)) (wrap64 ((t159.length : Int) - 1))) : Int).toNat (⟨(rd_T62 t159 (ji14)).f0, (rd_T62 t159 (ji14)).f1, (rd_T62 t159 (ji14)).f2⟩ : S62)).set ((ji14) : Int).toNat (⟨(rd_T62 t159 (Int.tmod (wrap64 (a1)) (wrap64 ((t159.length : Int) - 1)))).f0, (rd_T62 t159 (Int.tmod (wrap64 (a1)) (wrap64 ((t159.length : Int) - 1)))).f1, (rd_T62 t159 (Int.tmod (wrap64 (a1)) (wrap64 ((t159.length : Int) - 1)))).f2⟩ : S62))).bind fun t187 => (if t187 = true then (some false) else ((state_Right.f k (y175 ++ y178)).bind fun t188 => (if t188 = true then (some false) else ((state_Right.f k (t159.take ((Int.tmod (wrap64 (a1)) (wrap64 ((t159.length : Int) - 1))) : Int).toNat)).bind fun t193 => (if t193 = true then ((heliastlaw13_State.f k l0 30).bind fun t194 => ((heliastref13_Same.f k t159 t194).bind fun t197 => (some t197))) else (some false))))))) else (some false))) else (some false))) else (none))) else (none))) else (none))) else (none)) else (none)) else (none)) else (none)) else (none)) else (none)) else (none)) = some r := by first | (rw [hji14] at H; exact H) | (simp only [hji14] at H ⊢; exact H)
        (try rw [hji14] at A3)
        have hji14w : (IntKind.i64.wrap ((Int.tmod (wrap64 (a1)) (wrap64 ((t159.length : Int) - 1))) + 1)) = ji14 := (i64_w _).trans hji14
        by_cases c15 : 0 ≤ (ji14)
        · rw [if_pos c15] at H
          have c15b0 : decide (0 ≤ (ji14)) = true := decide_eq_true c15
          clear c15
          by_cases c16 : (ji14) < (t159.length : Int)
          · rw [if_pos c16] at H
            have c16b0 : decide ((ji14) < (t159.length : Int)) = true := decide_eq_true c16
            clear c16
            obtain ⟨ji17, hji17⟩ : ∃ j_ : Int, (Int.tmod (wrap64 (a1)) (wrap64 ((t159.length : Int) - 1))) = j_ := ⟨_, rfl⟩
            replace H : (if 0 ≤ (ji17) then (if (ji17) < (t159.length : Int) then (if (ji17) < (y164.length : Int) then (if (ji14) < (y164.length : Int) then (if (ji14) ≤ (t159.length : Int) then ((some (t159.take ((ji14) : Int).toNat : List (S62))).bind fun y171 => (if ([] : List (S62)).length + y171.length < 3518437208883 then ((some (([] : List (S62)) ++ y171 : List (S62))).bind fun y175 => (if (ji17) ≤ (t159.length : Int) then ((some (t159.drop ((ji17) : Int).toNat : List (S62))).bind fun y178 => (if y175.length + y178.length < 3518437208883 then ((heliastlaw13_known.f k).bind fun t185 => (if t185 = true then ((state_Right.f k t159).bind fun t186 => (if t186 = true then ((state_Right.f k ((y164.set ((ji17) : Int).toNat (⟨(rd_T62 t159 (ji14)).f0, (rd_T62 t159 (ji14)).f1, (rd_T62 t159 (ji14)).f2⟩ : S62)).set ((ji14) : Int).toNat (⟨(rd_T62 t159 (ji17)).f0, (rd_T62 t159 (ji17)).f1, (rd_T62 t159 (ji17)).f2⟩ : S62))).bind fun t187 => (if t187 = true then (some false) else ((state_Right.f k (y175 ++ y178)).bind fun t188 => (if t188 = true then (some false) else ((state_Right.f k (t159.take ((ji17) : Int).toNat)).bind fun t193 => (if t193 = true then ((heliastlaw13_State.f k l0 30).bind fun t194 => ((heliastref13_Same.f k t159 t194).bind fun t197 => (some t197))) else (some false))))))) else (some false))) else (some false))) else (none))) else (none))) else (none))) else (none)) else (none)) else (none)) else (none)) else (none)) = some r := by first | (rw [hji17] at H; exact H) | (simp only [hji17] at H ⊢; exact H)
            (try rw [hji17] at A3)
            have hji14zji17 : (wrap64 (ji17 + 1)) = ji14 := by rw [← hji17]; exact hji14
            have hji14yji17 : (IntKind.i64.wrap (ji17 + 1)) = ji14 := (i64_w _).trans hji14zji17
            by_cases c18 : 0 ≤ (ji17)
            · rw [if_pos c18] at H
              have c18b0 : decide (0 ≤ (ji17)) = true := decide_eq_true c18
              clear c18
              by_cases c19 : (ji17) < (t159.length : Int)
              · rw [if_pos c19] at H
                have c19b0 : decide ((ji17) < (t159.length : Int)) = true := decide_eq_true c19
                clear c19
                by_cases c20 : (ji17) < (y164.length : Int)
                · rw [if_pos c20] at H
                  have c20b0 : decide ((ji17) < (y164.length : Int)) = true := decide_eq_true c20
                  clear c20
                  obtain ⟨y169, hy169⟩ : ∃ y_ : List (S62), y_ = (y164.set ((ji17) : Int).toNat (⟨(rd_T62 t159 (ji14)).f0, (rd_T62 t159 (ji14)).f1, (rd_T62 t159 (ji14)).f2⟩ : S62)) := ⟨_, rfl⟩
                  replace H : (if (ji14) < (y164.length : Int) then (if (ji14) ≤ (t159.length : Int) then ((some (t159.take ((ji14) : Int).toNat : List (S62))).bind fun y171 => (if ([] : List (S62)).length + y171.length < 3518437208883 then ((some (([] : List (S62)) ++ y171 : List (S62))).bind fun y175 => (if (ji17) ≤ (t159.length : Int) then ((some (t159.drop ((ji17) : Int).toNat : List (S62))).bind fun y178 => (if y175.length + y178.length < 3518437208883 then ((heliastlaw13_known.f k).bind fun t185 => (if t185 = true then ((state_Right.f k t159).bind fun t186 => (if t186 = true then ((state_Right.f k (y169.set ((ji14) : Int).toNat (⟨(rd_T62 t159 (ji17)).f0, (rd_T62 t159 (ji17)).f1, (rd_T62 t159 (ji17)).f2⟩ : S62))).bind fun t187 => (if t187 = true then (some false) else ((state_Right.f k (y175 ++ y178)).bind fun t188 => (if t188 = true then (some false) else ((state_Right.f k (t159.take ((ji17) : Int).toNat)).bind fun t193 => (if t193 = true then ((heliastlaw13_State.f k l0 30).bind fun t194 => ((heliastref13_Same.f k t159 t194).bind fun t197 => (some t197))) else (some false))))))) else (some false))) else (some false))) else (none))) else (none))) else (none))) else (none)) else (none)) = some r := by first | (rw [hy169]; with_reducible exact H) | (have H2_ := (Option.bind_some _ _).symm.trans H; rw [hy169]; with_reducible exact H2_) | (have H2_ := (Option.bind_some _ _).symm.trans H; with_reducible exact H2_) | with_reducible exact H | (rw [hy169]; exact H) | exact H
                  have Ny169 := Aside0.mk hy169
                  clear hy169
                  by_cases c22 : (ji14) < (y164.length : Int)
                  · rw [if_pos c22] at H
                    have c22b0 : decide ((ji14) < (y164.length : Int)) = true := decide_eq_true c22
                    clear c22
                    obtain ⟨y170, hy170⟩ : ∃ y_ : List (S62), y_ = (y169.set ((ji14) : Int).toNat (⟨(rd_T62 t159 (ji17)).f0, (rd_T62 t159 (ji17)).f1, (rd_T62 t159 (ji17)).f2⟩ : S62)) := ⟨_, rfl⟩
                    replace H : (if (ji14) ≤ (t159.length : Int) then ((some (t159.take ((ji14) : Int).toNat : List (S62))).bind fun y171 => (if ([] : List (S62)).length + y171.length < 3518437208883 then ((some (([] : List (S62)) ++ y171 : List (S62))).bind fun y175 => (if (ji17) ≤ (t159.length : Int) then ((some (t159.drop ((ji17) : Int).toNat : List (S62))).bind fun y178 => (if y175.length + y178.length < 3518437208883 then ((heliastlaw13_known.f k).bind fun t185 => (if t185 = true then ((state_Right.f k t159).bind fun t186 => (if t186 = true then ((state_Right.f k y170).bind fun t187 => (if t187 = true then (some false) else ((state_Right.f k (y175 ++ y178)).bind fun t188 => (if t188 = true then (some false) else ((state_Right.f k (t159.take ((ji17) : Int).toNat)).bind fun t193 => (if t193 = true then ((heliastlaw13_State.f k l0 30).bind fun t194 => ((heliastref13_Same.f k t159 t194).bind fun t197 => (some t197))) else (some false))))))) else (some false))) else (some false))) else (none))) else (none))) else (none))) else (none)) = some r := by first | (rw [hy170]; with_reducible exact H) | (have H2_ := (Option.bind_some _ _).symm.trans H; rw [hy170]; with_reducible exact H2_) | (have H2_ := (Option.bind_some _ _).symm.trans H; with_reducible exact H2_) | with_reducible exact H | (rw [hy170]; exact H) | exact H
                    have Ny170 := Aside0.mk hy170
                    clear hy170
                    have c24b0 := eq_true (of_decide_eq_true (by first | (with_reducible assumption) | assumption) : 0 ≤ (ji14))
                    by_cases c25 : (ji14) ≤ (t159.length : Int)
                    · rw [if_pos c25] at H
                      have c25b0 := eq_true c25
                      have c25b1 : decide ((ji14) ≤ (t159.length : Int)) = true := decide_eq_true c25
                      clear c25
                      obtain ⟨y171, hy171⟩ : ∃ y_ : List (S62), y_ = (t159.take ((ji14) : Int).toNat) := ⟨_, rfl⟩
                      replace H : (if ([] : List (S62)).length + y171.length < 3518437208883 then ((some (([] : List (S62)) ++ y171 : List (S62))).bind fun y175 => (if (ji17) ≤ (t159.length : Int) then ((some (t159.drop ((ji17) : Int).toNat : List (S62))).bind fun y178 => (if y175.length + y178.length < 3518437208883 then ((heliastlaw13_known.f k).bind fun t185 => (if t185 = true then ((state_Right.f k t159).bind fun t186 => (if t186 = true then ((state_Right.f k y170).bind fun t187 => (if t187 = true then (some false) else ((state_Right.f k (y175 ++ y178)).bind fun t188 => (if t188 = true then (some false) else ((state_Right.f k (t159.take ((ji17) : Int).toNat)).bind fun t193 => (if t193 = true then ((heliastlaw13_State.f k l0 30).bind fun t194 => ((heliastref13_Same.f k t159 t194).bind fun t197 => (some t197))) else (some false))))))) else (some false))) else (some false))) else (none))) else (none))) else (none)) = some r := by first | (rw [hy171]; with_reducible exact H) | (have H2_ := (Option.bind_some _ _).symm.trans H; rw [hy171]; with_reducible exact H2_) | (have H2_ := (Option.bind_some _ _).symm.trans H; with_reducible exact H2_) | with_reducible exact H | (rw [hy171]; exact H) | exact H
                      have Ny171 := Aside0.mk hy171
                      clear hy171
                      by_cases c26 : ([] : List (S62)).length + y171.length < 3518437208883
                      · rw [if_pos c26] at H
                        have LMc26 := Aside0.mk c26
                        clear c26
                        obtain ⟨y175, hy175⟩ : ∃ y_ : List (S62), y_ = (([] : List (S62)) ++ y171) := ⟨_, rfl⟩
                        replace H : (if (ji17) ≤ (t159.length : Int) then ((some (t159.drop ((ji17) : Int).toNat : List (S62))).bind fun y178 => (if y175.length + y178.length < 3518437208883 then ((heliastlaw13_known.f k).bind fun t185 => (if t185 = true then ((state_Right.f k t159).bind fun t186 => (if t186 = true then ((state_Right.f k y170).bind fun t187 => (if t187 = true then (some false) else ((state_Right.f k (y175 ++ y178)).bind fun t188 => (if t188 = true then (some false) else ((state_Right.f k (t159.take ((ji17) : Int).toNat)).bind fun t193 => (if t193 = true then ((heliastlaw13_State.f k l0 30).bind fun t194 => ((heliastref13_Same.f k t159 t194).bind fun t197 => (some t197))) else (some false))))))) else (some false))) else (some false))) else (none))) else (none)) = some r := by first | (rw [hy175]; with_reducible exact H) | (have H2_ := (Option.bind_some _ _).symm.trans H; rw [hy175]; with_reducible exact H2_) | (have H2_ := (Option.bind_some _ _).symm.trans H; with_reducible exact H2_) | with_reducible exact H | (rw [hy175]; exact H) | exact H
                        have Ny175 := Aside0.mk hy175
                        clear hy175
                        have c27b0 := eq_true (of_decide_eq_true (by first | (with_reducible assumption) | assumption) : 0 ≤ (ji17))
                        by_cases c28 : (ji17) ≤ (t159.length : Int)
                        · rw [if_pos c28] at H
                          have c28b0 := eq_true c28
                          have c28b1 : decide ((ji17) ≤ (t159.length : Int)) = true := decide_eq_true c28
                          clear c28
                          obtain ⟨y178, hy178⟩ : ∃ y_ : List (S62), y_ = (t159.drop ((ji17) : Int).toNat) := ⟨_, rfl⟩
                          replace H : (if y175.length + y178.length < 3518437208883 then ((heliastlaw13_known.f k).bind fun t185 => (if t185 = true then ((state_Right.f k t159).bind fun t186 => (if t186 = true then ((state_Right.f k y170).bind fun t187 => (if t187 = true then (some false) else ((state_Right.f k (y175 ++ y178)).bind fun t188 => (if t188 = true then (some false) else ((state_Right.f k (t159.take ((ji17) : Int).toNat)).bind fun t193 => (if t193 = true then ((heliastlaw13_State.f k l0 30).bind fun t194 => ((heliastref13_Same.f k t159 t194).bind fun t197 => (some t197))) else (some false))))))) else (some false))) else (some false))) else (none)) = some r := by first | (rw [hy178]; with_reducible exact H) | (have H2_ := (Option.bind_some _ _).symm.trans H; rw [hy178]; with_reducible exact H2_) | (have H2_ := (Option.bind_some _ _).symm.trans H; with_reducible exact H2_) | with_reducible exact H | (rw [hy178]; exact H) | exact H
                          have Ny178 := Aside0.mk hy178
                          clear hy178
                          by_cases c29 : y175.length + y178.length < 3518437208883
                          · rw [if_pos c29] at H
                            have LMc29 := Aside0.mk c29
                            clear c29
                            obtain ⟨y182, hy182⟩ : ∃ y_ : List (S62), y_ = (y175 ++ y178) := ⟨_, rfl⟩
                            replace H : ((heliastlaw13_known.f k).bind fun t185 => (if t185 = true then ((state_Right.f k t159).bind fun t186 => (if t186 = true then ((state_Right.f k y170).bind fun t187 => (if t187 = true then (some false) else ((state_Right.f k y182).bind fun t188 => (if t188 = true then (some false) else ((state_Right.f k (t159.take ((ji17) : Int).toNat)).bind fun t193 => (if t193 = true then ((heliastlaw13_State.f k l0 30).bind fun t194 => ((heliastref13_Same.f k t159 t194).bind fun t197 => (some t197))) else (some false))))))) else (some false))) else (some false))) = some r := by first | (rw [hy182]; with_reducible exact H) | (have H2_ := (Option.bind_some _ _).symm.trans H; rw [hy182]; with_reducible exact H2_) | (have H2_ := (Option.bind_some _ _).symm.trans H; with_reducible exact H2_) | with_reducible exact H | (rw [hy182]; exact H) | exact H
                            have Ny182 := Aside0.mk hy182
                            clear hy182
                            replace H := Option.bind_eq_some_iff.mp H
                            obtain ⟨t185, A300, H⟩ := H
                            replace H : (if t185 = true then ((state_Right.f k t159).bind fun t186 => (if t186 = true then ((state_Right.f k y170).bind fun t187 => (if t187 = true then (some false) else ((state_Right.f k y182).bind fun t188 => (if t188 = true then (some false) else ((state_Right.f k (t159.take ((ji17) : Int).toNat)).bind fun t193 => (if t193 = true then ((heliastlaw13_State.f k l0 30).bind fun t194 => ((heliastref13_Same.f k t159 t194).bind fun t197 => (some t197))) else (some false))))))) else (some false))) else (some false)) = some r := H
                            have A30 := Aside0.mk A300
                            clear A300
                            by_cases c31 : t185 = true
                            · subst c31
                              have H1 : ((state_Right.f k t159).bind fun t186 => (if t186 = true then ((state_Right.f k y170).bind fun t187 => (if t187 = true then (some false) else ((state_Right.f k y182).bind fun t188 => (if t188 = true then (some false) else ((state_Right.f k (t159.take ((ji17) : Int).toNat)).bind fun t193 => (if t193 = true then ((heliastlaw13_State.f k l0 30).bind fun t194 => ((heliastref13_Same.f k t159 t194).bind fun t197 => (some t197))) else (some false))))))) else (some false))) = some r := by rw [if_pos rfl] at H; exact H
                              clear H
                              have H := H1
                              clear H1
                              replace H := Option.bind_eq_some_iff.mp H
                              obtain ⟨t186, A320, H⟩ := H
                              replace H : (if t186 = true then ((state_Right.f k y170).bind fun t187 => (if t187 = true then (some false) else ((state_Right.f k y182).bind fun t188 => (if t188 = true then (some false) else ((state_Right.f k (t159.take ((ji17) : Int).toNat)).bind fun t193 => (if t193 = true then ((heliastlaw13_State.f k l0 30).bind fun t194 => ((heliastref13_Same.f k t159 t194).bind fun t197 => (some t197))) else (some false))))))) else (some false)) = some r := H
                              have A32 := Aside0.mk A320
                              clear A320
                              by_cases c33 : t186 = true
                              · subst c33
                                have H1 : ((state_Right.f k y170).bind fun t187 => (if t187 = true then (some false) else ((state_Right.f k y182).bind fun t188 => (if t188 = true then (some false) else ((state_Right.f k (t159.take ((ji17) : Int).toNat)).bind fun t193 => (if t193 = true then ((heliastlaw13_State.f k l0 30).bind fun t194 => ((heliastref13_Same.f k t159 t194).bind fun t197 => (some t197))) else (some false))))))) = some r := by rw [if_pos rfl] at H; exact H
                                clear H
                                have H := H1
                                clear H1
                                replace H := Option.bind_eq_some_iff.mp H
                                obtain ⟨t187, A340, H⟩ := H
                                replace H : (if t187 = true then (some false) else ((state_Right.f k y182).bind fun t188 => (if t188 = true then (some false) else ((state_Right.f k (t159.take ((ji17) : Int).toNat)).bind fun t193 => (if t193 = true then ((heliastlaw13_State.f k l0 30).bind fun t194 => ((heliastref13_Same.f k t159 t194).bind fun t197 => (some t197))) else (some false)))))) = some r := H
                                have A34 := Aside0.mk A340
                                clear A340
                                by_cases c35 : t187 = true
                                · subst c35
                                  have H1 : (some false) = some r := by rw [if_pos rfl] at H; exact H
                                  clear H
                                  have H := H1
                                  clear H1
                                  exact absurd ((Option.some.inj H).trans HLAW.out) (by decide)
                                · replace c35 := Bool.eq_false_iff.mpr c35
                                  subst c35
                                  have H1 : ((state_Right.f k y182).bind fun t188 => (if t188 = true then (some false) else ((state_Right.f k (t159.take ((ji17) : Int).toNat)).bind fun t193 => (if t193 = true then ((heliastlaw13_State.f k l0 30).bind fun t194 => ((heliastref13_Same.f k t159 t194).bind fun t197 => (some t197))) else (some false))))) = some r := by rw [if_neg (show ¬ (false = true) by decide)] at H; exact H
                                  clear H
                                  have H := H1
                                  clear H1
                                  replace H := Option.bind_eq_some_iff.mp H
                                  obtain ⟨t188, A360, H⟩ := H
                                  replace H : (if t188 = true then (some false) else ((state_Right.f k (t159.take ((ji17) : Int).toNat)).bind fun t193 => (if t193 = true then ((heliastlaw13_State.f k l0 30).bind fun t194 => ((heliastref13_Same.f k t159 t194).bind fun t197 => (some t197))) else (some false)))) = some r := H
                                  have A36 := Aside0.mk A360
                                  clear A360
                                  by_cases c37 : t188 = true
                                  · subst c37
                                    have H1 : (some false) = some r := by rw [if_pos rfl] at H; exact H
                                    clear H
                                    have H := H1
                                    clear H1
                                    exact absurd ((Option.some.inj H).trans HLAW.out) (by decide)
                                  · replace c37 := Bool.eq_false_iff.mpr c37
                                    subst c37
                                    have H1 : ((state_Right.f k (t159.take ((ji17) : Int).toNat)).bind fun t193 => (if t193 = true then ((heliastlaw13_State.f k l0 30).bind fun t194 => ((heliastref13_Same.f k t159 t194).bind fun t197 => (some t197))) else (some false))) = some r := by rw [if_neg (show ¬ (false = true) by decide)] at H; exact H
                                    clear H
                                    have H := H1
                                    clear H1
                                    have c38b0 := eq_true (of_decide_eq_true (by first | (with_reducible assumption) | assumption) : 0 ≤ (ji17))
                                    have c39b0 := eq_true (of_decide_eq_true (by first | (with_reducible assumption) | assumption) : (ji17) ≤ (t159.length : Int))
                                    obtain ⟨y189, hy189⟩ : ∃ y_ : List (S62), y_ = (t159.take ((ji17) : Int).toNat) := ⟨_, rfl⟩
                                    replace H : ((state_Right.f k y189).bind fun t193 => (if t193 = true then ((heliastlaw13_State.f k l0 30).bind fun t194 => ((heliastref13_Same.f k t159 t194).bind fun t197 => (some t197))) else (some false))) = some r := by first | (rw [hy189]; with_reducible exact H) | (have H2_ := (Option.bind_some _ _).symm.trans H; rw [hy189]; with_reducible exact H2_) | (have H2_ := (Option.bind_some _ _).symm.trans H; with_reducible exact H2_) | with_reducible exact H | (rw [hy189]; exact H) | exact H
                                    have Ny189 := Aside0.mk hy189
                                    clear hy189
                                    replace H := Option.bind_eq_some_iff.mp H
                                    obtain ⟨t193, A400, H⟩ := H
                                    replace H : (if t193 = true then ((heliastlaw13_State.f k l0 30).bind fun t194 => ((heliastref13_Same.f k t159 t194).bind fun t197 => (some t197))) else (some false)) = some r := H
                                    have A40 := Aside0.mk A400
                                    clear A400
                                    by_cases c41 : t193 = true
                                    · subst c41
                                      have H1 : ((heliastlaw13_State.f k l0 30).bind fun t194 => ((heliastref13_Same.f k t159 t194).bind fun t197 => (some t197))) = some r := by rw [if_pos rfl] at H; exact H
                                      clear H
                                      have H := H1
                                      clear H1
                                      replace H := Option.bind_eq_some_iff.mp H
                                      obtain ⟨t194, A420, H⟩ := H
                                      replace H : ((heliastref13_Same.f k t159 t194).bind fun t197 => (some t197)) = some r := H
                                      have A42 := Aside0.mk A420
                                      clear A420
                                      replace H := Option.bind_eq_some_iff.mp H
                                      obtain ⟨t197, A430, H⟩ := H
                                      replace H : (some t197) = some r := H
                                      have A43 := Aside0.mk A430
                                      clear A430
                                      obtain rfl := Option.some.inj H
                                      go_enter Try.func7, Try.ntmps7
                                      try go_wp2_with (first | ((with_reducible refine gate_callee (f := 50) rfl ?_); refine goesL_ (some 10) rfl rfl Try.func50 (by kernel_rfl) rfl #[.slice A0 l0.length c0, .int .i64 30] rfl (by (try simp only [List.map_toArray, List.map_cons, List.map_nil]); first | done | rfl | (simp only [List.length_drop, List.length_take]; rfl)) ?_; (with_reducible refine (heliastlaw13_State.calls k _ _ l0 30 t159 _ ?side1 ?side2 A3.out).mono ?_); (case side1 => repeat (first | exact HR0.out | (with_reducible refine Kd.C_alloc ?_ _) | (with_reducible refine Kd.C_drewN ?_ _) | (with_reducible refine Kd.C_drew ?_))); (case side2 => exact HC0.out); rintro e w44 ⟨v160, rfl, ho0, hb⟩; refine ⟨_, rfl, ?_⟩; have n0_ := Aside0.mk (Kd.R_lower ho0 (below_size (by repeat (first | (with_reducible first | exact HB.out | apply below_alloc | apply pw_below_drewN | apply below_drew1) | exact HB.out)))); have n1_ := Aside0.mk (below_step (by repeat (first | (with_reducible first | exact HB.out | apply below_alloc | apply pw_below_drewN | apply below_drew1) | exact HB.out)) hb); clear HB; have HO161 := n0_; have HB := n1_; clear n0_ n1_; (try clear hb); (try clear hb2); (try clear hk); (try clear hi); (try clear ho0); obtain ⟨Ao45, co45, eo45⟩ := Kd.R_slice HO161.out; subst eo45) | ((with_reducible refine gate_builtin (b := .append) (xs := #[.tmp 25, .tmp 26]) rfl ?_); at_builtin; refine Kd.R_append_rows k62 (w0 := w) w.heap.size rfl (.tmp 25) (.tmp 26) 58 62 (.agg #[(.string ⟨#[]⟩), (.string ⟨#[]⟩), (.int .i64 0)]) 40 rfl Try.underlying58 info62 rfl (by decide) (by omega) (.slice none 0 0) ([] : List (S62)) t159 _ _ _ (fun k_ => some k_ ≠ (.slice Ao45 t159.length co45 : Value).ownBlock) (fun _ => False) rfl rfl ?aO ?aR (fun _ _ h => h) (fun _ h => h.elim) ?aF ?aB ?aS ?aL ?_; (case aR => repeat (first | exact (Kd.R_reads' HO161.out).2.2 | (with_reducible refine Kd.C_alloc ?_ _) | (with_reducible refine Kd.C_drewN ?_ _) | (with_reducible refine Kd.C_drew ?_))); (case aB => exact (by repeat (first | (with_reducible first | exact HB.out | apply below_alloc | apply pw_below_drewN | apply below_drew1) | exact HB.out))); (case aF => exact (fun k_ hk => Kd.fresh' (Kd.R_lt (by (with_reducible repeat (first | apply Kd.R_alloc | apply Kd.R_drewN | apply Kd.R_drew)); exact HO161.out)) k_ hk)); (case aO => exact ((Kd.R_nil _ _ _ _ (fun k_ => some k_ ≠ (.slice Ao45 t159.length co45 : Value).ownBlock)))); (case aS => exact (below_size (by repeat (first | (with_reducible first | exact HB.out | apply below_alloc | apply pw_below_drewN | apply below_drew1) | exact HB.out)))); (case aL => have := LMc13.out; omega); intro v165 w46 ho hb hg hat; rw [← Ny164.out] at ho; have n0_ := Aside0.mk (Kd.R_after (Kd.R_apart_nil (by (with_reducible repeat (first | apply Kd.R_alloc | apply Kd.R_drewN | apply Kd.R_drew)); exact HO161.out)) hg hat); have n1_ := Aside0.mk (hb); have n2_ := Aside0.mk (ho); clear HO161; clear HB; have HO161 := n0_; have HB := n1_; have HO166 := n2_; clear n0_ n1_ n2_; clear ho hb hg hat))
                                      have n0_ := Aside0.mk (Kd.R_drew HO161.out)
                                      have n1_ := Aside0.mk (Kd.R_drew HO166.out)
                                      have n2_ := Aside0.mk (below_drew1 HB.out)
                                      clear HO161
                                      clear HO166
                                      clear HB
                                      have HO161 := n0_
                                      have HO166 := n1_
                                      have HB := n2_
                                      clear n0_ n1_ n2_
                                      have p167 : 0 ≤ ((ji14) : Int) := of_decide_eq_true (by first | (with_reducible assumption) | assumption)
                                      have q167 : (ji14) < (t159.length : Int) := of_decide_eq_true (by first | (with_reducible assumption) | assumption)
                                      obtain ⟨ad167, e167, hx167_0, hx167_1, hx167_2⟩ := at_T62 (Kd.R_reads' HO161.out).2.2 (ji14) p167 q167
                                      cases e167
                                      replace p167 := eq_true p167
                                      replace q167 := eq_true q167
                                      have p168 : 0 ≤ ((ji17) : Int) := of_decide_eq_true (by first | (with_reducible assumption) | assumption)
                                      have q168 : (ji17) < (t159.length : Int) := of_decide_eq_true (by first | (with_reducible assumption) | assumption)
                                      obtain ⟨ad168, e168, hx168_0, hx168_1, hx168_2⟩ := at_T62 (Kd.R_reads' HO161.out).2.2 (ji17) p168 q168
                                      obtain rfl : ad167 = ad168 := (by injection e168)
                                      replace p168 := eq_true p168
                                      replace q168 := eq_true q168
                                      have p21 : 0 ≤ ((ji17) : Int) := of_decide_eq_true (by first | (with_reducible assumption) | assumption)
                                      have q21 : ((ji17) : Int) < ((y164.length : Int) : Int) := of_decide_eq_true (by first | (with_reducible assumption) | assumption)
                                      obtain ⟨go21, co21, eo21, gb21, gl21, cl21, HG21⟩ := Kd.R_form HO166.out (by omega)
                                      (first | cases eo21 | (injection eo21 with ea_ en_ ec_; (first | subst ea_ | (injection ea_ with ea_; subst ea_)); subst ec_; clear en_))
                                      have GB21 := Aside0.mk gb21
                                      have GG21 := Aside0.mk HG21
                                      clear gb21 gl21 HG21
                                      obtain ⟨ce21, hcl21, hM21, hcc21, hfr21⟩ := Kd.R_elem HO166.out z62 ((ji17) : Int) p21 q21
                                      obtain rfl := k62_openM hM21
                                      have hx21_0 : World.cell? _ ⟨go21, ((ji17) : Int).toNat * 3, none⟩ = some (.string ((rd_T62 y164 (ji17)).f0)) := hcc21 0 _ rfl
                                      have hx21_1 : World.cell? _ ⟨go21, ((ji17) : Int).toNat * 3 + 1, none⟩ = some (.string ((rd_T62 y164 (ji17)).f1)) := hcc21 1 _ rfl
                                      have hx21_2 : World.cell? _ ⟨go21, ((ji17) : Int).toNat * 3 + 2, none⟩ = some (.int .i64 ((rd_T62 y164 (ji17)).f2)) := hcc21 2 _ rfl
                                      have hf21_0 : World.frozen? _ ⟨go21, ((ji17) : Int).toNat * 3, none⟩ = false := hfr21 0
                                      have hf21_1 : World.frozen? _ ⟨go21, ((ji17) : Int).toNat * 3 + 1, none⟩ = false := hfr21 1
                                      have hf21_2 : World.frozen? _ ⟨go21, ((ji17) : Int).toNat * 3 + 2, none⟩ = false := hfr21 2
                                      clear hcl21 hcc21 hfr21 hM21
                                      replace p21 := eq_true p21
                                      replace q21 := eq_true q21
                                      obtain ⟨ce48, hcl48, hM48, hcc48, hfr48⟩ := Kd.R_elem HO166.out z62 ((ji17) : Int) (of_decide_eq_true (by first | (with_reducible assumption) | assumption)) (by have h_ : ((ji17) : Int) < ((y164.length : Int) : Int) := of_decide_eq_true (by first | (with_reducible assumption) | assumption); first | exact h_ | (have e_ := (Kd.R_reads' HO166.out).1; omega) | simpa using h_)
                                      obtain rfl := k62_openM hM48
                                      have HP48 := (Kd.R_seg HO166.out ((ji17) : Int) (of_decide_eq_true (by first | (with_reducible assumption) | assumption)) (by have h_ : ((ji17) : Int) < ((y164.length : Int) : Int) := of_decide_eq_true (by first | (with_reducible assumption) | assumption); first | exact h_ | (have e_ := (Kd.R_reads' HO166.out).1; omega) | simpa using h_) (seg := [.string ((rd_T62 t159 (ji14)).f0), .string ((rd_T62 t159 (ji14)).f1), .int .i64 ((rd_T62 t159 (ji14)).f2)]) (j := 0) hcl48 hcc48 (show 3 ≤ 3 from by decide) (x' := (⟨(rd_T62 t159 (ji14)).f0, (rd_T62 t159 (ji14)).f1, (rd_T62 t159 (ji14)).f2⟩ : S62)) (k62_mkM _ _ _ (⟨(rd_T62 t159 (ji14)).f0, (rd_T62 t159 (ji14)).f1, (rd_T62 t159 (ji14)).f2⟩ : S62) ) (fun _ hk => hk)).1
                                      rw [← Ny169.out] at HP48
                                      have HQ48 := Aside0.mk HP48
                                      clear hcl48 hcc48 hfr48 hM48 HP48
                                      have p23 : 0 ≤ ((ji14) : Int) := of_decide_eq_true (by first | (with_reducible assumption) | assumption)
                                      have q23 : ((ji14) : Int) < ((y164.length : Int) : Int) := of_decide_eq_true (by first | (with_reducible assumption) | assumption)
                                      obtain ⟨ce23, hcl23, hM23, hcc23, hfr23⟩ := Kd.R_elem HQ48.out z62 ((ji14) : Int) p23 q23
                                      obtain rfl := k62_openM hM23
                                      have hx23_0 : World.cell? _ ⟨go21, ((ji14) : Int).toNat * 3, none⟩ = some (.string ((rd_T62 y169 (ji14)).f0)) := hcc23 0 _ rfl
                                      have hx23_1 : World.cell? _ ⟨go21, ((ji14) : Int).toNat * 3 + 1, none⟩ = some (.string ((rd_T62 y169 (ji14)).f1)) := hcc23 1 _ rfl
                                      have hx23_2 : World.cell? _ ⟨go21, ((ji14) : Int).toNat * 3 + 2, none⟩ = some (.int .i64 ((rd_T62 y169 (ji14)).f2)) := hcc23 2 _ rfl
                                      have hf23_0 : World.frozen? _ ⟨go21, ((ji14) : Int).toNat * 3, none⟩ = false := hfr23 0
                                      have hf23_1 : World.frozen? _ ⟨go21, ((ji14) : Int).toNat * 3 + 1, none⟩ = false := hfr23 1
                                      have hf23_2 : World.frozen? _ ⟨go21, ((ji14) : Int).toNat * 3 + 2, none⟩ = false := hfr23 2
                                      clear hcl23 hcc23 hfr23 hM23
                                      replace p23 := eq_true p23
                                      replace q23 := eq_true q23
                                      obtain ⟨ce49, hcl49, hM49, hcc49, hfr49⟩ := Kd.R_elem HQ48.out z62 ((ji14) : Int) (of_decide_eq_true (by first | (with_reducible assumption) | assumption)) (by have h_ : ((ji14) : Int) < ((y164.length : Int) : Int) := of_decide_eq_true (by first | (with_reducible assumption) | assumption); first | exact h_ | (have e_ := (Kd.R_reads' HO166.out).1; omega) | simpa using h_)
                                      obtain rfl := k62_openM hM49
                                      have HP49 := (Kd.R_seg HQ48.out ((ji14) : Int) (of_decide_eq_true (by first | (with_reducible assumption) | assumption)) (by have h_ : ((ji14) : Int) < ((y164.length : Int) : Int) := of_decide_eq_true (by first | (with_reducible assumption) | assumption); first | exact h_ | (have e_ := (Kd.R_reads' HO166.out).1; omega) | simpa using h_) (seg := [.string ((rd_T62 t159 (ji17)).f0), .string ((rd_T62 t159 (ji17)).f1), .int .i64 ((rd_T62 t159 (ji17)).f2)]) (j := 0) hcl49 hcc49 (show 3 ≤ 3 from by decide) (x' := (⟨(rd_T62 t159 (ji17)).f0, (rd_T62 t159 (ji17)).f1, (rd_T62 t159 (ji17)).f2⟩ : S62)) (k62_mkM _ _ _ (⟨(rd_T62 t159 (ji17)).f0, (rd_T62 t159 (ji17)).f1, (rd_T62 t159 (ji17)).f2⟩ : S62) ) (fun _ hk => hk)).1
                                      rw [← Ny170.out] at HP49
                                      have HQ49 := Aside0.mk HP49
                                      clear hcl49 hcc49 hfr49 hM49 HP49
                                      refine start_ (n := 18) (S := fun w' => w'.cell? (ad167.add (((ji14)).toNat * 3)) = some (.string ((rd_T62 t159 (ji14)).f0)) ∧ w'.cell? ⟨(ad167.add (((ji14)).toNat * 3)).block, (ad167.add (((ji14)).toNat * 3)).off + 1, none⟩ = some (.string ((rd_T62 t159 (ji14)).f1)) ∧ w'.cell? ⟨(ad167.add (((ji14)).toNat * 3)).block, (ad167.add (((ji14)).toNat * 3)).off + 2, none⟩ = some (.int .i64 ((rd_T62 t159 (ji14)).f2)) ∧ w'.cell? (ad167.add (((ji17)).toNat * 3)) = some (.string ((rd_T62 t159 (ji17)).f0)) ∧ w'.cell? ⟨(ad167.add (((ji17)).toNat * 3)).block, (ad167.add (((ji17)).toNat * 3)).off + 1, none⟩ = some (.string ((rd_T62 t159 (ji17)).f1)) ∧ w'.cell? ⟨(ad167.add (((ji17)).toNat * 3)).block, (ad167.add (((ji17)).toNat * 3)).off + 2, none⟩ = some (.int .i64 ((rd_T62 t159 (ji17)).f2))) (ds := [15, 17]) #[false, false, false, false, false, false, false, false, false, false, false, false, false, false, false, false, false, false] (by kernel_rfl) rfl rfl ⟨hx167_0, hx167_1, hx167_2, hx168_0, hx168_1, hx168_2⟩ (fun hHeld => ?_); refine with_tabW heliastlaw13_StateRight.tab7 heliastlaw13_StateRight.bits7 (fun HT_ HW_ => ?_)
                                      generalize w46.drew = w47 at HO161 HO166 HB GG21 HQ48 HQ49 hf21_0 hf21_1 hf21_2 hf23_0 hf23_1 hf23_2 hx167_0 hx167_1 hx167_2 hx168_0 hx168_1 hx168_2 hx21_0 hx21_1 hx21_2 hx23_0 hx23_1 hx23_2 hHeld ⊢
                                      (try simp only [World.setCells, show k62.sz = 3 from rfl, Nat.add_zero, Nat.add_assoc, Nat.reduceAdd] at hf23_0 hf23_1 hf23_2 hx23_0 hx23_1 hx23_2)
                                      (try simp [go_sem] at hf23_0 hf23_1 hf23_2 hx23_0 hx23_1 hx23_2)
                                      refine pure_ (i := 0) (N := some 28) (v := ?_) (a' := ?_) #[true, false, false, false, false, false, false, false, false, false, false, false, false, false, false, false, false, false] rfl rfl (any_of HT_.out (by kernel_rfl)) (fun _ _ _ h => h) (Or.inl ⟨by rfl, ?_⟩) ?_ ?_
                                      rotate_left
                                      · intro w'
                                        go_simp
                                        with_reducible rfl
                                      rotate_left
                                      · simp only [Act.put, List.setIfInBounds_toArray, List.set_cons_zero, List.set_cons_succ, i64_w, i32_w]
                                        rfl
                                      refine pure_ (i := 1) (N := some 29) (v := ?_) (a' := ?_) #[true, true, false, false, false, false, false, false, false, false, false, false, false, false, false, false, false, false] rfl rfl (any_of HT_.out (by kernel_rfl)) (fun _ _ _ h => h) (Or.inl ⟨by rfl, ?_⟩) ?_ ?_
                                      rotate_left
                                      · intro w'
                                        go_simp
                                        with_reducible rfl
                                      rotate_left
                                      · simp only [Act.put, List.setIfInBounds_toArray, List.set_cons_zero, List.set_cons_succ, i64_w, i32_w]
                                        rfl
                                      refine pure_ (i := 2) (N := some 30) (v := ?_) (a' := ?_) #[true, true, true, false, false, false, false, false, false, false, false, false, false, false, false, false, false, false] rfl rfl (any_of HT_.out (by kernel_rfl)) (fun _ _ _ h => h) (Or.inl ⟨by rfl, ?_⟩) ?_ ?_
                                      rotate_left
                                      · intro w'
                                        go_simp
                                        with_reducible rfl
                                      rotate_left
                                      · simp only [Act.put, List.setIfInBounds_toArray, List.set_cons_zero, List.set_cons_succ, i64_w, i32_w]
                                        rfl
                                      refine pure_ (i := 3) (N := some 31) (v := ?_) (a' := ?_) #[true, true, true, true, false, false, false, false, false, false, false, false, false, false, false, false, false, false] rfl rfl (any_of HT_.out (by kernel_rfl)) (fun _ _ _ h => h) (Or.inl ⟨by rfl, ?_⟩) ?_ ?_
                                      rotate_left
                                      · intro w'
                                        go_simp
                                        with_reducible rfl
                                      rotate_left
                                      · simp only [Act.put, List.setIfInBounds_toArray, List.set_cons_zero, List.set_cons_succ, i64_w, i32_w]
                                        rfl
                                      refine pure_ (i := 4) (N := some 32) (v := ?_) (a' := ?_) #[true, true, true, true, true, false, false, false, false, false, false, false, false, false, false, false, false, false] rfl rfl (any_of HT_.out (by kernel_rfl)) (fun _ _ _ h => h) (Or.inl ⟨by rfl, ?_⟩) ?_ ?_
                                      rotate_left
                                      · intro w'
                                        go_simp
                                        with_reducible rfl
                                      rotate_left
                                      · simp only [Act.put, List.setIfInBounds_toArray, List.set_cons_zero, List.set_cons_succ, i64_w, i32_w]
                                        rfl
                                      refine pure_ (i := 5) (N := some 33) (v := ?_) (a' := ?_) #[true, true, true, true, true, true, false, false, false, false, false, false, false, false, false, false, false, false] rfl rfl (any_of HT_.out (by kernel_rfl)) (fun _ _ _ h => h) (Or.inl ⟨by rfl, ?_⟩) ?_ ?_
                                      rotate_left
                                      · intro w'
                                        go_simp
                                        with_reducible rfl
                                      rotate_left
                                      · simp only [Act.put, List.setIfInBounds_toArray, List.set_cons_zero, List.set_cons_succ, i64_w, i32_w]
                                        rfl
                                      refine pure_ (i := 6) (N := some 34) (v := ?_) (a' := ?_) #[true, true, true, true, true, true, true, false, false, false, false, false, false, false, false, false, false, false] rfl rfl (any_of HT_.out (by kernel_rfl)) (fun _ _ _ h => h) (Or.inl ⟨by rfl, ?_⟩) ?_ ?_
                                      rotate_left
                                      · intro w'
                                        go_simp
                                        with_reducible rfl
                                      rotate_left
                                      · simp only [Act.put, List.setIfInBounds_toArray, List.set_cons_zero, List.set_cons_succ, i64_w, i32_w]
                                        rfl
                                      refine pure_ (i := 7) (N := some 35) (v := ?_) (a' := ?_) #[true, true, true, true, true, true, true, true, false, false, false, false, false, false, false, false, false, false] rfl rfl (any_of HT_.out (by kernel_rfl)) (fun _ _ _ h => h) (Or.inl ⟨by rfl, ?_⟩) ?_ ?_
                                      rotate_left
                                      · intro w'
                                        go_simp
                                        with_reducible rfl
                                      rotate_left
                                      · simp only [Act.put, List.setIfInBounds_toArray, List.set_cons_zero, List.set_cons_succ, i64_w, i32_w]
                                        rfl
                                      refine pure_ (i := 8) (N := some 36) (v := ?_) (a' := ?_) #[true, true, true, true, true, true, true, true, true, false, false, false, false, false, false, false, false, false] rfl rfl (any_of HT_.out (by kernel_rfl)) (fun _ _ _ h => h) (Or.inl ⟨by rfl, ?_⟩) ?_ ?_
                                      rotate_left
                                      · intro w'
                                        go_simp
                                        with_reducible rfl
                                      rotate_left
                                      · simp only [Act.put, List.setIfInBounds_toArray, List.set_cons_zero, List.set_cons_succ, i64_w, i32_w]
                                        rfl
                                      refine pure_ (i := 10) (N := some 38) (v := ?_) (a' := ?_) #[true, true, true, true, true, true, true, true, true, false, true, false, false, false, false, false, false, false] rfl rfl (any_of HT_.out (by kernel_rfl)) (fun _ _ _ h => h) (Or.inl ⟨by rfl, ?_⟩) ?_ ?_
                                      rotate_left
                                      · intro w'
                                        go_simp
                                        with_reducible rfl
                                      rotate_left
                                      · simp only [Act.put, List.setIfInBounds_toArray, List.set_cons_zero, List.set_cons_succ, i64_w, i32_w]
                                        rfl
                                      refine pure_ (i := 11) (N := some 39) (v := ?_) (a' := ?_) #[true, true, true, true, true, true, true, true, true, false, true, true, false, false, false, false, false, false] rfl rfl (any_of HT_.out (by kernel_rfl)) (fun _ _ _ h => h) (Or.inl ⟨by rfl, ?_⟩) ?_ ?_
                                      rotate_left
                                      · intro w'
                                        go_simp
                                        with_reducible rfl
                                      rotate_left
                                      · simp only [Act.put, List.setIfInBounds_toArray, List.set_cons_zero, List.set_cons_succ, i64_w, i32_w]
                                        rfl
                                      refine pure_ (i := 12) (N := some 40) (v := ?_) (a' := ?_) #[true, true, true, true, true, true, true, true, true, false, true, true, true, false, false, false, false, false] rfl rfl (any_of HT_.out (by kernel_rfl)) (fun _ _ _ h => h) (Or.inl ⟨by rfl, ?_⟩) ?_ ?_
                                      rotate_left
                                      · intro w'
                                        go_simp
                                        with_reducible rfl
                                      rotate_left
                                      · simp only [Act.put, List.setIfInBounds_toArray, List.set_cons_zero, List.set_cons_succ, i64_w, i32_w]
                                        rfl
                                      refine take_ (i := 9) (N := some 37) (v := ?_) (a' := ?_) #[true, true, true, true, true, true, true, true, true, true, true, true, true, false, false, false, false, false] rfl rfl (take_ofW HT_.out HW_.out (by kernel_rfl)) (fun _ _ _ h => h) (Or.inl ⟨by rfl, ?_⟩) hHeld ?_ ?_
                                      rotate_left
                                      · rintro w' ⟨s0, s1, s2, s3, s4, s5⟩
                                        go_simp
                                        with_reducible rfl
                                      rotate_left
                                      · simp only [Act.put, List.setIfInBounds_toArray, List.set_cons_zero, List.set_cons_succ, i64_w, i32_w]
                                        rfl
                                      refine take_ (i := 13) (N := some 41) (v := ?_) (a' := ?_) #[true, true, true, true, true, true, true, true, true, true, true, true, true, true, false, false, false, false] rfl rfl (take_ofW HT_.out HW_.out (by kernel_rfl)) (fun _ _ _ h => h) (Or.inl ⟨by rfl, ?_⟩) hHeld ?_ ?_
                                      rotate_left
                                      · rintro w' ⟨s0, s1, s2, s3, s4, s5⟩
                                        go_simp
                                        with_reducible rfl
                                      rotate_left
                                      · simp only [Act.put, List.setIfInBounds_toArray, List.set_cons_zero, List.set_cons_succ, i64_w, i32_w]
                                        rfl
                                      refine pure_ (i := 14) (N := some 42) (v := ?_) (a' := ?_) #[true, true, true, true, true, true, true, true, true, true, true, true, true, true, true, false, false, false] rfl rfl (any_of HT_.out (by kernel_rfl)) (fun _ _ _ h => h) (Or.inl ⟨by rfl, ?_⟩) ?_ ?_
                                      rotate_left
                                      · intro w'
                                        go_simp
                                        with_reducible rfl
                                      rotate_left
                                      · simp only [Act.put, List.setIfInBounds_toArray, List.set_cons_zero, List.set_cons_succ, i64_w, i32_w]
                                        rfl
                                      refine last_ (i := 15) (N := none) #[true, true, true, true, true, true, true, true, true, true, true, true, true, true, true, true, false, false] rfl rfl (one_of HT_.out (by kernel_rfl)) (by decide) (fun K hK => ?_)
                                      refine skip_ (w1 := ?_) (by rfl) rfl ?_ ?_
                                      rotate_left
                                      · go_simp
                                        rfl
                                      refine hK.out _ _ ?_
                                      clear hK K
                                      refine pure_ (i := 16) (N := some 43) (v := ?_) (a' := ?_) #[true, true, true, true, true, true, true, true, true, true, true, true, true, true, true, true, true, false] rfl rfl (any_of HT_.out (by kernel_rfl)) (fun _ _ _ h => h) (Or.inl ⟨by rfl, ?_⟩) ?_ ?_
                                      rotate_left
                                      · intro w'
                                        go_simp
                                        with_reducible rfl
                                      rotate_left
                                      · simp only [Act.put, List.setIfInBounds_toArray, List.set_cons_zero, List.set_cons_succ, i64_w, i32_w]
                                        rfl
                                      refine last_ (i := 17) (N := none) #[true, true, true, true, true, true, true, true, true, true, true, true, true, true, true, true, true, true] rfl rfl (one_of HT_.out (by kernel_rfl)) (by decide) (fun K hK => ?_)
                                      refine skip_ (w1 := ?_) (by rfl) rfl ?_ ?_
                                      rotate_left
                                      · go_simp
                                        rfl
                                      refine hK.out _ _ ?_
                                      clear hK K
                                      refine done_ (done_of HT_.out (by kernel_rfl)) ?_
                                      have n0_ : Aside0 (Kd.R k62 62 ((((((w47.setCell ⟨go21, ((ji17) : Int).toNat * 3, none⟩ (.string ((rd_T62 t159 (ji14)).f0))).setCell ⟨go21, ((ji17) : Int).toNat * 3 + 1, none⟩ (.string ((rd_T62 t159 (ji14)).f1))).setCell ⟨go21, ((ji17) : Int).toNat * 3 + 2, none⟩ (.int .i64 ((rd_T62 t159 (ji14)).f2))).setCell ⟨go21, ((ji14) : Int).toNat * 3, none⟩ (.string ((rd_T62 t159 (ji17)).f0))).setCell ⟨go21, ((ji14) : Int).toNat * 3 + 1, none⟩ (.string ((rd_T62 t159 (ji17)).f1))).setCell ⟨go21, ((ji14) : Int).toNat * 3 + 2, none⟩ (.int .i64 ((rd_T62 t159 (ji17)).f2))) w.heap.size (fun k_ => some k_ ≠ (.slice (some ⟨go21, 0, none⟩) y164.length co21 : Value).ownBlock) (.slice (some ad167) t159.length co45) t159) := ⟨by (with_reducible repeat (first | apply Kd.R_alloc | apply Kd.R_drewN | apply Kd.R_drew)); exact Kd.R_mono (Kd.R_far (p := ⟨go21, ((ji14) : Int).toNat * 3 + 2, none⟩) (Kd.R_far (p := ⟨go21, ((ji14) : Int).toNat * 3 + 1, none⟩) (Kd.R_far (p := ⟨go21, ((ji14) : Int).toNat * 3, none⟩) (Kd.R_far (p := ⟨go21, ((ji17) : Int).toNat * 3 + 2, none⟩) (Kd.R_far (p := ⟨go21, ((ji17) : Int).toNat * 3 + 1, none⟩) (Kd.R_far (p := ⟨go21, ((ji17) : Int).toNat * 3, none⟩) (Kd.R_mono HO161.out (fun k_ hk => (⟨hk, fun e_ => hk.2 (by rw [e_]; rfl)⟩ : _ ∧ k_ ≠ go21))) (fun _ hk => hk.2) (.string ((rd_T62 t159 (ji14)).f0))) (fun _ hk => hk.2) (.string ((rd_T62 t159 (ji14)).f1))) (fun _ hk => hk.2) (.int .i64 ((rd_T62 t159 (ji14)).f2))) (fun _ hk => hk.2) (.string ((rd_T62 t159 (ji17)).f0))) (fun _ hk => hk.2) (.string ((rd_T62 t159 (ji17)).f1))) (fun _ hk => hk.2) (.int .i64 ((rd_T62 t159 (ji17)).f2))) (fun _ hk => hk.1.2)⟩
                                      have n1_ : Aside0 (Kd.R k62 62 ((((((w47.setCell ⟨go21, ((ji17) : Int).toNat * 3, none⟩ (.string ((rd_T62 t159 (ji14)).f0))).setCell ⟨go21, ((ji17) : Int).toNat * 3 + 1, none⟩ (.string ((rd_T62 t159 (ji14)).f1))).setCell ⟨go21, ((ji17) : Int).toNat * 3 + 2, none⟩ (.int .i64 ((rd_T62 t159 (ji14)).f2))).setCell ⟨go21, ((ji14) : Int).toNat * 3, none⟩ (.string ((rd_T62 t159 (ji17)).f0))).setCell ⟨go21, ((ji14) : Int).toNat * 3 + 1, none⟩ (.string ((rd_T62 t159 (ji17)).f1))).setCell ⟨go21, ((ji14) : Int).toNat * 3 + 2, none⟩ (.int .i64 ((rd_T62 t159 (ji17)).f2))) w.heap.size (fun k_ => some k_ ≠ (.slice (some ad167) t159.length co45 : Value).ownBlock) (.slice (some ⟨go21, 0, none⟩) y164.length co21) y170) := ⟨by (with_reducible repeat (first | apply Kd.R_alloc | apply Kd.R_drewN | apply Kd.R_drew)); exact HQ49.out⟩
                                      have n2_ : Aside0 (Below w.heap.size w ((((((w47.setCell ⟨go21, ((ji17) : Int).toNat * 3, none⟩ (.string ((rd_T62 t159 (ji14)).f0))).setCell ⟨go21, ((ji17) : Int).toNat * 3 + 1, none⟩ (.string ((rd_T62 t159 (ji14)).f1))).setCell ⟨go21, ((ji17) : Int).toNat * 3 + 2, none⟩ (.int .i64 ((rd_T62 t159 (ji14)).f2))).setCell ⟨go21, ((ji14) : Int).toNat * 3, none⟩ (.string ((rd_T62 t159 (ji17)).f0))).setCell ⟨go21, ((ji14) : Int).toNat * 3 + 1, none⟩ (.string ((rd_T62 t159 (ji17)).f1))).setCell ⟨go21, ((ji14) : Int).toNat * 3 + 2, none⟩ (.int .i64 ((rd_T62 t159 (ji17)).f2)))) := ⟨by repeat (first | (with_reducible first | exact HB.out | apply below_alloc | apply pw_below_drewN | apply below_drew1 | refine below_set ?_ GB21.out | refine below_set ?_ GB21.out | refine below_set ?_ GB21.out | refine below_set ?_ GB21.out | refine below_set ?_ GB21.out | refine below_set ?_ GB21.out) | exact HB.out)⟩
                                      (try clear HO161)
                                      (try clear HO166)
                                      (try clear HB)
                                      generalize ((((((w47.setCell ⟨go21, ((ji17) : Int).toNat * 3, none⟩ (.string ((rd_T62 t159 (ji14)).f0))).setCell ⟨go21, ((ji17) : Int).toNat * 3 + 1, none⟩ (.string ((rd_T62 t159 (ji14)).f1))).setCell ⟨go21, ((ji17) : Int).toNat * 3 + 2, none⟩ (.int .i64 ((rd_T62 t159 (ji14)).f2))).setCell ⟨go21, ((ji14) : Int).toNat * 3, none⟩ (.string ((rd_T62 t159 (ji17)).f0))).setCell ⟨go21, ((ji14) : Int).toNat * 3 + 1, none⟩ (.string ((rd_T62 t159 (ji17)).f1))).setCell ⟨go21, ((ji14) : Int).toNat * 3 + 2, none⟩ (.int .i64 ((rd_T62 t159 (ji17)).f2))) = w50 at n0_ n1_ n2_ ⊢
                                      have HO161 := n0_
                                      have HO166 := n1_
                                      have HB := n2_
                                      clear n0_ n1_ n2_
                                      have q51 : ((ji14) : Int) ≤ ((t159.length : Int) : Int) := of_decide_eq_true (by first | (with_reducible assumption) | assumption)
                                      obtain ⟨i051, hi051, _, hsz51, _⟩ := info_parts info62
                                      have hroom51 : t159.length ≤ co45 := (Kd.R_reads' HO161.out).2.1
                                      have hC51 : Kd.C k62 _ (some ad167) t159.length t159 := (Kd.R_reads' HO161.out).2.2
                                      have hcut51 := cut_to (P := Try.prog) 58 62 .i64 Try.underlying58 hi051 (some ad167) t159.length co45 (ji14) (of_decide_eq_true (by first | (with_reducible assumption) | assumption)) q51 hroom51
                                      have hr51 := Kd.C_take (m := ((ji14) : Int).toNat) hC51 (by omega)
                                      have hy51 : y171.length = ((ji14) : Int).toNat := (by rw [Ny171.out, List.length_take]; omega)
                                      rw [← Ny171.out] at hr51
                                      rw [← hy51] at hcut51
                                      have HR174 := Aside0.mk hr51
                                      have HC174 := Aside0.mk (show y171.length ≤ co45 from by omega)
                                      clear hr51 hC51 hroom51 hi051 hsz51
                                      have KY51 := Aside0.mk hy51
                                      clear hy51
                                      have KL51 := Aside0.mk (show ((ji14) : Int).toNat ≤ t159.length from by omega)
                                      replace q51 := eq_true q51
                                      have tok1_ : True := trivial
                                      have tok2_ : True := trivial
                                      have tok3_ : True := trivial
                                      have tok4_ : True := trivial
                                      try go_wp2_with (first | ((with_reducible refine gate_builtin (b := .append) (xs := #[.tmp 44, .tmp 48]) rfl ?_); at_builtin; refine Kd.R_append_rows k62 (w0 := w) w.heap.size rfl (.tmp 44) (.tmp 48) 58 62 (.agg #[(.string ⟨#[]⟩), (.string ⟨#[]⟩), (.int .i64 0)]) 40 rfl Try.underlying58 info62 rfl (by decide) (by omega) (.slice none 0 0) ([] : List (S62)) y171 _ _ _ (fun k_ => some k_ ≠ (.slice (some ad167) t159.length co45 : Value).ownBlock ∧ some k_ ≠ (.slice (some ⟨go21, 0, none⟩) y164.length co21 : Value).ownBlock) (fun _ => False) rfl rfl ?aO ?aR (fun _ _ h => h) (fun _ h => h.elim) ?aF ?aB ?aS ?aL ?_; (case aR => repeat (first | exact (by repeat (first | (with_reducible exact HR174.out) | (with_reducible refine Kd.C_alloc ?_ _) | (with_reducible refine Kd.C_drewN ?_ _) | (with_reducible refine Kd.C_drew ?_) | exact HR174.out)) | (with_reducible refine Kd.C_alloc ?_ _) | (with_reducible refine Kd.C_drewN ?_ _) | (with_reducible refine Kd.C_drew ?_))); (case aB => exact (by repeat (first | (with_reducible first | exact HB.out | apply below_alloc | apply pw_below_drewN | apply below_drew1) | exact HB.out))); (case aF => exact (fun k_ hk => ⟨Kd.fresh' (Kd.R_lt (by (with_reducible repeat (first | apply Kd.R_alloc | apply Kd.R_drewN | apply Kd.R_drew)); exact HO161.out)) k_ hk, Kd.fresh' (Kd.R_lt (by (with_reducible repeat (first | apply Kd.R_alloc | apply Kd.R_drewN | apply Kd.R_drew)); exact HO166.out)) k_ hk⟩)); (case aO => exact ((Kd.R_nil _ _ _ _ (fun k_ => some k_ ≠ (.slice (some ad167) t159.length co45 : Value).ownBlock ∧ some k_ ≠ (.slice (some ⟨go21, 0, none⟩) y164.length co21 : Value).ownBlock)))); (case aS => exact (below_size (by repeat (first | (with_reducible first | exact HB.out | apply below_alloc | apply pw_below_drewN | apply below_drew1) | exact HB.out)))); (case aL => have := LMc26.out; omega); intro v176 w52 ho hb hg hat; rw [← Ny175.out] at ho; have n0_ := Aside0.mk (Kd.R_after (Kd.R_apart_nil (by (with_reducible repeat (first | apply Kd.R_alloc | apply Kd.R_drewN | apply Kd.R_drew)); exact HO161.out)) hg hat); have n1_ := Aside0.mk (Kd.R_after (Kd.R_apart_nil (by (with_reducible repeat (first | apply Kd.R_alloc | apply Kd.R_drewN | apply Kd.R_drew)); exact HO166.out)) hg hat); have n2_ := Aside0.mk (hb); have n3_ := Aside0.mk ((show Kd.C k62 w52 (some ad167) y171.length y171 from by rw [Ny171.out]; exact Kd.C_take (m := ((ji14) : Int).toNat) ((Kd.R_reads' (Kd.R_after (Kd.R_apart_nil (by (with_reducible repeat (first | apply Kd.R_alloc | apply Kd.R_drewN | apply Kd.R_drew)); exact HO161.out)) hg hat)).2.2) KL51.out)); have n4_ := Aside0.mk (ho); clear HO161; clear HO166; clear HB; clear HR174; have HO161 := n0_; have HO166 := n1_; have HB := n2_; have HR174 := n3_; have HO177 := n4_; clear n0_ n1_ n2_ n3_ n4_; clear ho hb hg hat; have q53 : ((ji17) : Int) ≤ ((t159.length : Int) : Int) := of_decide_eq_true (by first | (with_reducible assumption) | assumption); obtain ⟨i053, hi053, _, hsz53, _⟩ := info_parts info62; have hroom53 : t159.length ≤ co45 := (Kd.R_reads' HO161.out).2.1; have hC53 : Kd.C k62 _ (some ad167) t159.length t159 := (Kd.R_reads' HO161.out).2.2; have q053 : (0 : Int) ≤ ((ji17) : Int) := of_decide_eq_true (by first | (with_reducible assumption) | assumption); have hcut53 := cut_from (P := Try.prog) 58 62 .i64 Try.underlying58 hi053 3 hsz53 (some ad167) t159.length co45 (ji17) q053 q53; have hr53 := Kd.C_drop (m := ((ji17) : Int).toNat) (c := co45) hC53 (by omega) hroom53; obtain ⟨A53, hA53⟩ : ∃ A1, A1 = (if co45 = ((ji17) : Int).toNat then (some ad167) else ((some ad167) : Option Addr).map (·.add (((ji17) : Int).toNat * 3))) := ⟨_, rfl⟩; obtain ⟨c53, hc53⟩ : ∃ c1, c1 = co45 - ((ji17) : Int).toNat := ⟨_, rfl⟩; have hy53 : y178.length = t159.length - ((ji17) : Int).toNat := (by rw [Ny178.out, List.length_drop] <;> omega); rw [show (t159).drop ((ji17) : Int).toNat = y178 from Ny178.out.symm] at hr53; replace hr53 : Kd.C k62 _ A53 y178.length y178 := (by rw [hA53]; exact hr53); rw [← hy53, ← hA53, ← hc53] at hcut53; have HR181 := Aside0.mk hr53; have HC181 := Aside0.mk (show y178.length ≤ c53 from by rw [hy53, hc53]; exact Nat.sub_le_sub_right hroom53 _); clear hr53 hC53 hroom53 hi053 hsz53 hc53; have KY53 := Aside0.mk hy53; have KA53 := Aside0.mk hA53; clear hy53 hA53; have KL53 := Aside0.mk (show ((ji17) : Int).toNat ≤ t159.length from by omega); replace q53 := eq_true q53) | ((with_reducible refine gate_builtin (b := .append) (xs := #[.tmp 50, .tmp 53]) rfl ?_); at_builtin; refine Kd.R_append_rows k62 (w0 := w) w.heap.size rfl (.tmp 50) (.tmp 53) 58 62 (.agg #[(.string ⟨#[]⟩), (.string ⟨#[]⟩), (.int .i64 0)]) 40 rfl Try.underlying58 info62 rfl (by decide) (by omega) v176 y175 y178 _ _ _ (fun k_ => some k_ ≠ (.slice (some ad167) t159.length co45 : Value).ownBlock ∧ some k_ ≠ (.slice (some ⟨go21, 0, none⟩) y164.length co21 : Value).ownBlock) (fun _ => False) rfl rfl ?aO ?aR (fun _ _ h => h) (fun _ h => h.elim) ?aF ?aB ?aS ?aL ?_; (case aR => repeat (first | exact (by repeat (first | (with_reducible exact HR181.out) | (with_reducible refine Kd.C_alloc ?_ _) | (with_reducible refine Kd.C_drewN ?_ _) | (with_reducible refine Kd.C_drew ?_) | exact HR181.out)) | (with_reducible refine Kd.C_alloc ?_ _) | (with_reducible refine Kd.C_drewN ?_ _) | (with_reducible refine Kd.C_drew ?_))); (case aB => exact (by repeat (first | (with_reducible first | exact HB.out | apply below_alloc | apply pw_below_drewN | apply below_drew1) | exact HB.out))); (case aF => exact (fun k_ hk => ⟨Kd.fresh' (Kd.R_lt (by (with_reducible repeat (first | apply Kd.R_alloc | apply Kd.R_drewN | apply Kd.R_drew)); exact HO161.out)) k_ hk, Kd.fresh' (Kd.R_lt (by (with_reducible repeat (first | apply Kd.R_alloc | apply Kd.R_drewN | apply Kd.R_drew)); exact HO166.out)) k_ hk⟩)); (case aO => exact (by (with_reducible repeat (first | apply Kd.R_alloc | apply Kd.R_drewN | apply Kd.R_drew)); exact HO177.out)); (case aS => exact (below_size (by repeat (first | (with_reducible first | exact HB.out | apply below_alloc | apply pw_below_drewN | apply below_drew1) | exact HB.out)))); (case aL => have := LMc29.out; omega); intro v183 w54 ho hb hg hat; rw [← Ny182.out] at ho; have n0_ := Aside0.mk (Kd.R_after (ok := (fun k_ => some k_ ≠ (.slice (some ⟨go21, 0, none⟩) y164.length co21 : Value).ownBlock)) (by (with_reducible repeat (first | apply Kd.R_alloc | apply Kd.R_drewN | apply Kd.R_drew)); exact HO161.out) hg hat); have n1_ := Aside0.mk (Kd.R_after (ok := (fun k_ => some k_ ≠ (.slice (some ad167) t159.length co45 : Value).ownBlock)) (by (with_reducible repeat (first | apply Kd.R_alloc | apply Kd.R_drewN | apply Kd.R_drew)); exact HO166.out) hg hat); have n2_ := Aside0.mk (hb); have n3_ := Aside0.mk ((show Kd.C k62 w54 (some ad167) y171.length y171 from by rw [Ny171.out]; exact Kd.C_take (m := ((ji14) : Int).toNat) ((Kd.R_reads' (Kd.R_after (ok := (fun k_ => some k_ ≠ (.slice (some ⟨go21, 0, none⟩) y164.length co21 : Value).ownBlock)) (by (with_reducible repeat (first | apply Kd.R_alloc | apply Kd.R_drewN | apply Kd.R_drew)); exact HO161.out) hg hat)).2.2) KL51.out)); have n4_ := Aside0.mk ((show Kd.C k62 w54 A53 y178.length y178 from by rw [Ny178.out, KA53.out]; exact Kd.C_drop (m := ((ji17) : Int).toNat) (c := co45) ((Kd.R_reads' (Kd.R_after (ok := (fun k_ => some k_ ≠ (.slice (some ⟨go21, 0, none⟩) y164.length co21 : Value).ownBlock)) (by (with_reducible repeat (first | apply Kd.R_alloc | apply Kd.R_drewN | apply Kd.R_drew)); exact HO161.out) hg hat)).2.2) KL53.out ((Kd.R_reads' (Kd.R_after (ok := (fun k_ => some k_ ≠ (.slice (some ⟨go21, 0, none⟩) y164.length co21 : Value).ownBlock)) (by (with_reducible repeat (first | apply Kd.R_alloc | apply Kd.R_drewN | apply Kd.R_drew)); exact HO161.out) hg hat)).2.1))); have n5_ := Aside0.mk (ho); clear HO161; clear HO166; clear HB; clear HR174; clear HR181; clear HO177; have HO161 := n0_; have HO166 := n1_; have HB := n2_; have HR174 := n3_; have HR181 := n4_; have HO184 := n5_; clear n0_ n1_ n2_ n3_ n4_ n5_; clear ho hb hg hat) | ((with_reducible refine gate_callee (f := 51) rfl ?_); refine goesL_ (some 55) rfl rfl Try.func51 (by kernel_rfl) rfl #[] rfl (by (try simp only [List.map_toArray, List.map_cons, List.map_nil]); first | done | rfl | (simp only [List.length_drop, List.length_take]; rfl)) ?_; (with_reducible refine (heliastlaw13_known.calls k  true _ A30.out (by first | rfl | exact HLAW.out)).mono ?_); rintro e w55 ⟨rfl, hb⟩; refine ⟨_, rfl, ?_⟩; have n0_ := Aside0.mk (Kd.R_below (by (with_reducible repeat (first | apply Kd.R_alloc | apply Kd.R_drewN | apply Kd.R_drew)); exact HO161.out) hb); have n1_ := Aside0.mk (Kd.R_below (by (with_reducible repeat (first | apply Kd.R_alloc | apply Kd.R_drewN | apply Kd.R_drew)); exact HO166.out) hb); have n2_ := Aside0.mk (Kd.R_below (by (with_reducible repeat (first | apply Kd.R_alloc | apply Kd.R_drewN | apply Kd.R_drew)); exact HO184.out) hb); have n3_ := Aside0.mk (Kd.C_below (by repeat (first | (with_reducible exact HR174.out) | (with_reducible refine Kd.C_alloc ?_ _) | (with_reducible refine Kd.C_drewN ?_ _) | (with_reducible refine Kd.C_drew ?_) | exact HR174.out)) hb); have n4_ := Aside0.mk (Kd.C_below (by repeat (first | (with_reducible exact HR181.out) | (with_reducible refine Kd.C_alloc ?_ _) | (with_reducible refine Kd.C_drewN ?_ _) | (with_reducible refine Kd.C_drew ?_) | exact HR181.out)) hb); have n5_ := Aside0.mk (below_step (by repeat (first | (with_reducible first | exact HB.out | apply below_alloc | apply pw_below_drewN | apply below_drew1) | exact HB.out)) hb); clear HO161; clear HO166; clear HO184; clear HR174; clear HR181; clear HB; have HO161 := n0_; have HO166 := n1_; have HO184 := n2_; have HR174 := n3_; have HR181 := n4_; have HB := n5_; clear n0_ n1_ n2_ n3_ n4_ n5_; (try clear hb); (try clear hb2); (try clear hk); (try clear hi)) | (go_at_call 52; clear tok1_; (with_reducible refine (state_Right.calls k _ _ t159 true _ ?side1 ?side2 A32.out).mono ?_); (case side1 => repeat (first | exact (Kd.R_reads' HO161.out).2.2 | (with_reducible refine Kd.C_alloc ?_ _) | (with_reducible refine Kd.C_drewN ?_ _) | (with_reducible refine Kd.C_drew ?_))); (case side2 => exact (Kd.R_reads' HO161.out).2.1); rintro e w56 ⟨rfl, hb⟩; have n0_ := Aside0.mk (Kd.R_below (by (with_reducible repeat (first | apply Kd.R_alloc | apply Kd.R_drewN | apply Kd.R_drew)); exact HO161.out) hb); have n1_ := Aside0.mk (Kd.R_below (by (with_reducible repeat (first | apply Kd.R_alloc | apply Kd.R_drewN | apply Kd.R_drew)); exact HO166.out) hb); have n2_ := Aside0.mk (Kd.R_below (by (with_reducible repeat (first | apply Kd.R_alloc | apply Kd.R_drewN | apply Kd.R_drew)); exact HO184.out) hb); have n3_ := Aside0.mk (Kd.C_below (by repeat (first | (with_reducible exact HR174.out) | (with_reducible refine Kd.C_alloc ?_ _) | (with_reducible refine Kd.C_drewN ?_ _) | (with_reducible refine Kd.C_drew ?_) | exact HR174.out)) hb); have n4_ := Aside0.mk (Kd.C_below (by repeat (first | (with_reducible exact HR181.out) | (with_reducible refine Kd.C_alloc ?_ _) | (with_reducible refine Kd.C_drewN ?_ _) | (with_reducible refine Kd.C_drew ?_) | exact HR181.out)) hb); have n5_ := Aside0.mk (below_step (by repeat (first | (with_reducible first | exact HB.out | apply below_alloc | apply pw_below_drewN | apply below_drew1) | exact HB.out)) hb); clear HO161; clear HO166; clear HO184; clear HR174; clear HR181; clear HB; have HO161 := n0_; have HO166 := n1_; have HO184 := n2_; have HR174 := n3_; have HR181 := n4_; have HB := n5_; clear n0_ n1_ n2_ n3_ n4_ n5_; (try clear hb); (try clear hb2); (try clear hk); (try clear hi)) | (go_at_call 52; clear tok2_; refine calls_of_args (args' := #[.slice (some ⟨go21, 0, none⟩) y170.length co21]) (by first | (rw [show y170.length = y164.length from (Kd.R_reads' HO166.out).1.symm] <;> rfl) | rfl) ?_; (with_reducible refine (state_Right.calls k _ _ y170 false _ ?side1 ?side2 A34.out).mono ?_); (case side1 => repeat (first | exact (Kd.R_reads' HO166.out).2.2 | (with_reducible refine Kd.C_alloc ?_ _) | (with_reducible refine Kd.C_drewN ?_ _) | (with_reducible refine Kd.C_drew ?_))); (case side2 => rw [show y170.length = y164.length from (Kd.R_reads' HO166.out).1.symm]; exact (Kd.R_reads' HO166.out).2.1); rintro e w57 ⟨rfl, hb⟩; have n0_ := Aside0.mk (Kd.R_below (by (with_reducible repeat (first | apply Kd.R_alloc | apply Kd.R_drewN | apply Kd.R_drew)); exact HO161.out) hb); have n1_ := Aside0.mk (Kd.R_below (by (with_reducible repeat (first | apply Kd.R_alloc | apply Kd.R_drewN | apply Kd.R_drew)); exact HO166.out) hb); have n2_ := Aside0.mk (Kd.R_below (by (with_reducible repeat (first | apply Kd.R_alloc | apply Kd.R_drewN | apply Kd.R_drew)); exact HO184.out) hb); have n3_ := Aside0.mk (Kd.C_below (by repeat (first | (with_reducible exact HR174.out) | (with_reducible refine Kd.C_alloc ?_ _) | (with_reducible refine Kd.C_drewN ?_ _) | (with_reducible refine Kd.C_drew ?_) | exact HR174.out)) hb); have n4_ := Aside0.mk (Kd.C_below (by repeat (first | (with_reducible exact HR181.out) | (with_reducible refine Kd.C_alloc ?_ _) | (with_reducible refine Kd.C_drewN ?_ _) | (with_reducible refine Kd.C_drew ?_) | exact HR181.out)) hb); have n5_ := Aside0.mk (below_step (by repeat (first | (with_reducible first | exact HB.out | apply below_alloc | apply pw_below_drewN | apply below_drew1) | exact HB.out)) hb); clear HO161; clear HO166; clear HO184; clear HR174; clear HR181; clear HB; have HO161 := n0_; have HO166 := n1_; have HO184 := n2_; have HR174 := n3_; have HR181 := n4_; have HB := n5_; clear n0_ n1_ n2_ n3_ n4_ n5_; (try clear hb); (try clear hb2); (try clear hk); (try clear hi); obtain ⟨Ao58, co58, eo58⟩ := Kd.R_slice HO184.out; subst eo58) | (go_at_call 52; clear tok3_; (with_reducible refine (state_Right.calls k _ _ y182 false _ ?side1 ?side2 A36.out).mono ?_); (case side1 => repeat (first | exact (Kd.R_reads' HO184.out).2.2 | (with_reducible refine Kd.C_alloc ?_ _) | (with_reducible refine Kd.C_drewN ?_ _) | (with_reducible refine Kd.C_drew ?_))); (case side2 => exact (Kd.R_reads' HO184.out).2.1); rintro e w59 ⟨rfl, hb⟩; have n0_ := Aside0.mk (Kd.R_below (by (with_reducible repeat (first | apply Kd.R_alloc | apply Kd.R_drewN | apply Kd.R_drew)); exact HO161.out) hb); have n1_ := Aside0.mk (Kd.R_below (by (with_reducible repeat (first | apply Kd.R_alloc | apply Kd.R_drewN | apply Kd.R_drew)); exact HO166.out) hb); have n2_ := Aside0.mk (Kd.R_below (by (with_reducible repeat (first | apply Kd.R_alloc | apply Kd.R_drewN | apply Kd.R_drew)); exact HO184.out) hb); have n3_ := Aside0.mk (Kd.C_below (by repeat (first | (with_reducible exact HR174.out) | (with_reducible refine Kd.C_alloc ?_ _) | (with_reducible refine Kd.C_drewN ?_ _) | (with_reducible refine Kd.C_drew ?_) | exact HR174.out)) hb); have n4_ := Aside0.mk (Kd.C_below (by repeat (first | (with_reducible exact HR181.out) | (with_reducible refine Kd.C_alloc ?_ _) | (with_reducible refine Kd.C_drewN ?_ _) | (with_reducible refine Kd.C_drew ?_) | exact HR181.out)) hb); have n5_ := Aside0.mk (below_step (by repeat (first | (with_reducible first | exact HB.out | apply below_alloc | apply pw_below_drewN | apply below_drew1) | exact HB.out)) hb); clear HO161; clear HO166; clear HO184; clear HR174; clear HR181; clear HB; have HO161 := n0_; have HO166 := n1_; have HO184 := n2_; have HR174 := n3_; have HR181 := n4_; have HB := n5_; clear n0_ n1_ n2_ n3_ n4_ n5_; (try clear hb); (try clear hb2); (try clear hk); (try clear hi); have q60 : ((ji17) : Int) ≤ ((t159.length : Int) : Int) := of_decide_eq_true (by first | (with_reducible assumption) | assumption); obtain ⟨i060, hi060, _, hsz60, _⟩ := info_parts info62; have hroom60 : t159.length ≤ co45 := (Kd.R_reads' HO161.out).2.1; have hC60 : Kd.C k62 _ (some ad167) t159.length t159 := (Kd.R_reads' HO161.out).2.2; have hcut60 := cut_to (P := Try.prog) 58 62 .i64 Try.underlying58 hi060 (some ad167) t159.length co45 (ji17) (of_decide_eq_true (by first | (with_reducible assumption) | assumption)) q60 hroom60; have hr60 := Kd.C_take (m := ((ji17) : Int).toNat) hC60 (by omega); have hy60 : y189.length = ((ji17) : Int).toNat := (by rw [Ny189.out, List.length_take]; omega); rw [← Ny189.out] at hr60; rw [← hy60] at hcut60; have HR192 := Aside0.mk hr60; have HC192 := Aside0.mk (show y189.length ≤ co45 from by omega); clear hr60 hC60 hroom60 hi060 hsz60; have KY60 := Aside0.mk hy60; clear hy60; have KL60 := Aside0.mk (show ((ji17) : Int).toNat ≤ t159.length from by omega); replace q60 := eq_true q60) | (go_at_call 52; clear tok4_; (with_reducible refine (state_Right.calls k _ _ y189 true _ ?side1 ?side2 A40.out).mono ?_); (case side1 => repeat (first | exact (by repeat (first | (with_reducible exact HR192.out) | (with_reducible refine Kd.C_alloc ?_ _) | (with_reducible refine Kd.C_drewN ?_ _) | (with_reducible refine Kd.C_drew ?_) | exact HR192.out)) | (with_reducible refine Kd.C_alloc ?_ _) | (with_reducible refine Kd.C_drewN ?_ _) | (with_reducible refine Kd.C_drew ?_))); (case side2 => exact HC192.out); rintro e w61 ⟨rfl, hb⟩; have n0_ := Aside0.mk (Kd.R_below (by (with_reducible repeat (first | apply Kd.R_alloc | apply Kd.R_drewN | apply Kd.R_drew)); exact HO161.out) hb); have n1_ := Aside0.mk (Kd.R_below (by (with_reducible repeat (first | apply Kd.R_alloc | apply Kd.R_drewN | apply Kd.R_drew)); exact HO166.out) hb); have n2_ := Aside0.mk (Kd.R_below (by (with_reducible repeat (first | apply Kd.R_alloc | apply Kd.R_drewN | apply Kd.R_drew)); exact HO184.out) hb); have n3_ := Aside0.mk (Kd.C_below (by repeat (first | (with_reducible exact HR174.out) | (with_reducible refine Kd.C_alloc ?_ _) | (with_reducible refine Kd.C_drewN ?_ _) | (with_reducible refine Kd.C_drew ?_) | exact HR174.out)) hb); have n4_ := Aside0.mk (Kd.C_below (by repeat (first | (with_reducible exact HR181.out) | (with_reducible refine Kd.C_alloc ?_ _) | (with_reducible refine Kd.C_drewN ?_ _) | (with_reducible refine Kd.C_drew ?_) | exact HR181.out)) hb); have n5_ := Aside0.mk (Kd.C_below (by repeat (first | (with_reducible exact HR192.out) | (with_reducible refine Kd.C_alloc ?_ _) | (with_reducible refine Kd.C_drewN ?_ _) | (with_reducible refine Kd.C_drew ?_) | exact HR192.out)) hb); have n6_ := Aside0.mk (below_step (by repeat (first | (with_reducible first | exact HB.out | apply below_alloc | apply pw_below_drewN | apply below_drew1) | exact HB.out)) hb); clear HO161; clear HO166; clear HO184; clear HR174; clear HR181; clear HR192; clear HB; have HO161 := n0_; have HO166 := n1_; have HO184 := n2_; have HR174 := n3_; have HR181 := n4_; have HR192 := n5_; have HB := n6_; clear n0_ n1_ n2_ n3_ n4_ n5_ n6_; (try clear hb); (try clear hb2); (try clear hk); (try clear hi)) | (go_at_call 50; (with_reducible refine (heliastlaw13_State.calls k _ _ l0 30 t194 _ ?side1 ?side2 A42.out).mono ?_); (case side1 => repeat (first | exact (Kd.C_below HR0.out HB.out) | (with_reducible refine Kd.C_alloc ?_ _) | (with_reducible refine Kd.C_drewN ?_ _) | (with_reducible refine Kd.C_drew ?_))); (case side2 => exact HC0.out); rintro e w62 ⟨v195, rfl, ho0, hb⟩; have n0_ := Aside0.mk (Kd.R_elder' (by (with_reducible repeat (first | apply Kd.R_alloc | apply Kd.R_drewN | apply Kd.R_drew)); exact HO161.out) (Kd.R_base ho0) hb); have n1_ := Aside0.mk (Kd.R_elder' (by (with_reducible repeat (first | apply Kd.R_alloc | apply Kd.R_drewN | apply Kd.R_drew)); exact HO166.out) (Kd.R_base ho0) hb); have n2_ := Aside0.mk (Kd.R_elder' (by (with_reducible repeat (first | apply Kd.R_alloc | apply Kd.R_drewN | apply Kd.R_drew)); exact HO184.out) (Kd.R_base ho0) hb); have n3_ := Aside0.mk (Kd.R_lower (Kd.R_new' (Kd.R_new' (Kd.R_new' ho0 (Kd.R_lt (by (with_reducible repeat (first | apply Kd.R_alloc | apply Kd.R_drewN | apply Kd.R_drew)); exact HO161.out))) (Kd.R_lt (by (with_reducible repeat (first | apply Kd.R_alloc | apply Kd.R_drewN | apply Kd.R_drew)); exact HO166.out))) (Kd.R_lt (by (with_reducible repeat (first | apply Kd.R_alloc | apply Kd.R_drewN | apply Kd.R_drew)); exact HO184.out))) (below_size (by repeat (first | (with_reducible first | exact HB.out | apply below_alloc | apply pw_below_drewN | apply below_drew1) | exact HB.out)))); have n4_ := Aside0.mk (Kd.C_below (by repeat (first | (with_reducible exact HR174.out) | (with_reducible refine Kd.C_alloc ?_ _) | (with_reducible refine Kd.C_drewN ?_ _) | (with_reducible refine Kd.C_drew ?_) | exact HR174.out)) hb); have n5_ := Aside0.mk (Kd.C_below (by repeat (first | (with_reducible exact HR181.out) | (with_reducible refine Kd.C_alloc ?_ _) | (with_reducible refine Kd.C_drewN ?_ _) | (with_reducible refine Kd.C_drew ?_) | exact HR181.out)) hb); have n6_ := Aside0.mk (Kd.C_below (by repeat (first | (with_reducible exact HR192.out) | (with_reducible refine Kd.C_alloc ?_ _) | (with_reducible refine Kd.C_drewN ?_ _) | (with_reducible refine Kd.C_drew ?_) | exact HR192.out)) hb); have n7_ := Aside0.mk (below_step (by repeat (first | (with_reducible first | exact HB.out | apply below_alloc | apply pw_below_drewN | apply below_drew1) | exact HB.out)) hb); clear HO161; clear HO166; clear HO184; clear HR174; clear HR181; clear HR192; clear HB; have HO161 := n0_; have HO166 := n1_; have HO184 := n2_; have HO196 := n3_; have HR174 := n4_; have HR181 := n5_; have HR192 := n6_; have HB := n7_; clear n0_ n1_ n2_ n3_ n4_ n5_ n6_ n7_; (try clear hb); (try clear hb2); (try clear hk); (try clear hi); (try clear ho0); obtain ⟨Ao63, co63, eo63⟩ := Kd.R_slice HO196.out; subst eo63) | (go_at_call 53; (with_reducible refine (heliastref13_Same.calls k _ _ t159 _ _ t194 t197 _ ?side1 ?side2 ?side3 ?side4 A43.out).mono ?_); (case side1 => repeat (first | exact (Kd.R_reads' HO161.out).2.2 | (with_reducible refine Kd.C_alloc ?_ _) | (with_reducible refine Kd.C_drewN ?_ _) | (with_reducible refine Kd.C_drew ?_))); (case side2 => exact (Kd.R_reads' HO161.out).2.1); (case side3 => repeat (first | exact (Kd.R_reads' HO196.out).2.2 | (with_reducible refine Kd.C_alloc ?_ _) | (with_reducible refine Kd.C_drewN ?_ _) | (with_reducible refine Kd.C_drew ?_))); (case side4 => exact (Kd.R_reads' HO196.out).2.1); rintro e w' ⟨rfl, ⟨nd, rfl⟩⟩))
                                      go_ret
                                      exact ⟨by first | rfl | (simp [errW_none, errW_some] <;> rfl) | (simp only [← hji14, ← hji17]; first | rfl | (simp [errW_none, errW_some] <;> rfl)) | (simp [*, errW_none, errW_some] <;> rfl), by repeat (first | (with_reducible first | exact HB.out | apply below_alloc | apply pw_below_drewN | apply below_drew1) | exact HB.out)⟩
                                    · replace c41 := Bool.eq_false_iff.mpr c41
                                      subst c41
                                      have H1 : (some false) = some r := by rw [if_neg (show ¬ (false = true) by decide)] at H; exact H
                                      clear H
                                      have H := H1
                                      clear H1
                                      exact absurd ((Option.some.inj H).trans HLAW.out) (by decide)
                              · replace c33 := Bool.eq_false_iff.mpr c33
                                subst c33
                                have H1 : (some false) = some r := by rw [if_neg (show ¬ (false = true) by decide)] at H; exact H
                                clear H
                                have H := H1
                                clear H1
                                exact absurd ((Option.some.inj H).trans HLAW.out) (by decide)
                            · replace c31 := Bool.eq_false_iff.mpr c31
                              subst c31
                              have H1 : (some false) = some r := by rw [if_neg (show ¬ (false = true) by decide)] at H; exact H
                              clear H
                              have H := H1
                              clear H1
                              exact absurd ((Option.some.inj H).trans HLAW.out) (by decide)
                          · rw [if_neg c29] at H
                            exact absurd H (by simp)
                        · rw [if_neg c28] at H
                          exact absurd H (by simp)
                      · rw [if_neg c26] at H
                        exact absurd H (by simp)
                    · rw [if_neg c25] at H
                      exact absurd H (by simp)
                  · rw [if_neg c22] at H
                    exact absurd H (by simp)
                · rw [if_neg c20] at H
                  exact absurd H (by simp)
              · rw [if_neg c19] at H
                exact absurd H (by simp)
            · rw [if_neg c18] at H
              exact absurd H (by simp)
          · rw [if_neg c16] at H
            exact absurd H (by simp)
        · rw [if_neg c15] at H
          exact absurd H (by simp)
      · rw [if_neg c13] at H
        exact absurd H (by simp)

/-- THE ONE PURE STATEMENT of heliastlaw13_StateRight: yours. -/
def heliastlaw13_StateRight.Pure : Prop := ∀ (l0 : List Int) (a1 : Int), l0.length ≤ maxLen → l0.length * 1 ≤ 140737488351232 → (∀ x ∈ l0, (Lit.int .u8 x).wf = true) → (Lit.int .u8 a1).wf = true → ∃ k, heliastlaw13_StateRight.f k l0 a1 = some true
theorem heliastlaw13_StateRight.walk (P : heliastlaw13_StateRight.Pure) (a0 : Option Addr) (len0 cap0 : Nat) (z0 : List Int) (a1 : Int) (w : World) (w0 : (a0 = none ∧ len0 = 0 ∧ cap0 = 0 ∧ z0 = []) ∨ ∃ x, a0 = some x ∧ len0 ≤ cap0 ∧ cap0 ≤ maxLen ∧ z0.length = cap0 ∧ (∀ i, i < z0.length → w.cell? (x.add i) = some (.int .u8 (z0.getD i 0))) ∧ ∀ n ∈ z0, (Lit.int .u8 n).wf = true) (y0 : len0 * 1 ≤ 140737488351232) (w1 : (Lit.int .u8 a1).wf = true) :
    Calls Try.prog 7 #[.slice a0 len0 cap0, .int .u8 a1] w fun e w' => e = .returned (.bool true) ∧ Below w.heap.size w w' := by
  obtain ⟨l0, rfl, hr0, hm0, hw0, hc0⟩ := ReadsInt.ofRowC w0
  obtain ⟨k, h⟩ := P l0 a1 hm0 y0 hw0 w1
  refine (heliastlaw13_StateRight.calls k _ _ l0 a1 true w (Kd.C_of_reads (d := (0 : Int)) (h1 := fun _ => rfl) hr0) hc0 h rfl).mono ?_
  rintro e w' ⟨rfl, hd⟩
  exact ⟨rfl, hd⟩

end Go.Proofs.Ytobdaiaaejlbkaa.S

-- Written by heprint.py (this session's, over the kit's print.py): not trusted, Lean checks it.
import Derived.Test.YtmmalieacakcbaaHc0
import Derived.Test.YtmmalieacakcbaaHc3
import Derived.Test.YtmmalieacakcbaaHc4
import Derived.Test.YtmmalieacakcbaaHc5
import Derived.Test.YtmmalieacakcbaaHc7
import Derived.Test.YtmmalieacakcbaaHc8
import Derived.Test.YtmmalieacakcbaaHc9
namespace Go.Proofs.Ytmmalieacakcbaa.S
open Go.RowKit Go.Proofs.YtmmalieacakcbaaW.PrintWords Go.Proofs.YtmmalieacakcbaaW.PrintLast Go.Proofs.YtmmalieacakcbaaW.PrintMore
attribute [local go_sem] max2_int min2_int max_two min_two max_three min_three max_four min_four   -- for this text's walks alone
set_option linter.unusedVariables false
set_option linter.unusedSimpArgs false

/-! ### pure SpAll -/
-- PURE needs heliast/heliastlaw16.SplitAll needs heliast/heliastref13.Put needs heliast/heliastlaw13.State needs heliast/heliastlaw16.States needs heliast/heliastref13.Over needs heliast/split.Alike needs heliast/split.Apart needs heliast/state.Right needs heliast/heliastref12.Has needs heliast/state.Places
open Go.Proofs.He
namespace Sp
theorem has_ev (l : List En) (x : En) (hl : l.length ≤ 1000000) : Ev (fun k => heliastlaw16_has.f k l x.f0 x.f1 x.f2) (decide (x ∈ l)) := by
  have key : ∀ d i, i + d = l.length → Ev (fun k => heliastlaw16_has.l0 k l (i : Int) x.f0 x.f1 x.f2) (decide (x ∈ l.drop i)) := by
    intro d
    induction d with
    | zero =>
      intro i hi
      rw [List.drop_eq_nil_of_le (by omega)]
      refine Ev.step (f := fun _ => some false) (fun k => ?_) (Ev.now _)
      simp only [heliastlaw16_has.l0]; rw [if_neg (by omega)]
    | succ d ih =>
      intro i hi
      have hlt : i < l.length := by omega
      rw [List.drop_eq_getElem_cons hlt]
      by_cases e : l[i] = x
      · have h2 : decide (x ∈ l[i] :: l.drop (i + 1)) = true := by rw [e]; simp
        rw [h2]
        refine Ev.step (f := fun _ => some true) (fun k => ?_) (Ev.now _)
        simp only [heliastlaw16_has.l0]; rw [if_pos (by omega), if_pos (by omega), rd_en hlt, e, if_pos (by simp)]
      · have h2 : decide (x ∈ l[i] :: l.drop (i + 1)) = decide (x ∈ l.drop (i + 1)) := by
          rw [decide_eq_decide, List.mem_cons]; exact ⟨fun h => h.resolve_left (fun h => e h.symm), .inr⟩
        rw [h2]
        refine Ev.step (f := fun k => heliastlaw16_has.l0 k l ((i + 1 : Nat) : Int) x.f0 x.f1 x.f2) (fun k => ?_) (ih (i + 1) (by omega))
        simp only [heliastlaw16_has.l0]
        rw [if_pos (by omega), if_pos (by omega), rd_en hlt, sp_w1 (by omega), if_neg]
        intro h
        simp only [Bool.and_eq_true, beq_iff_eq] at h
        exact e (by obtain ⟨h1, h2, h3⟩ := h; cases hl : l[i]; cases x; rw [hl] at h1 h2 h3; simp only at h1 h2 h3; rw [ba_ext h1, ba_ext h2, h3])
  have := key l.length 0 (by omega)
  simpa [heliastlaw16_has.f] using this
theorem rows_at {L : List (List En)} {i : Nat} (h : i < L.length) : rd_L4 L (i : Int) = L[i] := by
  unfold rd_L4; rw [Int.toNat_natCast, List.getD_eq_getElem?_getD, List.getElem?_eq_getElem h]; rfl
theorem All_l3 {L : List (List En)} (h : Fine L) (hne : L ≠ []) : Ev (fun k => heliastlaw16_SplitAll.l3 k L (alikeL L) (apartL L) 0) true := by
  have hal := alike_len h
  have hap := apart_len h
  have hll := h.len
  refine ev_down (fun i k => heliastlaw16_SplitAll.l3 k L (alikeL L) (apartL L) (i : Int)) (apartL L).length (fun i hi hn => ?_) ?_ 0 (Nat.zero_le _)
  · obtain ⟨p, hp⟩ : ∃ p, p = (apartL L)[i] := ⟨_, rfl⟩
    have hrd : rd (apartL L) (i : Int) = p := by rw [hp]; exact pl_rd hi
    obtain ⟨x, ⟨s, hs, hx⟩, _, hxp⟩ := (mem_apart h.spSrt).1 (hp ▸ List.getElem_mem hi)
    have hmem : ∃ j, ∃ hj : j < L.length, p ∈ placesL L[j] := by
      obtain ⟨j, hj, rfl⟩ := List.getElem_of_mem hs
      exact ⟨j, hj, (mem_places _ _).2 ⟨x, hx, hxp⟩⟩
    obtain ⟨j0, hj0, hpj⟩ := hmem
    -- the inner loop: found from some round on
    have tail : ∀ j, j ≤ L.length → Ev (fun k => heliastlaw16_SplitAll.l4 k L (alikeL L) (apartL L) (i : Int) true (j : Int)) true := by
      refine ev_down (fun j k => heliastlaw16_SplitAll.l4 k L (alikeL L) (apartL L) (i : Int) true (j : Int)) L.length (fun j hj hn2 => ?_) ?_
      · refine Ev.step (fun k => ?_) hn2
        simp only [heliastlaw16_SplitAll.l4]
        rw [if_pos (by omega), if_pos trivial, sp_w1 (by omega)]
      · by_cases h0 : i = 0
        · subst h0
          refine Ev.step (fun k => ?_) hn
          simp only [heliastlaw16_SplitAll.l4]
          rw [if_neg (by omega), if_pos trivial, if_neg (by omega), sp_w1 (by omega)]
        · have hw : wrap64 ((i : Int) - 1) = ((i - 1 : Nat) : Int) := by rw [wrap_small (by omega) (by omega)]; omega
          have hlt : rd (apartL L) ((i - 1 : Nat) : Int) < p := by
            rw [pl_rd (by omega), hp]
            exact List.pairwise_iff_getElem.1 (riseL_spec _).1 (i - 1) i (by show i - 1 < (apartL L).length; omega) hi (by omega)
          refine Ev.step (fun k => ?_) hn
          simp only [heliastlaw16_SplitAll.l4]
          rw [if_neg (by omega), if_pos trivial, if_pos (by omega), hw, if_pos (by omega), if_pos (by omega), if_pos (by omega), if_pos (by omega), hrd, if_neg (by omega), sp_w1 (by omega)]
    have head : ∀ j, j ≤ j0 → Ev (fun k => heliastlaw16_SplitAll.l4 k L (alikeL L) (apartL L) (i : Int) false (j : Int)) true := by
      have stp : ∀ j, j < L.length → Ev (fun k => heliastlaw16_SplitAll.l4 k L (alikeL L) (apartL L) (i : Int) (decide (p ∈ placesL (L.getD j []))) ((j + 1 : Nat) : Int)) true → Ev (fun k => heliastlaw16_SplitAll.l4 k L (alikeL L) (apartL L) (i : Int) false (j : Int)) true := by
        intro j hj hn2
        have hrow := h.row L[j] (List.getElem_mem hj)
        have hpl : state_Places.f L[j] = some (placesL L[j]) := by unfold state_Places.f; rw [if_pos (by omega)]
        have hll2 : (placesL L[j]).length ≤ 300 := by
          show (riseL (L[j].map fun x => x.f2)).length ≤ 300
          refine Nat.le_trans (riseL_length _) ?_; rw [List.length_map]; exact hrow
        have hg : L.getD j [] = L[j] := by rw [List.getD_eq_getElem?_getD, List.getElem?_eq_getElem hj]; rfl
        rw [hg] at hn2
        refine Ev.step (f := fun k => (heliastref12_Has.f k (placesL L[j]) p).bind fun t => heliastlaw16_SplitAll.l4 k L (alikeL L) (apartL L) (i : Int) t ((j + 1 : Nat) : Int)) (fun k => ?_) ?_
        · simp only [heliastlaw16_SplitAll.l4]
          rw [if_pos (by omega), if_neg (by simp), if_pos (by omega)]
          rw [rows_at hj, hpl, Option.bind_some, if_pos (by omega), if_pos (by omega), hrd, sp_w1 (by omega)]
        · exact Ev.bind (g := fun k => heliastref12_Has.f k (placesL L[j]) p) (f := fun k t => heliastlaw16_SplitAll.l4 k L (alikeL L) (apartL L) (i : Int) t ((j + 1 : Nat) : Int)) (Has_ev (placesL L[j]) p (by omega)) hn2
      refine ev_down (fun j k => heliastlaw16_SplitAll.l4 k L (alikeL L) (apartL L) (i : Int) false (j : Int)) j0 (fun j hj hn2 => ?_) ?_
      · refine stp j (by omega) ?_
        cases hd : decide (p ∈ placesL (L.getD j [])) with
        | true => exact tail (j + 1) (by omega)
        | false => exact hn2
      · refine stp j0 hj0 ?_
        have : decide (p ∈ placesL (L.getD j0 [])) = true := by
          rw [List.getD_eq_getElem?_getD, List.getElem?_eq_getElem hj0]; exact decide_eq_true hpj
        rw [this]; exact tail (j0 + 1) (by omega)
    refine Ev.step (fun k => ?_) (head 0 (Nat.zero_le _))
    simp only [heliastlaw16_SplitAll.l3]
    rw [if_pos (by omega)]; rfl
  · refine Ev.step (f := fun k => state_Right.f k (alikeL L)) (fun k => ?_) ?_
    · simp only [heliastlaw16_SplitAll.l3]
      rw [if_neg (by omega)]
      show (state_Right.f k (alikeL L)).bind (fun t => some t) = _
      cases state_Right.f k (alikeL L) <;> rfl
    · have := Right_ev (alikeL L) (by omega)
      rwa [srtB_iff.2 (srt_alike h.spSrt)] at this
theorem All_l0 {L : List (List En)} (h : Fine L) (hne : L ≠ []) : Ev (fun k => heliastlaw16_SplitAll.l0 k L (alikeL L) (apartL L) 0) true := by
  have hal := alike_len h
  have hap := apart_len h
  have hll := h.len
  refine ev_down (fun i k => heliastlaw16_SplitAll.l0 k L (alikeL L) (apartL L) (i : Int)) L.length (fun i hi hn => ?_) ?_ 0 (Nat.zero_le _)
  · have hrow := h.row L[i] (List.getElem_mem hi)
    have l2 : Ev (fun k => heliastlaw16_SplitAll.l2 k L (alikeL L) (apartL L) (i : Int) 0) true := by
      refine ev_down (fun j k => heliastlaw16_SplitAll.l2 k L (alikeL L) (apartL L) (i : Int) (j : Int)) L[i].length (fun j hj hn2 => ?_) ?_ 0 (Nat.zero_le _)
      · obtain ⟨x, hx⟩ : ∃ x, x = L[i][j] := ⟨_, rfl⟩
        have hxm : x ∈ L[i] := by rw [hx]; exact List.getElem_mem hj
        have hrx : rd_T69 L[i] (j : Int) = x := by rw [hx]; exact rd_en hj
        refine Ev.step (f := fun k => (heliastlaw16_has.f k (alikeL L) x.f0 x.f1 x.f2).bind fun t => if t = true then heliastlaw16_SplitAll.l2 k L (alikeL L) (apartL L) (i : Int) ((j + 1 : Nat) : Int) else (heliastref12_Has.f k (apartL L) x.f2).bind fun t2 => if t2 = true then heliastlaw16_SplitAll.l2 k L (alikeL L) (apartL L) (i : Int) ((j + 1 : Nat) : Int) else some false) (fun k => ?_) ?_
        · simp only [heliastlaw16_SplitAll.l2]
          rw [rows_at hi, hrx, sp_w1 (by omega), if_pos (by omega), if_pos (by omega), if_pos (by omega), if_pos (by omega)]
        · refine Ev.bind (g := fun k => heliastlaw16_has.f k (alikeL L) x.f0 x.f1 x.f2) (f := fun k t => if t = true then heliastlaw16_SplitAll.l2 k L (alikeL L) (apartL L) (i : Int) ((j + 1 : Nat) : Int) else (heliastref12_Has.f k (apartL L) x.f2).bind fun t2 => if t2 = true then heliastlaw16_SplitAll.l2 k L (alikeL L) (apartL L) (i : Int) ((j + 1 : Nat) : Int) else some false) (has_ev _ x (by omega)) ?_
          by_cases hin : x ∈ alikeL L
          · refine Ev.congr (fun k => ?_) hn2
            rw [decide_eq_true hin, if_pos rfl]
          · have hp : x.f2 ∈ apartL L := (mem_apart h.spSrt).2 ⟨x, ⟨L[i], List.getElem_mem hi, hxm⟩, fun ha => hin ((mem_alike h.spSrt hne).2 ha), rfl⟩
            refine Ev.congr (f := fun k => (heliastref12_Has.f k (apartL L) x.f2).bind fun t2 => if t2 = true then heliastlaw16_SplitAll.l2 k L (alikeL L) (apartL L) (i : Int) ((j + 1 : Nat) : Int) else some false) (fun k => ?_) ?_
            · rw [decide_eq_false hin, if_neg (by simp)]
            · refine Ev.bind (g := fun k => heliastref12_Has.f k (apartL L) x.f2) (f := fun k t2 => if t2 = true then heliastlaw16_SplitAll.l2 k L (alikeL L) (apartL L) (i : Int) ((j + 1 : Nat) : Int) else some false) (Has_ev _ _ (by omega)) ?_
              refine Ev.congr (fun k => ?_) hn2
              rw [decide_eq_true hp, if_pos rfl]
      · refine Ev.step (fun k => ?_) hn
        simp only [heliastlaw16_SplitAll.l2]
        rw [rows_at hi, if_pos (by omega), if_pos (by omega), if_neg (by omega), sp_w1 (by omega)]
    have l1 : Ev (fun k => heliastlaw16_SplitAll.l1 k L (alikeL L) (apartL L) (i : Int) 0) true := by
      refine ev_down (fun j k => heliastlaw16_SplitAll.l1 k L (alikeL L) (apartL L) (i : Int) (j : Int)) (alikeL L).length (fun j hj hn2 => ?_) ?_ 0 (Nat.zero_le _)
      · obtain ⟨x, hx⟩ : ∃ x, x = (alikeL L)[j] := ⟨_, rfl⟩
        have hxm : x ∈ L[i] := (mem_alike h.spSrt hne).1 (hx ▸ List.getElem_mem hj) _ (List.getElem_mem hi)
        have hrx : rd_T69 (alikeL L) (j : Int) = x := by rw [hx]; exact rd_en hj
        refine Ev.step (f := fun k => (heliastlaw16_has.f k L[i] x.f0 x.f1 x.f2).bind fun t => if t = true then heliastlaw16_SplitAll.l1 k L (alikeL L) (apartL L) (i : Int) ((j + 1 : Nat) : Int) else some false) (fun k => ?_) ?_
        · simp only [heliastlaw16_SplitAll.l1]
          rw [rows_at hi, hrx, sp_w1 (by omega), if_pos (by omega), if_pos (by omega), if_pos (by omega), if_pos (by omega)]
        · refine Ev.bind (g := fun k => heliastlaw16_has.f k L[i] x.f0 x.f1 x.f2) (f := fun k t => if t = true then heliastlaw16_SplitAll.l1 k L (alikeL L) (apartL L) (i : Int) ((j + 1 : Nat) : Int) else some false) (has_ev L[i] x (by omega)) ?_
          refine Ev.congr (fun k => ?_) hn2
          rw [decide_eq_true hxm, if_pos rfl]
      · refine Ev.step (fun k => ?_) l2
        simp only [heliastlaw16_SplitAll.l1]
        rw [if_neg (by omega)]
    refine Ev.step (fun k => ?_) l1
    simp only [heliastlaw16_SplitAll.l0]
    rw [if_pos (by omega)]
  · refine Ev.step (fun k => ?_) (All_l3 h hne)
    simp only [heliastlaw16_SplitAll.l0]
    rw [if_neg (by omega)]
theorem All_none : Ev (fun k => heliastlaw16_SplitAll.l0 k [] [] [] 0) true := by
  refine Ev.step (f := fun k => heliastlaw16_SplitAll.l3 k [] [] [] 0) (fun k => by simp [heliastlaw16_SplitAll.l0]) ?_
  refine Ev.step (f := fun k => state_Right.f k []) (fun k => ?_) ?_
  · simp only [heliastlaw16_SplitAll.l3]
    rw [if_neg (by simp)]
    show (state_Right.f k []).bind (fun t => some t) = _
    cases state_Right.f k [] <;> rfl
  · exact Right_ev [] (by simp)
end Sp
theorem SplitAll_pure : heliastlaw16_SplitAll.Pure := by
  intro c d hc1 hc2 hc3 hd1 hd2 hd3
  obtain ⟨L, hL, hLe⟩ := Sp.States_ev c d 20 (Sp.wf_u8 hc3) (by omega) (Sp.wf_u8 hd3) (by omega)
  have hF := hL.fine (by omega)
  refine Ev.rounds (g := fun k => heliastlaw16_SplitAll.f k c d) ?_
  unfold heliastlaw16_SplitAll.f
  refine Ev.bind (g := fun k => heliastlaw16_States.f k c d 20) (f := fun k t173 => (split_Alike.f t173).bind fun t176 => (split_Apart.f t173).bind fun t179 => heliastlaw16_SplitAll.l0 k t173 t176 t179 0) hLe ?_
  refine Ev.congr (f := fun k => heliastlaw16_SplitAll.l0 k L (alikeL L) (apartL L) 0) (fun k => by rw [Sp.Alike_f hF, Option.bind_some, Sp.Apart_f hF, Option.bind_some]) ?_
  by_cases hne : L = []
  · subst hne
    have e1 : alikeL [] = [] := rfl
    have e2 : apartL [] = [] := by
      cases h : apartL [] with
      | nil => rfl
      | cons x l =>
        obtain ⟨_, ⟨s, hs, _⟩, _⟩ := (Sp.mem_apart (L := []) (by simp)).1 (h ▸ List.mem_cons_self .. : x ∈ apartL [])
        simp at hs
    rw [e1, e2]; exact Sp.All_none
  · exact Sp.All_l0 hF hne

end Go.Proofs.Ytmmalieacakcbaa.S

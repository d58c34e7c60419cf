-- Written by heprint.py (this session's, over the kit's print.py): not trusted, Lean checks it.
import Derived.Test.YtmmalieacakcbaaHg0
import Derived.Test.YtmmalieacakcbaaHg3
import Derived.Test.YtmmalieacakcbaaHg4
import Derived.Test.YtmmalieacakcbaaHg5
import Derived.Test.YtmmalieacakcbaaHg6
import Derived.Test.YtmmalieacakcbaaHg7
import Derived.Test.YtmmalieacakcbaaHg8
namespace Go.Proofs.Ytmmalieacakcbaa.S
open Go.RowKit Go.Proofs.YtmmalieacakcbaaW.PrintWords Go.Proofs.YtmmalieacakcbaaW.PrintLast Go.Proofs.YtmmalieacakcbaaW.PrintMore
attribute [local go_sem] max2_int min2_int max_two min_two max_three min_three max_four min_four   -- for this text's walks alone
set_option linter.unusedVariables false
set_option linter.unusedSimpArgs false

/-! ### pure SpOrder -/
-- PURE needs heliast/heliastlaw16.SplitOrder needs heliast/heliastref13.Put needs heliast/heliastlaw13.State needs heliast/heliastlaw16.States needs heliast/heliastref13.Over needs heliast/split.Alike needs heliast/split.Apart needs heliast/split.Chains needs heliast/split.Both needs heliast/heliastlaw12.Graph needs heliast/heliastref12.Same needs heliast/state.Same needs heliast/heliastlaw16.turned
open Go.Proofs.He
namespace Sp
theorem rows_atO {L : List (List En)} {i : Nat} (h : i < L.length) : rd_L4 L (i : Int) = L[i] := by
  unfold rd_L4; rw [Int.toNat_natCast, List.getD_eq_getElem?_getD, List.getElem?_eq_getElem h]; rfl
theorem mem_bothO {g : List (List Int)} {L : List (List En)} {n : Int} : n ∈ bothL g L ↔ n ∈ apartL L ∨ n ∈ chainsL g L := by
  unfold bothL; rw [(riseL_spec _).2, List.mem_append]
theorem Both_fO {L : List (List En)} (h : Fine L) {g : List (List Int)} (hg : g.length ≤ 300) : split_Both.f g L = some (bothL g L) := by
  unfold split_Both.f; rw [if_pos ⟨h.fits hg, h.ok⟩]
theorem turned_ev (L : List (List En)) (hl : L.length ≤ 300) : Ev (fun k => heliastlaw16_turned.f k L) L.reverse := by
  have key : ∀ (i : Nat) (out : List (List En)), i ≤ L.length → out = (L.drop i).reverse → Ev (fun k => heliastlaw16_turned.l0 k L out ((i : Int) - 1)) L.reverse := by
    intro i
    induction i with
    | zero =>
      intro out hi ho
      rw [List.drop_zero] at ho
      refine Ev.step (f := fun _ => some L.reverse) (fun k => ?_) (Ev.now _)
      simp only [heliastlaw16_turned.l0]; rw [if_neg (by omega), ho]
    | succ i ih =>
      intro out hi ho
      have hlt : i < L.length := by omega
      have hol : out.length ≤ 300 := by rw [ho, List.length_reverse, List.length_drop]; omega
      have hol2 : out.length < 5864062014805 := Nat.lt_of_le_of_lt hol (by decide)
      have hw : wrap64 ((i : Int) - 1) = (i : Int) - 1 := wrap_small (by omega) (by omega)
      have hi1 : ((i + 1 : Nat) : Int) - 1 = (i : Int) := by omega
      rw [hi1]
      refine Ev.step (fun k => ?_) (ih (out ++ [L[i]]) (by omega) (by rw [ho, List.drop_eq_getElem_cons hlt, List.reverse_cons]))
      simp only [heliastlaw16_turned.l0]
      rw [if_pos (by omega), if_pos (by omega), if_pos (by omega), rows_atO hlt, hw, if_pos hol2]
  have := key L.length [] (Nat.le_refl _) (by simp)
  have hw : wrap64 ((L.length : Int) - 1) = (L.length : Int) - 1 := wrap_small (by omega) (by omega)
  unfold heliastlaw16_turned.f
  rw [hw]; exact this
theorem same_all {L M : List (List En)} (h : ∀ s, s ∈ M ↔ s ∈ L) (p : List En → Prop) : (∀ s ∈ M, p s) ↔ ∀ s ∈ L, p s :=
  ⟨fun k s hs => k s ((h s).2 hs), fun k s hs => k s ((h s).1 hs)⟩
theorem same_any {L M : List (List En)} (h : ∀ s, s ∈ M ↔ s ∈ L) (p : List En → Prop) : (∃ s ∈ M, p s) ↔ ∃ s ∈ L, p s :=
  ⟨fun ⟨s, hs, k⟩ => ⟨s, (h s).1 hs, k⟩, fun ⟨s, hs, k⟩ => ⟨s, (h s).2 hs, k⟩⟩
theorem same_apart {L M : List (List En)} (hL : Fine L) (hM : Fine M) (h : ∀ s, s ∈ M ↔ s ∈ L) : apartL M = apartL L :=
  rises_eq (riseL_spec _).1 (riseL_spec _).1 (fun p => by
    show p ∈ apartL M ↔ p ∈ apartL L
    rw [mem_apart hM.spSrt, mem_apart hL.spSrt]
    exact exists_congr fun x => by rw [same_any h, same_all h])
theorem same_chains {L M : List (List En)} (g : List (List Int)) (h : ∀ s, s ∈ M ↔ s ∈ L) : chainsL g M = chainsL g L :=
  rises_eq (riseL_spec _).1 (riseL_spec _).1 (fun p => by
    show p ∈ chainsL g M ↔ p ∈ chainsL g L
    rw [mem_chains, mem_chains, same_any h (fun s => p ∈ rchL g (placesL s)), same_all h])
theorem same_alike {L M : List (List En)} (hL : Fine L) (hM : Fine M) (hne : L ≠ []) (hne2 : M ≠ []) (h : ∀ s, s ∈ M ↔ s ∈ L) : alikeL M = alikeL L :=
  srt_ext (srt_alike hM.spSrt) (srt_alike hL.spSrt) (fun x => by rw [mem_alike hM.spSrt hne2, mem_alike hL.spSrt hne, same_all h])
end Sp
theorem SplitOrder_pure : heliastlaw16_SplitOrder.Pure := by
  intro c d e a hc1 hc2 hc3 hd1 hd2 hd3 he1 he2 he3 ha
  obtain ⟨g, hg, hge⟩ := Sp.Graph_ev e
  obtain ⟨L, hL, hLe⟩ := Sp.States_ev c d (g.length : Int) (Sp.wf_u8 hc3) (by omega) (Sp.wf_u8 hd3) (by omega)
  have hF := hL.fine (by omega)
  have hg3 : g.length ≤ 300 := by omega
  have haw := Sp.wf_u8 (c := [a]) (by simpa using ha) a (by simp)
  have hwa : wrap64 a = a := Sp.wrap_small (by omega) (by omega)
  have hl4 := hL.few
  refine Ev.rounds (g := fun k => heliastlaw16_SplitOrder.f k c d e a) ?_
  unfold heliastlaw16_SplitOrder.f
  refine Ev.bind (g := fun k => heliastlaw12_Graph.f k e) hge ?_
  refine Ev.bind (g := fun k => heliastlaw16_States.f k c d (g.length : Int)) hLe ?_
  by_cases h0 : L.length = 0
  · refine Ev.congr (f := fun _ => some true) (fun k => ?_) (Ev.now true)
    rw [if_pos (by omega)]; rfl
  · have hne : L ≠ [] := fun h => h0 (by rw [h]; rfl)
    obtain ⟨j, hj⟩ : ∃ j : Nat, (j : Int) = Int.tmod a (L.length : Int) := ⟨(Int.tmod a (L.length : Int)).toNat, by have := Int.tmod_nonneg (a := a) (L.length : Int) (by omega); omega⟩
    have hj2 : j < L.length := by have := Int.tmod_lt_of_pos a (show (0 : Int) < L.length by omega); omega
    obtain ⟨M, hM⟩ : ∃ M, M = L.reverse ++ [L[j]] := ⟨_, rfl⟩
    have hmem : ∀ s, s ∈ M ↔ s ∈ L := fun s => by
      rw [hM, List.mem_append, List.mem_reverse, List.mem_singleton]
      exact ⟨fun h => h.elim id (fun h => h ▸ List.getElem_mem hj2), .inl⟩
    have hFM : Sp.Fine M := ⟨fun s hs => hF.spSrt s ((hmem s).1 hs), by rw [hM]; simp; omega, fun s hs => hF.row s ((hmem s).1 hs), fun x hx => by
      obtain ⟨s, hs, hx⟩ := List.mem_flatten.1 hx
      exact hF.ok x (List.mem_flatten.2 ⟨s, (hmem s).1 hs, hx⟩)⟩
    have hne2 : M ≠ [] := by rw [hM]; simp
    have hal := Sp.alike_len hF
    have hap := Sp.apart_len hF
    have hch := Sp.chains_len hF hg3
    have hbo : (bothL g L).length ≤ 180000 := by
      unfold bothL; refine Nat.le_trans (riseL_length _) ?_; rw [List.length_append]; omega
    have e1 := Sp.same_alike hF hFM hne hne2 hmem
    have e2 := Sp.same_apart hF hFM hmem
    have e3 := Sp.same_chains g hmem
    have e4 : bothL g M = bothL g L := by unfold bothL; rw [e2, e3]
    have hrl : L.reverse.length < 5864062014805 := by rw [List.length_reverse]; exact Nat.lt_of_le_of_lt hl4 (by decide)
    refine Ev.congr (f := fun k => (heliastlaw16_turned.f k L).bind fun t462 => if t462.length < 5864062014805 then ((some (t462 ++ [L[j]] : List (List Sp.En))).bind fun y466 => ((split_Alike.f L).bind fun t470 => ((split_Alike.f y466).bind fun t473 => ((state_Same.f k t470 t473).bind fun t476 => (if t476 = true then ((split_Apart.f L).bind fun t477 => ((split_Apart.f y466).bind fun t480 => ((heliastref12_Same.f k t477 t480).bind fun t483 => (if t483 = true then ((split_Chains.f g L).bind fun t484 => ((split_Chains.f g y466).bind fun t487 => ((heliastref12_Same.f k t484 t487).bind fun t490 => (if t490 = true then ((split_Both.f g L).bind fun t491 => ((split_Both.f g y466).bind fun t494 => ((heliastref12_Same.f k t491 t494).bind fun t497 => (some t497)))) else (some false))))) else (some false))))) else (some false)))))) else none) (fun k => ?_) ?_
    · have q1 : (0 : Int) ≤ (j : Int) := by omega
      have q2 : (j : Int) < (L.length : Int) := by omega
      rw [if_neg (by omega), hwa, ← hj]
      simp only [if_pos q1, if_pos q2, Sp.rows_atO hj2]
      rfl
    · refine Ev.bind (g := fun k => heliastlaw16_turned.f k L) (Sp.turned_ev L (by omega)) ?_
      refine Ev.congr (f := fun k => (state_Same.f k (alikeL L) (alikeL L)).bind fun t476 => (if t476 = true then ((heliastref12_Same.f k (apartL L) (apartL L)).bind fun t483 => (if t483 = true then ((heliastref12_Same.f k (chainsL g L) (chainsL g L)).bind fun t490 => (if t490 = true then ((heliastref12_Same.f k (bothL g L) (bothL g L)).bind fun t497 => (some t497)) else (some false))) else (some false))) else (some false))) (fun k => ?_) ?_
      · rw [if_pos hrl, Option.bind_some, ← hM, Sp.Alike_f hF, Option.bind_some, Sp.Alike_f hFM, Option.bind_some, Sp.Apart_f hF, Sp.Apart_f hFM, Sp.Chains_f hF hg3, Sp.Chains_f hFM hg3, Sp.Both_fO hF hg3, Sp.Both_fO hFM hg3, e1, e2, e3, e4]
        simp only [Option.bind_some]
      · have s1 := Sp.SSame_ev (alikeL L) (alikeL L) (by omega) (by omega)
        have s2 := Sp.Same12_ev (apartL L) (apartL L) (by omega)
        have s3 := Sp.Same12_ev (chainsL g L) (chainsL g L) (by omega)
        have s4 := Sp.Same12_ev (bothL g L) (bothL g L) (by omega)
        rw [decide_eq_true rfl] at s1 s2 s3 s4
        refine Ev.bind (g := fun k => state_Same.f k (alikeL L) (alikeL L)) s1 ?_
        refine Ev.congr (f := fun k => (heliastref12_Same.f k (apartL L) (apartL L)).bind fun t483 => (if t483 = true then ((heliastref12_Same.f k (chainsL g L) (chainsL g L)).bind fun t490 => (if t490 = true then ((heliastref12_Same.f k (bothL g L) (bothL g L)).bind fun t497 => (some t497)) else (some false))) else (some false))) (fun k => if_pos rfl) ?_
        refine Ev.bind (g := fun k => heliastref12_Same.f k (apartL L) (apartL L)) s2 ?_
        refine Ev.congr (f := fun k => (heliastref12_Same.f k (chainsL g L) (chainsL g L)).bind fun t490 => (if t490 = true then ((heliastref12_Same.f k (bothL g L) (bothL g L)).bind fun t497 => (some t497)) else (some false))) (fun k => if_pos rfl) ?_
        refine Ev.bind (g := fun k => heliastref12_Same.f k (chainsL g L) (chainsL g L)) s3 ?_
        refine Ev.congr (f := fun k => (heliastref12_Same.f k (bothL g L) (bothL g L)).bind fun t497 => (some t497)) (fun k => if_pos rfl) ?_
        exact Ev.bind (g := fun k => heliastref12_Same.f k (bothL g L) (bothL g L)) (f := fun k t => some t) s4 (Ev.now true)

end Go.Proofs.Ytmmalieacakcbaa.S

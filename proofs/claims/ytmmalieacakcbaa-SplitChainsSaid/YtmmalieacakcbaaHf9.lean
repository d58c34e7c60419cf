-- Written by heprint.py (this session's, over the kit's print.py): not trusted, Lean checks it.
import Derived.Test.YtmmalieacakcbaaHf0
import Derived.Test.YtmmalieacakcbaaHf3
import Derived.Test.YtmmalieacakcbaaHf4
import Derived.Test.YtmmalieacakcbaaHf5
import Derived.Test.YtmmalieacakcbaaHf6
import Derived.Test.YtmmalieacakcbaaHf7
import Derived.Test.YtmmalieacakcbaaHf8
namespace Go.Proofs.Ytmmalieacakcbaa.S
open Go.RowKit Go.Proofs.YtmmalieacakcbaaW.PrintWords Go.Proofs.YtmmalieacakcbaaW.PrintLast Go.Proofs.YtmmalieacakcbaaW.PrintMore
attribute [local go_sem] max2_int min2_int max_two min_two max_three min_three max_four min_four   -- for this text's walks alone
set_option linter.unusedVariables false
set_option linter.unusedSimpArgs false

/-! ### pure SpChains -/
-- PURE needs heliast/heliastlaw16.SplitChains needs heliast/heliastref13.Put needs heliast/heliastlaw13.State needs heliast/heliastlaw16.States needs heliast/heliastref13.Over needs heliast/split.Alike needs heliast/split.Apart needs heliast/split.Chains needs heliast/heliastref12.Has needs heliast/heliastlaw12.Graph needs heliast/heliastref12.Set needs heliast/heliastref12.Same needs heliast/graph.Reach
open Go.Proofs.He
namespace Sp
theorem rows_atC {L : List (List En)} {i : Nat} (h : i < L.length) : rd_L4 L (i : Int) = L[i] := by
  unfold rd_L4; rw [Int.toNat_natCast, List.getD_eq_getElem?_getD, List.getElem?_eq_getElem h]; rfl
theorem Set_ev (g : List (List Int)) (l : List Int) (hg : g.length ≤ 300) (hl : l.length ≤ 1000000) (hp : l.Pairwise (· < ·)) (hr : ∀ x ∈ l, 0 ≤ x ∧ x < g.length) : Ev (fun k => heliastref12_Set.f k g l) l := by
  have key : ∀ (d i : Nat) (out : List Int), i + d = g.length → out.length ≤ i → out ++ ((List.range' i d).map Int.ofNat).filter (fun x => decide (x ∈ l)) = l → Ev (fun k => heliastref12_Set.l0 k g l out (i : Int)) l := by
    intro d
    induction d with
    | zero =>
      intro i out hi ho he
      have he' : out = l := by simpa using he
      refine Ev.step (f := fun _ => some l) (fun k => ?_) (Ev.now _)
      simp only [heliastref12_Set.l0]; rw [if_neg (by omega), he']
    | succ d ih =>
      intro i out hi ho he
      rw [List.range'_succ, List.map_cons] at he
      have hlt : out.length < 17592186044416 := by omega
      refine Ev.step (f := fun k => (heliastref12_Has.f k l (i : Int)).bind fun t => if t = true then heliastref12_Set.l0 k g l (out ++ [(i : Int)]) ((i + 1 : Nat) : Int) else heliastref12_Set.l0 k g l out ((i + 1 : Nat) : Int)) (fun k => ?_) ?_
      · simp only [heliastref12_Set.l0]
        rw [if_pos (by omega), sp_w1 (by omega)]
        simp only [if_pos hlt]
      · refine Ev.bind (g := fun k => heliastref12_Has.f k l (i : Int)) (f := fun k t => if t = true then heliastref12_Set.l0 k g l (out ++ [(i : Int)]) ((i + 1 : Nat) : Int) else heliastref12_Set.l0 k g l out ((i + 1 : Nat) : Int)) (Has_ev l (i : Int) (by omega)) ?_
        by_cases hin : (i : Int) ∈ l
        · rw [List.filter_cons_of_pos (by exact decide_eq_true hin)] at he
          refine Ev.congr (fun k => ?_) (ih (i + 1) (out ++ [(i : Int)]) (by omega) (by simp; omega) (by simpa using he))
          rw [decide_eq_true hin, if_pos rfl]
        · rw [List.filter_cons_of_neg (by simpa using hin)] at he
          refine Ev.congr (fun k => ?_) (ih (i + 1) out (by omega) (by omega) he)
          rw [decide_eq_false hin, if_neg (by simp)]
  refine key g.length 0 [] (by omega) (by simp) ?_
  rw [List.nil_append]
  refine rises_eq (List.Pairwise.filter _ ?_) hp (fun x => ?_)
  · rw [List.pairwise_map]
    exact (List.pairwise_lt_range' (s := 0) (n := g.length)).imp (fun {a b} h => by show (a : Int) < (b : Int); omega)
  · rw [List.mem_filter, decide_eq_true_iff]
    constructor
    · exact fun h => h.2
    · intro h
      have := hr x h
      refine ⟨List.mem_map.2 ⟨x.toNat, List.mem_range'_1.2 (by omega), ?_⟩, h⟩
      show ((x.toNat : Nat) : Int) = x; omega
theorem Chains_l1 {g : List (List Int)} {L : List (List En)} (h : Fine L) (hg : g.length ≤ 300) (n : Nat) (r : Bool)
    (hn : Ev (fun k => heliastlaw16_SplitChains.l0 k g L (chainsL g L) ((n + 1 : Nat) : Int)) r) (hnn : n ≤ 300) : Ev (fun k => heliastlaw16_SplitChains.l1 k g L (chainsL g L) (n : Int) false false 0) r := by
  have hll := h.len
  have hcl := chains_len h hg
  obtain ⟨P, hP⟩ : ∃ P : List En → Bool, P = fun s => decide ((n : Int) ∈ rchL g (placesL s)) := ⟨_, rfl⟩
  have key : ∀ (d i : Nat) (y z : Bool), i + d = L.length → ((y || (L.drop i).any P) && (z || (L.drop i).any (fun s => !P s))) = decide ((n : Int) ∈ chainsL g L) → Ev (fun k => heliastlaw16_SplitChains.l1 k g L (chainsL g L) (n : Int) y z (i : Int)) r := by
    intro d
    induction d with
    | zero =>
      intro i y z hi he
      rw [List.drop_eq_nil_of_le (by omega)] at he
      simp only [List.any_nil, Bool.or_false] at he
      refine Ev.step (f := fun k => (heliastref12_Has.f k (chainsL g L) (n : Int)).bind fun t => if y = true then (if (t != z) = true then some false else heliastlaw16_SplitChains.l0 k g L (chainsL g L) ((n + 1 : Nat) : Int)) else (if (t != false) = true then some false else heliastlaw16_SplitChains.l0 k g L (chainsL g L) ((n + 1 : Nat) : Int))) (fun k => ?_) ?_
      · simp only [heliastlaw16_SplitChains.l1]
        rw [if_neg (by omega), sp_w1 (by omega)]
      · refine Ev.bind (g := fun k => heliastref12_Has.f k (chainsL g L) (n : Int)) (f := fun k t => if y = true then (if (t != z) = true then some false else heliastlaw16_SplitChains.l0 k g L (chainsL g L) ((n + 1 : Nat) : Int)) else (if (t != false) = true then some false else heliastlaw16_SplitChains.l0 k g L (chainsL g L) ((n + 1 : Nat) : Int))) (Has_ev (chainsL g L) (n : Int) (by omega)) ?_
        refine Ev.congr (fun k => ?_) hn
        rw [← he]
        cases y <;> cases z <;> simp
    | succ d ih =>
      intro i y z hi he
      have hlt : i < L.length := by omega
      have hrow := h.row L[i] (List.getElem_mem hlt)
      have hpl : state_Places.f L[i] = some (placesL L[i]) := by unfold state_Places.f; rw [if_pos (by omega)]
      have hre : graph_Reach.f g (placesL L[i]) = some (rchL g (placesL L[i])) := by unfold graph_Reach.f; rw [if_pos (by omega)]
      have hrl := small_rch g (placesL L[i])
      rw [List.drop_eq_getElem_cons hlt, List.any_cons, List.any_cons] at he
      have hPi : decide ((n : Int) ∈ rchL g (placesL L[i])) = P L[i] := by rw [hP]
      refine Ev.step (f := fun k => (heliastref12_Has.f k (rchL g (placesL L[i])) (n : Int)).bind fun t => if y = true then (if z = true then heliastlaw16_SplitChains.l1 k g L (chainsL g L) (n : Int) true true ((i + 1 : Nat) : Int) else heliastlaw16_SplitChains.l1 k g L (chainsL g L) (n : Int) true (!t) ((i + 1 : Nat) : Int)) else (if z = true then heliastlaw16_SplitChains.l1 k g L (chainsL g L) (n : Int) t true ((i + 1 : Nat) : Int) else heliastlaw16_SplitChains.l1 k g L (chainsL g L) (n : Int) t (!t) ((i + 1 : Nat) : Int))) (fun k => ?_) ?_
      · simp only [heliastlaw16_SplitChains.l1]
        rw [if_pos (by omega), if_pos (by omega), rows_atC hlt, hpl, Option.bind_some, hre, Option.bind_some, sp_w1 (by omega)]
      · refine Ev.bind (g := fun k => heliastref12_Has.f k (rchL g (placesL L[i])) (n : Int)) (f := fun k t => if y = true then (if z = true then heliastlaw16_SplitChains.l1 k g L (chainsL g L) (n : Int) true true ((i + 1 : Nat) : Int) else heliastlaw16_SplitChains.l1 k g L (chainsL g L) (n : Int) true (!t) ((i + 1 : Nat) : Int)) else (if z = true then heliastlaw16_SplitChains.l1 k g L (chainsL g L) (n : Int) t true ((i + 1 : Nat) : Int) else heliastlaw16_SplitChains.l1 k g L (chainsL g L) (n : Int) t (!t) ((i + 1 : Nat) : Int))) (Has_ev (rchL g (placesL L[i])) (n : Int) (by omega)) ?_
        rw [hPi]
        refine Ev.congr (fun k => ?_) (ih (i + 1) (y || P L[i]) (z || !P L[i]) (by omega) (by rw [← he]; simp only [Bool.or_assoc]))
        cases y <;> cases z <;> simp
  refine key L.length 0 false false (by omega) ?_
  rw [List.drop_zero, Bool.false_or, Bool.false_or, Bool.eq_iff_iff, Bool.and_eq_true, List.any_eq_true, List.any_eq_true, decide_eq_true_iff, mem_chains]
  subst hP
  constructor
  · rintro ⟨⟨s, h1, h2⟩, ⟨t, h3, h4⟩⟩
    refine ⟨⟨s, h1, of_decide_eq_true h2⟩, fun h5 => ?_⟩
    have := h5 t h3
    simp [this] at h4
  · rintro ⟨⟨s, h1, h2⟩, h3⟩
    refine ⟨⟨s, h1, decide_eq_true h2⟩, Classical.byContradiction fun h4 => h3 (fun t ht => ?_)⟩
    exact Classical.byContradiction fun h5 => h4 ⟨t, ht, by simp [h5]⟩
end Sp
theorem SplitChains_pure : heliastlaw16_SplitChains.Pure := by
  intro c d e hc1 hc2 hc3 hd1 hd2 hd3 he1 he2 he3
  obtain ⟨g, hg, hge⟩ := Sp.Graph_ev e
  obtain ⟨L, hL, hLe⟩ := Sp.States_ev c d (g.length : Int) (Sp.wf_u8 hc3) (by omega) (Sp.wf_u8 hd3) (by omega)
  have hF := hL.fine (by omega)
  have hg3 : g.length ≤ 300 := by omega
  have h2 := Sp.chains_len hF hg3
  refine Ev.rounds (g := fun k => heliastlaw16_SplitChains.f k c d e) ?_
  unfold heliastlaw16_SplitChains.f
  refine Ev.bind (g := fun k => heliastlaw12_Graph.f k e) (f := fun k t218 => (heliastlaw16_States.f k c d (t218.length : Int)).bind fun t221 => (split_Chains.f t218 t221).bind fun t224 => heliastlaw16_SplitChains.l0 k t218 t221 t224 0) hge ?_
  refine Ev.bind (g := fun k => heliastlaw16_States.f k c d (g.length : Int)) (f := fun k t221 => (split_Chains.f g t221).bind fun t224 => heliastlaw16_SplitChains.l0 k g t221 t224 0) hLe ?_
  refine Ev.congr (f := fun k => heliastlaw16_SplitChains.l0 k g L (chainsL g L) 0) (fun k => by rw [Sp.Chains_f hF hg3, Option.bind_some]) ?_
  refine Sp.ev_down (fun j k => heliastlaw16_SplitChains.l0 k g L (chainsL g L) (j : Int)) g.length (fun j hj hn => ?_) ?_ 0 (Nat.zero_le _)
  · refine Ev.step (fun k => ?_) (Sp.Chains_l1 hF hg3 j true hn (by omega))
    simp only [heliastlaw16_SplitChains.l0]
    rw [if_pos (by omega)]
  · refine Ev.step (f := fun k => (heliastref12_Set.f k g (chainsL g L)).bind fun t228 => (heliastref12_Same.f k t228 (chainsL g L)).bind fun t231 => some t231) (fun k => ?_) ?_
    · simp only [heliastlaw16_SplitChains.l0]
      rw [if_neg (by omega)]; rfl
    · refine Ev.bind (g := fun k => heliastref12_Set.f k g (chainsL g L)) (f := fun k t228 => (heliastref12_Same.f k t228 (chainsL g L)).bind fun t231 => some t231) (Sp.Set_ev g (chainsL g L) hg3 (by omega) (riseL_spec _).1 (fun x hx => Sp.chains_range hx)) ?_
      refine Ev.bind (g := fun k => heliastref12_Same.f k (chainsL g L) (chainsL g L)) (f := fun k t231 => some t231) (Sp.Same12_ev (chainsL g L) (chainsL g L) (by omega)) ?_
      refine Ev.congr (fun k => ?_) (Ev.now true)
      simp

end Go.Proofs.Ytmmalieacakcbaa.S

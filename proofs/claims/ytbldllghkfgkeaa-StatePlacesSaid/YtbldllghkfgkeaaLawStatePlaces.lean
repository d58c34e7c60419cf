/- The law StatePlaces holds: its row, out of the walk of the code and the plain law. Conditions: those of the given statement alone. -/
-- Typed by mkrow.py (a program of ours) after the printed rows: the printer has no row for these parameters.
import Derived.Test.YtbldllghkfgkeaaRows
import Derived.Test.YtbldllghkfgkeaaFacts
import Derived.Test.YtbldllghkfgkeaaHeE
import Derived.Test.YtbldllghkfgkeaaPb7
import Derived.Test.YtbldllghkfgkeaaPb6
import Derived.WalkKit
import Derived.ProofKit
import Derived.OpenShut
import Derived.ShutString
import Derived.ChangeOld
import Derived.Below
import Derived.SizedLaws
import Derived.Test.YtbldllghkfgkeaaWSized
namespace Go.Proofs.Ytbldllghkfgkeaa.statePlaces
open Go.ChangeShapes Go.WideShapes Go.ChangeAt Go.RowKit
open Go.ChangeMaps (open_string shut_string)
set_option linter.unusedVariables false
theorem own : ownKnob Try.prog.godebug = none := by kernel_rfl
theorem laidOut : laidOutB Try.prog = true := Facts.laidOut
def IsRow (k : IntKind) (w : World) (a : Option Addr) (len cap : Nat) (zs : List Int) : Prop :=
  (a = none ∧ len = 0 ∧ cap = 0 ∧ zs = []) ∨
  ∃ x, a = some x ∧ len ≤ cap ∧ cap ≤ maxLen ∧ zs.length = cap ∧ (∀ i, i < zs.length → w.cell? (x.add i) = some (.int k (zs.getD i 0))) ∧ ∀ n ∈ zs, (Lit.int k n).wf = true
open Go.RowKit Go.Proofs.YtbldllghkfgkeaaW.PrintWords Go.Proofs.He
set_option maxRecDepth 100000 in
/-- An element of the type Entry is its two texts and its number. -/
theorem open_en {H : Type} {enc : TypeId × Value → H} {W : World} (n : Nat) (cs : List Value) (y : DataW H × List MemPlace) (hf : DataW.trod enc Try.prog W 0 (fun _ => true) true n 74 cs = some y) : ∃ x : S.S74, S.k74.K W x cs := by
  obtain ⟨xs, n, hk, rfl, hx, hl, hfld⟩ := DataW.trod_struct Try.underlying74 hf
  have e0 := hfld 0 _ rfl
  have e1 := hfld 1 _ rfl
  have e2 := hfld 2 _ rfl
  have hlen' : xs.length = 3 := hl
  rw [List.getElem?_eq_getElem (by omega)] at e0 e1 e2
  obtain ⟨a, ha, _⟩ := DataW.trod_string (by kernel_rfl) e0
  obtain ⟨b, hb, _⟩ := DataW.trod_string (by kernel_rfl) e1
  obtain ⟨m, hm, _⟩ := DataW.trod_int (k := .i64) (by kernel_rfl) e2
  have c62 : Try.prog.cellsOf 74 = 3 := by kernel_rfl
  rw [c62] at hx
  match cs, hx with
  | [x, y, z], _ =>
    have ha' : [x] = [Value.string a] := ha
    have hb' : [y] = [Value.string b] := hb
    have hm' : [z] = [Value.int .i64 m] := hm
    cases ha'; cases hb'; cases hm'
    exact ⟨⟨a, b, m⟩, S.k74_mk W ⟨a, b, m⟩⟩
set_option maxRecDepth 100000 in
theorem lifted (os : Os) (started : os.Started) (H : Type) (enc : TypeId × Value → H) :
    ReturnsInHanded {} Try.checked os 13 .any (Rows.statePlacesSpec.pre6 enc Try.prog Try.f13 Rows.statePlacesRow.domain false) (Rows.statePlacesSpec.post enc Try.prog Try.f13 false true false false) := by
  refine returnsInHanded_of_change_sized (C := Try.checked) own started (by kernel_rfl) Try.func13
    (ChangeSpec.witness6 (enc := enc) (C := Try.checked) false ⟨#[], #[.slice none 0 0, .slice none 0 0], []⟩ 8 (by kernel_rfl) (by kernel_rfl) (by kernel_rfl) (by kernel_rfl)) ?_
  intro W base args ds gs before hval0 hW hcnd hsz0 _
  have hsz : (DataW.weightsEach Try.prog (Try.f13.params.toList ++ Rows.statePlacesSpec.plain.varTypes Try.prog) (ds ++ gs)).all (· ≤ reachBytes) = true := hsz0
  have hval : ∀ (j : Nat) t v, Try.f13.params[j]? = some t → args[j]? = some v → Value.okWide Try.prog W .any base t v := hval0
  have hW' := hW
  obtain ⟨p, q, hA0, hV, rfl, hfz, hnd⟩ := hW
  have hA : DataW.TrodAll enc Try.prog W 0 (fun _ => true) true Try.f13.params.toList args.toList ds p := hA0
  rw [Try.params13] at hA hval hsz
  obtain ⟨v0, vs0, d0, ds0, p0, q0, hargs, rfl, rfl, h0, r0⟩ := trodAll_cons hA
  obtain ⟨v1, vs1, d1, ds1, p1, q1, rfl, rfl, rfl, h1, r1⟩ := trodAll_cons r0
  obtain ⟨rfl, rfl, rfl⟩ := trodAll_nil r1
  obtain rfl : args = #[v0, v1] := by cases args; simp_all
  obtain ⟨rfl, rfl⟩ := trodVars_none hV
  obtain ⟨a0, len0, cap0, rfl⟩ := okWide_slice Try.underlying23 (hval 0 23 v0 rfl rfl)
  have k0 := h0
  have lt0 : ∀ x ∈ p0, x.block < W.heap.size := by obtain ⟨m, hm⟩ := k0; exact DataW.trod_lt m _ _ _ hm
  obtain ⟨z0, w0⟩ : ∃ zs, IsRow .u8 W a0 len0 cap0 zs := by
    obtain ⟨fuel, hf⟩ := h0
    rcases open_ints Try.underlying23 Try.underlying5 (by kernel_rfl) hf with ⟨hcs, _⟩ | ⟨x, l, c, zs, hcs, _, hl, hm, hz, _, hcell, hwz⟩
    · simp [Value.cells] at hcs
      obtain ⟨rfl, rfl, rfl⟩ := hcs
      exact ⟨[], .inl ⟨rfl, rfl, rfl, rfl⟩⟩
    · simp [Value.cells] at hcs
      obtain ⟨rfl, rfl, rfl⟩ := hcs
      exact ⟨zs, .inr ⟨_, rfl, hl, hm, by simpa using hz, hcell, hwz⟩⟩
  have y0 : len0 * 1 ≤ 140737488351232 := Go.Proofs.YtbldllghkfgkeaaW.PrintWords.sized_ints hsz (j := 0) (t := 23) rfl rfl Try.underlying23 Try.underlying5 (by kernel_rfl) (by kernel_rfl) h0
  obtain ⟨a1, len1, cap1, rfl⟩ := okWide_slice Try.underlying69 (hval 1 69 v1 rfl rfl)
  have k1 := h1
  have lt1 : ∀ x ∈ p1, x.block < W.heap.size := by obtain ⟨m, hm⟩ := k1; exact DataW.trod_lt m _ _ _ hm
  obtain ⟨G1, e1, hr1, hc1, s1, m1⟩ := arg_elems S.k74 hsz (j := 1) (t := 69) rfl rfl Try.underlying69 (by kernel_rfl) open_en h1
  rw [show Try.prog.bytesOf 74 = 40 from by kernel_rfl] at s1
  subst e1
  clear hA0 hval0 hsz0 hsz
  obtain ⟨l0, rfl, hr0, hm0, hw0, hc0⟩ := ReadsInt.ofRowC w0
  obtain ⟨k, hk⟩ := S.StatePlaces_any l0 G1 (by omega) (by omega) hw0
  refine (S.heliastlaw13_StatePlaces.calls k _ _ l0 _ _ G1 true W (Kd.C_of_reads (d := (0 : Int)) (h1 := fun _ => rfl) hr0) hc0 hr1 hc1 hk rfl).mono fun e W' ⟨he, bel⟩ => ?_
  subst he
  exact ⟨_, rfl, _, _, _, [], _, [], hW', trodAll_mk1 (shut_bool Try.underlying4 _), (trodAll_cons_mk (Below.trod laidOut (by kernel_rfl) (of_decide_eq_true (by kernel_rfl)) k0 bel lt0) (trodAll_cons_mk (Below.trod laidOut (by kernel_rfl) (of_decide_eq_true (by kernel_rfl)) k1 bel lt1) trodAll_mk0)), rfl, bel.frame _, fun h => by cases h⟩
theorem fact10 : (Rows.statePlacesRow.inPlace == Try.prog.inPlace 13) = true := by kernel_rfl
theorem fact11 : (Rows.statePlacesRow.unfollowed == Try.prog.unfollowed 13) = true := by kernel_rfl
theorem fact12 : (Rows.statePlacesRow.recurses == Try.prog.recurses 13) = true := by kernel_rfl
theorem fact13 : (Rows.statePlacesRow.named == Try.prog.varsNamed 13) = true := by kernel_rfl
theorem isNamed : Try.prog.funcNamed Rows.statePlacesRow.func = some 13 := by kernel_rfl
theorem joined : joinedFacts Try.prog 13 Try.f13 Rows.statePlacesSpec Rows.statePlacesRow = true := by
  unfold joinedFacts
  repeat' (with_reducible refine Facts.and_mk ?_ ?_)
  · as_aux_lemma => kernel_rfl
  · exact Facts.laidOut
  · exact Facts.rowed
  · as_aux_lemma => kernel_rfl
  · as_aux_lemma => kernel_rfl
  · as_aux_lemma => kernel_rfl
  · as_aux_lemma => kernel_rfl
  · as_aux_lemma => kernel_rfl
  · as_aux_lemma => kernel_rfl
  · exact fact10
  · exact fact11
  · exact fact12
  · exact fact13
  · as_aux_lemma => kernel_rfl
  · as_aux_lemma => kernel_rfl
  · as_aux_lemma => kernel_rfl
  · as_aux_lemma => kernel_rfl
  · as_aux_lemma => kernel_rfl
  · as_aux_lemma => kernel_rfl
  · as_aux_lemma => kernel_rfl
  · as_aux_lemma => kernel_rfl
  · as_aux_lemma => kernel_rfl
  · rw [Facts.plain]; kernel_rfl
  · as_aux_lemma => kernel_rfl
  · exact Facts.heard
  · exact Facts.enters
  · rw [Facts.finals]; kernel_rfl
  · rw [Facts.made]; kernel_rfl
  · as_aux_lemma => kernel_rfl
  · as_aux_lemma => kernel_rfl
  · as_aux_lemma => kernel_rfl
  · as_aux_lemma => kernel_rfl
theorem over : Rows.statePlacesRow.holds Try.pinned (OpenSpec.ofChange Rows.statePlacesSpec) :=
  OpenClaim.holds_of_wide 13 Try.f13 rfl rfl rfl rfl rfl rfl rfl ⟨rfl, rfl, rfl, rfl, rfl⟩ rfl rfl rfl rfl rfl isNamed Try.func13 joined
    (of_decide_eq_true (by kernel_rfl)) (by unfold Func.isWrapper; first | (rw [if_pos (by decide +kernel)]; kernel_rfl) | (rw [if_neg (by decide +kernel)]; exact ⟨rfl, rfl⟩))
    (fun os started H enc _ => lifted os started H enc)
theorem proved : Rows.StatePlacesSaid := over
#print axioms proved
end Go.Proofs.Ytbldllghkfgkeaa.statePlaces
namespace Go.Proofs.Ytbldllghkfgkeaa
/-- The row, under a short name, for the claim. -/
theorem statePlaces_holds : Rows.StatePlacesSaid := statePlaces.proved
end Go.Proofs.Ytbldllghkfgkeaa

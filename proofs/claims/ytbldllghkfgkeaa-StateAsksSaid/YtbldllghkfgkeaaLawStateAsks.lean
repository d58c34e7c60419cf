/- The law StateAsks holds: its row, out of the walk of the code and the plain law. Conditions: those of the given statement alone. -/
-- Typed by mkrow.py (a program of ours) after the printed rows: the printer has no row for these parameters.
import Derived.Test.YtbldllghkfgkeaaRows
import Derived.Test.YtbldllghkfgkeaaFacts
import Derived.Test.YtbldllghkfgkeaaHeE
import Derived.Test.YtbldllghkfgkeaaPc12
import Derived.Test.YtbldllghkfgkeaaPc10
import Derived.WalkKit
import Derived.ProofKit
import Derived.OpenShut
import Derived.ShutString
import Derived.ChangeOld
import Derived.Below
import Derived.SizedLaws
import Derived.Test.YtbldllghkfgkeaaWSized
namespace Go.Proofs.Ytbldllghkfgkeaa.stateAsks
open Go.ChangeShapes Go.WideShapes Go.ChangeAt Go.RowKit
open Go.ChangeMaps (open_string shut_string)
set_option linter.unusedVariables false
theorem own : ownKnob Try.prog.godebug = none := by kernel_rfl
theorem laidOut : laidOutB Try.prog = true := Facts.laidOut
def IsRow (k : IntKind) (w : World) (a : Option Addr) (len cap : Nat) (zs : List Int) : Prop :=
  (a = none ∧ len = 0 ∧ cap = 0 ∧ zs = []) ∨
  ∃ x, a = some x ∧ len ≤ cap ∧ cap ≤ maxLen ∧ zs.length = cap ∧ (∀ i, i < zs.length → w.cell? (x.add i) = some (.int k (zs.getD i 0))) ∧ ∀ n ∈ zs, (Lit.int k n).wf = true
open Go.RowKit Go.Proofs.YtbldllghkfgkeaaW.PrintWords Go.Proofs.He
set_option maxRecDepth 100000 in
/-- An element of the type Entry is its two texts and its number. -/
theorem open_en {H : Type} {enc : TypeId × Value → H} {W : World} (n : Nat) (cs : List Value) (y : DataW H × List MemPlace) (hf : DataW.trod enc Try.prog W 0 (fun _ => true) true n 74 cs = some y) : ∃ x : S.S74, S.k74.K W x cs := by
  obtain ⟨xs, n, hk, rfl, hx, hl, hfld⟩ := DataW.trod_struct Try.underlying74 hf
  have e0 := hfld 0 _ rfl
  have e1 := hfld 1 _ rfl
  have e2 := hfld 2 _ rfl
  have hlen' : xs.length = 3 := hl
  rw [List.getElem?_eq_getElem (by omega)] at e0 e1 e2
  obtain ⟨a, ha, _⟩ := DataW.trod_string (by kernel_rfl) e0
  obtain ⟨b, hb, _⟩ := DataW.trod_string (by kernel_rfl) e1
  obtain ⟨m, hm, _⟩ := DataW.trod_int (k := .i64) (by kernel_rfl) e2
  have c62 : Try.prog.cellsOf 74 = 3 := by kernel_rfl
  rw [c62] at hx
  match cs, hx with
  | [x, y, z], _ =>
    have ha' : [x] = [Value.string a] := ha
    have hb' : [y] = [Value.string b] := hb
    have hm' : [z] = [Value.int .i64 m] := hm
    cases ha'; cases hb'; cases hm'
    exact ⟨⟨a, b, m⟩, S.k74_mk W ⟨a, b, m⟩⟩
set_option maxRecDepth 100000 in
/-- A struct argument of the type Entry is its two texts and its number. -/
theorem open_en1 {H : Type} {enc : TypeId × Value → H} {W : World} {base : Nat} {spare : Nat → Bool} {held : Bool} {r : Reach} {b0 : Nat} {v : Value} {d : DataW H} {ps : List MemPlace}
    (hval : Value.okWide Try.prog W r b0 74 v) (h : DataW.Trod enc Try.prog W base spare held 74 v d ps) : ∃ a b n, v = .agg #[.string a, .string b, .int .i64 n] := by
  obtain ⟨cs, rfl, hcs⟩ := okWide_struct Try.underlying74 hval
  obtain ⟨fuel, hf⟩ := h
  obtain ⟨xs, n, rfl, hx, hl, hlen, hfld⟩ := DataW.trod_struct Try.underlying74 hf
  have e0 := hfld 0 _ rfl
  have e1 := hfld 1 _ rfl
  have e2 := hfld 2 _ rfl
  have hlen' : xs.length = 3 := hlen
  rw [List.getElem?_eq_getElem (by omega)] at e0 e1 e2
  obtain ⟨a, ha, _⟩ := DataW.trod_string (by kernel_rfl) e0
  obtain ⟨b, hb, _⟩ := DataW.trod_string (by kernel_rfl) e1
  obtain ⟨m, hm, _⟩ := DataW.trod_int (k := .i64) (by kernel_rfl) e2
  have c62 : Try.prog.cellsOf 74 = 3 := by kernel_rfl
  rw [c62] at hl
  obtain ⟨cs⟩ := cs
  have hl' : cs.length = 3 := hl
  match cs, hl' with
  | [x, y, z], _ =>
    have ha' : [x] = [Value.string a] := ha
    have hb' : [y] = [Value.string b] := hb
    have hm' : [z] = [Value.int .i64 m] := hm
    cases ha'; cases hb'; cases hm'
    exact ⟨a, b, m, rfl⟩
set_option maxRecDepth 100000 in
theorem lifted (os : Os) (started : os.Started) (H : Type) (enc : TypeId × Value → H) :
    ReturnsInHanded {} Try.checked os 14 .any (Rows.stateAsksSpec.pre6 enc Try.prog Try.f14 Rows.stateAsksRow.domain false) (Rows.stateAsksSpec.post enc Try.prog Try.f14 false true false false) := by
  refine returnsInHanded_of_change_sized (C := Try.checked) own started (by kernel_rfl) Try.func14
    (ChangeSpec.witness6 (enc := enc) (C := Try.checked) false ⟨#[], #[.slice none 0 0, .slice none 0 0, .agg #[.string ByteArray.empty, .string ByteArray.empty, .int .i64 0], .slice none 0 0, .slice none 0 0, .int .u8 0], []⟩ 8 (by kernel_rfl) (by kernel_rfl) (by kernel_rfl) (by kernel_rfl)) ?_
  intro W base args ds gs before hval0 hW hcnd hsz0 _
  have hsz : (DataW.weightsEach Try.prog (Try.f14.params.toList ++ Rows.stateAsksSpec.plain.varTypes Try.prog) (ds ++ gs)).all (· ≤ reachBytes) = true := hsz0
  have hval : ∀ (j : Nat) t v, Try.f14.params[j]? = some t → args[j]? = some v → Value.okWide Try.prog W .any base t v := hval0
  have hW' := hW
  obtain ⟨p, q, hA0, hV, rfl, hfz, hnd⟩ := hW
  have hA : DataW.TrodAll enc Try.prog W 0 (fun _ => true) true Try.f14.params.toList args.toList ds p := hA0
  rw [Try.params14] at hA hval hsz
  obtain ⟨v0, vs0, d0, ds0, p0, q0, hargs, rfl, rfl, h0, r0⟩ := trodAll_cons hA
  obtain ⟨v1, vs1, d1, ds1, p1, q1, rfl, rfl, rfl, h1, r1⟩ := trodAll_cons r0
  obtain ⟨v2, vs2, d2, ds2, p2, q2, rfl, rfl, rfl, h2, r2⟩ := trodAll_cons r1
  obtain ⟨v3, vs3, d3, ds3, p3, q3, rfl, rfl, rfl, h3, r3⟩ := trodAll_cons r2
  obtain ⟨v4, vs4, d4, ds4, p4, q4, rfl, rfl, rfl, h4, r4⟩ := trodAll_cons r3
  obtain ⟨v5, vs5, d5, ds5, p5, q5, rfl, rfl, rfl, h5, r5⟩ := trodAll_cons r4
  obtain ⟨rfl, rfl, rfl⟩ := trodAll_nil r5
  obtain rfl : args = #[v0, v1, v2, v3, v4, v5] := by cases args; simp_all
  obtain ⟨rfl, rfl⟩ := trodVars_none hV
  obtain ⟨a0, len0, cap0, rfl⟩ := okWide_slice Try.underlying69 (hval 0 69 v0 rfl rfl)
  have k0 := h0
  have lt0 : ∀ x ∈ p0, x.block < W.heap.size := by obtain ⟨m, hm⟩ := k0; exact DataW.trod_lt m _ _ _ hm
  obtain ⟨G0, e0, hr0, hc0, s0, m0⟩ := arg_elems S.k74 hsz (j := 0) (t := 69) rfl rfl Try.underlying69 (by kernel_rfl) open_en h0
  rw [show Try.prog.bytesOf 74 = 40 from by kernel_rfl] at s0
  subst e0
  obtain ⟨a1, len1, cap1, rfl⟩ := okWide_slice Try.underlying69 (hval 1 69 v1 rfl rfl)
  have k1 := h1
  have lt1 : ∀ x ∈ p1, x.block < W.heap.size := by obtain ⟨m, hm⟩ := k1; exact DataW.trod_lt m _ _ _ hm
  obtain ⟨G1, e1, hr1, hc1, s1, m1⟩ := arg_elems S.k74 hsz (j := 1) (t := 69) rfl rfl Try.underlying69 (by kernel_rfl) open_en h1
  rw [show Try.prog.bytesOf 74 = 40 from by kernel_rfl] at s1
  subst e1
  have k2 := h2
  have lt2 : ∀ x ∈ p2, x.block < W.heap.size := by obtain ⟨m, hm⟩ := k2; exact DataW.trod_lt m _ _ _ hm
  obtain ⟨x2_0, x2_1, x2_2, rfl⟩ := open_en1 (hval 2 74 v2 rfl rfl) h2
  obtain ⟨a3, len3, cap3, rfl⟩ := okWide_slice Try.underlying23 (hval 3 23 v3 rfl rfl)
  have k3 := h3
  have lt3 : ∀ x ∈ p3, x.block < W.heap.size := by obtain ⟨m, hm⟩ := k3; exact DataW.trod_lt m _ _ _ hm
  obtain ⟨z3, w3⟩ : ∃ zs, IsRow .u8 W a3 len3 cap3 zs := by
    obtain ⟨fuel, hf⟩ := h3
    rcases open_ints Try.underlying23 Try.underlying5 (by kernel_rfl) hf with ⟨hcs, _⟩ | ⟨x, l, c, zs, hcs, _, hl, hm, hz, _, hcell, hwz⟩
    · simp [Value.cells] at hcs
      obtain ⟨rfl, rfl, rfl⟩ := hcs
      exact ⟨[], .inl ⟨rfl, rfl, rfl, rfl⟩⟩
    · simp [Value.cells] at hcs
      obtain ⟨rfl, rfl, rfl⟩ := hcs
      exact ⟨zs, .inr ⟨_, rfl, hl, hm, by simpa using hz, hcell, hwz⟩⟩
  have y3 : len3 * 1 ≤ 140737488351232 := Go.Proofs.YtbldllghkfgkeaaW.PrintWords.sized_ints hsz (j := 3) (t := 23) rfl rfl Try.underlying23 Try.underlying5 (by kernel_rfl) (by kernel_rfl) h3
  obtain ⟨a4, len4, cap4, rfl⟩ := okWide_slice Try.underlying23 (hval 4 23 v4 rfl rfl)
  have k4 := h4
  have lt4 : ∀ x ∈ p4, x.block < W.heap.size := by obtain ⟨m, hm⟩ := k4; exact DataW.trod_lt m _ _ _ hm
  obtain ⟨z4, w4⟩ : ∃ zs, IsRow .u8 W a4 len4 cap4 zs := by
    obtain ⟨fuel, hf⟩ := h4
    rcases open_ints Try.underlying23 Try.underlying5 (by kernel_rfl) hf with ⟨hcs, _⟩ | ⟨x, l, c, zs, hcs, _, hl, hm, hz, _, hcell, hwz⟩
    · simp [Value.cells] at hcs
      obtain ⟨rfl, rfl, rfl⟩ := hcs
      exact ⟨[], .inl ⟨rfl, rfl, rfl, rfl⟩⟩
    · simp [Value.cells] at hcs
      obtain ⟨rfl, rfl, rfl⟩ := hcs
      exact ⟨zs, .inr ⟨_, rfl, hl, hm, by simpa using hz, hcell, hwz⟩⟩
  have y4 : len4 * 1 ≤ 140737488351232 := Go.Proofs.YtbldllghkfgkeaaW.PrintWords.sized_ints hsz (j := 4) (t := 23) rfl rfl Try.underlying23 Try.underlying5 (by kernel_rfl) (by kernel_rfl) h4
  obtain ⟨a5, rfl, rfl, rfl, w5⟩ := open_int Try.underlying5 (hval 5 5 v5 rfl rfl) h5
  clear hA0 hval0 hsz0 hsz
  obtain ⟨l3, rfl, hr3, hm3, hw3, hc3⟩ := ReadsInt.ofRowC w3
  obtain ⟨l4, rfl, hr4, hm4, hw4, hc4⟩ := ReadsInt.ofRowC w4
  obtain ⟨k, hk⟩ := S.StateAsks_any G0 G1 x2_0 x2_1 x2_2 l3 l4 a5 (by omega) (by omega) (by omega) hw3 (by omega) hw4 (u8_bd (c := [a5]) (by simpa using w5) a5 (by simp)).1
  refine (S.heliastlaw13_StateAsks.calls k _ _ G0 _ _ G1 x2_0 x2_1 x2_2 _ _ l3 _ _ l4 a5 true W hr0 hc0 hr1 hc1 (Kd.C_of_reads (d := (0 : Int)) (h1 := fun _ => rfl) hr3) hc3 (Kd.C_of_reads (d := (0 : Int)) (h1 := fun _ => rfl) hr4) hc4 hk rfl).mono fun e W' ⟨he, bel⟩ => ?_
  subst he
  exact ⟨_, rfl, _, _, _, [], _, [], hW', trodAll_mk1 (shut_bool Try.underlying4 _), (trodAll_cons_mk (Below.trod laidOut (by kernel_rfl) (of_decide_eq_true (by kernel_rfl)) k0 bel lt0) (trodAll_cons_mk (Below.trod laidOut (by kernel_rfl) (of_decide_eq_true (by kernel_rfl)) k1 bel lt1) (trodAll_cons_mk (Below.trod laidOut (by kernel_rfl) (of_decide_eq_true (by kernel_rfl)) k2 bel lt2) (trodAll_cons_mk (Below.trod laidOut (by kernel_rfl) (of_decide_eq_true (by kernel_rfl)) k3 bel lt3) (trodAll_cons_mk (Below.trod laidOut (by kernel_rfl) (of_decide_eq_true (by kernel_rfl)) k4 bel lt4) (trodAll_cons_mk (shut_int Try.underlying5 w5) trodAll_mk0)))))), rfl, bel.frame _, fun h => by cases h⟩
theorem fact10 : (Rows.stateAsksRow.inPlace == Try.prog.inPlace 14) = true := by kernel_rfl
theorem fact11 : (Rows.stateAsksRow.unfollowed == Try.prog.unfollowed 14) = true := by kernel_rfl
theorem fact12 : (Rows.stateAsksRow.recurses == Try.prog.recurses 14) = true := by kernel_rfl
theorem fact13 : (Rows.stateAsksRow.named == Try.prog.varsNamed 14) = true := by kernel_rfl
theorem isNamed : Try.prog.funcNamed Rows.stateAsksRow.func = some 14 := by kernel_rfl
theorem joined : joinedFacts Try.prog 14 Try.f14 Rows.stateAsksSpec Rows.stateAsksRow = true := by
  unfold joinedFacts
  repeat' (with_reducible refine Facts.and_mk ?_ ?_)
  · as_aux_lemma => kernel_rfl
  · exact Facts.laidOut
  · exact Facts.rowed
  · as_aux_lemma => kernel_rfl
  · as_aux_lemma => kernel_rfl
  · as_aux_lemma => kernel_rfl
  · as_aux_lemma => kernel_rfl
  · as_aux_lemma => kernel_rfl
  · as_aux_lemma => kernel_rfl
  · exact fact10
  · exact fact11
  · exact fact12
  · exact fact13
  · as_aux_lemma => kernel_rfl
  · as_aux_lemma => kernel_rfl
  · as_aux_lemma => kernel_rfl
  · as_aux_lemma => kernel_rfl
  · as_aux_lemma => kernel_rfl
  · as_aux_lemma => kernel_rfl
  · as_aux_lemma => kernel_rfl
  · as_aux_lemma => kernel_rfl
  · as_aux_lemma => kernel_rfl
  · rw [Facts.plain]; kernel_rfl
  · as_aux_lemma => kernel_rfl
  · exact Facts.heard
  · exact Facts.enters
  · rw [Facts.finals]; kernel_rfl
  · rw [Facts.made]; kernel_rfl
  · as_aux_lemma => kernel_rfl
  · as_aux_lemma => kernel_rfl
  · as_aux_lemma => kernel_rfl
  · as_aux_lemma => kernel_rfl
theorem over : Rows.stateAsksRow.holds Try.pinned (OpenSpec.ofChange Rows.stateAsksSpec) :=
  OpenClaim.holds_of_wide 14 Try.f14 rfl rfl rfl rfl rfl rfl rfl ⟨rfl, rfl, rfl, rfl, rfl⟩ rfl rfl rfl rfl rfl isNamed Try.func14 joined
    (of_decide_eq_true (by kernel_rfl)) (by unfold Func.isWrapper; first | (rw [if_pos (by decide +kernel)]; kernel_rfl) | (rw [if_neg (by decide +kernel)]; exact ⟨rfl, rfl⟩))
    (fun os started H enc _ => lifted os started H enc)
theorem proved : Rows.StateAsksSaid := over
#print axioms proved
end Go.Proofs.Ytbldllghkfgkeaa.stateAsks
namespace Go.Proofs.Ytbldllghkfgkeaa
/-- The row, under a short name, for the claim. -/
theorem stateAsks_holds : Rows.StateAsksSaid := stateAsks.proved
end Go.Proofs.Ytbldllghkfgkeaa

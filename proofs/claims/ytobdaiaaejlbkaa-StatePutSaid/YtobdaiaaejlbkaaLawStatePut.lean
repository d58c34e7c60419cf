/- The law StatePut holds: its row, out of the walk of the code and the plain law. Conditions: those of the given statement alone. -/
-- Typed by hand after the printed rows: the printer has no row for struct parameters.
import Derived.Test.YtobdaiaaejlbkaaRows
import Derived.Test.YtobdaiaaejlbkaaFacts
import Derived.Test.YtobdaiaaejlbkaaSd7
import Derived.Test.YtobdaiaaejlbkaaSd8
import Derived.WalkKit
import Derived.ProofKit
import Derived.OpenShut
import Derived.ShutString
import Derived.ChangeOld
import Derived.Below
import Derived.SizedLaws
import Derived.Test.YtobdaiaaejlbkaaWSized
namespace Go.Proofs.Ytobdaiaaejlbkaa.statePut
open Go.ChangeShapes Go.WideShapes Go.ChangeAt Go.RowKit
open Go.ChangeMaps (open_string shut_string)
set_option linter.unusedVariables false
theorem own : ownKnob Try.prog.godebug = none := by kernel_rfl
theorem laidOut : laidOutB Try.prog = true := Facts.laidOut
def IsRow (k : IntKind) (w : World) (a : Option Addr) (len cap : Nat) (zs : List Int) : Prop :=
  (a = none ∧ len = 0 ∧ cap = 0 ∧ zs = []) ∨
  ∃ x, a = some x ∧ len ≤ cap ∧ cap ≤ maxLen ∧ zs.length = cap ∧ (∀ i, i < zs.length → w.cell? (x.add i) = some (.int k (zs.getD i 0))) ∧ ∀ n ∈ zs, (Lit.int k n).wf = true
open Go.RowKit Go.Proofs.YtobdaiaaejlbkaaW.PrintWords
set_option maxRecDepth 100000 in
/-- A struct argument of the type Entry is its two texts and its number. -/
theorem open_en {H : Type} {enc : TypeId × Value → H} {W : World} {base : Nat} {spare : Nat → Bool} {held : Bool} {r : Reach} {b0 : Nat} {v : Value} {d : DataW H} {ps : List MemPlace}
    (hval : Value.okWide Try.prog W r b0 62 v) (h : DataW.Trod enc Try.prog W base spare held 62 v d ps) : ∃ a b n, v = .agg #[.string a, .string b, .int .i64 n] := by
  obtain ⟨cs, rfl, hcs⟩ := okWide_struct Try.underlying62 hval
  obtain ⟨fuel, hf⟩ := h
  obtain ⟨xs, n, rfl, hx, hl, hlen, hfld⟩ := DataW.trod_struct Try.underlying62 hf
  have e0 := hfld 0 _ rfl
  have e1 := hfld 1 _ rfl
  have e2 := hfld 2 _ rfl
  have hlen' : xs.length = 3 := hlen
  rw [List.getElem?_eq_getElem (by omega)] at e0 e1 e2
  obtain ⟨a, ha, _⟩ := DataW.trod_string (by kernel_rfl) e0
  obtain ⟨b, hb, _⟩ := DataW.trod_string (by kernel_rfl) e1
  obtain ⟨m, hm, _⟩ := DataW.trod_int (k := .i64) (by kernel_rfl) e2
  have c62 : Try.prog.cellsOf 62 = 3 := by kernel_rfl
  rw [c62] at hl
  obtain ⟨cs⟩ := cs
  have hl' : cs.length = 3 := hl
  match cs, hl' with
  | [x, y, z], _ =>
    have ha' : [x] = [Value.string a] := ha
    have hb' : [y] = [Value.string b] := hb
    have hm' : [z] = [Value.int .i64 m] := hm
    cases ha'; cases hb'; cases hm'
    exact ⟨a, b, m, rfl⟩
set_option maxRecDepth 100000 in
theorem lifted (os : Os) (started : os.Started) (H : Type) (enc : TypeId × Value → H) :
    ReturnsInHanded {} Try.checked os 8 .any (Rows.statePutSpec.pre6 enc Try.prog Try.f8 Rows.statePutRow.domain false) (Rows.statePutSpec.post enc Try.prog Try.f8 false true false false) := by
  refine returnsInHanded_of_change_sized (C := Try.checked) own started (by kernel_rfl) Try.func8
    (ChangeSpec.witness6 (enc := enc) (C := Try.checked) false ⟨#[], #[.slice none 0 0, .agg #[.string ByteArray.empty, .string ByteArray.empty, .int .i64 0], .agg #[.string ByteArray.empty, .string ByteArray.empty, .int .i64 0]], []⟩ 8 (by kernel_rfl) (by kernel_rfl) (by kernel_rfl) (by kernel_rfl)) ?_
  intro W base args ds gs before hval0 hW hcnd hsz0 _
  have hsz : (DataW.weightsEach Try.prog (Try.f8.params.toList ++ Rows.statePutSpec.plain.varTypes Try.prog) (ds ++ gs)).all (· ≤ reachBytes) = true := hsz0
  have hval : ∀ (j : Nat) t v, Try.f8.params[j]? = some t → args[j]? = some v → Value.okWide Try.prog W .any base t v := hval0
  have hW' := hW
  obtain ⟨p, q, hA0, hV, rfl, hfz, hnd⟩ := hW
  have hA : DataW.TrodAll enc Try.prog W 0 (fun _ => true) true Try.f8.params.toList args.toList ds p := hA0
  rw [Try.params8] at hA hval hsz
  obtain ⟨v0, vs0, d0, ds0, p0, q0, hargs, rfl, rfl, h0, r0⟩ := trodAll_cons hA
  obtain ⟨v1, vs1, d1, ds1, p1, q1, rfl, rfl, rfl, h1, r1⟩ := trodAll_cons r0
  obtain ⟨v2, vs2, d2, ds2, p2, q2, rfl, rfl, rfl, h2, r2⟩ := trodAll_cons r1
  obtain ⟨rfl, rfl, rfl⟩ := trodAll_nil r2
  obtain rfl : args = #[v0, v1, v2] := by cases args; simp_all
  obtain ⟨rfl, rfl⟩ := trodVars_none hV
  obtain ⟨a0, len0, cap0, rfl⟩ := okWide_slice Try.underlying23 (hval 0 23 v0 rfl rfl)
  have k0 := h0
  have lt0 : ∀ x ∈ p0, x.block < W.heap.size := by obtain ⟨m, hm⟩ := k0; exact DataW.trod_lt m _ _ _ hm
  have lt1 : ∀ x ∈ p1, x.block < W.heap.size := by obtain ⟨m, hm⟩ := h1; exact DataW.trod_lt m _ _ _ hm
  have lt2 : ∀ x ∈ p2, x.block < W.heap.size := by obtain ⟨m, hm⟩ := h2; exact DataW.trod_lt m _ _ _ hm
  obtain ⟨z0, w0⟩ : ∃ zs, IsRow .u8 W a0 len0 cap0 zs := by
    obtain ⟨fuel, hf⟩ := h0
    rcases open_ints Try.underlying23 Try.underlying5 (by kernel_rfl) hf with ⟨hcs, _⟩ | ⟨x, l, c, zs, hcs, _, hl, hm, hz, _, hcell, hwz⟩
    · simp [Value.cells] at hcs
      obtain ⟨rfl, rfl, rfl⟩ := hcs
      exact ⟨[], .inl ⟨rfl, rfl, rfl, rfl⟩⟩
    · simp [Value.cells] at hcs
      obtain ⟨rfl, rfl, rfl⟩ := hcs
      exact ⟨zs, .inr ⟨_, rfl, hl, hm, by simpa using hz, hcell, hwz⟩⟩
  have y0 : len0 * 1 ≤ 140737488351232 := Go.Proofs.YtobdaiaaejlbkaaW.PrintWords.sized_ints hsz (j := 0) (t := 23) rfl rfl Try.underlying23 Try.underlying5 (by kernel_rfl) (by kernel_rfl) h0
  obtain ⟨x0, x1, x2, rfl⟩ := open_en (hval 1 62 v1 rfl rfl) h1
  obtain ⟨y1, y2, y3, rfl⟩ := open_en (hval 2 62 v2 rfl rfl) h2
  clear hA0 hval0 hsz0 hsz
  obtain ⟨l0, rfl, hr0, hm0, hw0, hc0⟩ := ReadsInt.ofRowC w0
  obtain ⟨k, hk⟩ := S.StatePut_pure l0 x0 x1 x2 y1 y2 y3 (by omega) hw0
  refine (S.heliastlaw13_StatePut.calls k _ _ l0 x0 x1 x2 y1 y2 y3 true W (Kd.C_of_reads (d := (0 : Int)) (h1 := fun _ => rfl) hr0) hc0 hk rfl).mono fun e W' ⟨he, bel⟩ => ?_
  subst he
  exact ⟨_, rfl, _, _, _, [], _, [], hW', trodAll_mk1 (shut_bool Try.underlying4 _), (trodAll_cons_mk (Below.trod laidOut (by kernel_rfl) (of_decide_eq_true (by kernel_rfl)) k0 bel lt0) (trodAll_cons_mk (Below.trod laidOut (by kernel_rfl) (of_decide_eq_true (by kernel_rfl)) h1 bel lt1) (trodAll_cons_mk (Below.trod laidOut (by kernel_rfl) (of_decide_eq_true (by kernel_rfl)) h2 bel lt2) trodAll_mk0))), rfl, bel.frame _, fun h => by cases h⟩
theorem fact10 : (Rows.statePutRow.inPlace == Try.prog.inPlace 8) = true := by kernel_rfl
theorem fact11 : (Rows.statePutRow.unfollowed == Try.prog.unfollowed 8) = true := by kernel_rfl
theorem fact12 : (Rows.statePutRow.recurses == Try.prog.recurses 8) = true := by kernel_rfl
theorem fact13 : (Rows.statePutRow.named == Try.prog.varsNamed 8) = true := by kernel_rfl
theorem isNamed : Try.prog.funcNamed Rows.statePutRow.func = some 8 := by kernel_rfl
theorem joined : joinedFacts Try.prog 8 Try.f8 Rows.statePutSpec Rows.statePutRow = true := by
  unfold joinedFacts
  repeat' (with_reducible refine Facts.and_mk ?_ ?_)
  · as_aux_lemma => kernel_rfl
  · exact Facts.laidOut
  · exact Facts.rowed
  · as_aux_lemma => kernel_rfl
  · as_aux_lemma => kernel_rfl
  · as_aux_lemma => kernel_rfl
  · as_aux_lemma => kernel_rfl
  · as_aux_lemma => kernel_rfl
  · as_aux_lemma => kernel_rfl
  · exact fact10
  · exact fact11
  · exact fact12
  · exact fact13
  · as_aux_lemma => kernel_rfl
  · as_aux_lemma => kernel_rfl
  · as_aux_lemma => kernel_rfl
  · as_aux_lemma => kernel_rfl
  · as_aux_lemma => kernel_rfl
  · as_aux_lemma => kernel_rfl
  · as_aux_lemma => kernel_rfl
  · as_aux_lemma => kernel_rfl
  · as_aux_lemma => kernel_rfl
  · rw [Facts.plain]; kernel_rfl
  · as_aux_lemma => kernel_rfl
  · exact Facts.heard
  · exact Facts.enters
  · rw [Facts.finals]; kernel_rfl
  · rw [Facts.made]; kernel_rfl
  · as_aux_lemma => kernel_rfl
  · as_aux_lemma => kernel_rfl
  · as_aux_lemma => kernel_rfl
  · as_aux_lemma => kernel_rfl
theorem over : Rows.statePutRow.holds Try.pinned (OpenSpec.ofChange Rows.statePutSpec) :=
  OpenClaim.holds_of_wide 8 Try.f8 rfl rfl rfl rfl rfl rfl rfl ⟨rfl, rfl, rfl, rfl, rfl⟩ rfl rfl rfl rfl rfl isNamed Try.func8 joined
    (of_decide_eq_true (by kernel_rfl)) (by unfold Func.isWrapper; first | (rw [if_pos (by decide +kernel)]; kernel_rfl) | (rw [if_neg (by decide +kernel)]; exact ⟨rfl, rfl⟩))
    (fun os started H enc _ => lifted os started H enc)
theorem proved : Rows.StatePutSaid := over
#print axioms proved
end Go.Proofs.Ytobdaiaaejlbkaa.statePut
namespace Go.Proofs.Ytobdaiaaejlbkaa
/-- The row, under a short name, for the claim. -/
theorem statePut_holds : Rows.StatePutSaid := statePut.proved
end Go.Proofs.Ytobdaiaaejlbkaa

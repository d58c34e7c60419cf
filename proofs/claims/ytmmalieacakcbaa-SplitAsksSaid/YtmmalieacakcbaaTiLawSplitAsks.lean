/- The law SplitAsks holds: its row, out of the walk of the code and the plain law. Conditions: those of the given statement alone. -/
import Derived.Test.YtmmalieacakcbaaRows
import Derived.WalkKit
import Derived.ProofKit
import Derived.OpenShut
import Derived.ShutString
import Derived.ChangeOld
import Derived.Below
import Derived.SizedLaws
import Derived.Test.YtmmalieacakcbaaTi0
import Derived.Test.YtmmalieacakcbaaTi1
import Derived.Test.YtmmalieacakcbaaTi2
import Derived.Test.YtmmalieacakcbaaTi3
import Derived.Test.YtmmalieacakcbaaTi4
namespace Go.Proofs.Ytmmalieacakcbaa.splitAsks
open Go.ChangeShapes Go.WideShapes Go.ChangeAt Go.RowKit
open Go.ChangeMaps (open_string shut_string)
set_option linter.unusedVariables false
theorem own : ownKnob Try.prog.godebug = none := by kernel_rfl
theorem laidOut : laidOutB Try.prog = true := Facts.laidOut
def IsRow (k : IntKind) (w : World) (a : Option Addr) (len cap : Nat) (zs : List Int) : Prop :=
  (a = none ∧ len = 0 ∧ cap = 0 ∧ zs = []) ∨
  ∃ x, a = some x ∧ len ≤ cap ∧ cap ≤ maxLen ∧ zs.length = cap ∧ (∀ i, i < zs.length → w.cell? (x.add i) = some (.int k (zs.getD i 0))) ∧ ∀ n ∈ zs, (Lit.int k n).wf = true
open Go.RowKit Go.Proofs.YtmmalieacakcbaaW.PrintWords Go.Proofs.He
set_option maxRecDepth 100000 in
theorem opens_en {H : Type} {enc : TypeId × Value → H} {W : World} : Opens enc Try.prog W S.k69 69 (fun x => (x.f0.size ≤ 140737488351232 ∧ x.f1.size ≤ 140737488351232) ∧ (Lit.int .i64 x.f2).wf = true) := by
  intro n cs y hf hw
  obtain ⟨xs, n, hk, rfl, hx, hl, hfld⟩ := DataW.trod_struct Try.underlying69 hf
  have e0 := hfld 0 _ rfl
  have e1 := hfld 1 _ rfl
  have e2 := hfld 2 _ rfl
  have hlen' : xs.length = 3 := hl
  rw [List.getElem?_eq_getElem (by omega)] at e0 e1 e2
  have hm : ∀ (j : Nat) (t : TypeId) (d : DataW H), [9, 9, 3][j]? = some t → (xs.map (·.1))[j]? = some d → ∀ m ∈ d.weights Try.prog t, m ≤ reachBytes := fun j t d ht hd m hm => hw m (by
    simp only [DataW.weights, Try.underlying69]
    exact DataW.weights_mem_each ht hd m hm)
  obtain ⟨a, ha, ha2⟩ := Opens.string (enc := enc) (W := W) Try.underlying9 _ _ _ e0 (hm 0 9 _ rfl (by rw [List.getElem?_map, List.getElem?_eq_getElem (by omega)]; rfl))
  obtain ⟨b, hb, hb2⟩ := Opens.string (enc := enc) (W := W) Try.underlying9 _ _ _ e1 (hm 1 9 _ rfl (by rw [List.getElem?_map, List.getElem?_eq_getElem (by omega)]; rfl))
  obtain ⟨m, hm0, hm2⟩ := Opens.int (enc := enc) (W := W) (k := .i64) Try.underlying3 _ _ _ e2 (hm 2 3 _ rfl (by rw [List.getElem?_map, List.getElem?_eq_getElem (by omega)]; rfl))
  have c62 : Try.prog.cellsOf 69 = 3 := by kernel_rfl
  rw [c62] at hx
  match cs, hx with
  | [x, y, z], _ =>
    have ha' : [x] = [Value.string a] := ha
    have hb' : [y] = [Value.string b] := hb
    have hm' : [z] = [Value.int .i64 m] := hm0
    cases ha'; cases hb'; cases hm'
    exact ⟨⟨a, b, m⟩, S.k69_mk W ⟨a, b, m⟩, ⟨ha2, hb2⟩, hm2⟩
set_option maxRecDepth 100000 in
theorem lifted (os : Os) (started : os.Started) (H : Type) (enc : TypeId × Value → H) :
    ReturnsInHanded {} Try.checked os 9 .any (Rows.splitAsksSpec.pre6 enc Try.prog Try.f9 Rows.splitAsksRow.domain false) (Rows.splitAsksSpec.post enc Try.prog Try.f9 false true false false) := by
  refine returnsInHanded_of_change_sized (C := Try.checked) own started (by kernel_rfl) Try.func9
    (ChangeSpec.witness6 (enc := enc) (C := Try.checked) false ⟨#[], #[.slice none 0 0, .slice none 0 0, .slice none 0 0, .slice none 0 0], []⟩ 8 (by kernel_rfl) (by kernel_rfl) (by kernel_rfl) (by kernel_rfl)) ?_
  intro W base args ds gs before hval0 hW hcnd hsz0 _
  have hsz : (DataW.weightsEach Try.prog (Try.f9.params.toList ++ Rows.splitAsksSpec.plain.varTypes Try.prog) (ds ++ gs)).all (· ≤ reachBytes) = true := hsz0
  have hval : ∀ (j : Nat) t v, Try.f9.params[j]? = some t → args[j]? = some v → Value.okWide Try.prog W .any base t v := hval0
  have hW' := hW
  obtain ⟨p, q, hA0, hV, rfl, hfz, hnd⟩ := hW
  have hA : DataW.TrodAll enc Try.prog W 0 (fun _ => true) true Try.f9.params.toList args.toList ds p := hA0
  rw [Try.params9] at hA hval hsz
  obtain ⟨v0, vs0, d0, ds0, p0, q0, hargs, rfl, rfl, h0, r0⟩ := trodAll_cons hA
  obtain ⟨v1, vs1, d1, ds1, p1, q1, rfl, rfl, rfl, h1, r1⟩ := trodAll_cons r0
  obtain ⟨v2, vs2, d2, ds2, p2, q2, rfl, rfl, rfl, h2, r2⟩ := trodAll_cons r1
  obtain ⟨v3, vs3, d3, ds3, p3, q3, rfl, rfl, rfl, h3, r3⟩ := trodAll_cons r2
  obtain ⟨rfl, rfl, rfl⟩ := trodAll_nil r3
  obtain rfl : args = #[v0, v1, v2, v3] := by cases args; simp_all
  obtain ⟨rfl, rfl⟩ := trodVars_none hV
  obtain ⟨a0, len0, cap0, rfl⟩ := okWide_slice Try.underlying61 (hval 0 61 v0 rfl rfl)
  have k0 := h0
  have lt0 : ∀ x ∈ p0, x.block < W.heap.size := by obtain ⟨m, hm⟩ := k0; exact DataW.trod_lt m _ _ _ hm
  obtain ⟨G0, e0, hr0, hc0, s0, t0⟩ := Opens.argSlice (Opens.slice Try.underlying61 (by kernel_rfl) (Opens.slice Try.underlying63 (by kernel_rfl) opens_en)) hsz (j := 0) (t := 61) rfl rfl h0
  rw [show Try.prog.bytesOf 63 = 24 from by kernel_rfl] at s0
  rw [show Try.prog.bytesOf 69 = 40 from by kernel_rfl] at t0
  subst e0
  obtain ⟨a1, len1, cap1, rfl⟩ := okWide_slice Try.underlying35 (hval 1 35 v1 rfl rfl)
  have k1 := h1
  have lt1 : ∀ x ∈ p1, x.block < W.heap.size := by obtain ⟨m, hm⟩ := k1; exact DataW.trod_lt m _ _ _ hm
  obtain ⟨z1, w1⟩ : ∃ zs, IsRow .u8 W a1 len1 cap1 zs := by
    obtain ⟨fuel, hf⟩ := h1
    rcases open_ints Try.underlying35 Try.underlying5 (by kernel_rfl) hf with ⟨hcs, _⟩ | ⟨x, l, c, zs, hcs, _, hl, hm, hz, _, hcell, hwz⟩
    · simp [Value.cells] at hcs
      obtain ⟨rfl, rfl, rfl⟩ := hcs
      exact ⟨[], .inl ⟨rfl, rfl, rfl, rfl⟩⟩
    · simp [Value.cells] at hcs
      obtain ⟨rfl, rfl, rfl⟩ := hcs
      exact ⟨zs, .inr ⟨_, rfl, hl, hm, by simpa using hz, hcell, hwz⟩⟩
  have y1 : len1 * 1 ≤ 140737488351232 := Go.Proofs.YtmmalieacakcbaaW.PrintWords.sized_ints hsz (j := 1) (t := 35) rfl rfl Try.underlying35 Try.underlying5 (by kernel_rfl) (by kernel_rfl) h1
  obtain ⟨a2, len2, cap2, rfl⟩ := okWide_slice Try.underlying35 (hval 2 35 v2 rfl rfl)
  have k2 := h2
  have lt2 : ∀ x ∈ p2, x.block < W.heap.size := by obtain ⟨m, hm⟩ := k2; exact DataW.trod_lt m _ _ _ hm
  obtain ⟨z2, w2⟩ : ∃ zs, IsRow .u8 W a2 len2 cap2 zs := by
    obtain ⟨fuel, hf⟩ := h2
    rcases open_ints Try.underlying35 Try.underlying5 (by kernel_rfl) hf with ⟨hcs, _⟩ | ⟨x, l, c, zs, hcs, _, hl, hm, hz, _, hcell, hwz⟩
    · simp [Value.cells] at hcs
      obtain ⟨rfl, rfl, rfl⟩ := hcs
      exact ⟨[], .inl ⟨rfl, rfl, rfl, rfl⟩⟩
    · simp [Value.cells] at hcs
      obtain ⟨rfl, rfl, rfl⟩ := hcs
      exact ⟨zs, .inr ⟨_, rfl, hl, hm, by simpa using hz, hcell, hwz⟩⟩
  have y2 : len2 * 1 ≤ 140737488351232 := Go.Proofs.YtmmalieacakcbaaW.PrintWords.sized_ints hsz (j := 2) (t := 35) rfl rfl Try.underlying35 Try.underlying5 (by kernel_rfl) (by kernel_rfl) h2
  obtain ⟨a3, len3, cap3, rfl⟩ := okWide_slice Try.underlying35 (hval 3 35 v3 rfl rfl)
  have k3 := h3
  have lt3 : ∀ x ∈ p3, x.block < W.heap.size := by obtain ⟨m, hm⟩ := k3; exact DataW.trod_lt m _ _ _ hm
  obtain ⟨z3, w3⟩ : ∃ zs, IsRow .u8 W a3 len3 cap3 zs := by
    obtain ⟨fuel, hf⟩ := h3
    rcases open_ints Try.underlying35 Try.underlying5 (by kernel_rfl) hf with ⟨hcs, _⟩ | ⟨x, l, c, zs, hcs, _, hl, hm, hz, _, hcell, hwz⟩
    · simp [Value.cells] at hcs
      obtain ⟨rfl, rfl, rfl⟩ := hcs
      exact ⟨[], .inl ⟨rfl, rfl, rfl, rfl⟩⟩
    · simp [Value.cells] at hcs
      obtain ⟨rfl, rfl, rfl⟩ := hcs
      exact ⟨zs, .inr ⟨_, rfl, hl, hm, by simpa using hz, hcell, hwz⟩⟩
  have y3 : len3 * 1 ≤ 140737488351232 := Go.Proofs.YtmmalieacakcbaaW.PrintWords.sized_ints hsz (j := 3) (t := 35) rfl rfl Try.underlying35 Try.underlying5 (by kernel_rfl) (by kernel_rfl) h3
  clear hA0 hval0 hsz0 hsz
  obtain ⟨l1, rfl, hr1, hm1, hw1, hc1⟩ := ReadsInt.ofRowC w1
  obtain ⟨l2, rfl, hr2, hm2, hw2, hc2⟩ := ReadsInt.ofRowC w2
  obtain ⟨l3, rfl, hr3, hm3, hw3, hc3⟩ := ReadsInt.ofRowC w3
  obtain ⟨k, hk⟩ := S.Sp.SplitAsks_any G0 l1 l2 l3 (by omega) (fun s hs => ⟨by have := (t0 s hs).1; omega, (t0 s hs).2⟩) (by omega) hw1 (by omega) hw2
  refine (S.heliastlaw16_SplitAsks.calls k _ _ G0 _ _ l1 _ _ l2 _ _ l3 true W hr0 hc0 (Kd.C_of_reads (d := (0 : Int)) (h1 := fun _ => rfl) hr1) hc1 (Kd.C_of_reads (d := (0 : Int)) (h1 := fun _ => rfl) hr2) hc2 (Kd.C_of_reads (d := (0 : Int)) (h1 := fun _ => rfl) hr3) hc3 hk rfl).mono fun e W' ⟨he, bel⟩ => ?_
  subst he
  exact ⟨_, rfl, _, _, _, [], _, [], hW', trodAll_mk1 (shut_bool Try.underlying4 _), (trodAll_cons_mk (Below.trod laidOut (by kernel_rfl) (of_decide_eq_true (by kernel_rfl)) k0 bel lt0) (trodAll_cons_mk (Below.trod laidOut (by kernel_rfl) (of_decide_eq_true (by kernel_rfl)) k1 bel lt1) (trodAll_cons_mk (Below.trod laidOut (by kernel_rfl) (of_decide_eq_true (by kernel_rfl)) k2 bel lt2) (trodAll_cons_mk (Below.trod laidOut (by kernel_rfl) (of_decide_eq_true (by kernel_rfl)) k3 bel lt3) trodAll_mk0)))), rfl, bel.frame _, fun h => by cases h⟩
theorem fact10 : (Rows.splitAsksRow.inPlace == Try.prog.inPlace 9) = true := by kernel_rfl
theorem fact11 : (Rows.splitAsksRow.unfollowed == Try.prog.unfollowed 9) = true := by kernel_rfl
theorem fact12 : (Rows.splitAsksRow.recurses == Try.prog.recurses 9) = true := by kernel_rfl
theorem fact13 : (Rows.splitAsksRow.named == Try.prog.varsNamed 9) = true := by kernel_rfl
theorem isNamed : Try.prog.funcNamed Rows.splitAsksRow.func = some 9 := by kernel_rfl
theorem joined : joinedFacts Try.prog 9 Try.f9 Rows.splitAsksSpec Rows.splitAsksRow = true := by
  unfold joinedFacts
  repeat' (with_reducible refine Facts.and_mk ?_ ?_)
  · as_aux_lemma => kernel_rfl
  · exact Facts.laidOut
  · exact Facts.rowed
  · as_aux_lemma => kernel_rfl
  · as_aux_lemma => kernel_rfl
  · as_aux_lemma => kernel_rfl
  · as_aux_lemma => kernel_rfl
  · as_aux_lemma => kernel_rfl
  · as_aux_lemma => kernel_rfl
  · exact fact10
  · exact fact11
  · exact fact12
  · exact fact13
  · as_aux_lemma => kernel_rfl
  · as_aux_lemma => kernel_rfl
  · as_aux_lemma => kernel_rfl
  · as_aux_lemma => kernel_rfl
  · as_aux_lemma => kernel_rfl
  · as_aux_lemma => kernel_rfl
  · as_aux_lemma => kernel_rfl
  · as_aux_lemma => kernel_rfl
  · as_aux_lemma => kernel_rfl
  · rw [Facts.plain]; kernel_rfl
  · as_aux_lemma => kernel_rfl
  · exact Facts.heard
  · exact Facts.enters
  · rw [Facts.finals]; kernel_rfl
  · rw [Facts.made]; kernel_rfl
  · as_aux_lemma => kernel_rfl
  · as_aux_lemma => kernel_rfl
  · as_aux_lemma => kernel_rfl
  · as_aux_lemma => kernel_rfl
theorem over : Rows.splitAsksRow.holds Try.pinned (OpenSpec.ofChange Rows.splitAsksSpec) :=
  OpenClaim.holds_of_wide 9 Try.f9 rfl rfl rfl rfl rfl rfl rfl ⟨rfl, rfl, rfl, rfl, rfl⟩ rfl rfl rfl rfl rfl isNamed Try.func9 joined
    (of_decide_eq_true (by kernel_rfl)) (by unfold Func.isWrapper; first | (rw [if_pos (by decide +kernel)]; kernel_rfl) | (rw [if_neg (by decide +kernel)]; exact ⟨rfl, rfl⟩))
    (fun os started H enc _ => lifted os started H enc)
theorem proved : Rows.SplitAsksSaid := over
#print axioms proved
end Go.Proofs.Ytmmalieacakcbaa.splitAsks
namespace Go.Proofs.Ytmmalieacakcbaa
theorem splitAsks_holds : Rows.SplitAsksSaid := splitAsks.proved
end Go.Proofs.Ytmmalieacakcbaa

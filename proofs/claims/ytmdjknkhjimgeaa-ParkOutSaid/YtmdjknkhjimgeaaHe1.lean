/- Words of this session's own: rows of the call's own whose elements are plain cells; copy of elements of several cells. -/
import Derived.Test.YtmdjknkhjimgeaaHe0
import Derived.Test.YtmdjknkhjimgeaaWMore
import Derived.Lib.Overlaps
import Derived.Laws.CopyOwn
import Derived.WalkSpells
set_option linter.unusedVariables false
set_option linter.unusedSimpArgs false
namespace Go.Proofs.He
open Go Go.RowKit Go.Proofs.YtmdjknkhjimgeaaW.PrintWords

/-- elements of 'size' plain cells each -/
structure Flat {α : Type} (d : Kd α) (enc : α → List Value) : Prop where
  len : ∀ x, (enc x).length = d.sz
  one : ∀ x, ∀ u ∈ enc x, u.oneCell' = true
  M : ∀ w base ok x cs, d.M w base ok x cs ↔ cs = enc x
  K : ∀ w x cs, d.K w x cs ↔ cs = enc x

section
variable {α : Type} {d : Kd α} {enc : α → List Value} (F : Flat d enc)
include F
theorem Flat.flen : ∀ l : List α, (l.flatMap enc).length = l.length * d.sz
  | [] => by simp
  | x :: l => by rw [List.flatMap_cons, List.length_append, F.len, Flat.flen l, List.length_cons, Nat.succ_mul, Nat.add_comm]
theorem Flat.fdrop : ∀ (l : List α) (i : Nat), (l.drop i).flatMap enc = (l.flatMap enc).drop (i * d.sz)
  | [], i => by simp
  | x :: l, 0 => by simp
  | x :: l, i + 1 => by
    have e1 : (enc x).drop ((i + 1) * d.sz) = [] := List.drop_eq_nil_of_le (by rw [F.len, Nat.succ_mul]; omega)
    have e2 : (i + 1) * d.sz - d.sz = i * d.sz := by rw [Nat.succ_mul]; omega
    rw [List.drop_succ_cons, Flat.fdrop l i, List.flatMap_cons, List.drop_append, F.len, e1, e2, List.nil_append]
theorem Flat.ftake : ∀ (l : List α) (i : Nat), (l.take i).flatMap enc = (l.flatMap enc).take (i * d.sz)
  | [], i => by simp
  | x :: l, 0 => by simp
  | x :: l, i + 1 => by
    have e1 : (enc x).take ((i + 1) * d.sz) = enc x := List.take_of_length_le (by rw [F.len, Nat.succ_mul]; omega)
    have e2 : (i + 1) * d.sz - d.sz = i * d.sz := by rw [Nat.succ_mul]; omega
    rw [List.take_succ_cons, List.flatMap_cons, Flat.ftake l i, List.flatMap_cons, List.take_append, F.len, e1, e2]
theorem Flat.oneOf {l : List α} : ∀ u ∈ l.flatMap enc, u.oneCell' = true := by
  intro u hu
  obtain ⟨x, _, hx⟩ := List.mem_flatMap.1 hu
  exact F.one x u hx
theorem Flat.seg {l : List α} {j : Nat} {p : α} (h : l[j]? = some p) : ((l.flatMap enc).drop (j * d.sz)).take d.sz = enc p := by
  have hj := (List.getElem?_eq_some_iff.1 h).1
  rw [← Flat.fdrop F, List.drop_eq_getElem_cons hj, List.flatMap_cons]
  have : l[j] = p := (List.getElem?_eq_some_iff.1 h).2
  rw [this, ← F.len p, List.take_left]
theorem Flat.reps {w : World} {base : Nat} {ok : Nat → Prop} (l : List α) : Reps (d.M w base ok) d.sz l (l.flatMap enc) :=
  ⟨Flat.flen F l, fun j p hj => by rw [Flat.seg F hj]; exact (F.M _ _ _ _ _).2 rfl⟩
omit F in
theorem Flat.of_reps {R : α → List Value → Prop} (hR : ∀ x cs, R x cs → cs = enc x) : ∀ (l : List α) (cs : List Value), Reps R d.sz l cs → cs = l.flatMap enc
  | [], cs, h => by
    have := h.1
    simp at this
    simp [this]
  | x :: l, cs, h => by
    have h0 := hR _ _ (h.2 0 x rfl)
    rw [Nat.zero_mul, List.drop_zero] at h0
    have ih := Flat.of_reps hR l (cs.drop d.sz) ⟨by rw [List.length_drop, h.1, List.length_cons, Nat.succ_mul]; omega, fun j p hj => by
      have := h.2 (j + 1) p (by simpa using hj)
      rwa [List.drop_drop, show d.sz + j * d.sz = (j + 1) * d.sz by rw [Nat.succ_mul]; omega]⟩
    rw [List.flatMap_cons, ← h0, ← ih, List.take_append_drop]
theorem Flat.own {w : World} {e base : Nat} {ok : Nat → Prop} {v : Value} {l : List α} (h : d.R e w base ok v l) : w.ownsRow base e d.sz v l.length (l.flatMap enc) ∧ ∀ k, v.ownBlock = some k → ok k := by
  obtain ⟨h0, inner, ho, hr⟩ := h
  rw [← Flat.of_reps (d := d) (fun x cs hx => (F.M _ _ _ _ _).1 hx) l inner hr]
  exact ⟨ho, h0⟩
theorem Flat.put {w : World} {e base : Nat} {ok : Nat → Prop} {v : Value} {l : List α} (h : w.ownsRow base e d.sz v l.length (l.flatMap enc)) (hok : ∀ k, v.ownBlock = some k → ok k) : d.R e w base ok v l :=
  ⟨hok, _, h, Flat.reps F l⟩
/-- What is read, as cells. -/
theorem Flat.reads {w : World} {A : Option Addr} {n : Nat} {l : List α} (h : d.C w A n l) : ∀ ad, A = some ad → ∀ j u, (l.flatMap enc)[j]? = some u → w.cell? (ad.add j) = some u := by
  intro ad ha j u hj
  obtain ⟨hl, hm, hc⟩ := h
  have hjl := (List.getElem?_eq_some_iff.1 hj).1
  rw [Flat.flen F] at hjl
  have hsz : 0 < d.sz := by
    rcases Nat.eq_zero_or_pos d.sz with h0 | h0
    · rw [h0] at hjl; omega
    · exact h0
  have hn : 0 < n := by
    rw [← hl]
    rcases Nat.eq_zero_or_pos l.length with h0 | h0
    · rw [h0] at hjl; omega
    · exact h0
  obtain ⟨ad', ha', hc⟩ := hc hn
  rw [ha] at ha'
  cases ha'
  have hq : j / d.sz < l.length := Nat.div_lt_of_lt_mul (by rwa [Nat.mul_comm] at hjl)
  obtain ⟨c, hcl, hk, hcell⟩ := hc (j / d.sz) _ (List.getElem?_eq_getElem hq)
  have hk' := (F.K _ _ _).1 hk
  subst hk'
  have hs := Flat.seg F (List.getElem?_eq_getElem hq)
  have : (enc l[j / d.sz])[j % d.sz]? = some u := by
    rw [← hs, List.getElem?_take, if_pos (Nat.mod_lt _ hsz), List.getElem?_drop, Nat.mul_comm, Nat.div_add_mod]
    exact hj
  have := hcell _ _ this
  rwa [Nat.mul_comm, Nat.div_add_mod] at this
theorem Flat.C_mk {w : World} {ad : Addr} {l : List α} (hm : l.length ≤ 9223372036854775807) (h : ∀ j u, (l.flatMap enc)[j]? = some u → w.cell? (ad.add j) = some u) : d.C w (some ad) l.length l :=
  ⟨rfl, hm, fun _ => ⟨ad, rfl, fun j p hj => ⟨enc p, F.len p, (F.K _ _ _).2 rfl, fun i u hu => h _ _ (by
    have hs := Flat.seg F hj
    have hi := (List.getElem?_eq_some_iff.1 hu).1
    rw [F.len] at hi
    rw [← hs, List.getElem?_take, if_pos hi, List.getElem?_drop] at hu
    exact hu)⟩⟩⟩
end

/-- copy(dst, src) of elements of 'size' cells, dst in a row known whole. -/
theorem run_copy_rows {P : Program} (w : World) (dT sT ty elem : TypeId) (size g o dLen dCap : Nat) (a : Addr) (sLen sCap : Nat) (cur : List Value) (t : TypeId) (cs : List Value)
    (hu : P.underlying dT = some (.slice elem)) (hs : (P.info? elem).map (·.size) = some size)
    (hg : w.heap[g]? = some (.cells cur.toArray t (0, 0))) (hn : cs.length = Nat.min sLen dLen * size)
    (hsrc : ∀ j v, cs[j]? = some v → w.cell? (a.add j) = some v) (hfit : o + cs.length ≤ cur.length) (h1 : ∀ v ∈ cs, v.oneCell' = true) :
    (Builtin.copy_ #[dT, sT] ty #[.slice (some ⟨g, o, none⟩) dLen dCap, .slice (some a) sLen sCap]).run P w =
      .ok (goInt (Nat.min sLen dLen)) (w.setRow g (splice cur o cs).toArray) := by
  have hl := run_loadCells_list (P := P) w a cs hsrc
  have hst := run_storeCells_at P g o t cs 0 cur.toArray w hg (by simpa using hfit) h1
  rw [hn] at hl
  cases hq : P.info? elem with
  | none => simp [hq] at hs
  | some i =>
    have hi : i.size = size := by simpa [hq] using hs
    simp [Builtin.copy_, run_underlying hu, Builtin.lenOf, Builtin.firstCells, sizeOf, typeInfo, hq, hi, hl, hst, splice]

theorem wpList_copy_run {P : Program} (w : World) {ops : Array Oper} {rest : List Oper} {o : Oper} {a : Act} {Q : Exit → Act → World → Prop} (hgd : o.guard = none) (d s : Operand) (t t' : TypeId)
    (ho : o.op = .call { callee := .builtin .copy, args := #[d, s], argTypes := #[t, t'] }) (v u : Value) (hd : a.eval d = v) (hs : a.eval s = u) {v' : Value} {w' : World}
    (hr : (Builtin.copy_ #[t, t'] o.type #[v, u]).run P w = .ok v' w') (h : wpList P ops Q rest (a.put o.dst v') w') : wpList P ops Q (o :: rest) a w :=
  wpList_plain hgd fun K hK => by
    unfold Oper.wp execOp
    simp only [ho, resolve, invoke, builtin, Sem.run_bind, Sem.run_pure, Result.andThen_ok, List.map_toArray, List.map_cons, List.map_nil, hd, hs, hr]
    exact hK _ _ h
theorem step_copy_run {P : Program} {ops : Array Oper} {o : Oper} {a : Act} {w : World} {K : Act → World → Prop} {Q : Exit → Act → World → Prop} {E : Prop}
    (hg : o.guard = none) (d x : Operand) (dT sT : TypeId) (hop : o.op = Op.call { callee := Callee.builtin Builtin.copy, args := #[d, x], argTypes := #[dT, sT] })
    (v u : Value) (hd : a.eval d = v) (hx : a.eval x = u) {v' : Value} {w' : World} (hr : (Builtin.copy_ #[dT, sT] o.type #[v, u]).run P w = .ok v' w') (hK : K (a.put o.dst v') w') :
    if Region.wanted o (yielded ops a.tmps) = true then Oper.wp P o a w K Q else E := by
  have hw : Region.wanted o (yielded ops a.tmps) = true := by simp [Region.wanted, hg]
  rw [if_pos hw]
  unfold Oper.wp
  simp [execOp, hop, resolve, invoke, builtin, hd, hx, hr, Result.andThen]
  exact hK

/-- append(v, make([]T, m)...) where there is no room: a new row. -/
theorem run_append_zeros_grow {P : Program} (w : World) (base : Nat) (t ti ty e : TypeId) (i : TypeInfo) (z : Value) (ht : P.underlying t = some (.slice e)) {k : IntKind} (hti : P.underlying ti = some (.int k)) (hi : P.info? e = some i) (hz : i.zero = some z)
    (hzs : z.cells.size = i.size) (hsz : 0 < i.size) (hb0 : 0 < i.bytes) (A : Addr) (n cap : Nat) (xs : List Value) (hxs : xs.length = n * i.size) (hcells : ∀ j u, xs[j]? = some u → w.cell? (A.add j) = some u) (kx : IntKind) (m : Nat)
    (hnc : n ≤ cap) (hcap : cap < n + m) (h1 : ∀ u ∈ (Builtin.zeroCells z.cells m).toList, u.oneCell' = true) (hbytes : (n + m) * i.bytes ≤ 140737488355328) (hbase : base ≤ w.heap.size) :
    ∃ v' w', (Builtin.append_ #[t, ti] ty #[.slice (some A) n cap, .int kx m]).run P w = .ok v' w' ∧ w'.ownsRow base e i.size v' (n + m) (xs ++ (Builtin.zeroCells z.cells m).toList) ∧ w.grownBy w' none ∧ v'.ownBlock = some w.heap.size := by
  have hle : n + m ≤ 140737488355328 := Nat.le_trans (Nat.le_mul_of_pos_right _ hb0) hbytes
  have h63 : n + m ≤ maxLen := by simp only [maxLen]; omega
  have hw : IntKind.i64.wrap (m : Int) = m := by rw [IntKind.wrap_i64]; omega
  have hneg : ¬ ((m : Int) < 0) := by omega
  have hmb : m * i.bytes ≤ 140737488355328 := Nat.le_trans (Nat.mul_le_mul_right _ (Nat.le_add_left m n)) hbytes
  have hbig : ¬ (281474976710656 < (m : Int) * (i.bytes : Int)) := by
    rw [← Int.natCast_mul]
    omega
  have hsn : i.size ≠ 0 := by omega
  have hm0 : m ≠ 0 := by omega
  obtain ⟨news, hnews⟩ : ∃ news, news = (Builtin.zeroCells z.cells m).toList := ⟨_, rfl⟩
  rw [← hnews] at h1 ⊢
  have hl : news.length = m * i.size := by rw [hnews, Array.length_toList, size_zeroCells, hzs]
  have hna : Builtin.zeroCells z.cells m = news.toArray := by rw [hnews]
  have hlen : (xs ++ news).length = (n + m) * i.size := by rw [List.length_append, hxs, hl, Nat.add_mul]
  have hge := grownCap_ge w (n + m) cap e
  have hcm : grownCap w (n + m) cap e ≤ maxLen := grownCap_le_maxLen w (n + m) cap e h63
  refine ⟨.slice (some ⟨w.heap.size, 0, none⟩) (n + m) (grownCap w (n + m) cap e), w.drew.alloc (.cells (xs.toArray ++ news.toArray ++ Builtin.zeroCells z.cells (grownCap w (n + m) cap e - (n + m))) e), ?_, ⟨hlen, .inr ⟨w.heap.size, _, _, rfl, hbase, heap_alloc_new w.drew _, hge, hcm, ?_, ?_⟩⟩, ⟨rfl, rfl, rfl, by simp, fun k hk _ => heap_alloc_old w.drew _ hk⟩, rfl⟩
  · have hfo := run_firstCells_some (P := P) w.drew i.size n A n cap xs hxs (by simpa using hcells)
    have hn : ¬ (n + m ≤ cap) := by omega
    have h63' : ¬ (9223372036854775807 < ((n : Int) + (m : Int))) := by omega
    have hfit := growslice_fits hcap hbytes
    have h48' : ¬ (281474976710656 < Builtin.nextslicecap (n + m) cap * i.bytes) := by omega
    have hmz : ¬ (m * i.size = 0) := Nat.mul_ne_zero hm0 hsn
    simp [Builtin.append_, run_underlying ht, run_underlying hti, sizeOf, typeInfo, zeroValue, hi, hz, asInt, asIntOf, hw, hneg, hbig, hn, h63', h48', Question.forced, hfo, newRow, grownCap, hmz, hna]
    congr 2
    apply Array.ext'
    simp [List.append_assoc]
  · simp only [Array.size_append, List.size_toArray, size_zeroCells, hzs, hxs, hl, ← Nat.add_mul]
    congr 1
    omega
  · simp only [Array.toList_append, List.append_assoc]
    rw [← List.append_assoc, ← hlen]
    exact List.take_left
theorem wpList_append_run {P : Program} (w : World) {ops : Array Oper} {rest : List Oper} {o : Oper} {a : Act} {Q : Exit → Act → World → Prop} (hgd : o.guard = none) (d s : Operand) (t t' : TypeId)
    (ho : o.op = .call { callee := .builtin .append, args := #[d, s], argTypes := #[t, t'] }) (v u : Value) (hd : a.eval d = v) (hs : a.eval s = u) {v' : Value} {w' : World}
    (hr : (Builtin.append_ #[t, t'] o.type #[v, u]).run P w = .ok v' w') (h : wpList P ops Q rest (a.put o.dst v') w') : wpList P ops Q (o :: rest) a w :=
  wpList_plain hgd fun K hK => by
    unfold Oper.wp execOp
    simp only [ho, resolve, invoke, builtin, Sem.run_bind, Sem.run_pure, Result.andThen_ok, List.map_toArray, List.map_cons, List.map_nil, hd, hs, hr]
    exact hK _ _ h
theorem splice_up {α : Type} (L X Y : List α) (p : Nat) (h : p + X.length + Y.length ≤ L.length) : (splice (splice L p X) (p + X.length) Y).take (p + X.length + Y.length) = L.take p ++ (X ++ Y) := by
  have h1 : (L.take p).length = p := by rw [List.length_take]; omega
  have e1 : (splice L p X).take (p + X.length) = L.take p ++ X := by
    unfold splice
    rw [← List.append_assoc, List.take_append_of_le_length (by simp; omega), List.take_of_length_le (by simp; omega)]
  unfold splice at *
  rw [e1, List.append_assoc, ← List.append_assoc X, ← List.append_assoc (L.take p), List.take_append_of_le_length (by simp; omega), List.take_of_length_le (by simp; omega)]
theorem splice_down {α : Type} (L X Y : List α) (p : Nat) (h : p + X.length + Y.length ≤ L.length) : (splice (splice L (p + X.length) Y) p X).take (p + X.length + Y.length) = L.take p ++ (X ++ Y) := by
  have e0 : (splice L (p + X.length) Y).take p = L.take p := by
    unfold splice
    rw [List.take_append_of_le_length (by simp; omega), List.take_take, Nat.min_eq_left (by omega)]
  have e1 : ((splice L (p + X.length) Y).drop (p + X.length)).take Y.length = Y := by
    unfold splice
    rw [List.drop_append_of_le_length (by simp; omega), List.drop_of_length_le (by simp; omega), List.nil_append, List.take_left]
  have hl : (splice L (p + X.length) Y).length = L.length := length_splice _ _ _ h
  generalize splice L (p + X.length) Y = Z at e0 e1 hl ⊢
  have h2 : (Z.take p).length = p := by rw [List.length_take]; omega
  unfold splice
  have h3 : p + X.length + Y.length = (Z.take p).length + (X.length + Y.length) := by omega
  rw [h3, List.take_length_add_append, List.take_length_add_append, e0, e1]
/-- A row known whole: its cells. -/
theorem cell_of_whole {w : World} {g : Nat} {cur : List Value} {t : TypeId} (hg : w.heap[g]? = some (.cells cur.toArray t (0, 0))) (o : Nat) : ∀ j u, (cur.drop o)[j]? = some u → w.cell? ((⟨g, o, none⟩ : Addr).add j) = some u := by
  intro j u hj
  have hadd : (⟨g, o, none⟩ : Addr).add j = ⟨g, o + j, none⟩ := by unfold Addr.add; split <;> simp_all
  rw [List.getElem?_drop] at hj
  rw [hadd]
  simp [World.cell?, hg, hj]
theorem cut_in {P : Program} (t e : TypeId) {i : TypeInfo} (ht : P.underlying t = some (.slice e)) (hi : P.info? e = some i) (size : Nat) (hsz : i.size = size) (g n c j : Nat) (ji : Int) (hj : ji = j) (hm : j ≤ n) (hne : c ≠ j) :
    ∀ W : World, (Instr.slice t (.slice (some ⟨g, 0, none⟩) n c) (some (.int .i64 ji)) none none).run P W = .ok (.slice (some ⟨g, j * size, none⟩) (n - j) (c - j)) W := by
  intro W
  subst hj
  rw [cut_from t e .i64 ht hi size hsz (some ⟨g, 0, none⟩) n c (j : Int) (by omega) (by omega)]
  rw [Int.toNat_natCast, if_neg hne, Option.map_some, add_plain]
theorem cut_up {P : Program} (t e : TypeId) {i : TypeInfo} (ht : P.underlying t = some (.slice e)) (hi : P.info? e = some i) (A : Option Addr) (n c j : Nat) (ji : Int) (hj : ji = j) (hc : j ≤ c) :
    ∀ W : World, (Instr.slice t (.slice A n c) none (some (.int .i64 ji)) none).run P W = .ok (.slice A j c) W := by
  intro W
  subst hj
  have hel : P.elem t = e := by simp [Program.elem, ht]
  have hu : P.underlying t = some (.slice (P.elem t)) := by rw [hel]; exact ht
  have ha : (A.map fun x => x.add 0) = A := by cases A <;> simp [Addr.add]
  rw [run_slice_h W t A n c hu .i64 j (by omega) (by omega), hel]
  simp [sizeOf, typeInfo, hi, sliced, Result.andThen, ha]
end Go.Proofs.He

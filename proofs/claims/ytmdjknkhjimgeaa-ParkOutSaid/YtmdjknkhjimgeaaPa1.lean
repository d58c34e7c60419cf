-- Written by heprint.py (this session's, over the kit's print.py): not trusted, Lean checks it.
import Derived.Test.YtmdjknkhjimgeaaPa0
namespace Go.Proofs.Ytmdjknkhjimgeaa.S
open Go.RowKit Go.Proofs.YtmdjknkhjimgeaaW.PrintWords Go.Proofs.YtmdjknkhjimgeaaW.PrintLast Go.Proofs.YtmdjknkhjimgeaaW.PrintMore
attribute [local go_sem] max2_int min2_int max_two min_two max_three min_three max_four min_four   -- for this text's walks alone
set_option linter.unusedVariables false
set_option linter.unusedSimpArgs false

/-! ### value_Copy: function 39 -/
-- GIVEN heliast/value.Copy making
open Go.Proofs.He
set_option maxHeartbeats 4000000 in
set_option maxRecDepth 100000 in
theorem cloneS_nil (w : World) : Calls Try.prog 38 #[.slice none 0 0] w fun e w' => e = .returned (.slice none 0 0) ∧ w' = w := by
  have q : ∀ (w : World) (a : Option Addr) (n c n' c' : Nat), (binOp .eql 29 (.slice a n c) (.slice none n' c')).run Try.prog w = .ok (.bool a.isNone) w := fun w a n c n' c' => Lib.run_eql_slice_nil w _ _ a n c n' c' Try.underlying29
  go_enter Try.func38, Try.ntmps38
  go_wp2
  go_ret
  exact ⟨rfl, rfl⟩
set_option maxHeartbeats 4000000 in
set_option maxRecDepth 100000 in
theorem each_nil (fv : Value) (w : World) : Calls Try.prog 74 #[.slice none 0 0, fv] w fun e w' => e = .returned (.slice none 0 0) ∧ w' = w := by
  go_enter Try.func74, Try.ntmps74
  go_wp2
  go_loopg [5, 10] 0 (fun gg v5 v10 wr => v5 = .slice none 0 0 ∧ v10 = .int .i64 0 ∧ wr = w)
  case atStart => exact ⟨rfl, rfl, rfl⟩
  case round =>
    obtain ⟨rfl, rfl, rfl⟩ := hrel
    go_wp2
    go_ret
    exact ⟨rfl, rfl⟩
def valZ : Value := .agg #[.int .i64 0, .int .i64 0, .string ⟨#[]⟩, .slice none 0 0, .slice none 0 0]
def valO : Obj := .cells #[.int .i64 0, .int .i64 0, .string ⟨#[]⟩, .slice none 0 0, .slice none 0 0] 32
set_option maxHeartbeats 4000000 in
set_option maxRecDepth 100000 in
theorem copy_zero (w : World) : Calls Try.prog 39 #[(.agg #[.int .i64 0, .int .i64 0, .string ⟨#[]⟩, .slice none 0 0, .slice none 0 0])] w fun e w' => e = .returned (.agg #[.int .i64 0, .int .i64 0, .string ⟨#[]⟩, .slice none 0 0, .slice none 0 0]) ∧ w' = (w.alloc (.cells #[.int .i64 0, .int .i64 0, .string ⟨#[]⟩, .slice none 0 0, .slice none 0 0] 32)).alloc (.cells #[.int .i64 0, .int .i64 0, .string ⟨#[]⟩, .slice none 0 0, .slice none 0 0] 32) := by
  go_enter Try.func39, Try.ntmps39
  go_wp2_with (first | (go_at_call 38; refine (cloneS_nil _).mono ?_; rintro e w1 ⟨rfl, rfl⟩) | (go_at_call 74; refine (each_nil _ _).mono ?_; rintro e w1 ⟨rfl, rfl⟩))
  refine bodyPost_ret (results_cell_row rfl _ _ (w.heap.size + 1) _ _ _ _ rfl (heap_alloc2_new w _ _) Try.underlying32 rfl rfl) rfl ?_
  exact ⟨rfl, rfl⟩

/-! ### park_Lot_Has: function 37 -/
-- GIVEN (*heliast/park.Lot).Has making uses heliast/value.Copy
open Go.Proofs.He
noncomputable def kPm : KK Try.prog 9 ByteArray := strK Try.underlying9
def PLot (w : World) (Z : Nat → Prop) (p : Nat) (v : Value) (L : List It) : Prop := LotAt kPm 81 85 88 w Z p v L
def PLotIs (w : World) (Z : Nat → Prop) (p : Nat) (S : Lo) : Prop := ∃ v L, PLot w Z p v L ∧ Sim L S
def kPtr : Kd It := Kd.scalar It.ptr (fun _ => rfl)
theorem PLot.cells {w : World} {Z : Nat → Prop} {p : Nat} {v : Value} {L : List It} (h : PLot w Z p v L) : ∃ A c, v = .slice A L.length c ∧ L.length ≤ c ∧ kPtr.C w A L.length L :=
  Kd.R_reads (Kd.R_of_own (h1 := fun _ => rfl) (ok := Z) (LotAt.row h) (LotAt.zrow h))
theorem PLot.ptr {w : World} {Z : Nat → Prop} {p : Nat} {v : Value} {L : List It} (h : PLot w Z p v L) : w.cell? ⟨p, 0, none⟩ = some v := (blk_cell (LotAt.obj h) 0).trans rfl
set_option maxHeartbeats 4000000 in
set_option maxRecDepth 100000 in
theorem indexP (g : FuncId) (cb : Array Value) (eg : ∀ args w, (callFunc g args).run Try.prog w = .ok (.enter g args) w) (q : It → Bool) (A0 : Option Addr) (c0 : Nat) (l0 : List It) (w : World) (hr0 : kPtr.C w A0 l0.length l0)
    (hp : ∀ x W, x ∈ l0 → Below w.heap.size w W → Calls Try.prog g (#[x.ptr] ++ cb) W fun e W' => e = .returned (.bool (q x)) ∧ Below w.heap.size w W') :
    Calls Try.prog 75 #[.slice A0 l0.length c0, .func (.func g) #[] cb] w fun e w' => e = .returned (.int .i64 (idxOf q l0)) ∧ Below w.heap.size w w' := by
  have HR0 := Aside0.mk hr0
  have HP := Aside0.mk hp
  have hlen : l0.length ≤ 9223372036854775807 := hr0.2.1
  clear hr0 hp
  go_enter Try.func75, Try.ntmps75
  go_wp2
  go_loopg [5, 8] l0.length (fun gg _ v8 wr => ∃ k : Nat, k ≤ l0.length ∧ l0.length - k ≤ gg ∧ v8 = .int .i64 k ∧ Aside0 (∀ j, j < k → ∀ x, l0[j]? = some x → q x = false) ∧ Aside0 (Below w.heap.size w wr))
  case atStart => exact ⟨0, Nat.zero_le _, by omega, rfl, ⟨fun j hj => absurd hj (Nat.not_lt_zero _)⟩, ⟨Below.refl _ _⟩⟩
  case round =>
    obtain ⟨k, hk, hg, rfl, HN, HB⟩ := hrel
    by_cases hlt : k < l0.length
    · obtain ⟨ad, c, e, hcl, hK, hcell⟩ := Kd.C_get HR0.out l0[k] (k : Int) (by omega) (by omega)
      cases e
      have hx : w.cell? (ad.add k) = some l0[k].ptr := by
        have h1 : c = [(l0.getD (k : Int).toNat l0[k]).ptr] := hK
        have h2 := hcell 0 (l0[k].ptr) (by rw [h1]; simp [List.getD_eq_getElem?_getD, hlt])
        simpa [kPtr, Kd.scalar] using h2
      replace hx := (HB.out.cell (World.block_lt_of_cell? w _ hx)).trans hx
      have hltz : (k : Int) < (l0.length : Int) := by omega
      have hcall := HP.out l0[k] wr (List.getElem_mem hlt) HB.out
      clear hcell hK hcl
      generalize hy : l0[k] = y at hx hcall
      have HY := Aside0.mk hy
      clear hy
      cases hq : q y with
      | true =>
        rw [hq] at hcall
        go_wp2_with (go_at_fn g; refine hcall.mono ?_; rintro e w' ⟨rfl, hb'⟩)
        go_ret
        exact ⟨by rw [idxOf_hit hlt HN.out (by rw [HY.out]; exact hq)]; rfl, hb'⟩
      | false =>
        rw [hq] at hcall
        go_wp2_with (go_at_fn g; refine hcall.mono ?_; rintro e w' ⟨rfl, hb'⟩)
        go_roundg (l0.length - (k + 1))
        case measure => omega
        case rel =>
          refine ⟨k + 1, by omega, by omega, by go_num, ⟨fun j hj x hx1 => ?_⟩, ⟨hb'⟩⟩
          by_cases e : j = k
          · subst e
            rw [List.getElem?_eq_getElem hlt] at hx1
            cases hx1
            rw [HY.out]; exact hq
          · exact HN.out j (by omega) x hx1
    · have hltz : ¬ (k : Int) < (l0.length : Int) := by omega
      have : k = l0.length := by omega
      subst this
      go_wp2
      go_ret
      exact ⟨by rw [idxOf_miss HN.out]; rfl, HB.out⟩
set_option maxHeartbeats 4000000 in
set_option maxRecDepth 100000 in
theorem park_place (g : FuncId) (cb : Array Value) (eg : ∀ args w, (callFunc g args).run Try.prog w = .ok (.enter g args) w) (q : It → Bool) {Z : Nat → Prop} {p : Nat} {v : Value} {L : List It} (w : World) (hL : PLot w Z p v L)
    (hp : ∀ x W, x ∈ L → Below w.heap.size w W → Calls Try.prog g (#[x.ptr] ++ cb) W fun e W' => e = .returned (.bool (q x)) ∧ Below w.heap.size w W') :
    Calls Try.prog 40 #[.pointer (some ⟨p, 0, none⟩), .func (.func g) #[] cb] w fun e w' => e = .returned (.int .i64 (idxOf q L)) ∧ Below w.heap.size w w' := by
  obtain ⟨A, c, rfl, hc, hC⟩ := hL.cells
  have hcell := hL.ptr
  have HI := Aside0.mk (indexP g cb eg q A c L w hC hp)
  clear hL hp hC
  go_enter Try.func40, Try.ntmps40
  go_wp2_with (go_at_call 75; refine HI.out.mono ?_; rintro e w' ⟨rfl, hb'⟩)
  go_ret
  exact ⟨rfl, hb'⟩
set_option maxHeartbeats 4000000 in
set_option maxRecDepth 100000 in
theorem park_place_nil (f : Value) (w : World) : Calls Try.prog 40 #[.pointer none, f] w fun e w' => e = .returned (.int .i64 (-1)) ∧ w' = w := by
  go_enter Try.func40, Try.ntmps40
  go_wp2
  go_ret
  exact ⟨rfl, rfl⟩
def hasL (L : List It) (id : ByteArray) : Int := idxOf (fun i => decide (i.x.id = id)) L
set_option maxHeartbeats 4000000 in
set_option maxRecDepth 100000 in
theorem park_Has_1 (bx : Nat) (id : ByteArray) (i : It) (W : World) (hbx : W.heap[bx]? = some (.cells #[.string id] 9 (0, 0))) (ho : W.heap[i.blk]? = some (.cells (evL i.x ++ [Value.map (some i.mp)]).toArray 88 (0, 0))) :
    Calls Try.prog 73 (#[i.ptr] ++ #[.pointer (some ⟨bx, 0, none⟩)]) W fun e W' => e = .returned (.bool (decide (i.x.id = id))) ∧ Below W.heap.size W W' := by
  have h0 : W.cell? ⟨bx, 0, none⟩ = some (.string id) := (blk_cell hbx 0).trans rfl
  have h1 : W.cell? ⟨i.blk, 0, none⟩ = some (.string i.x.id) := (blk_cell ho 0).trans rfl
  obtain ⟨u, hu⟩ : ∃ u, u = i.x.id := ⟨_, rfl⟩
  rw [← hu] at h1 ⊢
  have hs : (u.toList == id.toList) = decide (u = id) := by
    by_cases h : u = id
    · simp [h]
    · rw [decide_eq_false h]; exact beq_eq_false_iff_ne.mpr (fun e => h (ba_ext e))
  clear hbx ho hu
  unfold It.ptr
  go_enter Try.func73, Try.ntmps73
  go_wp2
  go_quiet (fail)
  go_wp2
  go_ret
  exact ⟨rfl, pw_below_drewN (Below.refl _ _) _⟩
set_option maxHeartbeats 4000000 in
set_option maxRecDepth 100000 in
theorem park_Has {Z : Nat → Prop} {p : Nat} {S : Lo} (id : ByteArray) (w : World) (hL : PLotIs w Z p S) :
    Calls Try.prog 37 #[.pointer (some ⟨p, 0, none⟩), .string id] w fun e w' => e = .returned (.bool (hasS S id)) ∧ Below w.heap.size w w' := by
  obtain ⟨v, L, hL, hS⟩ := hL
  have hb0 := (Below.refl w.heap.size w).alloc (Nat.le_refl _) (Obj.cells #[.string id] 9)
  have HB0 := Aside0.mk hb0
  have HP := Aside0.mk (park_place 73 #[.pointer (some ⟨w.heap.size, 0, none⟩)] (enters_of Try.func73 (by kernel_rfl) rfl) (fun i => decide (i.x.id = id)) (w.alloc (Obj.cells #[.string id] 9)) (hL.below hb0) (fun i W hi hW =>
    (park_Has_1 w.heap.size id i W ((hW.block _ (by simp)).trans (heap_alloc_new w _)) (((hL.below hb0).below hW).one i hi).1).mono (fun e W' ⟨h1, h2⟩ => ⟨h1, below_then hW hW.size h2⟩)))
  have hv : 0 ≤ idxOf (fun i : It => decide (i.x.id = id)) L ↔ hasS S id = true := has_sim hS id
  obtain ⟨m, hm⟩ : ∃ m, m = idxOf (fun i : It => decide (i.x.id = id)) L := ⟨_, rfl⟩
  rw [← hm] at HP hv
  obtain ⟨r, hr⟩ : ∃ r, r = hasS S id := ⟨_, rfl⟩
  rw [← hr] at hv ⊢
  have hd : decide (m ≥ 0) = r := by
    by_cases h : 0 ≤ m
    · rw [hv.1 h]; exact decide_eq_true h
    · cases r
      · exact decide_eq_false h
      · exact absurd (hv.2 rfl) h
  clear hL hS hm hr hb0 hv
  go_enter Try.func37, Try.ntmps37
  go_wp2_with (go_at_call 40; refine HP.out.mono ?_; rintro e w' ⟨rfl, hb'⟩)
  go_ret
  exact ⟨rfl, below_then HB0.out HB0.out.size hb'⟩
set_option maxHeartbeats 4000000 in
set_option maxRecDepth 100000 in
theorem park_Has_nil (id : ByteArray) (w : World) :
    Calls Try.prog 37 #[.pointer none, .string id] w fun e w' => e = .returned (.bool false) ∧ Below w.heap.size w w' := by
  have HB0 := Aside0.mk ((Below.refl w.heap.size w).alloc (Nat.le_refl _) (Obj.cells #[.string id] 9))
  go_enter Try.func37, Try.ntmps37
  go_wp2_with (go_at_call 40; refine (park_place_nil _ _).mono ?_; rintro e w' ⟨rfl, rfl⟩)
  go_ret
  exact ⟨rfl, HB0.out⟩
set_option maxHeartbeats 4000000 in
set_option maxRecDepth 100000 in
theorem park_New (w : World) : Calls Try.prog 9 #[] w fun e w' => e = .returned (.pointer (some ⟨w.heap.size, 0, none⟩)) ∧ Below w.heap.size w w' ∧ w'.heap.size = w.heap.size + 1 ∧ PLotIs w' (fun k => k = w.heap.size) w.heap.size [] := by
  go_enter Try.func9, Try.ntmps9
  go_wp2
  go_ret
  exact ⟨rfl, (Below.refl _ _).alloc (Nat.le_refl _) _, by simp, .slice none 0 0, [], ⟨heap_alloc_new w _, rfl, World.ownsRow_nil _ _ _ _, fun g hg => by simp [Value.ownBlock] at hg, fun i hi => by simp at hi, fun i hi => by simp at hi, by simp⟩, Sim.nil⟩
set_option maxHeartbeats 4000000 in
set_option maxRecDepth 100000 in
theorem park_Len {Z : Nat → Prop} {p : Nat} {S : Lo} (w : World) (hL : PLotIs w Z p S) :
    Calls Try.prog 17 #[.pointer (some ⟨p, 0, none⟩)] w fun e w' => e = .returned (.int .i64 (S.length : Int)) ∧ w' = w := by
  obtain ⟨v, L, hL, hS⟩ := hL
  obtain ⟨A, c, rfl, hc, hC⟩ := hL.cells
  have hcell := hL.ptr
  rw [← hS.len]
  clear hL hC hS
  go_enter Try.func17, Try.ntmps17
  go_wp2
  go_ret
  exact ⟨rfl, rfl⟩
set_option maxHeartbeats 4000000 in
set_option maxRecDepth 100000 in
theorem park_Len_nil (w : World) : Calls Try.prog 17 #[.pointer none] w fun e w' => e = .returned (.int .i64 0) ∧ w' = w := by
  go_enter Try.func17, Try.ntmps17
  go_wp2
  go_ret
  exact ⟨rfl, rfl⟩

/-! ### park_Lot_Take: function 15 -/
-- GIVEN (*heliast/park.Lot).Take making uses (*heliast/park.Lot).Has
open Go.Proofs.He
theorem deleteP {base g c i : Nat} {bs : List (Option Nat)} {w : World} (h : w.ownsRow base 85 1 (.slice (some ⟨g, 0, none⟩) bs.length c) bs.length (bs.map encP)) (hi : i < bs.length) :
    Calls Try.prog 42 #[.slice (some ⟨g, 0, none⟩) bs.length c, .int .i64 (i : Int), .int .i64 ((i + 1 : Nat) : Int)] w fun e w' => e = .returned (.slice (some ⟨g, 0, none⟩) (bs.length - 1) c) ∧ w'.ownsRow base 85 1 (.slice (some ⟨g, 0, none⟩) (bs.length - 1) c) (bs.length - 1) ((bs.eraseIdx i).map encP) ∧ w.grownBy w' (some g) := by
  obtain ⟨hc, hm, _⟩ := row_room h
  obtain ⟨hH, _, _, _⟩ := holds_of_row h
  have hh := AnyE.slices_Delete Try.laysDeleteP encP (fun _ => rfl) none Try.zeroValue85 ((Try.prog.info? 85).get (by kernel_rfl)) (by kernel_rfl) (by kernel_rfl) g 0 c i (i + 1) bs.toArray w hH (by simpa using hc) hm (by omega) (by simp; omega)
  have hsz : bs.toArray.size = bs.length := by simp
  rw [hsz] at hh
  refine hh.mono ?_
  rintro e w' ⟨rfl, q, rfl⟩
  have e1 : bs.toArray.toList.take i ++ bs.toArray.toList.drop (i + 1) ++ List.replicate (i + 1 - i) none = bs.eraseIdx i ++ [none] := by
    rw [List.eraseIdx_eq_take_drop_succ, Nat.add_sub_cancel_left]; rfl
  rw [e1]
  have hle : (bs.eraseIdx i ++ [none]).length = bs.length := by rw [List.length_append, List.length_eraseIdx_of_lt hi]; simp; omega
  have hr := row_of_put (enc := encP) h q #[] (bs.eraseIdx i ++ [none]) hle
  have hg : Sort.grow (Sort.putRow encP (Sort.ahead w q) g 0 (bs.eraseIdx i ++ [none]).toArray) #[] = Sort.putRow encP (Sort.ahead w q) g 0 (bs.eraseIdx i ++ [none]).toArray := by
    unfold Sort.grow; rw [Array.append_empty]
  have hgr := grown_put (enc := encP) (g := g) (w := w) q #[] (bs.eraseIdx i ++ [none])
  rw [hg] at hr hgr
  refine ⟨by rw [Nat.add_sub_cancel_left], ?_, hgr⟩
  have := row_short hr (bs.length - 1) (by omega)
  rw [List.map_append, List.take_append_of_le_length (by rw [List.length_map, List.length_eraseIdx_of_lt hi]; omega), List.take_of_length_le (by rw [List.length_map, List.length_eraseIdx_of_lt hi]; omega)] at this
  exact this
set_option maxHeartbeats 4000000 in
set_option maxRecDepth 100000 in
theorem park_Take_1 (i : It) (W : World) (ho : W.heap[i.blk]? = some (.cells (evL i.x ++ [Value.map (some i.mp)]).toArray 88 (0, 0))) (hm : Own kPm unitV W i.mp (keyed i.lost)) :
    Calls Try.prog 41 (#[i.ptr] ++ #[]) W fun e W' => e = .returned (.bool i.lost.isEmpty) ∧ Below W.heap.size W W' := by
  have h1 : W.cell? ⟨i.blk, 15, none⟩ = some (.map (some i.mp)) := (blk_cell ho 15).trans rfl
  have HM := Aside0.mk hm
  have hs : decide (((keyed i.lost).length : Int) = 0) = i.lost.isEmpty := by cases i.lost <;> simp [keyed]; omega
  obtain ⟨b, hb⟩ : ∃ b, b = i.lost.isEmpty := ⟨_, rfl⟩
  rw [← hb] at hs ⊢
  clear ho hm hb
  unfold It.ptr
  go_enter Try.func41, Try.ntmps41
  go_wp2_with (at_len; refine wpList_mlen rfl _ 86 rfl kPm unitV 89 Try.underlying86 i.mp (keyed i.lost) rfl HM.out ?_)
  go_ret
  exact ⟨by rw [← hs]; rfl, Below.refl _ _⟩
def optI : Option Nat → Int
  | some i => i
  | none => -1
theorem idxOf_of {α : Type} {q : α → Bool} {l : List α} {o : Option Nat} (h : l.findIdx? q = o) : idxOf q l = optI o := by
  subst h; rfl
theorem takeI_lt {S : Lo} {i : Nat} (h : takeI S = some i) : i < S.length := by
  obtain ⟨hi, _⟩ := List.findIdx?_eq_some_iff_getElem.1 h
  exact hi
theorem evL_cells {w : World} {b t : Nat} {x : Ev} {l : List Value} (h : w.heap[b]? = some (.cells (evL x ++ l).toArray t (0, 0))) :
    w.cell? ⟨b, 0, none⟩ = some (.string x.id) ∧ w.cell? ⟨b, 1, none⟩ = some (.string x.ty) ∧ w.cell? ⟨b, 2, none⟩ = some (.string ⟨#[]⟩) ∧ w.cell? ⟨b, 3, none⟩ = some (.bool false) ∧ w.cell? ⟨b, 4, none⟩ = some (.string ⟨#[]⟩) ∧ w.cell? ⟨b, 5, none⟩ = some (.string ⟨#[]⟩) ∧ w.cell? ⟨b, 6, none⟩ = some (.slice none 0 0) ∧ w.cell? ⟨b, 7, none⟩ = some (.slice none 0 0) ∧ w.cell? ⟨b, 8, none⟩ = some (.int .i64 0) ∧ w.cell? ⟨b, 9, none⟩ = some (.int .i64 x.time) ∧ w.cell? ⟨b, 10, none⟩ = some (.int .i64 0) ∧ w.cell? ⟨b, 11, none⟩ = some (.int .i64 0) ∧ w.cell? ⟨b, 12, none⟩ = some (.string ⟨#[]⟩) ∧ w.cell? ⟨b, 13, none⟩ = some (.slice none 0 0) ∧ w.cell? ⟨b, 14, none⟩ = some (.slice none 0 0) :=
  ⟨blk_cell h 0, blk_cell h 1, blk_cell h 2, blk_cell h 3, blk_cell h 4, blk_cell h 5, blk_cell h 6, blk_cell h 7, blk_cell h 8, blk_cell h 9, blk_cell h 10, blk_cell h 11, blk_cell h 12, blk_cell h 13, blk_cell h 14⟩
theorem ev_frozen {w : World} {b t : Nat} {cs : Array Value} (h : w.heap[b]? = some (.cells cs t (0, 0))) :
    w.frozen? ⟨b, 0, none⟩ = false ∧ w.frozen? ⟨b, 1, none⟩ = false ∧ w.frozen? ⟨b, 2, none⟩ = false ∧ w.frozen? ⟨b, 3, none⟩ = false ∧ w.frozen? ⟨b, 4, none⟩ = false ∧ w.frozen? ⟨b, 5, none⟩ = false ∧ w.frozen? ⟨b, 6, none⟩ = false ∧ w.frozen? ⟨b, 7, none⟩ = false ∧ w.frozen? ⟨b, 8, none⟩ = false ∧ w.frozen? ⟨b, 9, none⟩ = false ∧ w.frozen? ⟨b, 10, none⟩ = false ∧ w.frozen? ⟨b, 11, none⟩ = false ∧ w.frozen? ⟨b, 12, none⟩ = false ∧ w.frozen? ⟨b, 13, none⟩ = false ∧ w.frozen? ⟨b, 14, none⟩ = false :=
  ⟨blk_frozen h 0, blk_frozen h 1, blk_frozen h 2, blk_frozen h 3, blk_frozen h 4, blk_frozen h 5, blk_frozen h 6, blk_frozen h 7, blk_frozen h 8, blk_frozen h 9, blk_frozen h 10, blk_frozen h 11, blk_frozen h 12, blk_frozen h 13, blk_frozen h 14⟩
theorem ev_put {w : World} {b t : Nat} {cs : Array Value} (h : w.heap[b]? = some (.cells cs t (0, 0))) (hs : cs.size = 15) (x : Ev) : (w.setCells b 0 (evL x)).heap[b]? = some (.cells (evL x).toArray t (0, 0)) := by
  have hl : (evL x).length = 15 := rfl
  obtain ⟨cur, h1, h2, h3⟩ := setCells_row (evL x) 0 w cs h (by rw [hs, hl]; decide)
  have e : cur = (evL x).toArray := Array.toList_inj.1 (by
    rw [h3, List.take_zero, List.nil_append, List.drop_of_length_le (by rw [Array.length_toList, hs, hl]; decide), List.append_nil])
  rw [h1, e]
theorem setCells_kept {F : Nat → Prop} (w : World) (b : Nat) (vs : List Value) (h : w.heap.size ≤ b ∨ F b) : ∀ k, k < w.heap.size → ¬ F k → (w.setCells b 0 vs).heap[k]? = w.heap[k]? := fun k hk hn => setCells_far vs 0 k (fun e => by rcases h with h | h; omega; exact hn (e ▸ h))
set_option maxHeartbeats 4000000 in
set_option maxRecDepth 100000 in
theorem park_Take {Z : Nat → Prop} {p : Nat} {S : Lo} (w : World) (hL : PLotIs w Z p S) (hZ : ∀ k, Z k → k < w.heap.size) :
    Calls Try.prog 15 #[.pointer (some ⟨p, 0, none⟩)] w fun e w' => e = .returned (.tuple #[evV (takeX S), .bool (tookS S)]) ∧ PLotIs w' Z p (takeS S) ∧ Kept Z w w' := by
  obtain ⟨v, L, hL, hS⟩ := hL
  have hu46 := Try.underlying34
  have hb0 := (Below.refl w.heap.size w).alloc (Nat.le_refl _) (Obj.cells (evL evZ).toArray 34)
  have HB0 := Aside0.mk hb0
  have HP := Aside0.mk (park_place 41 #[] (enters_of Try.func41 (by kernel_rfl) rfl) (fun i => i.lost.isEmpty) (w.alloc (Obj.cells (evL evZ).toArray 34)) (hL.below hb0) (fun i W hi hW =>
    (park_Take_1 i W (((hL.below hb0).below hW).one i hi).1 (((hL.below hb0).below hW).map i hi).1).mono (fun e W' ⟨h1, h2⟩ => ⟨h1, below_then hW hW.size h2⟩)))
  have hi := idxOf_of (take_sim hS)
  rw [hi] at HP
  have HL := Aside0.mk hL
  have HZ := Aside0.mk hZ
  have HS := Aside0.mk hS
  clear hL hS hb0 hi hZ
  have HX0 := Aside0.mk (heap_alloc_new w (Obj.cells (evL evZ).toArray 34))
  cases ht : takeI S with
  | none =>
    rw [ht] at HP
    have HT := Aside0.mk ht
    have HP' : Aside0 (Calls Try.prog 40 #[.pointer (some ⟨p, 0, none⟩), .func (.func 41) #[] #[]] (w.alloc (Obj.cells (evL evZ).toArray 34)) fun e w' => e = .returned (.int .i64 (-1)) ∧ Below (w.alloc (Obj.cells (evL evZ).toArray 34)).heap.size (w.alloc (Obj.cells (evL evZ).toArray 34)) w') := HP
    clear ht HP
    go_enter Try.func15, Try.ntmps15
    go_wp2_with fail
    refine HP'.out.mono ?_
    rintro e w1 ⟨rfl, hb1⟩
    have hx := (hb1.block w.heap.size (by simp)).trans HX0.out
    have HX := Aside0.mk hx
    obtain ⟨f0, f1, f2, f3, f4, f5, f6, f7, f8, f9, f10, f11, f12, f13, f14⟩ := ev_frozen hx
    obtain ⟨g0, g1, g2, g3, g4, g5, g6, g7, g8, g9, g10, g11, g12, g13, g14⟩ := evL_cells (l := []) hx
    have HB1 := Aside0.mk (below_then HB0.out HB0.out.size hb1)
    clear hx hb1
    go_wp2
    refine bodyPost_ret (w := w1.setCells w.heap.size 0 (evL evZ)) (results_ct rfl _ _ w.heap.size _ (evL evZ).toArray (0, 0) _ rfl (ev_put HX.out rfl evZ) Try.underlying34 rfl rfl) rfl ?_
    have hk : Kept Z w (w1.setCells w.heap.size 0 (evL evZ)) := by
      obtain ⟨s1, s2, s3, s4⟩ := setCells_same w.heap.size (evL evZ) 0 w1
      exact ⟨s1.trans HB1.out.os, s2.trans HB1.out.tape, s3.trans HB1.out.output, by rw [s4]; exact HB1.out.size, fun k hk hn => (setCells_far _ 0 k (by omega)).trans (HB1.out.block k hk)⟩
    refine ⟨?_, ⟨v, L, (HL.out.step (fun k hz hk => (setCells_far _ 0 k (by omega)).trans (HB1.out.block k hk))), ?_⟩, hk⟩
    · unfold takeX tookS; rw [HT.out]; rfl
    · unfold takeS; rw [HT.out]; exact HS.out
  | some i =>
    rw [ht] at HP
    have hltS := takeI_lt ht
    have HT := Aside0.mk ht
    have HP' : Aside0 (Calls Try.prog 40 #[.pointer (some ⟨p, 0, none⟩), .func (.func 41) #[] #[]] (w.alloc (Obj.cells (evL evZ).toArray 34)) fun e w' => e = .returned (.int .i64 (i : Int)) ∧ Below (w.alloc (Obj.cells (evL evZ).toArray 34)).heap.size (w.alloc (Obj.cells (evL evZ).toArray 34)) w') := HP
    have hlt : i < L.length := by rw [HS.out.len]; exact hltS
    clear ht HP hltS
    go_enter Try.func15, Try.ntmps15
    go_wp2_with fail
    refine HP'.out.mono ?_
    rintro e w1 ⟨rfl, hb1⟩
    have HX := Aside0.mk ((hb1.block w.heap.size (by simp)).trans HX0.out)
    have HB1 := Aside0.mk (below_then HB0.out HB0.out.size hb1)
    have HLw : PLot w1 Z p v L := HL.out.below HB1.out
    have hs1 : w.heap.size + 1 ≤ w1.heap.size := by have := hb1.size; simpa using this
    clear hb1 HP' HX0
    obtain ⟨A, c, rfl, hc, hC⟩ := HLw.cells
    obtain ⟨ad, cl, rfl, _, hK, hcell⟩ := Kd.C_get hC L[i] (i : Int) (by omega) (by omega)
    obtain ⟨g, hg⟩ : ∃ g, ad = ⟨g, 0, none⟩ := by
      rcases (LotAt.row HLw).2 with ⟨h0, _⟩ | ⟨g, cap, cur, h0, _⟩
      · cases h0
      · injection h0 with h0; injection h0 with h0; exact ⟨g, h0⟩
    subst hg
    have hx : w1.cell? ⟨g, i, none⟩ = some L[i].ptr := by
      have h1 : cl = [(L.getD (i : Int).toNat L[i]).ptr] := hK
      have h2 := hcell 0 (L[i].ptr) (by rw [h1]; simp [List.getD_eq_getElem?_getD, hlt])
      simpa [kPtr, Kd.scalar, add_plain] using h2
    have ho := (LotAt.one HLw L[i] (List.getElem_mem hlt)).1
    have hpc := PLot.ptr HLw
    have HD : Aside0 (∀ W, Below w1.heap.size w1 W → Calls Try.prog 42 #[.slice (some ⟨g, 0, none⟩) L.length c, .int .i64 (i : Int), .int .i64 ((i : Int) + 1)] W fun e w' => e = .returned (.slice (some ⟨g, 0, none⟩) (L.length - 1) c) ∧ w'.ownsRow 0 85 1 (.slice (some ⟨g, 0, none⟩) (L.length - 1) c) (L.length - 1) ((L.eraseIdx i).map It.ptr) ∧ W.grownBy w' (some g)) := ⟨by
      intro W hW
      have hr := own_move (w1 := W) (LotAt.row HLw) (fun k hk => hW.block k (own_lt (LotAt.row HLw) k hk))
      have hl : (L.map fun i => some i.blk).length = L.length := by simp
      rw [ptr_enc] at hr
      have := deleteP (i := i) (bs := L.map fun i => some i.blk) (c := c) (by rw [hl]; exact hr) (by rw [hl]; exact hlt)
      have he : ((L.map fun i => some i.blk).eraseIdx i).map encP = (L.eraseIdx i).map It.ptr := by
        rw [List.eraseIdx_eq_take_drop_succ, List.eraseIdx_eq_take_drop_succ, ← List.map_take, ← List.map_drop, ← List.map_append, ← ptr_enc]
      rw [hl, he] at this
      exact this⟩
    have HO := Aside0.mk ho
    have HLW := Aside0.mk HLw
    have hE : L[i].x = takeX S := by
      obtain ⟨a, ha, h1, _⟩ := HS.out.at (List.getElem?_eq_getElem hlt)
      unfold takeX; rw [HT.out]; show _ = ((S[i]?).map (·.1)).getD evZ
      rw [ha, h1]; rfl
    have HE := Aside0.mk hE
    obtain ⟨it, hit⟩ : ∃ it, it = L[i] := ⟨_, rfl⟩
    rw [← hit] at hx HO HE ho
    unfold It.ptr at hx
    obtain ⟨g0, g1, g2, g3, g4, g5, g6, g7, g8, g9, g10, g11, g12, g13, g14⟩ := evL_cells ho
    have hltz : (i : Int) < (L.length : Int) := by omega
    have hll : L.length ≤ 9223372036854775807 := hC.2.1
    have hpl := (LotAt.lt HLw)
    have HPO := Aside0.mk (LotAt.obj HLw)
    have hgg : ∃ cells, w1.heap[g]? = some (.cells cells 85 (0, 0)) := own_typed (LotAt.row HLw) g rfl
    have HGG := Aside0.mk hgg
    have hzp := LotAt.zp HLw
    have hzg : Z g := LotAt.zrow HLw g rfl
    have hpw : p < w.heap.size := HZ.out p hzp
    have HZP := Aside0.mk hzp
    have HZG := Aside0.mk hzg
    clear hC hcell hK HLw hE hit ho hgg hzp hzg
    go_wp2_with fail
    refine (HD.out _ (below_alloc (Below.refl _ _) _)).mono ?_
    rintro e w3 ⟨rfl, hr3, hg3⟩
    obtain ⟨gc, hgc⟩ := HGG.out
    have hgl := (Array.getElem?_eq_some_iff.1 hgc).1
    have ngp : p ≠ g := blk_ne HPO.out hgc (by decide)
    have ng0 : w.heap.size ≠ g := blk_ne HX.out hgc (by decide)
    have ng1 : w1.heap.size ≠ g := by omega
    have n01 : w.heap.size ≠ w1.heap.size := by omega
    have n10 : w1.heap.size ≠ w.heap.size := by omega
    have n0p : w.heap.size ≠ p := by omega
    have np0 : p ≠ w.heap.size := by omega
    have n1p : w1.heap.size ≠ p := by omega
    have np1 : p ≠ w1.heap.size := by omega
    have hW : ∀ k, k < w1.heap.size → k ≠ g → w3.heap[k]? = w1.heap[k]? := fun k hk hn => (hg3.block k (by simp; omega) (by simpa using hn)).trans (Below.heap_alloc _ _ _ hk)
    have hx0 := (hW w.heap.size (by omega) ng0).trans HX.out
    have hxp := (hW p hpl ngp).trans HPO.out
    have hx1 : w3.heap[w1.heap.size]? = some (.cells (evL it.x).toArray 34 (0, 0)) := (hg3.block w1.heap.size (by simp) (by simpa using ng1)).trans (heap_alloc_new w1 _)
    have hs3 : w1.heap.size + 1 ≤ w3.heap.size := by have := hg3.size; simpa using this
    have HW := Aside0.mk hW
    have H0 := Aside0.mk hx0
    have H1 := Aside0.mk hx1
    have HPp := Aside0.mk hxp
    have HG3 := Aside0.mk hg3
    have HR3 := Aside0.mk hr3
    clear g0 g1 g2 g3 g4 g5 g6 g7 g8 g9 g10 g11 g12 g13 g14 hx hpc
    obtain ⟨f0, f1, f2, f3, f4, f5, f6, f7, f8, f9, f10, f11, f12, f13, f14⟩ := ev_frozen hx0
    obtain ⟨g0, g1, g2, g3, g4, g5, g6, g7, g8, g9, g10, g11, g12, g13, g14⟩ := evL_cells (l := []) hx0
    obtain ⟨k0, k1, k2, k3, k4, k5, k6, k7, k8, k9, k10, k11, k12, k13, k14⟩ := evL_cells (l := []) hx1
    have fp := blk_frozen hxp 0
    have cp : w3.cell? ⟨p, 0, none⟩ = some (.slice (some ⟨g, 0, none⟩) L.length c) := (blk_cell hxp 0).trans rfl
    clear hx0 hxp hx1 hgc hW hg3 hr3 HGG HX HPO
    go_wp2
    obtain ⟨W4, hW4⟩ : ∃ W4, W4 = w3.setCell ⟨p, 0, none⟩ (.slice (some ⟨g, 0, none⟩) (L.length - 1) c) := ⟨_, rfl⟩
    have h40 : W4.heap[w.heap.size]? = some (.cells (evL evZ).toArray 34 (0, 0)) := by rw [hW4]; exact blk_far H0.out n0p _
    have h4p : W4.heap[p]? = some (.cells #[.slice (some ⟨g, 0, none⟩) (L.length - 1) c] 81 (0, 0)) := by rw [hW4]; exact blk_set HPp.out 0 _
    have h4k : ∀ k, k ≠ p → W4.heap[k]? = w3.heap[k]? := fun k hk => by rw [hW4]; exact Below.heap_setCell w3 ⟨p, 0, none⟩ _ k hk
    obtain ⟨s1, s2, s3, s4⟩ := setCells_same w.heap.size (evL it.x) 0 W4
    have hk : Kept (fun k => some k = Value.ownBlock (.slice (some ⟨g, 0, none⟩) L.length c) ∨ k = p) w (W4.setCells w.heap.size 0 (evL it.x)) := by
      have e4 : W4.os = w3.os ∧ W4.tape = w3.tape ∧ W4.output = w3.output ∧ W4.heap.size = w3.heap.size := by rw [hW4]; exact ⟨rfl, rfl, rfl, by simp [World.setCell]⟩
      refine ⟨(s1.trans e4.1).trans (HG3.out.os.trans HB1.out.os), (s2.trans e4.2.1).trans (HG3.out.tape.trans HB1.out.tape), (s3.trans e4.2.2.1).trans (HG3.out.output.trans HB1.out.output), by rw [s4, e4.2.2.2]; omega, fun k hk hn => ?_⟩
      have n1 : k ≠ g := fun e => hn (.inl (by rw [e]; rfl))
      have n2 : k ≠ p := fun e => hn (.inr e)
      rw [setCells_far _ 0 k (by omega), h4k k n2, HW.out k (by omega) n1]
      exact HB1.out.block k hk
    have hr4 : (W4.setCells w.heap.size 0 (evL it.x)).ownsRow 0 85 1 (.slice (some ⟨g, 0, none⟩) (L.length - 1) c) (L.eraseIdx i).length ((L.eraseIdx i).map It.ptr) := by
      rw [List.length_eraseIdx_of_lt hlt]
      exact own_move HR3.out (fun k hk => by
        have : k = g := by simpa [Value.ownBlock] using hk.symm
        rw [this, setCells_far _ 0 g (fun e => ng0 e.symm)]
        exact h4k g (fun e => ngp e.symm))
    have hlot : PLot (W4.setCells w.heap.size 0 (evL it.x)) Z p (.slice (some ⟨g, 0, none⟩) (L.length - 1) c) (L.eraseIdx i) :=
      LotAt.erase (v1 := .slice (some ⟨g, 0, none⟩) (L.length - 1) c) HL.out i hk ((setCells_far _ 0 p np0).trans h4p) (by decide) (by decide) rfl hr4
    have hkz : Kept Z w (W4.setCells w.heap.size 0 (evL it.x)) := ⟨hk.os, hk.tape, hk.output, hk.size, fun k hk' hn => hk.block k hk' (by
      rintro (e | e)
      · have : k = g := by simpa [Value.ownBlock] using e
        exact hn (this ▸ HZG.out)
      · exact hn (e ▸ HZP.out))⟩
    have hall : Ending.returned (.tuple #[.agg (evL it.x).toArray, .bool true]) = Ending.returned (.tuple #[evV (takeX S), .bool (tookS S)]) ∧ PLotIs (W4.setCells w.heap.size 0 (evL it.x)) Z p (takeS S) ∧ Kept Z w (W4.setCells w.heap.size 0 (evL it.x)) := by
      refine ⟨?_, ⟨_, _, hlot, ?_⟩, hkz⟩
      · rw [show tookS S = true by unfold tookS; rw [HT.out]; rfl, ← HE.out]; rfl
      · rw [takeS_erase HT.out]; exact HS.out.erase i
    clear g0 g1 g2 g3 g4 g5 g6 g7 g8 g9 g10 g11 g12 g13 g14 f0 f1 f2 f3 f4 f5 f6 f7 f8 f9 f10 f11 f12 f13 f14 k0 k1 k2 k3 k4 k5 k6 k7 k8 k9 k10 k11 k12 k13 k14
    subst hW4
    refine bodyPost_ret (w := (w3.setCell ⟨p, 0, none⟩ (.slice (some ⟨g, 0, none⟩) (L.length - 1) c)).setCells w.heap.size 0 (evL it.x)) (results_ct rfl _ _ w.heap.size _ (evL it.x).toArray (0, 0) _ rfl (ev_put h40 rfl it.x) Try.underlying34 rfl rfl) rfl ?_
    exact hall

/-! ### park_Lot_Put: function 10 -/
-- GIVEN (*heliast/park.Lot).Put making uses (*heliast/park.Lot).Take uses heliast/value.Copy
open Go.Proofs.He
def copW (w1 : World) (b : Nat) (o : Obj) : World := (((((((((w1.setCell ⟨b, 6, none⟩ (.slice none 0 0)).setCell ⟨b, 7, none⟩ (.slice none 0 0)).setCell ⟨b, 10, none⟩ (.int .i64 0)).setCell ⟨b, 11, none⟩ (.int .i64 0)).setCell ⟨b, 12, none⟩ (.string ⟨#[]⟩)).setCell ⟨b, 13, none⟩ (.slice none 0 0)).setCell ⟨b, 14, none⟩ (.slice none 0 0)).alloc o).alloc o).drew
theorem put_same {w : World} {b t : Nat} {l : List Value} (h : w.heap[b]? = some (.cells l.toArray t (0, 0))) {i : Nat} {u : Value} (hu : l[i]? = some u) : (w.setCell ⟨b, i, none⟩ u).heap[b]? = some (.cells l.toArray t (0, 0)) := by
  rw [blk_set h]
  have e : l.toArray.setIfInBounds i u = l.toArray := by
    apply Array.toList_inj.1
    rw [Array.toList_setIfInBounds]
    apply List.ext_getElem?
    intro j
    rw [List.getElem?_set]
    split
    · rename_i e; subst e
      split
      · exact hu.symm
      · rename_i hn; rw [List.getElem?_eq_none (by omega)]
    · rfl
  rw [e]
theorem copW_facts {w w1 : World} {x : Ev} {t : Nat} (o : Obj) (hb : w.heap.size < w1.heap.size) (HB : Below w.heap.size w w1) (hx : w1.heap[w.heap.size]? = some (.cells (evL x).toArray t (0, 0))) :
    Below w.heap.size w (copW w1 w.heap.size o) ∧ w.heap.size + 1 ≤ (copW w1 w.heap.size o).heap.size ∧ (copW w1 w.heap.size o).heap[w.heap.size]? = some (.cells (evL x).toArray t (0, 0)) := by
  have h1 := put_same hx (i := 6) (u := .slice none 0 0) rfl
  have h2 := put_same h1 (i := 7) (u := .slice none 0 0) rfl
  have h3 := put_same h2 (i := 10) (u := .int .i64 0) rfl
  have h4 := put_same h3 (i := 11) (u := .int .i64 0) rfl
  have h5 := put_same h4 (i := 12) (u := .string ⟨#[]⟩) rfl
  have h6 := put_same h5 (i := 13) (u := .slice none 0 0) rfl
  have h7 := put_same h6 (i := 14) (u := .slice none 0 0) rfl
  have b1 := HB.setCell (p := ⟨w.heap.size, 6, none⟩) (Nat.le_refl _) (.slice none 0 0)
  have b2 := b1.setCell (p := ⟨w.heap.size, 7, none⟩) (Nat.le_refl _) (.slice none 0 0)
  have b3 := b2.setCell (p := ⟨w.heap.size, 10, none⟩) (Nat.le_refl _) (.int .i64 0)
  have b4 := b3.setCell (p := ⟨w.heap.size, 11, none⟩) (Nat.le_refl _) (.int .i64 0)
  have b5 := b4.setCell (p := ⟨w.heap.size, 12, none⟩) (Nat.le_refl _) (.string ⟨#[]⟩)
  have b6 := b5.setCell (p := ⟨w.heap.size, 13, none⟩) (Nat.le_refl _) (.slice none 0 0)
  have b7 := b6.setCell (p := ⟨w.heap.size, 14, none⟩) (Nat.le_refl _) (.slice none 0 0)
  have key : ∀ W7 : World, Below w.heap.size w W7 → W7.heap[w.heap.size]? = some (.cells (evL x).toArray t (0, 0)) → Below w.heap.size w (((W7.alloc o).alloc o).drew) ∧ w.heap.size + 1 ≤ (((W7.alloc o).alloc o).drew).heap.size ∧ (((W7.alloc o).alloc o).drew).heap[w.heap.size]? = some (.cells (evL x).toArray t (0, 0)) := by
    intro W7 c1 c2
    have hs := blk_lt c2
    refine ⟨((c1.alloc c1.size o).alloc (by rw [World.size_alloc]; exact Nat.le_trans c1.size (Nat.le_succ _)) o).drew, ?_, blk_drew (blk_alloc (blk_alloc c2 o) o)⟩
    show w.heap.size + 1 ≤ ((W7.alloc o).alloc o).heap.size
    rw [World.size_alloc, World.size_alloc]
    omega
  exact key _ b7 h7
set_option maxHeartbeats 4000000 in
set_option maxRecDepth 100000 in
theorem park_Put {Z : Nat → Prop} {p : Nat} {S : Lo} (x : Ev) (A0 : Option Addr) (c0 : Nat) (lost : List ByteArray) (w : World) (hL : PLotIs w Z p S) (hr : Kd.string.C w A0 lost.length lost) (hc : lost.length ≤ c0) (hsz : ∀ s ∈ lost, s.size ≤ maxLen) (hlen : lost.length < maxLen) :
    Calls Try.prog 10 #[.pointer (some ⟨p, 0, none⟩), evV x, .slice A0 lost.length c0] w fun e w' => e = .returned (.int .u16 (putE S x lost)) ∧ Kept Z w w' ∧ ∃ Z', PLotIs w' Z' p (putS S x lost) ∧ Grew w Z Z' := by
  have hu46 := Try.underlying34
  have hb0 := (Below.refl w.heap.size w).alloc (Nat.le_refl _) (Obj.cells (evL x).toArray 34)
  have HB0 := Aside0.mk hb0
  have HX0 := Aside0.mk (heap_alloc_new w (Obj.cells (evL x).toArray 34))
  have HH := Aside0.mk (park_Has x.id _ (LotIs.below hL hb0))
  have HL := Aside0.mk hL
  have hlen2 : lost.length ≤ 9223372036854775807 := hr.2.1
  have HR := Aside0.mk hr
  have HSZ := Aside0.mk hsz
  obtain ⟨r, hre⟩ : ∃ r, r = hasS S x.id := ⟨_, rfl⟩
  rw [← hre] at HH
  have HE := Aside0.mk hre
  clear hL hr hre hsz hb0
  unfold evV
  go_enter Try.func10, Try.ntmps10
  cases r with
  | true =>
    go_wp2_with (go_at_call 37; refine HH.out.mono ?_; rintro e w1 ⟨rfl, hb1⟩)
    go_ret
    have hp : putE S x lost = 30 := by unfold putE; rw [← HE.out]; rfl
    have hb := below_then HB0.out HB0.out.size hb1
    refine ⟨by rw [hp]; rfl, Kept.of_below hb, Z, ?_, fun _ _ h => h⟩
    unfold putS; rw [hp, if_neg (by decide)]
    exact LotIs.below HL.out hb
  | false =>
    go_wp2_with fail
    refine HH.out.mono ?_
    rintro e w1 ⟨rfl, hb1⟩
    have hb := below_then HB0.out HB0.out.size hb1
    have HB1 := Aside0.mk hb
    have hx0 := (hb1.block w.heap.size (by simp)).trans HX0.out
    have HX := Aside0.mk hx0
    have hs1 : w.heap.size + 1 ≤ w1.heap.size := by have := hb1.size; simpa using this
    obtain ⟨v, L, hLw, hS⟩ := HL.out
    have hL1 : PLot w1 Z p v L := LotAt.below hLw hb
    obtain ⟨A, c, rfl, hcc, hC⟩ := hL1.cells
    have hcell := hL1.ptr
    have HLL := Aside0.mk hS.len
    have HLw := Aside0.mk hLw
    have HL1 := Aside0.mk hL1
    have HS := Aside0.mk hS
    clear hb hb1 hx0 hLw hL1 hS hC HX0
    by_cases h64 : 64 ≤ L.length
    · have h64z : ((L.length : Int) ≥ 64) := by omega
      go_wp2
      go_ret
      have hp : putE S x lost = 32 := by unfold putE; rw [← HE.out, if_neg (by decide), if_pos (by rw [← HLL.out]; exact h64)]
      refine ⟨by rw [hp]; rfl, Kept.of_below HB1.out, Z, ?_, fun _ _ h => h⟩
      unfold putS; rw [hp, if_neg (by decide)]
      exact ⟨_, L, HL1.out, HS.out⟩
    · have h64z : ¬ ((L.length : Int) ≥ 64) := by omega
      by_cases h0 : lost.length = 0
      · have h0z : (lost.length : Int) = 0 := by omega
        go_wp2
        go_ret
        have hp : putE S x lost = 1 := by unfold putE; rw [← HE.out, if_neg (by decide), if_neg (by rw [← HLL.out]; exact h64), if_pos h0]
        refine ⟨by rw [hp]; rfl, Kept.of_below HB1.out, Z, ?_, fun _ _ h => h⟩
        unfold putS; rw [hp, if_neg (by decide)]
        exact ⟨_, L, HL1.out, HS.out⟩
      · have h0z : ¬ (lost.length : Int) = 0 := by omega
        obtain ⟨g0, g1, g2, g3, g4, g5, g6, g7, g8, g9, g10, g11, g12, g13, g14⟩ := evL_cells (l := []) HX.out
        obtain ⟨f0, f1, f2, f3, f4, f5, f6, f7, f8, f9, f10, f11, f12, f13, f14⟩ := ev_frozen HX.out
        have hbl : w.heap.size < w1.heap.size := by omega
        have hbl2 : w.heap.size < w1.heap.size + 1 := by omega
        have hbl3 : w.heap.size < w1.heap.size + 1 + 1 := by omega
        clear g0 g1 g2 g3 g4 g5 g8 g9 f0 f1 f2 f3 f4 f5 f8 f9
        have h0b : ((lost.length : Int) == 0) = false := by rw [beq_eq_false_iff_ne]; exact h0z
        go_upto_region 7 with fail
        go_cut [10] from 30 to 42 (fun s10 wx => s10 = .bool false ∧ Aside0 (Below w.heap.size w wx) ∧ Aside0 (w.heap.size + 1 ≤ wx.heap.size) ∧ Aside0 (wx.heap[w.heap.size]? = some (Obj.cells (evL x).toArray 34)))
        case first =>
          go_region_with (first | (go_at_call 38; refine (cloneS_nil _).mono ?_; rintro e w1 ⟨rfl, rfl⟩) | (go_at_call 39; refine (copy_zero _).mono ?_; rintro e w1 ⟨rfl, rfl⟩))
          all_goals
            go_wp2_with fail
            go_meet
            obtain ⟨q1, q2, q3⟩ := copW_facts (Obj.cells #[.int .i64 0, .int .i64 0, .string ⟨#[]⟩, .slice none 0 0, .slice none 0 0] 32) hbl HB1.out HX.out
            exact ⟨rfl, ⟨q1⟩, ⟨q2⟩, ⟨q3⟩⟩
        case rest =>
          obtain ⟨rfl, HBc, HSc, HXc⟩ := hcut
          clear g6 g7 g10 g11 g12 g13 g14 f6 f7 f10 f11 f12 f13 f14 hcell hbl hbl2 hbl3 HB1 HX hs1 HL1 hcc h64z
          have hLc : PLot wc Z p (.slice A L.length c) L := LotAt.below HLw.out HBc.out
          have HLc := Aside0.mk hLc
          have hxc := HXc.out
          obtain ⟨g0, g1, g2, g3, g4, g5, g6, g7, g8, g9, g10, g11, g12, g13, g14⟩ := evL_cells (l := []) hxc
          clear hLc hxc
          have hmm := @run_makeMap Try.prog
          obtain ⟨W2, hW2⟩ : ∃ W2, W2 = (wc.alloc (.map #[] 0)).alloc (.cells (evL x ++ [Value.map (some wc.heap.size)]).toArray 88) := ⟨_, rfl⟩
          have hb2 : Below wc.heap.size wc W2 := by rw [hW2]; exact ((Below.refl _ _).alloc (Nat.le_refl _) _).alloc (by simp) _
          have hbw : Below w.heap.size w W2 := below_then HBc.out HBc.out.size hb2
          have ho2 : Own kPm unitV W2 wc.heap.size (keyed []) := by
            rw [hW2]; exact (Own.made kPm unitV wc).below ((Below.refl _ _).alloc (Nat.le_refl _) _)
          have hn2 : W2.heap[wc.heap.size + 1]? = some (.cells (evL x ++ [Value.map (some wc.heap.size)]).toArray 88 (0, 0)) := by
            rw [hW2]
            have := heap_alloc_new (wc.alloc (.map #[] 0)) (.cells (evL x ++ [Value.map (some wc.heap.size)]).toArray 88)
            rwa [World.size_alloc] at this
          have hs2 : W2.heap.size = wc.heap.size + 2 := by rw [hW2]; simp
          have HW2 := Aside0.mk hW2
          have HB2 := Aside0.mk hbw
          have HO2 := Aside0.mk ho2
          have HN2 := Aside0.mk hn2
          have HS2 := Aside0.mk hs2
          clear hW2 hb2 hbw ho2 hn2 hs2
          go_wp2
          clear g0 g1 g2 g3 g4 g5 g6 g7 g8 g9 g10 g11 g12 g13 g14 hmm
          go_loopg [9, 48] lost.length (fun gg _ v48 wr => ∃ k : Nat, k ≤ lost.length ∧ lost.length - k ≤ gg ∧ v48 = .int .i64 k ∧ Aside0 (W2.grownBy wr (some wc.heap.size)) ∧ ∃ l' : List ByteArray, Aside0 (Own kPm unitV wr wc.heap.size (keyed l')) ∧ Aside0 (l'.length ≤ k) ∧ Aside0 (∀ z, z ∈ l' ↔ z ∈ lost.take k))
          case atStart => exact ⟨0, Nat.zero_le _, by omega, rfl, ⟨by rw [HW2.out]; exact World.grownBy.refl _ _⟩, [], ⟨by have := HO2.out; rw [HW2.out] at this; exact this⟩, ⟨by simp⟩, ⟨by simp⟩⟩
          case round =>
            obtain ⟨k, hk, hg, rfl, HG, l', HO, HLE, HMEM⟩ := hrel
            have hBr : Below w.heap.size w wr := HB2.out.grown HG.out HB2.out.size (fun j hj => by cases hj; have := HSc.out; omega)
            have HBr := Aside0.mk hBr
            have hnr := blk_grown HN2.out HG.out (by simp)
            clear hBr
            by_cases hlt : k < lost.length
            · obtain ⟨ad, e, hx0⟩ := C_str HR.out hlt
              cases e
              replace hx0 := (HBr.out.cell (World.block_lt_of_cell? w _ hx0)).trans hx0
              have hm1 : wr.cell? ⟨wc.heap.size + 1, 15, none⟩ = some (.map (some wc.heap.size)) := (blk_cell hnr 15).trans rfl
              have hltz : (k : Int) < (lost.length : Int) := by omega
              have hok : kPm.ok lost[k] := HSZ.out _ (List.getElem_mem hlt)
              have HOK := Aside0.mk hok
              have hln : (keyed l').length < maxLen := by have := HLE.out; simp only [keyed, List.length_map]; omega
              have HLN := Aside0.mk hln
              obtain ⟨z, hz⟩ : ∃ z, z = lost[k] := ⟨_, rfl⟩
              rw [← hz] at hx0 HOK
              have HZk := Aside0.mk hz
              clear hok hln hz hnr
              go_wp2_with (at_mapUpdate; refine wpList_mput rfl _ _ _ 86 rfl kPm unitV 89 Try.underlying86 wc.heap.size (keyed l') rfl HO.out HLN.out z () rfl rfl HOK.out trivial ?_; intro w4 ho4 hg4)
              go_roundg (lost.length - (k + 1))
              case measure => omega
              case rel =>
                refine ⟨k + 1, by omega, by omega, by go_num, ⟨HG.out.trans hg4⟩, z :: l'.filter fun y => decide (y ≠ z), ⟨by rw [← keyed_put]; exact ho4⟩, ⟨?_⟩, ⟨fun y => ?_⟩⟩
                · have := List.length_filter_le (fun y => decide (y ≠ z)) l'
                  have := HLE.out
                  rw [List.length_cons]; omega
                · rw [List.take_succ_eq_append_getElem hlt, List.mem_append, ← HMEM.out, List.mem_singleton, ← HZk.out, List.mem_cons, List.mem_filter]
                  by_cases e : y = z
                  · simp [e]
                  · simp [e]
            · have hltz : ¬ (k : Int) < (lost.length : Int) := by omega
              have : k = lost.length := by omega
              subst this
              have hLr : PLot wr Z p (.slice A L.length c) L := LotAt.below HLw.out HBr.out
              have HLr := Aside0.mk hLr
              have hpc := PLot.ptr hLr
              have HNR := Aside0.mk hnr
              have HRO : Aside0 (kPtr.R 85 wr 0 (fun k => Z k ∨ wr.heap.size ≤ k) (.slice A L.length c) L) := ⟨Kd.R_of_own (h1 := fun _ => rfl) (LotAt.row hLr) (fun k hk => .inl (LotAt.zrow hLr k hk))⟩
              have HLM : Aside0 ((L.length + 1) * 8 ≤ 140737488355328) := ⟨by omega⟩
              have hpr : p ≠ wc.heap.size := fun e => HO.out.off (LotAt.obj HLr.out) e
              have hrowne : ∀ {g t : Nat} {cs : Array Value}, wr.heap[g]? = some (.cells cs t (0, 0)) → 85 ≠ t → some g ≠ Value.ownBlock (.slice A L.length c) := fun hg ht => Kd.R_ne HRO.out hg ht
              have HRN := Aside0.mk @hrowne
              clear hrowne
              clear hLr hnr
              go_wp2_with (at_builtin; refine Kd.R_append kPtr (w0 := wr) (W := wr) 0 rfl _ _ 79 85 (.pointer none) 8 rfl Try.underlying79 (by kernel_rfl) rfl (by decide) (by omega) (.slice A L.length c) L (⟨x, wc.heap.size + 1, wc.heap.size, l'⟩ : It) [.pointer (some ⟨wc.heap.size + 1, 0, none⟩)] (fun k => Z k ∨ wr.heap.size ≤ k) (fun _ => False) rfl (by first | rfl | (go_simp; done)) rfl (fun _ hk => hk.elim) (fun _ hk => .inr hk) HRO.out (Below.refl _ _) (Nat.zero_le _) HLM.out ?_; intro v5 w5 hr5 hb5 hg5 hat5; obtain ⟨A5, c5, rfl⟩ := Kd.R_slice hr5; have hp5 := blk_grown (LotAt.obj HLr.out) hg5 (HRN.out (LotAt.obj HLr.out) (by decide)); have hn5 := blk_grown HNR.out hg5 (HRN.out HNR.out (by decide)); have ho5 := HO.out.grown hg5 (own_ne_row HO.out HRO.out); have hc5 : w5.cell? ⟨p, 0, none⟩ = some (.slice A L.length c) := (blk_cell hp5 0).trans rfl; have hf5 := blk_frozen hp5 0; have HP5 := Aside0.mk hp5; have HN5 := Aside0.mk hn5; have HO5 := Aside0.mk ho5; have HR5 := Aside0.mk hr5; have HG5 := Aside0.mk hg5; have HAT5 := Aside0.mk hat5; clear hp5 hn5 ho5 hr5 hg5 hat5 hb5)
              go_ret
              have hl5 : (L ++ [(⟨x, wc.heap.size + 1, wc.heap.size, l'⟩ : It)]).length = L.length + 1 := by simp
              obtain ⟨V5, hV5⟩ : ∃ V5, V5 = Value.slice A5 (L.length + 1) c5 := ⟨_, rfl⟩
              rw [hl5, ← hV5] at HR5 HAT5
              rw [← hV5]
              have hpE : putE S x lost = 0 := by unfold putE; rw [← HE.out, if_neg (by decide), if_neg (by rw [← HLL.out]; exact h64), if_neg h0]
              have hset : ∀ k, k ≠ p → (w5.setCell ⟨p, 0, none⟩ V5).heap[k]? = w5.heap[k]? := fun k hk => Below.heap_setCell w5 ⟨p, 0, none⟩ V5 k hk
              have hsz : (w5.setCell ⟨p, 0, none⟩ V5).heap.size = w5.heap.size := by simp [World.setCell]
              have hwc : wc.heap.size + 2 ≤ wr.heap.size := by have := HG.out.size; rw [HS2.out] at this; exact this
              have hpl : p < w.heap.size := LotAt.lt HLw.out
              have hold : ∀ g, g < w.heap.size → g ≠ p → some g ≠ Value.ownBlock (.slice A L.length c) → (w5.setCell ⟨p, 0, none⟩ V5).heap[g]? = w.heap[g]? := fun g h1 h2 h3 =>
                (hset g h2).trans ((HG5.out.block g (Nat.lt_of_lt_of_le h1 HBr.out.size) h3).trans (HBr.out.block g h1))
              have hk : Kept Z w (w5.setCell ⟨p, 0, none⟩ V5) := ⟨HG5.out.os.trans HBr.out.os, HG5.out.tape.trans HBr.out.tape, HG5.out.output.trans HBr.out.output, by rw [hsz]; exact Nat.le_trans HBr.out.size HG5.out.size, fun g h1 h2 =>
                hold g h1 (fun e => h2 (e ▸ LotAt.zp HLw.out)) (fun e => h2 (LotAt.zrow HLw.out g e.symm))⟩
              refine ⟨by rw [hpE]; rfl, hk, fun g => Z g ∨ w.heap.size ≤ g, ?_, fun g hg h => h.resolve_right (by omega)⟩
              have hrow := (scalar_own HR5.out).1
              have hne5 : ∀ g, V5.ownBlock = some g → g ≠ p := fun g hg => by
                obtain ⟨cells, hc⟩ := own_typed hrow g hg
                exact fun e => blk_ne hc HP5.out (by decide) e
              have hlot : PLot (w5.setCell ⟨p, 0, none⟩ V5) (fun g => Z g ∨ w.heap.size ≤ g) p V5 (L ++ [⟨x, wc.heap.size + 1, wc.heap.size, l'⟩]) := by
                refine LotAt.snoc HLw.out ⟨x, wc.heap.size + 1, wc.heap.size, l'⟩ (fun g hg => .inl hg) (fun g hg => .inr hg) (by decide) (by decide) hold (blk_set HP5.out 0 _) ?_ ?_ ?_ ?_ ?_ ?_
                · have := own_move (w1 := w5.setCell ⟨p, 0, none⟩ V5) hrow (fun g hg => hset g (hne5 g hg))
                  rw [List.length_append] at this; exact this
                · rcases HAT5.out with h | ⟨b, h1, h2⟩
                  · exact .inl h
                  · exact .inr ⟨b, h1, Nat.le_trans HBr.out.size h2⟩
                · exact (hset _ (by show wc.heap.size + 1 ≠ p; have := HBc.out.size; omega)).trans HN5.out
                · show w.heap.size ≤ wc.heap.size + 1; have := HBc.out.size; omega
                · exact HO5.out.move (hset _ (fun e => hpr e.symm))
                · exact HBc.out.size
              unfold putS; rw [hpE, if_pos rfl]
              exact ⟨_, _, hlot, HS.out.snoc rfl (fun z => by have := HMEM.out z; rwa [List.take_length] at this)⟩

/-! ### park_Lot_Came: function 12 -/
-- GIVEN (*heliast/park.Lot).Came making uses (*heliast/park.Lot).Has
open Go.Proofs.He
theorem PLot.item {w : World} {Z : Nat → Prop} {p : Nat} {A : Option Addr} {n c : Nat} {L : List It} {k : Nat} {x : It} (h : PLot w Z p (.slice A n c) L) (hk : L[k]? = some x) :
    ∃ g, A = some ⟨g, 0, none⟩ ∧ w.cell? ⟨g, k, none⟩ = some (.pointer (some ⟨x.blk, 0, none⟩)) ∧ g < w.heap.size := by
  have hl := (List.getElem?_eq_some_iff.1 hk).1
  have hr := LotAt.row h
  rcases hr.2 with ⟨h0, h1⟩ | ⟨g, cap, cur, h0, _, hh, hc, hm, hs, ht⟩
  · omega
  · injection h0 with h0 hn hc'
    subst h0
    have hcell : cur[k]? = some x.ptr := by
      have : (cur.toList.take (L.length * 1))[k]? = (L.map It.ptr)[k]? := by rw [ht]
      rw [List.getElem?_take, if_pos (by omega)] at this
      rw [← Array.getElem?_toList, this, List.getElem?_map, hk]; rfl
    exact ⟨g, rfl, by rw [cell_of_row w g k cur _ (0, 0) hh, hcell]; rfl, (Array.getElem?_eq_some_iff.1 hh).1⟩
set_option maxHeartbeats 4000000 in
set_option maxRecDepth 100000 in
theorem park_Came {Z : Nat → Prop} {p : Nat} {S : Lo} (id : ByteArray) (hid : id.size ≤ maxLen) (w : World) (hL : PLotIs w Z p S) :
    Calls Try.prog 12 #[.pointer (some ⟨p, 0, none⟩), .string id] w fun e w' => e = .returned (.tuple #[]) ∧ PLotIs w' Z p (cameS S id) ∧ Kept Z w w' := by
  obtain ⟨v, L, hL, hS⟩ := hL
  obtain ⟨A, c, rfl, hc, hC⟩ := hL.cells
  have hcell := hL.ptr
  have hlen : L.length ≤ 9223372036854775807 := hC.2.1
  have HL := Aside0.mk hL
  have HS := Aside0.mk hS
  have HID := Aside0.mk hid
  clear hL hC hS hid
  go_enter Try.func12, Try.ntmps12
  go_wp2
  go_loopg [5, 13] L.length (fun gg _ v13 wr => ∃ k : Nat, k ≤ L.length ∧ L.length - k ≤ gg ∧ v13 = .int .i64 k ∧ Aside0 (PLot wr Z p (.slice A L.length c) (cameL id L k)) ∧ Aside0 (Kept Z w wr))
  case atStart => exact ⟨0, Nat.zero_le _, by omega, rfl, ⟨by rw [cameL_zero]; exact HL.out⟩, ⟨Kept.refl _ _⟩⟩
  case round =>
    obtain ⟨k, hk, hg, rfl, HI, HK⟩ := hrel
    by_cases hlt : k < L.length
    · have hat := cameL_at id hlt
      obtain ⟨it, hit⟩ : ∃ it, it = L[k] := ⟨_, rfl⟩
      rw [← hit] at hat
      obtain ⟨g, rfl, hx, hgl⟩ := HI.out.item hat
      have ho := (LotAt.one HI.out it (List.mem_of_getElem? hat)).1
      have hm := (LotAt.map HI.out it (List.mem_of_getElem? hat))
      have h1 : wr.cell? ⟨it.blk, 15, none⟩ = some (.map (some it.mp)) := (blk_cell ho 15).trans rfl
      have HM := Aside0.mk hm
      have HAT := Aside0.mk hat
      have HIT := Aside0.mk hit
      have hltz : (k : Int) < (L.length : Int) := by omega
      clear ho hm hat hit hcell
      go_wp2_with (at_delete; refine wpList_mdel rfl _ _ 86 rfl kPm unitV 89 Try.underlying86 it.mp (keyed it.lost) rfl HM.out.1 id rfl HID.out ?_; intro w2 ho2 hg2 hs2)
      go_roundg (L.length - (k + 1))
      case measure => omega
      case rel =>
        refine ⟨k + 1, by omega, by omega, by go_num, ⟨?_⟩, ⟨HK.out.trans (Kept.of_grown hg2 (fun j hj => by cases hj; exact HM.out.2)) (fun _ _ h => h)⟩⟩
        have := LotAt.set HI.out HAT.out _ hg2 (by rw [← keyed_del]; exact ho2)
        rw [HIT.out, ← HIT.out] at this
        rw [cameL_succ id hlt, ← HIT.out]
        exact this
    · have hltz : ¬ (k : Int) < (L.length : Int) := by omega
      have : k = L.length := by omega
      subst this
      go_wp2
      go_end0
      refine ⟨rfl, ⟨_, _, HI.out, ?_⟩, HK.out⟩
      rw [cameL_all]; exact HS.out.came id
set_option maxHeartbeats 4000000 in
set_option maxRecDepth 100000 in
theorem park_Came_nil (id : ByteArray) (w : World) : Calls Try.prog 12 #[.pointer none, .string id] w fun e w' => e = .returned (.tuple #[]) ∧ w' = w := by
  go_enter Try.func12, Try.ntmps12
  go_wp2
  refine bodyPost_ret (results_none rfl _ _ _) rfl ?_
  exact ⟨rfl, rfl⟩

/-! ### park_New: function 9 -/
-- GIVEN heliast/park.New making uses (*heliast/park.Lot).Put uses (*heliast/park.Lot).Came uses (*heliast/park.Lot).Take
open Go.Proofs.He
set_option maxHeartbeats 4000000 in
set_option maxRecDepth 100000 in
theorem park_Put_nil (x : Ev) (A0 : Option Addr) (c0 : Nat) (n : Nat) (w : World) :
    Calls Try.prog 10 #[.pointer none, evV x, .slice A0 n c0] w fun e w' => e = .returned (.int .u16 32) ∧ Below w.heap.size w w' := by
  have hu46 := Try.underlying34
  have hb0 := (Below.refl w.heap.size w).alloc (Nat.le_refl _) (Obj.cells (evL x).toArray 34)
  have HB0 := Aside0.mk hb0
  have HH := Aside0.mk (park_Has_nil x.id (w.alloc (Obj.cells (evL x).toArray 34)))
  clear hb0
  unfold evV
  go_enter Try.func10, Try.ntmps10
  go_wp2_with (go_at_call 37; refine HH.out.mono ?_; rintro e w1 ⟨rfl, hb1⟩)
  go_ret
  exact ⟨rfl, below_then HB0.out HB0.out.size hb1⟩
set_option maxHeartbeats 4000000 in
set_option maxRecDepth 100000 in
theorem park_Take_nil (w : World) : Calls Try.prog 15 #[.pointer none] w fun e w' => e = .returned (.tuple #[evV evZ, .bool false]) ∧ Below w.heap.size w w' := by
  have hu46 := Try.underlying34
  go_enter Try.func15, Try.ntmps15
  go_wp2_with (go_at_call 40; refine (park_place_nil _ _).mono ?_; rintro e w1 ⟨rfl, rfl⟩)
  refine bodyPost_ret (results_ct rfl _ _ w.heap.size _ (evL evZ).toArray (0, 0) _ rfl (heap_alloc_new w _) Try.underlying34 rfl rfl) rfl ?_
  exact ⟨rfl, (Below.refl w.heap.size w).alloc (Nat.le_refl _) _⟩
/-- A lot of the call's own. -/
structure PL (w : World) (B : Nat) (Z : Nat → Prop) (p : Nat) (S : Lo) : Prop where
  lot : PLotIs w Z p S
  old : ∀ k, Z k → k < w.heap.size
  base : ∀ k, Z k → B ≤ k
section
variable {w w1 : World} {B p : Nat} {Z Z' : Nat → Prop} {S : Lo}
theorem PL.below (h : PL w B Z p S) (hb : Below w.heap.size w w1) : PL w1 B Z p S := ⟨LotIs.below h.lot hb, fun k hk => Nat.lt_of_lt_of_le (h.old k hk) hb.size, h.base⟩
theorem PL.kept {F : Nat → Prop} (h : PL w B Z p S) (hk : Kept F w w1) (hF : ∀ k, Z k → ¬ F k) : PL w1 B Z p S := ⟨LotIs.kept h.lot hk (fun k _ hz => hF k hz), fun k hk' => Nat.lt_of_lt_of_le (h.old k hk') hk.size, h.base⟩
theorem PL.lt (h : PL w B Z p S) : p < w.heap.size := LotIs.lt h.lot
theorem PL.nil {w0 : World} (h : PLotIs w1 (fun k => k = w.heap.size) w.heap.size S) (hs : w.heap.size < w1.heap.size) (hB : B ≤ w.heap.size) : PL w1 B (fun k => k = w.heap.size) w.heap.size S := ⟨h, fun k hk => by omega, fun k hk => by omega⟩
theorem PLotIs.narrow (h : PLotIs w Z p S) : PLotIs w (fun k => Z k ∧ k < w.heap.size) p S := by
  obtain ⟨v, L, hL, hS⟩ := h
  exact ⟨v, L, ⟨hL.obj, ⟨hL.zp, LotAt.lt hL⟩, hL.row, fun g hg => ⟨hL.zrow g hg, own_lt hL.row g hg⟩, fun i hi => ⟨(hL.one i hi).1, (hL.one i hi).2, (Array.getElem?_eq_some_iff.1 (hL.one i hi).1).1⟩, fun i hi => ⟨(hL.map i hi).1, (hL.map i hi).2, (hL.map i hi).1.lt⟩, hL.nd⟩, hS⟩
theorem pl_new (w : World) : Calls Try.prog 9 #[] w fun e w' => e = .returned (.pointer (some ⟨w.heap.size, 0, none⟩)) ∧ Below w.heap.size w w' ∧ PL w' w.heap.size (fun k => k = w.heap.size) w.heap.size [] :=
  (park_New w).mono fun e w' ⟨h1, h2, h3, h4⟩ => ⟨h1, h2, h4, fun k hk => by omega, fun k hk => by omega⟩
theorem pl_put (h : PL w B Z p S) (hB : B ≤ w.heap.size) (x : Ev) (A0 : Option Addr) (c0 : Nat) (lost : List ByteArray) (hr : Kd.string.C w A0 lost.length lost) (hc : lost.length ≤ c0) (hsz : ∀ s ∈ lost, s.size ≤ maxLen) (hlen : lost.length < maxLen) :
    Calls Try.prog 10 #[.pointer (some ⟨p, 0, none⟩), evV x, .slice A0 lost.length c0] w fun e w' => e = .returned (.int .u16 (putE S x lost)) ∧ Kept Z w w' ∧ ∃ Z', PL w' B Z' p (putS S x lost) ∧ Grew w Z Z' :=
  (park_Put x A0 c0 lost w h.lot hr hc hsz hlen).mono fun e w' ⟨h1, h2, Z', h3, h4⟩ => ⟨h1, h2, fun k => Z' k ∧ k < w'.heap.size, ⟨PLotIs.narrow h3, fun k hk => hk.2, fun k hk => by
    by_cases hlt : k < w.heap.size
    · exact h.base k (h4 k hlt hk.1)
    · omega⟩, fun k hk hz => h4 k hk hz.1⟩
theorem pl_came (h : PL w B Z p S) (id : ByteArray) (hid : id.size ≤ maxLen) :
    Calls Try.prog 12 #[.pointer (some ⟨p, 0, none⟩), .string id] w fun e w' => e = .returned (.tuple #[]) ∧ Kept Z w w' ∧ PL w' B Z p (cameS S id) :=
  (park_Came id hid w h.lot).mono fun e w' ⟨h1, h2, h3⟩ => ⟨h1, h3, h2, fun k hk => Nat.lt_of_lt_of_le (h.old k hk) h3.size, h.base⟩
theorem pl_take (h : PL w B Z p S) :
    Calls Try.prog 15 #[.pointer (some ⟨p, 0, none⟩)] w fun e w' => e = .returned (.tuple #[evV (takeX S), .bool (tookS S)]) ∧ Kept Z w w' ∧ PL w' B Z p (takeS S) :=
  (park_Take w h.lot h.old).mono fun e w' ⟨h1, h2, h3⟩ => ⟨h1, h3, h2, fun k hk => Nat.lt_of_lt_of_le (h.old k hk) h3.size, h.base⟩
theorem pl_has (h : PL w B Z p S) (id : ByteArray) :
    Calls Try.prog 37 #[.pointer (some ⟨p, 0, none⟩), .string id] w fun e w' => e = .returned (.bool (hasS S id)) ∧ Below w.heap.size w w' := park_Has id w h.lot
theorem pl_len (h : PL w B Z p S) :
    Calls Try.prog 17 #[.pointer (some ⟨p, 0, none⟩)] w fun e w' => e = .returned (.int .i64 (S.length : Int)) ∧ w' = w := park_Len w h.lot
end

end Go.Proofs.Ytmdjknkhjimgeaa.S

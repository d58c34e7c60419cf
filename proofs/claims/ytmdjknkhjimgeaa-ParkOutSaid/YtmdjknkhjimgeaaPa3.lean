-- Written by heprint.py (this session's, over the kit's print.py): not trusted, Lean checks it.
import Derived.Test.YtmdjknkhjimgeaaPa0
import Derived.Test.YtmdjknkhjimgeaaPa1
import Derived.Test.YtmdjknkhjimgeaaPa2
import Derived.Deep.RegionHeldLaw
namespace Go.Proofs.Ytmdjknkhjimgeaa.S
open Go.RowKit Go.Proofs.YtmdjknkhjimgeaaW.PrintWords Go.Proofs.YtmdjknkhjimgeaaW.PrintLast Go.Proofs.YtmdjknkhjimgeaaW.PrintMore
attribute [local go_sem] max2_int min2_int max_two min_two max_three min_three max_four min_four   -- for this text's walks alone
set_option linter.unusedVariables false
set_option linter.unusedSimpArgs false

/-! ### heliastlaw20_ParkOut: function 3 -/
-- GIVEN heliast/heliastlaw20.ParkOut making uses heliast/heliastlaw20.known uses slices.IndexFunc[[]*heliast/park.one,*heliast/park.one] uses heliast/heliastlaw20.done uses heliast/heliastlaw20.list uses heliast/heliastlaw20.Name
open Go.Proofs.He
theorem fm_congr {α β : Type} {f g : α → Option β} : ∀ {l : List α}, (∀ x ∈ l, f x = g x) → l.filterMap f = l.filterMap g
  | [], _ => rfl
  | x :: l, h => by
    have ih := fm_congr (l := l) (fun y hy => h y (List.mem_cons_of_mem _ hy))
    rw [List.filterMap_cons, List.filterMap_cons, h x (List.mem_cons_self ..), ih]
def idO (a : Nat) : ByteArray := ⟨#[36]⟩ ++ strOfNums [65 + (a : Int)]
def evO (a : Nat) (t : Int) : Ev := ⟨idO a, ⟨#[]⟩, t⟩
/-- The lot: of what was put (its number in the argument, and its row) those that are kept, each with what it still misses. -/
def lotS (its : List (Nat × List Int)) (keep : Nat → Bool) (miss : Int → Bool) : Lo :=
  (List.range its.length).filterMap fun k => if keep k then some (evO (its.getD k (0, [])).1 (k : Int), (((its.getD k (0, [])).2).filter miss).map nmK) else none
abbrev allK : Nat → Bool := fun _ => true
abbrev allM : Int → Bool := fun _ => true
theorem lotS_snoc (its : List (Nat × List Int)) (a : Nat) (r : List Int) : lotS (its ++ [(a, r)]) allK allM = lotS its allK allM ++ [(evO a (its.length : Int), r.map nmK)] := by
  unfold lotS
  rw [List.length_append, List.length_singleton, List.range_succ, List.filterMap_append]
  congr 1
  · apply fm_congr
    intro k hk
    rw [List.mem_range] at hk
    rw [List.getD_eq_getElem?_getD, List.getD_eq_getElem?_getD, List.getElem?_append_left hk]
  · simp [List.getD_eq_getElem?_getD, List.filter_eq_self.2 (fun _ _ => rfl : ∀ x ∈ r, allM x = true)]
theorem lotS_ids {its : List (Nat × List Int)} {keep : Nat → Bool} {miss : Int → Bool} : ∀ a ∈ lotS its keep miss, ∃ p ∈ its, a.1.id = idO p.1 := by
  intro a ha
  unfold lotS at ha
  obtain ⟨k, hk, h⟩ := List.mem_filterMap.1 ha
  rw [List.mem_range] at hk
  split at h
  · obtain rfl := Option.some.inj h
    rw [List.getD_eq_getElem?_getD, List.getElem?_eq_getElem hk, Option.getD_some]
    exact ⟨_, List.getElem_mem hk, rfl⟩
  · cases h
theorem lotS_len (its : List (Nat × List Int)) (keep : Nat → Bool) (miss : Int → Bool) : (lotS its keep miss).length ≤ its.length := by
  unfold lotS
  exact Nat.le_trans (List.length_filterMap_le _ _) (by simp)
theorem lotS_put (its : List (Nat × List Int)) {i : Nat} (hi : i < 20) (hid : ∀ p ∈ its, p.1 < i) (hl : its.length ≤ i) {r : List Int} (hr : r ≠ []) :
    putE (lotS its allK allM) (evO i (its.length : Int)) (r.map nmK) = 0 ∧ putS (lotS its allK allM) (evO i (its.length : Int)) (r.map nmK) = lotS (its ++ [(i, r)]) allK allM := by
  have h1 : hasS (lotS its allK allM) (evO i (its.length : Int)).id = false := by
    unfold hasS
    rw [List.any_eq_false]
    intro a ha
    obtain ⟨p, hp, e⟩ := lotS_ids a ha
    have := hid p hp
    simp only [decide_eq_true_eq]
    rw [e]
    intro e'
    have := evA_inj (a := p.1) (b := i) (by omega) hi e'
    omega
  have h0 : putE (lotS its allK allM) (evO i (its.length : Int)) (r.map nmK) = 0 := by
    unfold putE
    have := lotS_len its allK allM
    have := List.length_pos_iff.2 hr
    rw [h1, if_neg (by decide), if_neg (by omega), if_neg (by rw [List.length_map]; omega)]
  exact ⟨h0, by unfold putS; rw [h0, if_pos rfl, lotS_snoc]⟩
/-- What came, as flags of nine. -/
def camF (came : List Bool) : Int → Bool := fun x => !(came.getD (x.toNat % 9) false)
theorem lotS_came (its : List (Nat × List Int)) (keep : Nat → Bool) {came : List Bool} (hc : came.length = 9) {x : Int} (hx : 0 ≤ x) (hpos : ∀ p ∈ its, ∀ y ∈ p.2, 0 ≤ y) :
    cameS (lotS its keep (camF came)) (nmK x) = lotS its keep (camF (came.set (x.toNat % 9) true)) := by
  unfold cameS lotS
  rw [List.map_filterMap]
  apply fm_congr
  intro k hk
  rw [List.mem_range] at hk
  have hg : its.getD k (0, []) ∈ its := by rw [List.getD_eq_getElem?_getD, List.getElem?_eq_getElem hk, Option.getD_some]; exact List.getElem_mem hk
  have hp := hpos _ hg
  generalize its.getD k (0, []) = p at hp
  cases keep k with
  | false => rfl
  | true =>
    simp only [if_true, Option.map_some, Option.some.injEq, Prod.mk.injEq, true_and]
    rw [List.filter_map, List.filter_filter]
    congr 1
    apply List.filter_congr
    intro y hy
    have hy0 := hp y hy
    have e1 : (decide (nmK y ≠ nmK x)) = decide (y.toNat % 9 ≠ x.toNat % 9) := by
      rw [decide_eq_decide, ne_eq, nmK_eq hy0 hx]
    show (decide (nmK y ≠ nmK x) && camF came y) = _
    rw [e1]
    unfold camF
    rw [List.getD_eq_getElem?_getD, List.getD_eq_getElem?_getD, List.getElem?_set, hc]
    by_cases e : x.toNat % 9 = y.toNat % 9
    · rw [if_pos e, if_pos (by omega)]; simp [e]
    · rw [if_neg e]; simp; intro _ h; exact e h.symm
/-- All that a row misses has come. -/
def doneR (came : List Bool) (r : List Int) : Bool := r.all fun x => came.getD (x.toNat % 9) false
theorem filter_done (came : List Bool) (r : List Int) : (r.filter (camF came) = []) ↔ doneR came r = true := by
  unfold doneR camF
  rw [List.filter_eq_nil_iff, List.all_eq_true]
  constructor
  · intro h x hx; have := h x hx; simpa using this
  · intro h x hx; rw [h x hx]; decide
theorem filterMap_find {α β : Type} (f : α → Option β) (q : β → Bool) : ∀ (l : List α) (k : Nat) (b : β), l[k]?.bind f = some b → q b = true → (∀ j, j < k → ∀ c, l[j]?.bind f = some c → q c = false) →
    ∃ m, (l.filterMap f).findIdx? q = some m ∧ (l.filterMap f)[m]? = some b ∧ (l.filterMap f).eraseIdx m = (l.take k).filterMap f ++ (l.drop (k + 1)).filterMap f
  | [], k, b, h, _, _ => by simp at h
  | a :: l, 0, b, h, hq, _ => by
    have hf : f a = some b := by simpa using h
    refine ⟨0, ?_, ?_, ?_⟩
    · rw [List.filterMap_cons_some hf]; simp [List.findIdx?_cons, hq]
    · rw [List.filterMap_cons_some hf]; rfl
    · rw [List.filterMap_cons_some hf]; simp
  | a :: l, k + 1, b, h, hq, hn => by
    obtain ⟨m, h1, h2, h3⟩ := filterMap_find f q l k b (by simpa using h) hq (fun j hj c hc => hn (j + 1) (by omega) c (by simpa using hc))
    cases hf : f a with
    | none =>
      refine ⟨m, ?_, ?_, ?_⟩
      · rw [List.filterMap_cons_none hf]; exact h1
      · rw [List.filterMap_cons_none hf]; exact h2
      · rw [List.filterMap_cons_none hf, h3, List.take_succ_cons, List.drop_succ_cons, List.filterMap_cons_none hf]
    | some c =>
      have hqc := hn 0 (by omega) c (by simpa using hf)
      refine ⟨m + 1, ?_, ?_, ?_⟩
      · rw [List.filterMap_cons_some hf, List.findIdx?_cons, hqc, h1]; rfl
      · rw [List.filterMap_cons_some hf]; simpa using h2
      · rw [List.filterMap_cons_some hf, List.eraseIdx_cons_succ, h3, List.take_succ_cons, List.drop_succ_cons, List.filterMap_cons_some hf]; rfl
def keepF (outs : List Bool) : Nat → Bool := fun k => !(outs.getD k false)
theorem lotS_take (its : List (Nat × List Int)) {outs came : List Bool} {k : Nat} (hk : k < its.length) (ho : outs.length = its.length) (hk0 : outs.getD k false = false) (hd : doneR came (its.getD k (0, [])).2 = true)
    (hn : ∀ j, j < k → outs.getD j false = true ∨ doneR came (its.getD j (0, [])).2 = false) :
    tookS (lotS its (keepF outs) (camF came)) = true ∧ (takeX (lotS its (keepF outs) (camF came))).time = (k : Int) ∧ takeS (lotS its (keepF outs) (camF came)) = lotS its (keepF (outs.set k true)) (camF came) := by
  obtain ⟨m, h1, h2, h3⟩ := filterMap_find (fun k => if keepF outs k then some (evO (its.getD k (0, [])).1 (k : Int), (((its.getD k (0, [])).2).filter (camF came)).map nmK) else none) (fun a : Ev × List ByteArray => a.2.isEmpty) (List.range its.length) k
    (evO (its.getD k (0, [])).1 (k : Int), (((its.getD k (0, [])).2).filter (camF came)).map nmK)
    (by rw [List.getElem?_range hk, Option.bind_some, if_pos (by unfold keepF; rw [hk0]; rfl)]) (by rw [(filter_done came _).2 hd]; rfl) (fun j hj c hc => by
      rw [List.getElem?_range (by omega), Option.bind_some] at hc
      split at hc
      · rename_i hkj
        obtain rfl := Option.some.inj hc
        rcases hn j hj with h | h
        · unfold keepF at hkj; rw [h] at hkj; cases hkj
        · rw [Bool.eq_false_iff]
          intro he
          have : (its.getD j (0, [])).2.filter (camF came) = [] := by
            rw [List.isEmpty_iff] at he
            simpa using he
          rw [(filter_done came _).1 this] at h; cases h
      · cases hc)
  have hI : takeI (lotS its (keepF outs) (camF came)) = some m := h1
  refine ⟨by unfold tookS; rw [hI]; rfl, ?_, ?_⟩
  · unfold takeX
    rw [hI]
    show (((lotS its (keepF outs) (camF came))[m]?.map (·.1)).getD evZ).time = _
    rw [show (lotS its (keepF outs) (camF came))[m]? = _ from h2]; rfl
  · rw [takeS_erase hI]
    refine Eq.trans h3 ?_
    unfold lotS
    conv => rhs; rw [← List.take_append_drop k (List.range its.length)]
    rw [List.filterMap_append]
    have hdr : (List.range its.length).drop k = k :: (List.range its.length).drop (k + 1) := by
      rw [List.drop_eq_getElem_cons (by simpa using hk)]; simp
    rw [hdr, List.filterMap_cons_none (by
      have : keepF (outs.set k true) k = false := by
        unfold keepF; rw [List.getD_eq_getElem?_getD, List.getElem?_set, if_pos rfl, if_pos (by omega)]; rfl
      rw [this]; rfl)]
    have hoth : ∀ j, j ≠ k → keepF (outs.set k true) j = keepF outs j := fun j hj => by
      unfold keepF; rw [List.getD_eq_getElem?_getD, List.getD_eq_getElem?_getD, List.getElem?_set, if_neg (fun e => hj e.symm)]
    congr 1
    · apply fm_congr
      intro j hj
      rw [List.take_range, List.mem_range] at hj
      rw [hoth j (by omega)]
    · apply fm_congr
      intro j hj
      have : k + 1 ≤ j := by
        obtain ⟨q, hq⟩ := List.mem_iff_getElem?.1 hj
        rw [List.getElem?_drop] at hq
        have hlt := (List.getElem?_eq_some_iff.1 hq).1
        rw [List.getElem?_range (by simpa using hlt)] at hq
        have := Option.some.inj hq; omega
      rw [hoth j (by omega)]
theorem lotS_none (its : List (Nat × List Int)) {outs came : List Bool} (hn : ∀ j, j < its.length → outs.getD j false = true ∨ doneR came (its.getD j (0, [])).2 = false) :
    tookS (lotS its (keepF outs) (camF came)) = false ∧ takeS (lotS its (keepF outs) (camF came)) = lotS its (keepF outs) (camF came) := by
  have hI : takeI (lotS its (keepF outs) (camF came)) = none := by
    unfold takeI
    rw [List.findIdx?_eq_none_iff]
    intro a ha
    unfold lotS at ha
    obtain ⟨k, hk, h⟩ := List.mem_filterMap.1 ha
    rw [List.mem_range] at hk
    split at h
    · rename_i hkj
      obtain rfl := Option.some.inj h
      rcases hn k hk with h | h
      · unfold keepF at hkj; rw [h] at hkj; cases hkj
      · rw [Bool.eq_false_iff]
        intro he
        have : (its.getD k (0, [])).2.filter (camF came) = [] := by
          rw [List.isEmpty_iff] at he
          simpa using he
        rw [(filter_done came _).1 this] at h; cases h
    · cases h
  exact ⟨by unfold tookS; rw [hI]; rfl, by unfold takeS; rw [hI]⟩
theorem lotS_count (its : List (Nat × List Int)) (keep : Nat → Bool) (miss : Int → Bool) : (lotS its keep miss).length = ((List.range its.length).filter keep).length := by
  unfold lotS
  generalize List.range its.length = l
  induction l with
  | nil => rfl
  | cons k l ih =>
    cases h : keep k with
    | true => rw [List.filterMap_cons_some (by rw [h]; rfl), List.filter_cons_of_pos h, List.length_cons, List.length_cons, ih]
    | false => rw [List.filterMap_cons_none (by rw [h]; rfl), List.filter_cons_of_neg (by rw [h]; decide), ih]
theorem lotS_all (its : List (Nat × List Int)) : lotS its allK allM = lotS its (keepF (List.replicate its.length false)) (camF (List.replicate 9 false)) := by
  have h1 : keepF (List.replicate its.length false) = allK := by
    funext k; unfold keepF; rw [List.getD_eq_getElem?_getD, List.getElem?_replicate]; split <;> rfl
  have h2 : camF (List.replicate 9 false) = allM := by
    funext k; unfold camF; rw [List.getD_eq_getElem?_getD, List.getElem?_replicate]; split <;> rfl
  rw [h1, h2]
theorem done_l0 (l : List Int) (came : List Bool) (hc : came.length = 9) (hl : l.length ≤ 9223372036854775807) (hp : ∀ x ∈ l, 0 ≤ x) : ∀ (d j : Nat), j + d = l.length → heliastlaw20_done.l0 (d + 1) l came j = some (doneR came (l.drop j))
  | 0, j, h => by
    unfold heliastlaw20_done.l0
    rw [if_neg (by omega), List.drop_of_length_le (by omega)]; rfl
  | d + 1, j, h => by
    unfold heliastlaw20_done.l0
    have hj : j < l.length := by omega
    have e1 : rd l (j : Int) = l[j] := by simp [rd, hj]
    have h0 := hp _ (List.getElem_mem hj)
    have em : Int.tmod l[j] 9 = ((l[j].toNat % 9 : Nat) : Int) := by
      have := Int.tmod_eq_emod_of_nonneg (b := 9) h0
      omega
    have e2 : wrap64 ((j : Int) + 1) = ((j + 1 : Nat) : Int) := by unfold wrap64; omega
    have e3 : rdOf false came (((l[j].toNat % 9 : Nat) : Int)) = came.getD (l[j].toNat % 9) false := by unfold rdOf; rw [Int.toNat_natCast]
    have e4 : doneR came (l.drop j) = (came.getD (l[j].toNat % 9) false && doneR came (l.drop (j + 1))) := by
      rw [List.drop_eq_getElem_cons hj]; rfl
    rw [if_pos (by omega), if_pos (by omega), e1, em, if_pos (by omega), if_pos (by rw [hc]; omega), e3, e2, e4]
    by_cases h : came.getD (l[j].toNat % 9) false = true
    · rw [if_pos h, h, done_l0 l came hc hl hp d (j + 1) (by omega)]; rfl
    · rw [if_neg h]
      rw [Bool.not_eq_true] at h
      rw [h]; rfl
theorem done_f (l : List Int) (came : List Bool) (hc : came.length = 9) (hl : l.length ≤ 9223372036854775807) (hp : ∀ x ∈ l, 0 ≤ x) : heliastlaw20_done.f (l.length + 1) l came = some (doneR came l) := by
  have := done_l0 l came hc hl hp l.length 0 (by omega)
  rwa [List.drop_zero] at this
theorem C_bools {W : World} {g : Nat} {t : TypeId} (l : List Bool) (hg : W.heap[g]? = some (.cells (l.map Value.bool).toArray t (0, 0))) (hm : l.length ≤ 9223372036854775807) : Kd.bool.C W (some ⟨g, 0, none⟩) l.length l :=
  Flat.C_mk (flatScalar _ _) hm (fun j u hj => by
    rw [add_plain, blk_cell hg]
    rw [flatMap_one] at hj
    simpa using hj)
/-- How many of the first k are still there. -/
def leftN (outs : List Bool) (k : Nat) : Nat := ((List.range k).filter (keepF outs)).length
theorem leftN_succ (outs : List Bool) (k : Nat) : leftN outs (k + 1) = leftN outs k + (if outs.getD k false then 0 else 1) := by
  unfold leftN
  rw [List.range_succ, List.filter_append, List.length_append]
  congr 1
  cases h : outs.getD k false with
  | true => rw [List.filter_cons_of_neg (by unfold keepF; rw [h]; decide)]; rfl
  | false => rw [List.filter_cons_of_pos (by unfold keepF; rw [h]; rfl)]; rfl
theorem leftN_le (outs : List Bool) (k : Nat) : leftN outs k ≤ k := by
  unfold leftN
  exact Nat.le_trans (List.length_filter_le _ _) (by simp)
def rdSl (w0 : World) : Kd (List Int) where
  sz := 1
  E := []
  K := fun _ x cs => ∃ A c, cs = [.slice A x.length c] ∧ x.length ≤ c ∧ (Kd.int .u8).C w0 A x.length x
  M := fun _ _ _ x cs => ∃ A c, cs = [.slice A x.length c] ∧ x.length ≤ c ∧ (Kd.int .u8).C w0 A x.length x
  K_len := by rintro w x cs ⟨A, c, rfl, _⟩; rfl
  K_one := by rintro w x cs ⟨A, c, rfl, _⟩ u hu; rw [List.mem_singleton.1 hu]; rfl
  K_below := fun _ h => h
  K_of_M := fun h => h
  M_mono := fun _ h => h
  M_bound := fun h => h
  M_move := fun _ h => h
  M_lower := fun _ h => h
set_option maxHeartbeats 16000000 in
set_option maxRecDepth 100000 in
theorem law20_ParkOut.walk (A0 : Option Addr) (c0 : Nat) (l : List (List Int)) (A1 : Option Addr) (c1 : Nat) (order : List Int) (w : World) (hr : Kd.C (Kd.slice 23 (Kd.int .u8)) w A0 l.length l) (hc : l.length ≤ c0) (hr1 : (Kd.int .u8).C w A1 order.length order) (hc1 : order.length ≤ c1) (hl : ∀ r ∈ l, ∀ x ∈ r, 0 ≤ x ∧ x < 256) (ho : ∀ x ∈ order, 0 ≤ x ∧ x < 256) :
    Calls Try.prog 3 #[.slice A0 l.length c0, .slice A1 order.length c1] w fun e w' => e = .returned (.bool true) ∧ Below w.heap.size w w' := by
  have HKN := Aside0.mk (fun W => law20_known.walk W)
  have HR := Aside0.mk hr
  have HR1 := Aside0.mk hr1
  have HLL := Aside0.mk hl
  have HOO := Aside0.mk ho
  have hlen : l.length ≤ 9223372036854775807 := hr.2.1
  have hlen1 : order.length ≤ 9223372036854775807 := hr1.2.1
  clear hr hl hr1 ho
  go_enter Try.func3, Try.ntmps3
  go_wp2_with fail
  refine (pl_new w).mono ?_
  rintro e w1 ⟨rfl, hb1, hp1⟩
  have HB1 := Aside0.mk hb1
  have HP1 := Aside0.mk hp1
  have hs1 : w.heap.size < w1.heap.size := hp1.lt
  clear hb1 hp1
  go_upto_block 0 with fail
  go_cut [6, 7] (fun s6 s7 wx => ∃ (Z : Nat → Prop) (its : List (Nat × List Int)), s6 = .int .i64 (its.length : Int) ∧ Aside0 (its.length ≤ 20) ∧ Aside0 (∀ p ∈ its, ∀ y ∈ p.2, 0 ≤ y ∧ y < 256) ∧ Aside0 (PL wx w.heap.size Z w.heap.size (lotS its allK allM)) ∧ Aside0 ((rdSl w).R 23 wx w.heap.size (fun q => ¬ Z q) s7 (its.map (·.2))) ∧ Aside0 (Below w.heap.size w wx))
  case first =>
    go_wp2_with fail
    go_loopg [6, 7, 8] l.length (fun gg v6 v7 v8 wr => ∃ (i : Nat) (Z : Nat → Prop) (its : List (Nat × List Int)), i ≤ l.length ∧ i ≤ 20 ∧ l.length - i ≤ gg ∧ v8 = .int .i64 (i : Int) ∧ v6 = .int .i64 (its.length : Int) ∧ Aside0 (∀ p ∈ its, p.1 < i) ∧ its.length ≤ i ∧ Aside0 (∀ p ∈ its, ∀ y ∈ p.2, 0 ≤ y ∧ y < 256) ∧ Aside0 (PL wr w.heap.size Z w.heap.size (lotS its allK allM)) ∧ Aside0 ((rdSl w).R 23 wr w.heap.size (fun q => ¬ Z q) v7 (its.map (·.2))) ∧ Aside0 (Below w.heap.size w wr))
    case atStart => exact ⟨0, _, [], Nat.zero_le _, Nat.zero_le _, by omega, rfl, rfl, ⟨by simp⟩, Nat.le_refl _, ⟨by simp⟩, HP1, ⟨Kd.R_nil _ _ _ _ _⟩, HB1⟩
    case round =>
      obtain ⟨i, Z, its, hi, hi2, hg, rfl, rfl, HID, hil, HY, HP, HM, HB⟩ := hrel
      by_cases hgo : i < l.length ∧ i < 20
      · obtain ⟨hlt, h20⟩ := hgo
        have hltz : (i : Int) < (l.length : Int) := by omega
        have h20z : (i : Int) < 20 := by omega
        obtain ⟨ad, Ar, cr, e, hrx, hrl, hrc⟩ := at_rows HR.out (i : Int) (by omega) (by omega)
        cases e
        rw [Int.toNat_natCast] at hrx hrl hrc
        have HRX0 := Aside0.mk hrx
        replace hrx := (HB.out.cell (World.block_lt_of_cell? w _ hrx)).trans hrx
        obtain ⟨row, hrow⟩ : ∃ row, row = l.getD i [] := ⟨_, rfl⟩
        rw [← hrow] at hrx hrl hrc HRX0
        have HROW := Aside0.mk hrow
        have HRC := Aside0.mk hrc
        clear hrow hrc
        by_cases hne : row = []
        · subst hne
          go_upto_region 9 with fail
          go_quiet (fail)
          go_wp2
          go_roundg (l.length - (i + 1))
          case measure => omega
          case rel => exact ⟨i + 1, Z, its, by omega, by omega, by omega, by go_num, rfl, ⟨fun p hp => Nat.lt_succ_of_lt (HID.out p hp)⟩, by omega, HY, ⟨HP.out.below (pw_below_drewN (Below.refl _ _) _)⟩, ⟨Kd.R_below HM.out (pw_below_drewN (Below.refl _ _) _)⟩, ⟨pw_below_drewN HB.out _⟩⟩
        · have hpos : 0 < row.length := List.length_pos_iff.2 hne
          have hposz : (row.length : Int) > 0 := by omega
          have hposb : decide ((row.length : Int) > 0) = true := decide_eq_true hposz
          obtain ⟨nms, hnms⟩ : ∃ nms, nms = (row.take 5).map nmK := ⟨_, rfl⟩
          obtain ⟨n, hn⟩ : ∃ n, n = nms.length := ⟨_, rfl⟩
          have hn5 : n ≤ 5 := by rw [hn, hnms, List.length_map, List.length_take]; exact Nat.min_le_left _ _
          have HNN := Aside0.mk hn
          have HLI : Aside0 (∀ W, Below wr.heap.size wr W → Calls Try.prog 11 #[.slice Ar row.length cr] W fun e w' => ∃ A2 c2, e = .returned (.slice A2 n c2) ∧ n ≤ c2 ∧ Kd.string.C w' A2 n nms ∧ Below W.heap.size W w') :=
            ⟨fun W hW => (heliastlaw20_list.calls 6 Ar cr row _ W (Kd.C_below (Kd.C_below HRC.out HB.out) hW) hrl (list_f row)).mono (fun e w' ⟨v, h1, h2, h3⟩ => by
              obtain ⟨A2, c2, rfl, hc2, hC2⟩ := Kd.R_reads h2
              rw [← hnms, ← hn] at hc2 hC2 h1
              exact ⟨A2, c2, h1, hc2, hC2, h3⟩)⟩
          have hwrap : IntKind.u8.wrap (i : Int) = (i : Int) := by
            show (i : Int) % 256 = i
            omega
          have hwrap2 : IntKind.u8.wrap (65 + (i : Int)) = 65 + (i : Int) := by
            show (65 + (i : Int)) % 256 = 65 + i
            omega
          have hsz : 1 + (strOfNums [65 + (i : Int)]).size ≤ 9223372036854775807 := by rw [strOfNums_size]; exact (by decide : (1 : Nat) + 1 ≤ 9223372036854775807)
          have hsz2 : (9223372036854775807 < 1 + (strOfNums [65 + (i : Int)]).size) = False := eq_false (Nat.not_lt.2 hsz)
          have hcv := own_string (P := Try.prog) Try.underlying23 Try.underlying5 Try.underlying9 (lit_u8 (w := (wr.alloc (Obj.cells #[.int .u8 (65 + (i : Int))] 5)).drew) (blk_drew (heap_alloc_new wr _)) (Nat.zero_le _))
          have HKP : Aside0 (∀ W, Below w.heap.size w W → W.cell? (ad.add i) = some (.slice Ar row.length cr)) := ⟨fun W hW => (hW.cell (World.block_lt_of_cell? w _ HRX0.out)).trans HRX0.out⟩
          have hne5 : row.take 5 ≠ [] := fun h => by
            have := congrArg List.length h
            rw [List.length_take, List.length_nil] at this; omega
          have hlp := lotS_put its h20 HID.out hil hne5
          have HPT : Aside0 (∀ (W : World) (A2 : Option Addr) (c2 : Nat), Below wr.heap.size wr W → Kd.string.C W A2 n nms → n ≤ c2 →
              Calls Try.prog 10 #[.pointer (some ⟨w.heap.size, 0, none⟩), evV (evO i (its.length : Int)), .slice A2 n c2] W fun e w' => e = .returned (.int .u16 0) ∧ Kept Z W w' ∧ ∃ Z', PL w' w.heap.size Z' w.heap.size (lotS (its ++ [(i, row.take 5)]) allK allM) ∧ Grew W Z Z') := ⟨fun W A2 c2 hW hC hc2 => by
            have := pl_put (HP.out.below hW) (Nat.le_trans HB.out.size hW.size) (evO i (its.length : Int)) A2 c2 ((row.take 5).map nmK) (by rw [← hnms, ← hn]; exact hC) (by rw [← hnms, ← hn]; exact hc2) (fun s hs => by
              obtain ⟨x, _, rfl⟩ := List.mem_map.1 hs
              exact nmK_size x) (by rw [List.length_map, List.length_take]; exact Nat.lt_of_le_of_lt (Nat.min_le_left _ _) (by decide))
            rw [hlp.1, hlp.2, ← hnms, ← hn] at this
            exact this⟩
          clear hlp hne5 hn hnms
          go_upto_region 9 with fail
          go_cut [55] from 32 to 54 (fun s55 wx => s55 = .bool true ∧ ∃ Z' : Nat → Prop, Aside0 (PL wx w.heap.size Z' w.heap.size (lotS (its ++ [(i, row.take 5)]) allK allM)) ∧ Aside0 ((rdSl w).R 23 wx w.heap.size (fun q => ¬ Z' q) u7 (its.map (·.2))) ∧ Aside0 (Below w.heap.size w wx))
          case first =>
            go_region_held_law (fun w' => w'.cell? (ad.add i) = some (.slice Ar row.length cr)) (exact HKP.out _ (by repeat (first | exact HB.out | exact Hb2.out | exact Hb3.out | apply below_alloc | apply below_drew1 | apply pw_below_drewN)))
              ((first
                | (go_at_call 11; refine (HLI.out _ (by repeat (first | exact Below.refl _ _ | apply below_alloc | apply below_drew1 | apply pw_below_drewN))).mono ?_; rintro e w2 ⟨A2, c2, rfl, hc2, hC2, hb2⟩; (try have hcv2 := own_string (P := Try.prog) Try.underlying23 Try.underlying5 Try.underlying9 (lit_u8 (m := 65 + (i : Int)) (w := w2) ((hb2.block wr.heap.size (by simp)).trans (blk_drew (heap_alloc_new wr _))) (Nat.zero_le _))); have hcv3 := own_string (P := Try.prog) Try.underlying23 Try.underlying5 Try.underlying9 (lit_u8 (w := w2.alloc (Obj.cells #[.int .u8 (65 + (i : Int))] 5)) (heap_alloc_new w2 _) (Nat.zero_le _)); have Hb2 := Aside0.mk (below_then (show Below w.heap.size w _ from (by repeat (first | exact HB.out | apply below_alloc | apply below_drew1 | apply pw_below_drewN))) (Below.size (show Below w.heap.size w _ from (by repeat (first | exact HB.out | apply below_alloc | apply below_drew1 | apply pw_below_drewN)))) hb2); have Hbr2 := Aside0.mk (below_then (show Below wr.heap.size wr _ from (by repeat (first | exact Below.refl _ _ | apply below_alloc | apply below_drew1 | apply pw_below_drewN))) (Below.size (show Below wr.heap.size wr _ from (by repeat (first | exact Below.refl _ _ | apply below_alloc | apply below_drew1 | apply pw_below_drewN)))) hb2); have HC2 := Aside0.mk hC2; have Hc2 := Aside0.mk hc2; clear hb2 hC2 hc2)
                | (go_at_call 10; refine (HPT.out _ A2 c2 (by repeat (first | exact Hbr2.out | apply below_alloc | apply below_drew1 | apply pw_below_drewN)) (by first | exact HC2.out | exact Kd.C_below HC2.out (by repeat (first | exact Below.refl _ _ | apply below_alloc | apply below_drew1 | apply pw_below_drewN))) Hc2.out).mono ?_; rintro e w3 ⟨rfl, hk3, Z3, hp3, hg3⟩; have Hk3 := Aside0.mk hk3; have Hp3 := Aside0.mk hp3; have Hg3 := Aside0.mk hg3; have Hb3 := Aside0.mk (hk3.below (show Below w.heap.size w _ from (by repeat (first | exact Hb2.out | apply below_alloc | apply below_drew1 | apply pw_below_drewN))) (Below.size (show Below w.heap.size w _ from (by repeat (first | exact Hb2.out | apply below_alloc | apply below_drew1 | apply pw_below_drewN)))) (fun q _ hz => HP.out.base q hz)); clear hk3 hp3 hg3)))
            all_goals
              go_wp2_with fail
              go_meet
              refine ⟨rfl, Z3, Hp3, ⟨?_⟩, Hb3⟩
              have hbd := Kd.R_bound (Kd.R_below HM.out (show Below wr.heap.size wr _ from (by repeat (first | exact Hbr2.out | apply below_alloc | apply below_drew1 | apply pw_below_drewN))))
              exact Kd.R_mono (Kd.R_move hbd (fun q hq => (Hk3.out.block q (by have := hq.2.2.1; first | exact this | (simp; omega)) hq.1).trans (by first | rfl | exact Below.heap_alloc _ _ _ hq.2.2.1))) (fun q hq hz => hq.1 (Hg3.out q (by have := hq.2.2.1; first | exact this | (simp; omega)) hz))
          case rest =>
            obtain ⟨rfl, Z', HP', HM', HB'⟩ := hcut
            clear hcv hsz hsz2 hwrap hwrap2 HPT HLI HNN hposz hposb
            obtain ⟨m, hm⟩ : ∃ m, m = min row.length 5 := ⟨_, rfl⟩
            have hmin : min (row.length : Int) 5 = (m : Int) := by omega
            have hif : (if (5 : Int) < (row.length : Int) then (5 : Int) else (row.length : Int)) = (m : Int) := by split <;> omega
            have hmr : m ≤ row.length := by omega
            have hmz : (m : Int) ≤ (row.length : Int) := by omega
            have hmc : (m : Int) ≤ (cr : Int) := by omega
            have hm0 : 0 ≤ (m : Int) := by omega
            have hrx := HKP.out _ HB'.out
            have hrow : row ∈ l := by
              have := HROW.out
              rw [List.getD_eq_getElem?_getD, List.getElem?_eq_getElem hlt, Option.getD_some] at this
              rw [this]; exact List.getElem_mem hlt
            have hcells : (rdSl w).M wc w.heap.size (fun _ => False) (row.take 5) [.slice Ar m cr] := by
              have e : (row.take 5).length = m := by rw [List.length_take]; omega
              refine ⟨Ar, cr, by rw [e], by omega, ?_⟩
              exact ⟨rfl, by have := HRC.out.2.1; omega, fun hp => by
                obtain ⟨ad', e1, e2⟩ := HRC.out.2.2 (by omega)
                exact ⟨ad', e1, fun j p hj => e2 j p (by
                  rw [List.getElem?_take] at hj
                  split at hj
                  · exact hj
                  · cases hj)⟩⟩
            have HMD := Aside0.mk (Kd.R_below HM'.out (below_drew1 (Below.refl wc.heap.size wc)))
            have HCE := Aside0.mk hcells
            have HAL : Aside0 (((its.map (·.2)).length + 1) * 24 ≤ 140737488355328) := ⟨by rw [List.length_map]; omega⟩
            clear hcells hrow hm
            go_upto_region 10 with fail
            go_cut [7] from 56 to 69 (fun s7 wx => Aside0 (PL wx w.heap.size Z' w.heap.size (lotS (its ++ [(i, row.take 5)]) allK allM)) ∧ Aside0 ((rdSl w).R 23 wx w.heap.size (fun q => ¬ Z' q) s7 (its.map (·.2) ++ [row.take 5])) ∧ Aside0 (Below w.heap.size w wx))
            case first =>
              go_region_law (refine Kd.R_append_step (rdSl w) (w0 := w) (W := wc.drew) w.heap.size (by rfl) (.tmp 56) (.tmp 68) 22 23 (.slice none 0 0) 24 rfl Try.underlying22 (by kernel_rfl) rfl (show 0 < 1 from Nat.one_pos) (by decide) u7 (its.map (fun p : Nat × List Int => p.2)) (row.take 5) [.slice Ar m cr] (fun q => ¬ Z' q) (fun _ => False) (by simp [Act.eval, Act.put]) (by simp [Act.eval, Act.put]) HCE.out (fun _ hk => hk.elim) (fun q hq hz => by have h1 := HP'.out.old q hz; have h2 : wc.heap.size ≤ q := hq; omega) HMD.out HB'.out.drew HB'.out.size HAL.out ?_; intro v5 w5 hr5 hb5 hg5 hat5)
              all_goals
                have HP5 := Aside0.mk ((HP'.out.below (below_drew1 (Below.refl wc.heap.size wc))).kept (Kept.of_grown (F := fun q => u7.ownBlock = some q) hg5 (fun q hq => hq)) (fun q hz hq => HMD.out.1 q hq hz))
                have HR5 := Aside0.mk hr5
                have HB5 := Aside0.mk hb5
                clear hr5 hb5 hg5 hat5
                go_wp2_with fail
                go_meet
                exact ⟨HP5, HR5, HB5⟩
            case rest =>
              obtain ⟨HP5, HM5, HB5⟩ := hcut
              have hpos5 : ∀ y ∈ row.take 5, 0 ≤ y ∧ y < 256 := fun y hy => by
                have hin : row ∈ l := by
                  have := HROW.out
                  rw [List.getD_eq_getElem?_getD, List.getElem?_eq_getElem hlt, Option.getD_some] at this
                  rw [this]; exact List.getElem_mem hlt
                exact HLL.out row hin y (List.mem_of_mem_take hy)
              have HPO := Aside0.mk hpos5
              clear hpos5
              go_wp2
              go_roundg (l.length - (i + 1))
              case measure => omega
              case rel =>
                refine ⟨i + 1, Z', its ++ [(i, row.take 5)], by omega, by omega, by omega, by go_num, ?_, ⟨fun p hp => ?_⟩, by rw [List.length_append]; simp; omega, ⟨fun p hp => ?_⟩, HP5, ⟨by rw [List.map_append]; exact HM5.out⟩, HB5⟩
                · rw [List.length_append, List.length_singleton]; go_num
                · rcases List.mem_append.1 hp with hp | hp
                  · exact Nat.lt_succ_of_lt (HID.out p hp)
                  · rw [List.mem_singleton.1 hp]; exact Nat.lt_succ_self _
                · rcases List.mem_append.1 hp with hp | hp
                  · exact HY.out p hp
                  · rw [List.mem_singleton.1 hp]; exact HPO.out
      · have hcase : (¬ (i : Int) < (l.length : Int)) ∨ ((i : Int) < (l.length : Int) ∧ ¬ (i : Int) < 20) := by omega
        clear hi hg hgo
        rcases hcase with h1 | ⟨h1, h2⟩
        all_goals
          go_wp2_with fail
          go_meet
          exact ⟨Z, its, rfl, ⟨Nat.le_trans hil hi2⟩, HY, HP, HM, HB⟩
  case rest =>
    obtain ⟨Z, its, rfl, HI20, HY, HP, HM, HB⟩ := hcut
    obtain ⟨n, hn⟩ : ∃ n, n = its.length := ⟨_, rfl⟩
    have hn20 : n ≤ 20 := by rw [hn]; exact HI20.out
    have HN := Aside0.mk hn
    obtain ⟨on, hon⟩ : ∃ on : List Bool, on = List.replicate n false := ⟨_, rfl⟩
    obtain ⟨c9, hc9⟩ : ∃ c9 : List Bool, c9 = List.replicate 9 false := ⟨_, rfl⟩
    have hmn : ∀ W : World, (Instr.makeSlice 36 (.int .i64 (n : Int)) (.int .i64 (n : Int))).run Try.prog W = .ok (.slice (some ⟨W.heap.size, 0, none⟩) n n) (W.alloc (.cells (on.map Value.bool).toArray 4)) := fun W => by
      have := run_make_row' (P := Try.prog) 36 4 (.bool false) 1 Try.underlying36 (by kernel_rfl) rfl .i64 .i64 n (by omega) (by omega) W
      rw [madeBools, ← hon] at this; exact this
    have hm9 : ∀ W : World, (Instr.makeSlice 36 (.int .i64 9) (.int .i64 9)).run Try.prog W = .ok (.slice (some ⟨W.heap.size, 0, none⟩) 9 9) (W.alloc (.cells (c9.map Value.bool).toArray 4)) := fun W => by
      have := run_make_row' (P := Try.prog) 36 4 (.bool false) 1 Try.underlying36 (by kernel_rfl) rfl .i64 .i64 9 (by decide) (by decide) W
      rw [madeBools, ← hc9] at this; exact this
    rw [← hn]
    obtain ⟨W2, hW2⟩ : ∃ W2, W2 = (wc.alloc (.cells (on.map Value.bool).toArray 4)).alloc (.cells (c9.map Value.bool).toArray 4) := ⟨_, rfl⟩
    have hbW : Below wc.heap.size wc W2 := by rw [hW2]; exact ((Below.refl _ _).alloc (Nat.le_refl _) _).alloc (by simp) _
    have ho2 : W2.heap[wc.heap.size]? = some (.cells (on.map Value.bool).toArray 4 (0, 0)) := by rw [hW2]; exact (heap_alloc_old _ _ (by simp)).trans (heap_alloc_new wc _)
    have hc2 : W2.heap[wc.heap.size + 1]? = some (.cells (c9.map Value.bool).toArray 4 (0, 0)) := by
      have := heap_alloc_new (wc.alloc (.cells (on.map Value.bool).toArray 4)) (.cells (c9.map Value.bool).toArray 4)
      rw [World.size_alloc] at this; rw [hW2]; exact this
    have hpl := HP.out.below hbW
    rw [lotS_all, ← hn, ← hon, ← hc9] at hpl
    have HON : Aside0 (on.length = n) := ⟨by rw [hon]; exact List.length_replicate⟩
    have HC9 : Aside0 (c9.length = 9) := ⟨by rw [hc9]; exact List.length_replicate⟩
    have hb2 := below_then HB.out HB.out.size hbW
    have hmi := Kd.R_mono (Kd.R_below (Kd.R_bound HM.out) hbW) (fun q hq => (show ¬ Z q ∧ q ≠ wc.heap.size ∧ q ≠ wc.heap.size + 1 from ⟨hq.1, by have := hq.2.2.1; omega, by have := hq.2.2.1; omega⟩))
    have HZO : Aside0 (¬ Z wc.heap.size) := ⟨fun h => by have := HP.out.old _ h; omega⟩
    have HZC : Aside0 (¬ Z (wc.heap.size + 1)) := ⟨fun h => by have := HP.out.old _ h; omega⟩
    have HWS := Aside0.mk HB.out.size
    rw [hW2] at ho2 hc2 hpl hb2 hmi
    have HO2 := Aside0.mk ho2
    have HC2 := Aside0.mk hc2
    have HP2 := Aside0.mk hpl
    have HB2 := Aside0.mk hb2
    have HM2 := Aside0.mk hmi
    clear hbW hW2 ho2 hc2 hpl hb2 hmi hn HP HB HM HB1 HP1 hon hc9
    go_wp2
    clear hmn hm9
    go_loopg [11, 12, 13, 14, 15, 16] order.length (fun gg v11 _ _ _ _ _ wr => ∃ (j : Nat) (outs came : List Bool), j ≤ order.length ∧ j ≤ 30 ∧ order.length - j ≤ gg ∧ v11 = .int .i64 (j : Int) ∧ Aside0 (outs.length = n) ∧ Aside0 (came.length = 9) ∧ Aside0 (PL wr w.heap.size Z w.heap.size (lotS its (keepF outs) (camF came))) ∧ Aside0 (wr.heap[wc.heap.size]? = some (.cells (outs.map Value.bool).toArray 4 (0, 0))) ∧ Aside0 (wr.heap[wc.heap.size + 1]? = some (.cells (came.map Value.bool).toArray 4 (0, 0))) ∧ Aside0 ((rdSl w).R 23 wr w.heap.size (fun q => ¬ Z q ∧ q ≠ wc.heap.size ∧ q ≠ wc.heap.size + 1) u7 (its.map (·.2))) ∧ Aside0 (Below w.heap.size w wr))
    case atStart => exact ⟨0, _, _, Nat.zero_le _, Nat.zero_le _, by omega, rfl, HON, HC9, HP2, HO2, HC2, HM2, HB2⟩
    case round =>
      clear HP2 HO2 HC2 HM2 HB2
      obtain ⟨j, outs, came, hj, hj30, hg, rfl, HOL, HCL, HP, HO, HC, HM, HB⟩ := hrel
      by_cases hgo : j < order.length ∧ j < 30
      · obtain ⟨hlt, h30⟩ := hgo
        have hltz : (j : Int) < (order.length : Int) := by omega
        have h30z : (j : Int) < 30 := by omega
        obtain ⟨ado, e, hox⟩ := C_u8 HR1.out hlt
        cases e
        have HOX := Aside0.mk hox
        replace hox := (HB.out.cell (World.block_lt_of_cell? w _ hox)).trans hox
        obtain ⟨hx0, hx1⟩ := HOO.out order[j] (List.getElem_mem hlt)
        obtain ⟨x, hx⟩ : ∃ x : Nat, order[j] = (x : Int) := ⟨order[j].toNat, by omega⟩
        rw [hx] at hox hx1 HOX
        have HNM := Aside0.mk (fun W => heliastlaw20_Name.calls (x : Int) (nmK (x : Int)) W (name_f (x : Int)))
        clear hx0 hx
        go_wp2_with fail
        refine (HNM.out _).mono ?_
        rintro e w2 ⟨rfl, hb2⟩
        have hca := pl_came (HP.out.below hb2) (nmK (x : Int)) (nmK_size _)
        rw [lotS_came its (keepF outs) HCL.out (by omega) (fun p hp y hy => (HY.out p hp y hy).1), Int.toNat_natCast] at hca
        have HCA := Aside0.mk hca
        have HP2 := Aside0.mk (HP.out.below hb2)
        have HB2 := Aside0.mk (below_then HB.out HB.out.size hb2)
        have HO2 := Aside0.mk ((hb2.block _ (blk_lt HO.out)).trans HO.out)
        have HC2 := Aside0.mk ((hb2.block _ (blk_lt HC.out)).trans HC.out)
        have HM2 := Aside0.mk (Kd.R_below HM.out hb2)
        clear hb2 hca HP HB HO HC HM hox
        go_wp2_with fail
        refine HCA.out.mono ?_
        rintro e w3 ⟨rfl, hk3, hp3⟩
        have hc3 := (hk3.block _ (blk_lt HC2.out) HZC.out).trans HC2.out
        have HO3 := Aside0.mk ((hk3.block _ (blk_lt HO2.out) HZO.out).trans HO2.out)
        have HB3 := Aside0.mk (hk3.below HB2.out HB2.out.size (fun q _ hz => HP2.out.base q hz))
        have HM3 := Aside0.mk (Kd.R_step HM2.out (fun q hq hlt => hk3.block q hlt hq.1))
        have h90 : 0 ≤ (x : Int) % 9 := by omega
        have h99 : (x : Int) % 9 < 9 := by omega
        have h9t : ((x : Int) % 9).toNat = x % 9 := by omega
        have hcl : x % 9 < came.length := by rw [HCL.out]; omega
        obtain ⟨bb, hbb⟩ : ∃ bb, w3.cell? ⟨wc.heap.size + 1, x % 9, none⟩ = some (.bool bb) := ⟨came[x % 9], by rw [blk_cell hc3]; simp [hcl]⟩
        have hfm := blk_frozen hc3 (x % 9)
        have hox := (HB3.out.cell (World.block_lt_of_cell? w _ HOX.out)).trans HOX.out
        obtain ⟨W4, hW4⟩ : ∃ W4, W4 = w3.setCell ⟨wc.heap.size + 1, x % 9, none⟩ (.bool true) := ⟨_, rfl⟩
        obtain ⟨came', hcm⟩ : ∃ came', came' = came.set (x % 9) true := ⟨_, rfl⟩
        have hk4 : Kept (fun q => q = wc.heap.size + 1) w3 W4 := by rw [hW4]; exact Kept.setCell w3 ⟨wc.heap.size + 1, x % 9, none⟩ (.bool true) rfl
        have hc4 : W4.heap[wc.heap.size + 1]? = some (.cells (came'.map Value.bool).toArray 4 (0, 0)) := by
          rw [hW4, blk_set hc3, setBools, hcm]
        have ho4 := (hk4.block _ (blk_lt HO3.out) (by omega)).trans HO3.out
        have hp4 := hp3.kept hk4 (fun q hz hq => HZC.out (hq ▸ hz))
        have hb4 := hk4.below HB3.out HB3.out.size (fun q _ hq => by have := HWS.out; omega)
        have hm4 := Kd.R_step HM3.out (fun q hq hlt => hk4.block q hlt (fun e => hq.2.2 e))
        rw [← hcm] at hp4
        have HCL4 : Aside0 (came'.length = 9) := ⟨by rw [hcm, List.length_set]; exact HCL.out⟩
        rw [hW4] at hc4 ho4 hp4 hb4 hm4
        have HC4 := Aside0.mk hc4
        have HO4 := Aside0.mk ho4
        have HP4 := Aside0.mk hp4
        have HB4 := Aside0.mk hb4
        have HM4 := Aside0.mk hm4
        clear hk3 hp3 hc3 hcl hk4 hc4 ho4 hp4 hb4 hm4 hcm hW4 HP2 HB2 HO2 HC2 HM2 HO3 HB3 HM3 HCA HCL
        go_wp2
        clear hbb hfm h90 h99 h9t hox
        go_loopg [12, 13, 14] n (fun gg v12 _ _ wi => ∃ (q : Nat) (outs' : List Bool), q ≤ n ∧ n - q ≤ gg ∧ v12 = .int .i64 (q : Int) ∧ Aside0 (outs'.length = n) ∧ Aside0 (∀ t, t < q → outs'.getD t false = true ∨ doneR came' (its.getD t (0, [])).2 = false) ∧ Aside0 (PL wi w.heap.size Z w.heap.size (lotS its (keepF outs') (camF came'))) ∧ Aside0 (wi.heap[wc.heap.size]? = some (.cells (outs'.map Value.bool).toArray 4 (0, 0))) ∧ Aside0 (wi.heap[wc.heap.size + 1]? = some (.cells (came'.map Value.bool).toArray 4 (0, 0))) ∧ Aside0 ((rdSl w).R 23 wi w.heap.size (fun q => ¬ Z q ∧ q ≠ wc.heap.size ∧ q ≠ wc.heap.size + 1) u7 (its.map (·.2))) ∧ Aside0 (Below w.heap.size w wi))
        case atStart => exact ⟨0, outs, Nat.zero_le _, by omega, rfl, HOL, ⟨fun t ht => absurd ht (Nat.not_lt_zero _)⟩, HP4, HO4, HC4, HM4, HB4⟩
        case round =>
          clear HP4 HO4 HC4 HM4 HB4
          obtain ⟨q, outs', hq, hgq, rfl, HOL', HDN, HP, HO, HC, HM, HB⟩ := hrel
          by_cases hqn : q < n
          · have hqz : (q : Int) < (n : Int) := by omega
            have hql : q < its.length := by rw [← HN.out]; exact hqn
            obtain ⟨u, hu⟩ : ∃ u, u = outs'.getD q false := ⟨_, rfl⟩
            have hcu : wr.cell? ⟨wc.heap.size, q, none⟩ = some (.bool u) := by
              have hl : q < outs'.length := by rw [HOL'.out]; exact hqn
              rw [blk_cell HO.out, hu]; simp [hl, List.getD_eq_getElem?_getD]
            have HU := Aside0.mk hu
            clear hu
            cases u with
            | true =>
              go_wp2
              go_roundg (n - (q + 1))
              case measure => omega
              case rel =>
                refine ⟨q + 1, outs', by omega, by omega, by go_num, HOL', ⟨fun t ht => ?_⟩, HP, HO, HC, HM, HB⟩
                by_cases e : t = q
                · rw [e]; exact .inl HU.out.symm
                · exact HDN.out t (by omega)
            | false =>
              obtain ⟨rowk, hrk⟩ : ∃ rowk, rowk = (its.getD q (0, [])).2 := ⟨_, rfl⟩
              have hrin : its.getD q (0, []) ∈ its := by rw [List.getD_eq_getElem?_getD, List.getElem?_eq_getElem hql, Option.getD_some]; exact List.getElem_mem hql
              obtain ⟨Am, cm, hum, hcm, hCm⟩ := Kd.R_reads HM.out
              obtain ⟨adm, cc, e1, hcc, hK, hcell⟩ := Kd.C_get hCm ([] : List Int) (q : Int) (by omega) (by rw [List.length_map]; omega)
              cases e1
              obtain ⟨Ar, cr, hcs, hrc, hCr⟩ := hK
              have hrow : (its.map (·.2)).getD (q : Int).toNat [] = rowk := by
                rw [Int.toNat_natCast, hrk, List.getD_eq_getElem?_getD, List.getElem?_map, List.getElem?_eq_getElem hql, List.getD_eq_getElem?_getD, List.getElem?_eq_getElem hql]; rfl
              rw [hrow] at hcs hrc hCr
              have hmx : wr.cell? (adm.add q) = some (.slice Ar rowk.length cr) := by
                have h2 := hcell 0 (.slice Ar rowk.length cr) (by rw [hcs]; rfl)
                simpa [rdSl] using h2
              have hlenm : ((its.map (·.2)).length : Int) = (n : Int) := by rw [List.length_map, HN.out]
              rw [List.length_map, ← HN.out] at hum
              have hrl : rowk.length ≤ 9223372036854775807 := hCr.2.1
              have hdone := heliastlaw20_done.calls (rowk.length + 1) Ar cr rowk (some ⟨wc.heap.size + 1, 0, none⟩) 9 came' (doneR came' rowk) wr (Kd.C_below (Kd.C_below hCr HB.out) (Below.refl _ _)) hrc (by have := C_bools came' HC.out (by rw [HCL4.out]; decide); exact this) (by rw [HCL4.out]; exact Nat.le_refl _) (done_f rowk came' HCL4.out hrl (fun y hy => (HY.out _ hrin y (by rw [← hrk]; exact hy)).1))
              rw [HCL4.out] at hdone
              have HDO := Aside0.mk hdone
              have HRK := Aside0.mk hrk
              clear hrk hrin hcell hcs hCr hrow hCm hdone hcm hrc hlenm
              subst hum
              obtain ⟨dn, hdn⟩ : ∃ dn, dn = doneR came' rowk := ⟨_, rfl⟩
              rw [← hdn] at HDO
              have HDD := Aside0.mk hdn
              clear hdn
              cases dn with
              | false =>
                go_wp2_with fail
                refine HDO.out.mono ?_
                rintro e w5 ⟨rfl, hd5⟩
                have HP5 := Aside0.mk (HP.out.below hd5.below)
                have HO5 := Aside0.mk ((hd5.below.block _ (blk_lt HO.out)).trans HO.out)
                have HC5 := Aside0.mk ((hd5.below.block _ (blk_lt HC.out)).trans HC.out)
                have HM5 := Aside0.mk (Kd.R_below HM.out hd5.below)
                have HB5 := Aside0.mk (below_then HB.out HB.out.size hd5.below)
                clear hd5 HP HO HC HM HB
                go_wp2
                go_roundg (n - (q + 1))
                case measure => omega
                case rel =>
                  refine ⟨q + 1, outs', by omega, by omega, by go_num, HOL', ⟨fun t ht => ?_⟩, HP5, HO5, HC5, HM5, HB5⟩
                  by_cases e : t = q
                  · rw [e, ← HRK.out]; exact .inr HDD.out.symm
                  · exact HDN.out t (by omega)
              | true =>
                go_wp2_with fail
                refine HDO.out.mono ?_
                rintro e w5 ⟨rfl, hd5⟩
                have hp5 := HP.out.below hd5.below
                have HO5 := Aside0.mk ((hd5.below.block _ (blk_lt HO.out)).trans HO.out)
                have HC5 := Aside0.mk ((hd5.below.block _ (blk_lt HC.out)).trans HC.out)
                have HM5 := Aside0.mk (Kd.R_below HM.out hd5.below)
                have HB5 := Aside0.mk (below_then HB.out HB.out.size hd5.below)
                obtain ⟨k1, k2, k3⟩ := lotS_take its hql (by rw [HOL'.out, HN.out]) HU.out.symm (by rw [← HRK.out]; exact HDD.out.symm) HDN.out
                have hta := pl_take hp5
                obtain ⟨xt, hxt⟩ : ∃ xt, xt = takeX (lotS its (keepF outs') (camF came')) := ⟨_, rfl⟩
                rw [k1, k3, ← hxt] at hta
                rw [← hxt] at k2
                unfold evV at hta
                rw [k2] at hta
                have HTA := Aside0.mk hta
                have HP5 := Aside0.mk hp5
                have HXT := Aside0.mk k2
                clear hd5 HP HO HC HM HB k1 k2 k3 hxt hta hp5
                go_wp2_with fail
                refine HTA.out.mono ?_
                rintro e w6 ⟨rfl, hk6, hp6⟩
                have ho6 := (hk6.block _ (blk_lt HO5.out) HZO.out).trans HO5.out
                have HC6 := Aside0.mk ((hk6.block _ (blk_lt HC5.out) HZC.out).trans HC5.out)
                have HB6 := Aside0.mk (hk6.below HB5.out HB5.out.size (fun t _ hz => HP5.out.base t hz))
                have HM6 := Aside0.mk (Kd.R_step HM5.out (fun t ht hlt => hk6.block t hlt ht.1))
                have hcu6 : w6.cell? ⟨wc.heap.size, q, none⟩ = some (.bool false) := by
                  have hl : q < outs'.length := by rw [HOL'.out]; exact hqn
                  have hu := HU.out
                  rw [blk_cell ho6, hu]; simp [hl, List.getD_eq_getElem?_getD]
                have hfu6 := blk_frozen ho6 q
                have hlt6 := blk_lt ho6
                have HO6 := Aside0.mk ho6
                have HP6 := Aside0.mk hp6
                clear hk6 hp6 ho6 HP5 HO5 HC5 HM5 HB5 HTA hcu
                go_wp2
                go_roundg (n - (q + 1))
                case measure => omega
                case rel =>
                  have hk7 : Kept (fun t => t = wc.heap.size) w6 (w6.setCell ⟨wc.heap.size, q, none⟩ (.bool true)) := Kept.setCell w6 ⟨wc.heap.size, q, none⟩ (.bool true) rfl
                  have hba : ∀ o : Obj, Below (w6.setCell ⟨wc.heap.size, q, none⟩ (.bool true)).heap.size (w6.setCell ⟨wc.heap.size, q, none⟩ (.bool true)) ((w6.setCell ⟨wc.heap.size, q, none⟩ (.bool true)).alloc o) := fun o => (Below.refl _ _).alloc (Nat.le_refl _) o
                  have hp7 := HP6.out.kept hk7 (fun t hz ht => HZO.out (ht ▸ hz))
                  have hb7 := hk7.below HB6.out HB6.out.size (fun t _ ht => by have := HWS.out; omega)
                  refine ⟨q + 1, outs'.set q true, by omega, by omega, by go_num, ⟨by rw [List.length_set]; exact HOL'.out⟩, ⟨fun t ht => ?_⟩, ⟨hp7.below (hba _)⟩, ⟨?_⟩, ⟨?_⟩, ⟨?_⟩, ⟨below_then hb7 hb7.size (hba _)⟩⟩
                  · by_cases e : t = q
                    · rw [e]; left
                      rw [List.getD_eq_getElem?_getD, List.getElem?_set, if_pos rfl, if_pos (by rw [HOL'.out]; exact hqn)]; rfl
                    · rcases HDN.out t (by omega) with h | h
                      · left
                        rw [List.getD_eq_getElem?_getD] at h ⊢
                        rw [List.getElem?_set, if_neg (fun e' => e e'.symm)]; exact h
                      · exact .inr h
                  · refine blk_alloc ?_ _
                    rw [blk_set HO6.out, setBools]
                  · exact blk_alloc ((hk7.block _ (blk_lt HC6.out) (by omega)).trans HC6.out) _
                  · exact Kd.R_below (Kd.R_step HM6.out (fun t ht hlt => hk7.block t hlt ht.2.1)) (hba _)
          · have hqz : ¬ (q : Int) < (n : Int) := by omega
            have hqn' : q = n := by omega
            subst hqn'
            obtain ⟨k1, k3⟩ := lotS_none its (outs := outs') (came := came') (fun t ht => HDN.out t (by rw [HN.out]; exact ht))
            have hta := pl_take HP.out
            obtain ⟨xt, hxt⟩ : ∃ xt, xt = takeX (lotS its (keepF outs') (camF came')) := ⟨_, rfl⟩
            rw [k1, k3, ← hxt] at hta
            unfold evV at hta
            have HTA := Aside0.mk hta
            clear k1 k3 hta hxt
            go_wp2_with fail
            refine HTA.out.mono ?_
            rintro e w6 ⟨rfl, hk6, hp6⟩
            have hba : ∀ o : Obj, Below w6.heap.size w6 (w6.alloc o) := fun o => (Below.refl _ _).alloc (Nat.le_refl _) o
            have HBA := Aside0.mk hba
            have HC6 := Aside0.mk ((hk6.block _ (blk_lt HC.out) HZC.out).trans HC.out)
            have HO6 := Aside0.mk ((hk6.block _ (blk_lt HO.out) HZO.out).trans HO.out)
            have HB6 := Aside0.mk (hk6.below HB.out HB.out.size (fun t _ hz => HP.out.base t hz))
            have HM6 := Aside0.mk (Kd.R_step HM.out (fun t ht hlt => hk6.block t hlt ht.1))
            have HP6 := Aside0.mk hp6
            clear hk6 hp6 HP HO HC HM HB HTA hba
            go_wp2
            go_roundg (order.length - (j + 1))
            case measure => omega
            case rel => exact ⟨j + 1, outs', came', by omega, by omega, by omega, by go_num, HOL', HCL4, ⟨HP6.out.below (HBA.out _)⟩, ⟨blk_alloc HO6.out _⟩, ⟨blk_alloc HC6.out _⟩, ⟨Kd.R_below HM6.out (HBA.out _)⟩, ⟨below_then HB6.out HB6.out.size (HBA.out _)⟩⟩
      · have hcase : (¬ (j : Int) < (order.length : Int)) ∨ ((j : Int) < (order.length : Int) ∧ ¬ (j : Int) < 30) := by omega
        clear hj hg hgo
        rcases hcase with h1 | ⟨h1, h2⟩
        all_goals
          go_wp2
          go_loopg [17, 18] n (fun gg v17 v18 wi => ∃ q : Nat, q ≤ n ∧ n - q ≤ gg ∧ v18 = .int .i64 (q : Int) ∧ v17 = .int .i64 (leftN outs q : Int) ∧ wi = wr)
          case atStart => exact ⟨0, Nat.zero_le _, by omega, rfl, rfl, rfl⟩
          case round =>
            obtain ⟨q, hq, hgq, rfl, rfl, rfl⟩ := hrel
            by_cases hqn : q < n
            · have hqz : (q : Int) < (n : Int) := by omega
              obtain ⟨u, hu⟩ : ∃ u, u = outs.getD q false := ⟨_, rfl⟩
              have hcu : wr.cell? ⟨wc.heap.size, q, none⟩ = some (.bool u) := by
                have hl : q < outs.length := by rw [HOL.out]; exact hqn
                rw [blk_cell HO.out q, hu]; simp [hl, List.getD_eq_getElem?_getD]
              have hls := leftN_succ outs q
              rw [← hu] at hls
              have hll := leftN_le outs q
              clear hu
              cases u with
              | true =>
                have HLS := Aside0.mk hls
                clear hls
                go_wp2
                go_roundg (n - (q + 1))
                case measure => omega
                case rel => exact ⟨q + 1, by omega, by omega, by go_num, by rw [HLS.out]; rfl, rfl⟩
              | false =>
                have HLS := Aside0.mk hls
                clear hls
                go_wp2
                go_roundg (n - (q + 1))
                case measure => omega
                case rel => exact ⟨q + 1, by omega, by omega, by go_num, by rw [HLS.out]; simp only [Bool.false_eq_true, if_false]; go_num, rfl⟩
            · have hqz : ¬ (q : Int) < (n : Int) := by omega
              have hqn' : q = n := by omega
              subst hqn'
              have hcnt : ((lotS its (keepF outs) (camF came)).length : Int) = (leftN outs q : Int) := by
                rw [lotS_count]; unfold leftN; rw [HN.out]
              obtain ⟨lf, hlf⟩ : ∃ lf, lf = leftN outs q := ⟨_, rfl⟩
              rw [← hlf] at hcnt
              rw [← hlf]
              have HCT := Aside0.mk hcnt
              clear hcnt hlf
              go_wp2_with fail
              refine (HKN.out _).mono ?_
              rintro e w5 ⟨rfl, hb5⟩
              have hle := pl_len (HP.out.below hb5)
              rw [HCT.out] at hle
              have HLE := Aside0.mk hle
              have HB5 := Aside0.mk (below_then HB.out HB.out.size hb5)
              clear hb5 hle HP HO HC HM HB
              go_wp2_with fail
              refine HLE.out.mono ?_
              rintro e w6 ⟨rfl, rfl⟩
              go_wp2
              go_ret
              exact ⟨rfl, HB5.out⟩
theorem heliastlaw20_ParkOut.calls (k : Nat) (A0 : Option Addr) (c0 : Nat) (l0 : List (List Int)) (A1 : Option Addr) (c1 : Nat) (l1 : List Int) (r : Bool) (w : World) (hr0 : Kd.C (Kd.slice 23 (Kd.int .u8)) w A0 l0.length l0) (hc0 : l0.length ≤ c0) (hr1 : (Kd.int .u8).C w A1 l1.length l1) (hc1 : l1.length ≤ c1)
    (h : (∀ r ∈ l0, ∀ x ∈ r, (Lit.int .u8 x).wf = true) ∧ (∀ x ∈ l1, (Lit.int .u8 x).wf = true)) (hlaw : r = true) :
    Calls Try.prog 3 #[.slice A0 l0.length c0, .slice A1 l1.length c1] w fun e w' => e = .returned (.bool r) ∧ Below w.heap.size w w' := by
  subst hlaw
  exact law20_ParkOut.walk A0 c0 l0 A1 c1 l1 w hr0 hc0 hr1 hc1 (fun r hr x hx => by obtain ⟨m, rfl, hm⟩ := wf_byte (h.1 r hr x hx); omega) (fun x hx => by obtain ⟨m, rfl, hm⟩ := wf_byte (h.2 x hx); omega)

end Go.Proofs.Ytmdjknkhjimgeaa.S

-- Written by heprint.py (this session's, over the kit's print.py): not trusted, Lean checks it.
import Derived.Test.YtmmalieacakcbaaHc0
import Derived.Test.YtmmalieacakcbaaHc1
import Derived.Test.YtmmalieacakcbaaHc2
namespace Go.Proofs.Ytmmalieacakcbaa.S
open Go.RowKit Go.Proofs.YtmmalieacakcbaaW.PrintWords Go.Proofs.YtmmalieacakcbaaW.PrintLast Go.Proofs.YtmmalieacakcbaaW.PrintMore
attribute [local go_sem] max2_int min2_int max_two min_two max_three min_three max_four min_four   -- for this text's walks alone
set_option linter.unusedVariables false
set_option linter.unusedSimpArgs false

/-! ### heliastlaw20_ParkLost: function 5 -/
-- GIVEN heliast/heliastlaw20.ParkLost making uses heliast/heliastlaw20.known uses heliast/heliastref02.Strings uses heliast/heliastlaw20.list uses heliast/heliastlaw20.Name uses heliast/heliastlaw20.ParkBusy uses (*heliast/park.Lot).Lost
open Go.Proofs.He
def nmK (x : Int) : ByteArray := ⟨#[36]⟩ ++ strOfNums [(97 + x.tmod 9) % 256]
theorem name_f (x : Int) : heliastlaw20_Name.f x = some (nmK x) := by
  unfold heliastlaw20_Name.f
  rw [Option.bind_some, if_pos (by rw [strOfNums_size]; exact (by decide : (1 : Nat) + 1 ≤ 9223372036854775807))]; rfl
theorem nmK_data {x : Int} (h : 0 ≤ x) : toBs (nmK x) = [36, UInt8.ofNat (97 + x.toNat % 9)] := by
  unfold nmK strOfNums toBs
  have e : ((97 + x.tmod 9) % 256).toNat = 97 + x.toNat % 9 := by
    have := Int.tmod_eq_emod_of_nonneg (b := 9) h
    omega
  simp [ByteArray.data_append, e]
theorem toBs_inj {a b : ByteArray} (h : toBs a = toBs b) : a = b := by rw [← ofBs_toBs a, h, ofBs_toBs]
theorem nmK_eq {x y : Int} (hx : 0 ≤ x) (hy : 0 ≤ y) : nmK x = nmK y ↔ x.toNat % 9 = y.toNat % 9 := by
  constructor
  · intro h
    have h1 := congrArg toBs h
    rw [nmK_data hx, nmK_data hy] at h1
    have h2 : UInt8.ofNat (97 + x.toNat % 9) = UInt8.ofNat (97 + y.toNat % 9) := by simpa using h1
    have h3 := congrArg UInt8.toNat h2
    simp only [UInt8.toNat_ofNat'] at h3
    omega
  · intro h
    exact toBs_inj (by rw [nmK_data hx, nmK_data hy, h])
theorem nmK_size (x : Int) : (nmK x).size ≤ maxLen := by
  unfold nmK
  rw [ByteArray.size_append, strOfNums_size]
  exact (by decide : (1 : Nat) + 1 ≤ maxLen)
theorem list_l0 (l : List Int) : ∀ (d j : Nat), j + d = 5 → j ≤ l.length → heliastlaw20_list.l0 (d + 1) l ((l.take j).map nmK) j = some ((l.take 5).map nmK)
  | 0, j, h, hj => by
    unfold heliastlaw20_list.l0
    have : j = 5 := by omega
    subst this
    by_cases e : ((5 : Nat) : Int) < (l.length : Int)
    · rw [if_pos e, if_neg (by omega)]
    · rw [if_neg e]
  | d + 1, j, h, hj => by
    unfold heliastlaw20_list.l0
    by_cases e : (j : Int) < (l.length : Int)
    · rw [if_pos e, if_pos (by omega), if_pos (by omega), name_f, Option.bind_some, if_pos (by simp; omega)]
      have e1 : wrap64 ((j : Int) + 1) = ((j + 1 : Nat) : Int) := by unfold wrap64; omega
      have hj' : j < l.length := by omega
      have e2 : (l.take j).map nmK ++ [nmK (rd l (j : Int))] = (l.take (j + 1)).map nmK := by
        rw [List.take_succ_eq_append_getElem hj', List.map_append]
        simp [rd, hj']
      rw [e1, e2]
      exact list_l0 l d (j + 1) (by omega) (by omega)
    · rw [if_neg e, List.take_of_length_le (by omega), List.take_of_length_le (by omega)]
theorem list_f (l : List Int) : heliastlaw20_list.f 6 l = some ((l.take 5).map nmK) := list_l0 l 5 0 (by omega) (by omega)
def evA (a : Nat) : Ev := ⟨⟨#[36]⟩ ++ strOfNums [65 + (a : Int)], ⟨#[]⟩, 0⟩
theorem evA_inj {a b : Nat} (ha : a < 20) (hb : b < 20) (h : (evA a).id = (evA b).id) : a = b := by
  have h1 := congrArg toBs h
  unfold evA strOfNums toBs at h1
  have e : ∀ c : Nat, (65 + (c : Int)).toNat = 65 + c := fun c => by omega
  simp only [ByteArray.data_append, Array.toList_append, List.map_cons, List.map_nil, e] at h1
  have h2 : UInt8.ofNat (65 + a) = UInt8.ofNat (65 + b) := by simpa using h1
  have h3 := congrArg UInt8.toNat h2
  simp only [UInt8.toNat_ofNat'] at h3
  omega
/-- What has been put behind i rows. -/
def rowsS (l : List (List Int)) : Nat → Lo
  | 0 => []
  | i + 1 => if l.getD i [] = [] then rowsS l i else rowsS l i ++ [(evA i, ((l.getD i []).take 5).map nmK)]
theorem rowsS_len (l : List (List Int)) : ∀ i, (rowsS l i).length ≤ i
  | 0 => by simp [rowsS]
  | i + 1 => by
    have := rowsS_len l i
    unfold rowsS; split
    · omega
    · simp; omega
theorem rowsS_ids (l : List (List Int)) : ∀ i, ∀ a ∈ rowsS l i, ∃ j, j < i ∧ a.1 = evA j
  | 0, a, h => by simp [rowsS] at h
  | i + 1, a, h => by
    unfold rowsS at h; split at h
    · obtain ⟨j, h1, h2⟩ := rowsS_ids l i a h; exact ⟨j, by omega, h2⟩
    · rcases List.mem_append.1 h with h | h
      · obtain ⟨j, h1, h2⟩ := rowsS_ids l i a h; exact ⟨j, by omega, h2⟩
      · rw [List.mem_singleton.1 h]; exact ⟨i, by omega, rfl⟩
theorem rowsS_put (l : List (List Int)) {i : Nat} (hi : i < 20) (hne : l.getD i [] ≠ []) : putE (rowsS l i) (evA i) (((l.getD i []).take 5).map nmK) = 0 ∧ putS (rowsS l i) (evA i) (((l.getD i []).take 5).map nmK) = rowsS l (i + 1) := by
  have h1 : hasS (rowsS l i) (evA i).id = false := by
    unfold hasS
    rw [List.any_eq_false]
    intro a ha
    obtain ⟨j, hj, e⟩ := rowsS_ids l i a ha
    simp only [decide_eq_true_eq]
    rw [e]
    intro e'
    have := evA_inj (by omega) hi e'
    omega
  have h0 : putE (rowsS l i) (evA i) (((l.getD i []).take 5).map nmK) = 0 := by
    unfold putE
    have := rowsS_len l i
    have hp := List.length_pos_iff.2 hne
    rw [h1, if_neg (by decide), if_neg (by omega), if_neg (by rw [List.length_map, List.length_take]; omega)]
  refine ⟨h0, ?_⟩
  unfold putS
  rw [h0, if_pos rfl]
  conv => rhs; unfold rowsS
  rw [if_neg hne]
/-- The numbers whose names are missed behind i rows. -/
def flatL (l : List (List Int)) (i : Nat) : List Int := (List.range i).flatMap fun a => (l.getD a []).take 5
theorem flatL_succ (l : List (List Int)) (i : Nat) : flatL l (i + 1) = flatL l i ++ (l.getD i []).take 5 := by
  unfold flatL; rw [List.range_succ, List.flatMap_append]; simp
theorem rowsS_names (l : List (List Int)) : ∀ i, namesS (rowsS l i) = (flatL l i).map nmK
  | 0 => rfl
  | i + 1 => by
    have ih := rowsS_names l i
    rw [flatL_succ, List.map_append, ← ih]
    have hs : rowsS l (i + 1) = if l.getD i [] = [] then rowsS l i else rowsS l i ++ [(evA i, ((l.getD i []).take 5).map nmK)] := rfl
    rw [hs]
    by_cases e : l.getD i [] = []
    · rw [if_pos e, e, List.take_nil, List.map_nil, List.append_nil]
    · rw [if_neg e]; unfold namesS; rw [List.flatMap_append, List.flatMap_singleton]
def missOf (xs : List Int) : List Bool := (List.range 9).map fun b => xs.any fun x => decide (x.toNat % 9 = b)
theorem missOf_len (xs : List Int) : (missOf xs).length = 9 := by simp [missOf]
theorem missOf_snoc (xs : List Int) (x : Int) : missOf (xs ++ [x]) = (missOf xs).set (x.toNat % 9) true := by
  apply List.ext_getElem?
  intro j
  rw [List.getElem?_set, missOf_len]
  unfold missOf
  rw [List.getElem?_map, List.getElem?_map]
  by_cases hj : j < 9
  · rw [List.getElem?_range hj]
    by_cases e : x.toNat % 9 = j
    · rw [if_pos e, if_pos (by omega)]
      simp [List.any_append, e]
    · rw [if_neg e]
      simp [List.any_append, e]
  · rw [List.getElem?_eq_none (by simp; omega)]
    rw [if_neg (by omega)]; rfl
theorem missOf_at (xs : List Int) {b : Nat} (hb : b < 9) : (missOf xs)[b]? = some (xs.any fun x => decide (x.toNat % 9 = b)) := by
  unfold missOf
  rw [List.getElem?_map, List.getElem?_range hb]; rfl
def wantOf (ms : List Bool) (i : Nat) : List ByteArray := ((List.range i).filter fun b => ms.getD b false).map fun b : Nat => nmK (b : Int)
theorem wantOf_succ (ms : List Bool) (i : Nat) : wantOf ms (i + 1) = if ms.getD i false then wantOf ms i ++ [nmK (i : Int)] else wantOf ms i := by
  unfold wantOf
  rw [List.range_succ, List.filter_append, List.map_append]
  by_cases h : ms.getD i false = true
  · rw [if_pos h, List.filter_cons_of_pos (a := i) (p := fun b => ms.getD b false) h]; rfl
  · rw [if_neg h, List.filter_cons_of_neg (a := i) (p := fun b => ms.getD b false) h]; simp
theorem wantOf_len (ms : List Bool) (i : Nat) : (wantOf ms i).length ≤ i := by
  unfold wantOf
  rw [List.length_map]
  exact Nat.le_trans (List.length_filter_le _ _) (by simp)
theorem lost_want (l : List (List Int)) (hl : ∀ r ∈ l, ∀ x ∈ r, 0 ≤ x) (i : Nat) (k : Int) (hk : 0 ≤ k) : riseB (namesS (cameS (rowsS l i) (nmK k))) = wantOf ((missOf (flatL l i)).set (k.toNat % 9) false) 9 := by
  have hpos : ∀ x ∈ flatL l i, 0 ≤ x := by
    intro x hx
    unfold flatL at hx
    obtain ⟨a, _, h⟩ := List.mem_flatMap.1 hx
    have hxr := List.mem_of_mem_take h
    rw [List.getD_eq_getElem?_getD] at hxr
    by_cases ha : a < l.length
    · rw [List.getElem?_eq_getElem ha, Option.getD_some] at hxr
      exact hl _ (List.getElem_mem ha) x hxr
    · rw [List.getElem?_eq_none (by omega)] at hxr; simp at hxr
  refine (riseB_uniq ?_ ?_).symm
  · unfold wantOf
    rw [List.map_map, List.pairwise_map]
    refine List.Pairwise.filter _ ?_
    refine (List.pairwise_lt_range (n := 9)).imp_of_mem ?_
    intro a b ha hb hab
    rw [List.mem_range] at ha hb
    simp only [Function.comp_apply]
    rw [nmK_data (by omega), nmK_data (by omega)]
    rw [List.cons_lt_cons_iff]
    right
    refine ⟨rfl, ?_⟩
    rw [List.cons_lt_cons_iff]
    left
    rw [UInt8.lt_iff_toNat_lt]
    simp only [UInt8.toNat_ofNat']
    omega
  · intro z
    have hn : z ∈ namesS (cameS (rowsS l i) (nmK k)) ↔ z ∈ namesS (rowsS l i) ∧ z ≠ nmK k := by
      unfold namesS cameS
      rw [List.flatMap_map]
      simp only [List.mem_flatMap, List.mem_filter, decide_eq_true_eq]
      constructor
      · rintro ⟨a, h1, h2, h3⟩; exact ⟨⟨a, h1, h2⟩, h3⟩
      · rintro ⟨⟨a, h1, h2⟩, h3⟩; exact ⟨a, h1, h2, h3⟩
    rw [hn, rowsS_names]
    unfold wantOf
    simp only [List.mem_map, List.mem_filter, List.mem_range]
    have hget : ∀ b, b < 9 → ((missOf (flatL l i)).set (k.toNat % 9) false).getD b false = (decide (b ≠ k.toNat % 9) && (flatL l i).any fun x => decide (x.toNat % 9 = b)) := by
      intro b hb
      rw [List.getD_eq_getElem?_getD, List.getElem?_set, missOf_len]
      by_cases e : k.toNat % 9 = b
      · rw [if_pos e, if_pos (by omega)]; simp [e]
      · rw [if_neg e, missOf_at _ hb]
        simp [Ne.symm e, fun h : b = k.toNat % 9 => e h.symm]
    constructor
    · rintro ⟨b, ⟨hb, h1⟩, rfl⟩
      rw [hget b hb, Bool.and_eq_true, decide_eq_true_eq, List.any_eq_true] at h1
      obtain ⟨h1, x, hx, h2⟩ := h1
      have h2' : x.toNat % 9 = b := by simpa using h2
      refine ⟨⟨x, hx, (nmK_eq (hpos x hx) (by omega)).2 (by omega)⟩, fun e => ?_⟩
      have := (nmK_eq (x := (b : Int)) (y := k) (by omega) hk).1 e
      omega
    · rintro ⟨⟨x, hx, rfl⟩, h2⟩
      refine ⟨x.toNat % 9, ⟨by omega, ?_⟩, (nmK_eq (by omega) (hpos x hx)).2 (by omega)⟩
      rw [hget _ (by omega), Bool.and_eq_true, decide_eq_true_eq, List.any_eq_true]
      exact ⟨fun e => h2 ((nmK_eq (hpos x hx) hk).2 e), x, hx, by simp⟩
theorem C_u8 {w : World} {A : Option Addr} {n : Nat} {xs : List Int} (h : (Kd.int .u8).C w A n xs) {k : Nat} (hk : k < xs.length) : ∃ ad, A = some ad ∧ w.cell? (ad.add k) = some (.int .u8 xs[k]) := by
  have hn : xs.length = n := h.1
  obtain ⟨ad, c, e, hcl, hK, hcell⟩ := Kd.C_get h xs[k] (k : Int) (by omega) (by omega)
  refine ⟨ad, e, ?_⟩
  have h1 : c = [Value.int .u8 (xs.getD (k : Int).toNat xs[k])] := hK
  have h2 := hcell 0 (.int .u8 xs[k]) (by rw [h1]; simp [List.getD_eq_getElem?_getD, hk])
  simpa [Kd.int, Kd.scalar] using h2
theorem miss_set (xs : List Int) (x : Int) : ((missOf xs).map Value.bool).toArray.setIfInBounds (x.toNat % 9) (.bool true) = ((missOf (xs ++ [x])).map Value.bool).toArray := by
  apply Array.toList_inj.1
  rw [Array.toList_setIfInBounds, missOf_snoc, List.map_set]
theorem setBools (ms : List Bool) (b : Nat) (u : Bool) : (ms.map Value.bool).toArray.setIfInBounds b (.bool u) = ((ms.set b u).map Value.bool).toArray := by
  apply Array.toList_inj.1
  rw [Array.toList_setIfInBounds, List.map_set]
theorem flatL_len (l : List (List Int)) : ∀ i, (flatL l i).length ≤ 5 * i
  | 0 => by simp [flatL]
  | i + 1 => by
    have := flatL_len l i
    rw [flatL_succ, List.length_append, List.length_take]; omega
theorem came_len (S : Lo) (id : ByteArray) : (namesS (cameS S id)).length ≤ (namesS S).length := by
  induction S with
  | nil => exact Nat.le_refl _
  | cons a S ih =>
    unfold namesS cameS at *
    simp only [List.map_cons, List.flatMap_cons, List.length_append]
    have := List.length_filter_le (fun s => decide (s ≠ id)) a.2
    omega
set_option maxHeartbeats 8000000 in
set_option maxRecDepth 100000 in
theorem law20_ParkLost.walk (A0 : Option Addr) (c0 : Nat) (l : List (List Int)) (k : Nat) (hk1 : k < 256) (w : World) (hr : Kd.C (Kd.slice 35 (Kd.int .u8)) w A0 l.length l) (hc : l.length ≤ c0) (hl : ∀ r ∈ l, ∀ x ∈ r, 0 ≤ x ∧ x < 256) :
    Calls Try.prog 5 #[.slice A0 l.length c0, .int .u8 (k : Int)] w fun e w' => e = .returned (.bool true) ∧ Below w.heap.size w w' := by
  have HKN := Aside0.mk (fun W => law20_known.walk W)
  have HR := Aside0.mk hr
  have HLL := Aside0.mk hl
  have hlen : l.length ≤ 9223372036854775807 := hr.2.1
  have hmc : madeCells #[Value.bool false] 9 = ((missOf []).map Value.bool).toArray := by
    have h : ∀ x : Nat, (#[Value.bool false])[x % (#[Value.bool false]).size]! = Value.bool false := fun x => by
      have h1 : x % (#[Value.bool false]).size = 0 := Nat.mod_one x
      rw [h1]; rfl
    unfold madeCells
    rw [show (fun x : Nat => (#[Value.bool false])[x % (#[Value.bool false]).size]!) = fun _ => Value.bool false from funext h]
    apply Array.toList_inj.1
    rw [Array.toList_map, Array.toList_range]
    rfl
  have hmk : ∀ W : World, (Instr.makeSlice 55 (.int .i64 9) (.int .i64 9)).run Try.prog W = .ok (.slice (some ⟨W.heap.size, 0, none⟩) 9 9) (W.alloc (.cells ((missOf []).map Value.bool).toArray 4)) := fun W => by
    have := run_make_row' (P := Try.prog) 55 4 (.bool false) 1 Try.underlying55 (by kernel_rfl) rfl .i64 .i64 9 (by decide) (by decide) W
    rw [hmc] at this; exact this
  clear hr hl hmc
  go_enter Try.func5, Try.ntmps5
  go_wp2_with fail
  refine (pl_new w).mono ?_
  rintro e w1 ⟨rfl, hb1, hp1⟩
  have HB1 := Aside0.mk hb1
  have HP1 := Aside0.mk hp1
  have hs1 : w.heap.size < w1.heap.size := hp1.lt
  clear hb1 hp1
  have HB2 := Aside0.mk (HB1.out.alloc HB1.out.size (.cells ((missOf []).map Value.bool).toArray 4))
  have HP2 := Aside0.mk (HP1.out.below ((Below.refl w1.heap.size w1).alloc (Nat.le_refl _) (.cells ((missOf []).map Value.bool).toArray 4)))
  have HM2 := Aside0.mk (heap_alloc_new w1 (.cells ((missOf []).map Value.bool).toArray 4))
  have HMW : Aside0 (w.heap.size < w1.heap.size) := ⟨hs1⟩
  go_wp2
  clear hmk
  go_loopg [7, 8, 9] l.length (fun gg v7 _ _ wr => ∃ (i : Nat) (Z : Nat → Prop), i ≤ l.length ∧ i ≤ 20 ∧ l.length - i ≤ gg ∧ v7 = .int .i64 (i : Int) ∧ Aside0 (PL wr w.heap.size Z w.heap.size (rowsS l i)) ∧ Aside0 (¬ Z w1.heap.size) ∧ Aside0 (wr.heap[w1.heap.size]? = some (.cells ((missOf (flatL l i)).map Value.bool).toArray 4 (0, 0))) ∧ Aside0 (Below w.heap.size w wr))
  case atStart => exact ⟨0, _, Nat.zero_le _, Nat.zero_le _, by omega, rfl, HP2, ⟨fun h => by have := HMW.out; omega⟩, HM2, HB2⟩
  case round =>
    clear HB2 HP2 HM2
    obtain ⟨i, Z, hi, hi2, hg, rfl, HP, HZ, HM, HB⟩ := hrel
    by_cases hgo : i < l.length ∧ i < 20
    · obtain ⟨hlt, h20⟩ := hgo
      have hltz : (i : Int) < (l.length : Int) := by omega
      · have h20z : (i : Int) < 20 := by omega
        obtain ⟨ad, Ar, cr, e, hrx, hrl, hrc⟩ := at_rows HR.out (i : Int) (by omega) (by omega)
        cases e
        rw [Int.toNat_natCast] at hrx hrl hrc
        have HRX0 := Aside0.mk hrx
        replace hrx := (HB.out.cell (World.block_lt_of_cell? w _ hrx)).trans hrx
        obtain ⟨row, hrow⟩ : ∃ row, row = l.getD i [] := ⟨_, rfl⟩
        rw [← hrow] at hrx hrl hrc
        have HROW := Aside0.mk hrow
        rw [← hrow] at HRX0
        have HRC := Aside0.mk hrc
        have HLI := Aside0.mk (heliastlaw20_list.calls 6 Ar cr row _ wr (Kd.C_below hrc HB.out) hrl (list_f row))
        clear hrow hrc
        go_wp2_with fail
        refine HLI.out.mono ?_
        rintro e w2 ⟨v2, rfl, hr2, hb2⟩
        have HB2 := Aside0.mk (below_then HB.out HB.out.size hb2)
        have HP2 := Aside0.mk (HP.out.below hb2)
        have HM2 := Aside0.mk ((hb2.block _ (blk_lt HM.out)).trans HM.out)
        by_cases hne : row = []
        · subst hne
          have hs2 : rowsS l (i + 1) = rowsS l i := by
            have : rowsS l (i + 1) = if l.getD i [] = [] then rowsS l i else rowsS l i ++ [(evA i, ((l.getD i []).take 5).map nmK)] := rfl
            rw [this, if_pos HROW.out.symm]
          have hf2 : flatL l (i + 1) = flatL l i := by rw [flatL_succ, ← HROW.out]; simp
          obtain ⟨A2, c2, rfl⟩ := Kd.R_slice hr2
          have HS2 := Aside0.mk hs2
          have HF2 := Aside0.mk hf2
          clear hr2 hb2 hs2 hf2
          go_wp2
          go_roundg (l.length - (i + 1))
          case measure => omega
          case rel => exact ⟨i + 1, Z, by omega, by omega, by omega, by go_num, ⟨by rw [HS2.out]; exact HP2.out⟩, HZ, ⟨by rw [HF2.out]; exact HM2.out⟩, HB2⟩
        · have hpos : 0 < row.length := List.length_pos_iff.2 hne
          obtain ⟨n, hn⟩ : ∃ n, n = min row.length 5 := ⟨_, rfl⟩
          have hn0 : 0 < n := by omega
          have hn5 : n ≤ 5 := by omega
          have hnr : n ≤ row.length := by omega
          have hlenS : (List.map nmK (List.take 5 row)).length = n := by rw [List.length_map, List.length_take]; omega
          obtain ⟨ho2, _⟩ := scalar_own hr2
          obtain ⟨g, c2, cs, rfl, hg2, hgc, hnc⟩ : ∃ g c2 cs, v2 = .slice (some ⟨g, 0, none⟩) n c2 ∧ wr.heap.size ≤ g ∧ w2.heap[g]? = some (.cells cs 9 (0, 0)) ∧ n ≤ cs.size := by
            rw [hlenS] at ho2
            rcases ho2.2 with ⟨_, h0⟩ | ⟨g, cap, cur, rfl, hb, hh, hc, hm, hs, ht⟩
            · omega
            · exact ⟨g, cap, cur, rfl, hb, hh, by omega⟩
          obtain ⟨_, _, hv2, hcc2, hC2⟩ := Kd.R_reads hr2
          rw [hlenS] at hv2 hcc2
          cases hv2
          have hcv := own_string (P := Try.prog) Try.underlying35 Try.underlying5 Try.underlying9 (lit_u8 (w := w2.alloc (Obj.cells #[.int .u8 (65 + (i : Int))] 5)) (heap_alloc_new w2 _) (Nat.zero_le _))
          have hsz : 1 + (strOfNums [65 + (i : Int)]).size ≤ 9223372036854775807 := by rw [strOfNums_size]; exact (by decide : (1 : Nat) + 1 ≤ 9223372036854775807)
          have hsz2 : (9223372036854775807 < 1 + (strOfNums [65 + (i : Int)]).size) = False := eq_false (Nat.not_lt.2 hsz)
          have hwrap : IntKind.u8.wrap (i : Int) = (i : Int) := by
            show (i : Int) % 256 = i
            omega
          have hwrap2 : IntKind.u8.wrap (65 + (i : Int)) = 65 + (i : Int) := by
            show (65 + (i : Int)) % 256 = 65 + i
            omega
          have hba := (Below.refl w2.heap.size w2).alloc (Nat.le_refl _) (Obj.cells #[.int .u8 (65 + (i : Int))] 5)
          have hput := pl_put (HP2.out.below hba) (Nat.le_trans HB2.out.size hba.size) (evA i) (some ⟨g, 0, none⟩) c2 (List.map nmK (List.take 5 row)) (Kd.C_below hC2 hba) (by rw [hlenS]; exact hcc2) (fun s hs => by
            obtain ⟨x, _, rfl⟩ := List.mem_map.1 hs
            exact nmK_size x) (by rw [hlenS]; exact Nat.lt_of_le_of_lt hn5 (by decide))
          have hrp := rowsS_put l h20 (by rw [← HROW.out]; exact hne)
          rw [← HROW.out] at hrp
          rw [hrp.1, hrp.2, hlenS] at hput
          unfold evV at hput
          have HPUT := Aside0.mk hput
          have HBA := Aside0.mk (below_then HB2.out HB2.out.size hba)
          have HPA := Aside0.mk (HP2.out.below hba)
          have HMA := Aside0.mk (blk_alloc HM2.out (Obj.cells #[.int .u8 (65 + (i : Int))] 5))
          have HGA := Aside0.mk (blk_alloc hgc (Obj.cells #[.int .u8 (65 + (i : Int))] 5))
          have hzg : ¬ Z g := fun hz => by have := HP.out.old g hz; omega
          have HZG := Aside0.mk hzg
          have hlenI : ((List.map nmK (List.take 5 row)).length : Int) = (n : Int) := by rw [hlenS]
          have HN := Aside0.mk hn
          have HNC := Aside0.mk hnc
          have HS := Aside0.mk hlenS
          clear hn hput hba hrp ho2 hC2 hb2 hr2 hgc hzg hnc
          go_wp2_with fail
          refine HPUT.out.mono ?_
          rintro e w3 ⟨rfl, hk3, Z3, hp3, hgr3⟩
          have hm3 := (hk3.block _ (blk_lt HMA.out) HZ.out).trans HMA.out
          have hg3 := (hk3.block _ (blk_lt HGA.out) HZG.out).trans HGA.out
          have HZM3 : Aside0 (¬ Z3 w1.heap.size) := ⟨fun hz => HZ.out (hgr3 _ (blk_lt HMA.out) hz)⟩
          have HZG3 : Aside0 (¬ Z3 g) := ⟨fun hz => HZG.out (hgr3 _ (blk_lt HGA.out) hz)⟩
          have HB3 := Aside0.mk (hk3.below HBA.out HBA.out.size (fun k _ hz => HPA.out.base k hz))
          have HP3 := Aside0.mk hp3
          have HM3 := Aside0.mk hm3
          have HG3 := Aside0.mk hg3
          have hmg : w1.heap.size ≠ g := blk_ne hm3 hg3 (by decide)
          have hgw : w.heap.size ≤ g := by have := HB.out.size; omega
          clear hk3 hp3 hgr3 hm3 hg3 HPUT HBA HPA HMA HGA hcv hsz hsz2 hwrap hwrap2 HLI HP2 HM2 HB2 HZG HP HM HB hlenI hrx
          go_wp2
          go_loopg [9] n (fun gg v9 wi => ∃ (j : Nat) (cs' : Array Value), j ≤ n ∧ n - j ≤ gg ∧ v9 = .int .i64 (j : Int) ∧ Aside0 (PL wi w.heap.size Z3 w.heap.size (rowsS l (i + 1))) ∧ Aside0 (wi.heap[w1.heap.size]? = some (.cells ((missOf (flatL l i ++ row.take j)).map Value.bool).toArray 4 (0, 0))) ∧ Aside0 (wi.heap[g]? = some (.cells cs' 9 (0, 0))) ∧ Aside0 (n ≤ cs'.size) ∧ Aside0 (Below w.heap.size w wi))
          case atStart => exact ⟨0, cs, Nat.zero_le _, by omega, rfl, HP3, ⟨by rw [List.take_zero, List.append_nil]; exact HM3.out⟩, HG3, HNC, HB3⟩
          case round =>
            clear HB3 HP3 HM3 HG3 HNC
            obtain ⟨j, cs', hj, hgj, rfl, HP, HM, HG, HNC, HB⟩ := hrel
            by_cases hjn : j < n
            · have hjz : (j : Int) < (n : Int) := by omega
              have hjr : j < row.length := by omega
              have hjrz : (j : Int) < (row.length : Int) := by omega
              obtain ⟨adr, e, hxe⟩ := C_u8 HRC.out hjr
              cases e
              replace hxe := (HB.out.cell (World.block_lt_of_cell? w _ hxe)).trans hxe
              have hrx := (HB.out.cell (World.block_lt_of_cell? w _ HRX0.out)).trans HRX0.out
              have hin : row ∈ l := by
                have := HROW.out
                rw [List.getD_eq_getElem?_getD, List.getElem?_eq_getElem hlt, Option.getD_some] at this
                rw [this]; exact List.getElem_mem hlt
              obtain ⟨hx0, hx1⟩ := HLL.out row hin row[j] (List.getElem_mem hjr)
              obtain ⟨xn, hxn⟩ : ∃ xn : Nat, row[j] = (xn : Int) := ⟨row[j].toNat, by omega⟩
              rw [hxn] at hxe hx1
              have HXN := Aside0.mk hxn
              have h90 : 0 ≤ (xn : Int) % 9 := by omega
              have h99 : (xn : Int) % 9 < 9 := by omega
              have h9t : ((xn : Int) % 9).toNat = xn % 9 := by omega
              have hmlt : xn % 9 < (missOf (flatL l i ++ row.take j)).length := by rw [missOf_len]; omega
              obtain ⟨bb, hbb⟩ : ∃ bb, wr.cell? ⟨w1.heap.size, xn % 9, none⟩ = some (.bool bb) := ⟨(missOf (flatL l i ++ row.take j))[xn % 9], by rw [blk_cell HM.out]; simp [hmlt]⟩
              have hfm := blk_frozen HM.out (xn % 9)
              have hfg := blk_frozen HG.out j
              have hcs : j < cs'.size := Nat.lt_of_lt_of_le hjn HNC.out
              obtain ⟨cv, hcg⟩ : ∃ cv, wr.cell? ⟨g, j, none⟩ = some cv := ⟨cs'[j], by rw [blk_cell HG.out]; simp [hcs]⟩
              have hgm : g ≠ w1.heap.size := fun e => hmg e.symm
              have hwl : w1.heap.size < wr.heap.size := blk_lt HM.out
              clear hin hx0 hxn hmlt hcs
              go_wp2
              go_roundg (n - (j + 1))
              case measure => omega
              case rel =>
                have hk4 : Kept (fun q => q = w1.heap.size ∨ q = g) wr ((wr.setCell ⟨w1.heap.size, xn % 9, none⟩ (.bool true)).setCell ⟨g, j, none⟩ (.string ⟨#[63]⟩)) :=
                  (Kept.setCell wr ⟨w1.heap.size, xn % 9, none⟩ (.bool true) (.inl rfl)).trans (Kept.setCell _ ⟨g, j, none⟩ (.string ⟨#[63]⟩) (.inr rfl)) (fun _ _ h => h)
                have hxt : xn % 9 = (row[j]).toNat % 9 := by rw [HXN.out]; omega
                refine ⟨j + 1, _, by omega, by omega, by go_num, ⟨HP.out.kept hk4 (fun q hz hq => ?_)⟩, ⟨?_⟩, ⟨blk_set (blk_far HG.out hgm _) j _⟩, ⟨by simpa using HNC.out⟩, ⟨hk4.below HB.out HB.out.size (fun q _ hq => ?_)⟩⟩
                · rcases hq with rfl | rfl
                  · exact HZM3.out hz
                  · exact HZG3.out hz
                · refine blk_far ?_ hmg _
                  rw [blk_set HM.out, hxt, miss_set, List.append_assoc, List.take_succ_eq_append_getElem hjr]
                · rcases hq with rfl | rfl
                  · have := HMW.out; omega
                  · exact hgw
            · have hjz : ¬ (j : Int) < (n : Int) := by omega
              have hjn2 : j = n := by omega
              have hf2 : flatL l i ++ row.take j = flatL l (i + 1) := by
                rw [flatL_succ, ← HROW.out, hjn2, HN.out]
                congr 1
                by_cases h5 : row.length ≤ 5
                · rw [Nat.min_eq_left h5, List.take_length, List.take_of_length_le h5]
                · rw [Nat.min_eq_right (by omega)]
              have HM4 := HM.out
              rw [hf2] at HM4
              have HM5 := Aside0.mk HM4
              clear HM4 hf2 hjn2
              go_wp2
              go_roundg (l.length - (i + 1))
              case measure => omega
              case rel => exact ⟨i + 1, Z3, by omega, by omega, by omega, by go_num, HP, HZM3, HM5, HB⟩
    · have hcase : (¬ (i : Int) < (l.length : Int)) ∨ ((i : Int) < (l.length : Int) ∧ ¬ (i : Int) < 20) := by omega
      have HI2 := Aside0.mk hi2
      clear hi hi2 hg hgo
      have HNM := Aside0.mk (fun W => heliastlaw20_Name.calls (k : Int) (nmK (k : Int)) W (name_f (k : Int)))
      rcases hcase with h1 | ⟨h1, h2⟩
      all_goals
        go_wp2_with fail
        refine (HNM.out _).mono ?_
        rintro e w2 ⟨rfl, hb2⟩
        have HB2 := Aside0.mk (below_then HB.out HB.out.size hb2)
        have HM2 := Aside0.mk ((hb2.block _ (blk_lt HM.out)).trans HM.out)
        have HP2 := Aside0.mk (HP.out.below hb2)
        have HCA := Aside0.mk (pl_came (HP.out.below hb2) (nmK (k : Int)) (nmK_size _))
        clear hb2 HP HM HB
        go_wp2_with fail
        refine HCA.out.mono ?_
        rintro e w3 ⟨rfl, hk3, hp3⟩
        have hm3 := (hk3.block _ (blk_lt HM2.out) HZ.out).trans HM2.out
        have HB3 := Aside0.mk (hk3.below HB2.out HB2.out.size (fun q _ hz => HP2.out.base q hz))
        have h90 : 0 ≤ (k : Int) % 9 := by omega
        have h99 : (k : Int) % 9 < 9 := by omega
        have h9t : ((k : Int) % 9).toNat = k % 9 := by omega
        have hmlt : k % 9 < (missOf (flatL l i)).length := by rw [missOf_len]; omega
        obtain ⟨bb, hbb⟩ : ∃ bb, w3.cell? ⟨w1.heap.size, k % 9, none⟩ = some (.bool bb) := ⟨(missOf (flatL l i))[k % 9], by rw [blk_cell hm3]; simp [hmlt]⟩
        have hfm := blk_frozen hm3 (k % 9)
        obtain ⟨W4, hW4⟩ : ∃ W4, W4 = w3.setCell ⟨w1.heap.size, k % 9, none⟩ (.bool false) := ⟨_, rfl⟩
        obtain ⟨ms, hms⟩ : ∃ ms, ms = (missOf (flatL l i)).set (k % 9) false := ⟨_, rfl⟩
        have hml : ms.length = 9 := by rw [hms, List.length_set, missOf_len]
        have hk4 : Kept (fun q => q = w1.heap.size) w3 W4 := by rw [hW4]; exact Kept.setCell w3 ⟨w1.heap.size, k % 9, none⟩ (.bool false) rfl
        have hm4 : W4.heap[w1.heap.size]? = some (.cells (ms.map Value.bool).toArray 4 (0, 0)) := by
          rw [hW4, blk_set hm3, setBools, hms]
        have HM4 := Aside0.mk hm4
        have HP4 := Aside0.mk (hp3.kept hk4 (fun q hz hq => HZ.out (hq ▸ hz)))
        have HB4 := Aside0.mk (hk4.below HB3.out HB3.out.size (fun q _ hq => by have := HMW.out; omega))
        have hlw := lost_want l (fun r hr x hx => (HLL.out r hr x hx).1) i (k : Int) (by omega)
        rw [Int.toNat_natCast, ← hms] at hlw
        have HLW := Aside0.mk hlw
        have HML := Aside0.mk hml
        rw [hW4] at HM4 HP4 HB4
        have hnl : (namesS (cameS (rowsS l i) (nmK (k : Int)))).length < 8796093022207 := by
          have h3 := came_len (rowsS l i) (nmK (k : Int))
          rw [rowsS_names, List.length_map] at h3
          have h4 := flatL_len l i
          have h5 := HI2.out
          omega
        have HNL := Aside0.mk hnl
        clear hk3 hp3 hm3 hmlt hk4 hm4 hlw hms hW4 hml HP2 HM2 HB2 HB3 HCA hnl
        go_wp2
        clear hbb hfm h90 h99 h9t
        go_loopg [10, 11] 9 (fun gg v10 v11 wi => ∃ b : Nat, b ≤ 9 ∧ 9 - b ≤ gg ∧ v11 = .int .u8 (b : Int) ∧ Aside0 (Kd.string.R 9 wi w.heap.size (fun q => ¬ Z q ∧ q ≠ w1.heap.size) v10 (wantOf ms b)) ∧ Aside0 (PL wi w.heap.size Z w.heap.size (cameS (rowsS l i) (nmK (k : Int)))) ∧ Aside0 (wi.heap[w1.heap.size]? = some (.cells (ms.map Value.bool).toArray 4 (0, 0))) ∧ Aside0 (Below w.heap.size w wi))
        case atStart => exact ⟨0, Nat.zero_le _, by omega, rfl, ⟨Kd.R_nil _ _ _ _ _⟩, HP4, HM4, HB4⟩
        case round =>
          clear HP4 HM4 HB4
          obtain ⟨b, hb, hgb, rfl, HW, HP, HM, HB⟩ := hrel
          by_cases hb9 : b < 9
          · have hbz : (b : Int) < 9 := by omega
            have hcb : ∃ u, ms.getD b false = u ∧ wr.cell? ⟨w1.heap.size, b, none⟩ = some (.bool u) := ⟨ms.getD b false, rfl, by
              have hbl : b < ms.length := by rw [HML.out]; exact hb9
              rw [blk_cell HM.out]; simp [hbl, List.getD_eq_getElem?_getD]⟩
            obtain ⟨u, hu, hcu⟩ := hcb
            have HU := Aside0.mk hu
            have hwrap : IntKind.u8.wrap ((b : Int) + 1) = (b : Int) + 1 := by
              show ((b : Int) + 1) % 256 = b + 1
              omega
            have hws := wantOf_succ ms b
            cases u with
            | false =>
              rw [hu, if_neg (by decide)] at hws
              have HWS := Aside0.mk hws
              clear hu hws
              go_wp2
              go_roundg (9 - (b + 1))
              case measure => omega
              case rel => exact ⟨b + 1, by omega, by omega, by go_num, ⟨by rw [HWS.out]; exact HW.out⟩, HP, HM, HB⟩
            | true =>
              rw [hu, if_pos rfl] at hws
              have HWS := Aside0.mk hws
              have HNB := Aside0.mk (fun W => heliastlaw20_Name.calls (b : Int) (nmK (b : Int)) W (name_f (b : Int)))
              have hwl := wantOf_len ms b
              have HWL : Aside0 (((wantOf ms b).length + 1) * 16 ≤ 140737488355328) := ⟨by omega⟩
              clear hu hws hwl
              go_wp2_with fail
              refine (HNB.out _).mono ?_
              rintro e w5 ⟨rfl, hb5⟩
              have HB5 := Aside0.mk (below_then HB.out HB.out.size hb5)
              have HP5 := Aside0.mk (HP.out.below hb5)
              have HM5 := Aside0.mk ((hb5.block _ (blk_lt HM.out)).trans HM.out)
              have HW5 := Aside0.mk (Kd.R_below HW.out hb5)
              clear hb5 HB HP HM HW hcu
              go_wp2_with (at_builtin; refine Kd.R_append Kd.string (w0 := w) (W := w5) w.heap.size rfl _ _ 41 9 (.string ⟨#[]⟩) 16 rfl Try.underlying41 (by kernel_rfl) rfl (by decide) (by omega) u10 (wantOf ms b) (nmK (b : Int)) [.string (nmK (b : Int))] (fun q => ¬ Z q ∧ q ≠ w1.heap.size) (fun _ => False) rfl (by first | rfl | (go_simp; done)) rfl (fun _ hk => hk.elim) (fun q hq => ⟨fun hz => by have := HP5.out.old q hz; omega, fun e => by have := blk_lt HM5.out; omega⟩) HW5.out HB5.out HB5.out.size HWL.out ?_; intro v6 w6 hr6 hb6 hg6 hat6; have HR6 := Aside0.mk hr6; have HB6 := Aside0.mk hb6; have HG6 := Aside0.mk hg6; clear hr6 hb6 hg6 hat6)
              go_roundg (9 - (b + 1))
              case measure => omega
              case rel =>
                have hok := (scalar_own HW5.out).2
                refine ⟨b + 1, by omega, by omega, by go_num, ⟨by rw [HWS.out]; exact HR6.out⟩, ⟨HP5.out.kept (Kept.of_grown (F := fun q => u10.ownBlock = some q) HG6.out (fun q hq => hq)) (fun q hz hq => (hok q hq).1 hz)⟩, ⟨?_⟩, HB6⟩
                exact blk_grown HM5.out HG6.out (fun e => (hok _ e.symm).2 rfl)
          · have hbz : ¬ (b : Int) < 9 := by omega
            have hb9' : b = 9 := by omega
            subst hb9'
            obtain ⟨Aw, cw, rfl, hcw, hCw⟩ := Kd.R_reads HW.out
            have HCW := Aside0.mk hCw
            clear hCw
            go_wp2_with fail
            refine (HKN.out _).mono ?_
            rintro e w5 ⟨rfl, hb5⟩
            have HB5 := Aside0.mk (below_then HB.out HB.out.size hb5)
            have hlo := pl_lost (HP.out.below hb5) HNL.out
            rw [HLW.out] at hlo
            have HLO := Aside0.mk hlo
            have HCW5 := Aside0.mk (Kd.C_below HCW.out hb5)
            clear hb5 hlo HB HP HM HW HCW
            go_wp2_with fail
            refine HLO.out.mono ?_
            rintro e w7 ⟨v7, rfl, hr7, hb7⟩
            obtain ⟨A7, c7, rfl, hc7, hC7⟩ := Kd.R_reads hr7
            have hwl := wantOf_len ms 9
            have HS7 := Aside0.mk (heliastref02_Strings.calls ((wantOf ms 9).length + 1) A7 c7 (wantOf ms 9) Aw cw (wantOf ms 9) true w7 hC7 hc7 (Kd.C_below HCW5.out hb7) hcw (strings_same _ (by omega)))
            have HB7 := Aside0.mk (below_then HB5.out HB5.out.size hb7)
            clear hr7 hb7 hC7 hwl
            go_wp2_with fail
            refine HS7.out.mono ?_
            rintro e w8 ⟨rfl, hd8⟩
            go_wp2
            go_ret
            exact ⟨rfl, below_then HB7.out HB7.out.size hd8.below⟩
theorem heliastlaw20_ParkLost.calls (k : Nat) (A0 : Option Addr) (c0 : Nat) (l0 : List (List Int)) (a1 : Int) (r : Bool) (w : World) (hr0 : Kd.C (Kd.slice 35 (Kd.int .u8)) w A0 l0.length l0) (hc0 : l0.length ≤ c0) (h : (∀ r ∈ l0, ∀ x ∈ r, (Lit.int .u8 x).wf = true) ∧ (Lit.int .u8 a1).wf = true) (hlaw : r = true) :
    Calls Try.prog 5 #[.slice A0 l0.length c0, .int .u8 a1] w fun e w' => e = .returned (.bool r) ∧ Below w.heap.size w w' := by
  subst hlaw
  obtain ⟨n, rfl, hn⟩ := wf_byte h.2
  exact law20_ParkLost.walk A0 c0 l0 n hn w hr0 hc0 (fun r hr x hx => by obtain ⟨m, rfl, hm⟩ := wf_byte (h.1 r hr x hx); omega)

end Go.Proofs.Ytmmalieacakcbaa.S

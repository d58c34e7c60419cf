-- Written by heprint.py (this session's, over the kit's print.py): not trusted, Lean checks it.
import Derived.Test.YtbldllghkfgkeaaHa0
import Derived.Test.YtbldllghkfgkeaaHa1
namespace Go.Proofs.Ytbldllghkfgkeaa.S
open Go.RowKit Go.Proofs.YtbldllghkfgkeaaW.PrintWords Go.Proofs.YtbldllghkfgkeaaW.PrintLast Go.Proofs.YtbldllghkfgkeaaW.PrintMore
attribute [local go_sem] max2_int min2_int max_two min_two max_three min_three max_four min_four   -- for this text's walks alone
set_option linter.unusedVariables false
set_option linter.unusedSimpArgs false

/-! ### heliastlaw20_known: function 22 -/
-- GIVEN heliast/heliastlaw20.known making uses heliast/park.New
open Go.Proofs.He
def sA : ByteArray := ⟨#[36, 97]⟩
def evX : Ev := ⟨⟨#[36, 120]⟩, ⟨#[]⟩, 0⟩
theorem kn20_1 : putE [] evX [sA] = 0 ∧ putS [] evX [sA] = [(evX, [sA])] := ⟨rfl, rfl⟩
theorem kn20_2 : tookS [(evX, [sA])] = false ∧ takeX [(evX, [sA])] = evZ ∧ takeS [(evX, [sA])] = [(evX, [sA])] := ⟨rfl, rfl, rfl⟩
theorem evV_X : evV evX = .agg #[.string ⟨#[36, 120]⟩, .string ⟨#[]⟩, .string ⟨#[]⟩, .bool false, .string ⟨#[]⟩, .string ⟨#[]⟩, .slice none 0 0, .slice none 0 0, .int .i64 0, .int .i64 0, .int .i64 0, .int .i64 0, .string ⟨#[]⟩, .slice none 0 0, .slice none 0 0] := rfl
theorem evV_Z : evV evZ = .agg #[.string ⟨#[]⟩, .string ⟨#[]⟩, .string ⟨#[]⟩, .bool false, .string ⟨#[]⟩, .string ⟨#[]⟩, .slice none 0 0, .slice none 0 0, .int .i64 0, .int .i64 0, .int .i64 0, .int .i64 0, .string ⟨#[]⟩, .slice none 0 0, .slice none 0 0] := rfl
theorem kn20_3 : cameS [(evX, [sA])] sA = [(evX, [])] := by
  simp [cameS]
theorem kn20_4 : tookS [(evX, [])] = true ∧ takeX [(evX, [])] = evX ∧ takeS [(evX, [])] = [] := ⟨rfl, rfl, rfl⟩
theorem kn20_5 : putE [] evX [] = 1 ∧ putS [] evX [] = [] := ⟨rfl, rfl⟩
theorem C_lits {W : World} {g : Nat} {t : TypeId} (l : List ByteArray) (hg : W.heap[g]? = some (.cells (l.map Value.string).toArray t (0, 0))) (hm : l.length ≤ 9223372036854775807) : Kd.string.C W (some ⟨g, 0, none⟩) l.length l :=
  Flat.C_mk (flatScalar _ _) hm (fun j u hj => by
    rw [add_plain, blk_cell hg]
    rw [flatMap_one] at hj
    simpa using hj)
theorem C_noneS (W : World) : Kd.string.C W none ([] : List ByteArray).length [] := ⟨rfl, by simp, fun h => by simp at h⟩
set_option maxHeartbeats 8000000 in
set_option maxRecDepth 100000 in
theorem law20_known.walk (w : World) : Calls Try.prog 22 #[] w fun e w' => e = .returned (.bool true) ∧ Below w.heap.size w w' := by
  have hu46 := Try.underlying34
  go_enter Try.func22, Try.ntmps22
  go_wp2_with fail
  refine (pl_new w).mono ?_
  rintro e w1 ⟨rfl, hb1, hp1⟩
  have hs1 : w.heap.size < w1.heap.size := hp1.lt
  obtain ⟨W1, hW1⟩ : ∃ W1, W1 = (w1.alloc (Obj.cells (evL evX).toArray 34)).alloc (Obj.cells #[.string sA] 9) := ⟨_, rfl⟩
  have hbW : Below w1.heap.size w1 W1 := by rw [hW1]; exact ((Below.refl _ _).alloc (Nat.le_refl _) _).alloc (by simp) _
  have hx1 : W1.heap[w1.heap.size]? = some (Obj.cells (evL evX).toArray 34 (0, 0)) := by rw [hW1]; exact (heap_alloc_old _ _ (by simp)).trans (heap_alloc_new w1 _)
  have hl1 : W1.heap[w1.heap.size + 1]? = some (Obj.cells (([sA].map Value.string).toArray) 9 (0, 0)) := by
    have := heap_alloc_new (w1.alloc (Obj.cells (evL evX).toArray 34)) (Obj.cells #[.string sA] 9)
    rw [World.size_alloc] at this; rw [hW1]; exact this
  have hput := (pl_put (hp1.below hbW) (Nat.le_trans hb1.size hbW.size) evX _ 1 [sA] (C_lits [sA] hl1 (by decide)) (by decide) (by decide) (by decide))
  rw [kn20_1.1, kn20_1.2, hW1] at hput
  have HPUT := Aside0.mk hput
  have HB1 := Aside0.mk (below_then hb1 hb1.size hbW)
  have HX1 := Aside0.mk hx1
  have HW1 := Aside0.mk hW1
  have HP1 := Aside0.mk hp1
  have hsW : w1.heap.size + 2 = W1.heap.size := by rw [hW1]; simp
  have HSW := Aside0.mk hsW
  clear hb1 hp1 hx1 hl1 hbW hW1 hsW hput
  go_wp2_with fail
  refine HPUT.out.mono ?_
  rintro e w2 ⟨rfl, hk2, Z2, hp2, hg2⟩
  rw [← HW1.out] at hk2 hg2
  have hz2 : ∀ k, k < W1.heap.size → k ≠ w.heap.size → ¬ Z2 k := fun k hk hn hz => hn (hg2 k hk hz)
  have hbx : ¬ Z2 w1.heap.size := hz2 _ (by have := HSW.out; omega) (by omega)
  have HBX := Aside0.mk hbx
  have HX2 := Aside0.mk ((hk2.block w1.heap.size (by have := HSW.out; omega) (by omega)).trans HX1.out)
  have HB2 := Aside0.mk (hk2.below HB1.out (Nat.le_trans HB1.out.size (Nat.le_refl _)) (fun k hk hz => by omega))
  have HP2 := Aside0.mk hp2
  have hta := pl_take hp2
  rw [kn20_2.1, kn20_2.2.1, kn20_2.2.2, evV_Z] at hta
  have HT2 := Aside0.mk hta
  clear hk2 hp2 hg2 hz2 hbx hta HPUT HW1 HX1 HB1 HP1 HSW
  go_wp2_with fail
  refine HT2.out.mono ?_
  rintro e w3 ⟨rfl, hk3, hp3⟩
  have hx3 := (hk3.block w1.heap.size (blk_lt HX2.out) HBX.out).trans HX2.out
  have hb3 := hk3.below HB2.out HB2.out.size (fun k hk hz => HP2.out.base k hz)
  have hba := (Below.refl w3.heap.size w3).alloc (Nat.le_refl _) (Obj.cells (evL evZ).toArray 34)
  have HC3 := Aside0.mk (pl_came (hp3.below hba) sA (by decide))
  have HX3 := Aside0.mk (blk_alloc hx3 (Obj.cells (evL evZ).toArray 34))
  have HB3 := Aside0.mk (below_then hb3 hb3.size hba)
  have HP3 := Aside0.mk (hp3.below hba)
  clear hk3 hp3 hx3 hb3 hba HX2 HB2 HP2 HT2
  go_wp2_with fail
  refine HC3.out.mono ?_
  rintro e w4 ⟨rfl, hk4, hp4⟩
  have hx4 := (hk4.block w1.heap.size (blk_lt HX3.out) HBX.out).trans HX3.out
  have hb4 := hk4.below HB3.out HB3.out.size (fun k hk hz => HP3.out.base k hz)
  rw [kn20_3] at hp4
  have hta := pl_take hp4
  rw [kn20_4.1, kn20_4.2.1, kn20_4.2.2, evV_X] at hta
  have HT4 := Aside0.mk hta
  have HX4 := Aside0.mk hx4
  have HB4 := Aside0.mk hb4
  have HP4 := Aside0.mk hp4
  clear hk4 hp4 hx4 hb4 HX3 HB3 HP3 HC3 hta
  go_wp2_with fail
  refine HT4.out.mono ?_
  rintro e w5 ⟨rfl, hk5, hp5⟩
  have hx5 := (hk5.block w1.heap.size (blk_lt HX4.out) HBX.out).trans HX4.out
  have hb5 := hk5.below HB4.out HB4.out.size (fun k hk hz => HP4.out.base k hz)
  have hba := (Below.refl w5.heap.size w5).alloc (Nat.le_refl _) (Obj.cells (evL evX).toArray 34)
  have hput := pl_put (hp5.below hba) (Nat.le_trans hb5.size hba.size) evX none 0 [] (C_noneS _) (by decide) (by simp) (by decide)
  rw [kn20_5.1, kn20_5.2] at hput
  have HPUT := Aside0.mk hput
  have HB5 := Aside0.mk (below_then hb5 hb5.size hba)
  have hl5 := blk_lt hx5
  obtain ⟨g0, g1, g2, g3, g4, g5, g6, g7, g8, g9, g10, g11, g12, g13, g14⟩ := evL_cells (l := []) hx5
  have HP5 := Aside0.mk (hp5.below hba)
  clear hk5 hp5 hx5 hb5 hba HX4 HB4 HP4 HT4 hput
  go_wp2_with fail
  refine HPUT.out.mono ?_
  rintro e w6 ⟨rfl, hk6, Z6, hp6, hg6⟩
  have hb6 := hk6.below HB5.out HB5.out.size (fun k hk hz => HP5.out.base k hz)
  have HB6 := Aside0.mk hb6
  have HL6 := Aside0.mk (pl_len hp6)
  clear hk6 hp6 hg6 hb6 g0 g1 g2 g3 g4 g5 g6 g7 g8 g9 g10 g11 g12 g13 g14
  go_wp2_with fail
  refine HL6.out.mono ?_
  rintro e w7 ⟨rfl, rfl⟩
  go_wp2
  go_ret
  exact ⟨rfl, HB6.out⟩
def heliastlaw20_known.f : Option Bool := some true
theorem heliastlaw20_known.calls (r : Bool) (w : World) (h : heliastlaw20_known.f = some r) :
    Calls Try.prog 22 #[] w fun e w' => e = .returned (.bool r) ∧ Below w.heap.size w w' := by
  obtain rfl := Option.some.inj h
  exact law20_known.walk w

/-! ### heliastlaw20_ParkTwice: function 4 -/
-- GIVEN heliast/heliastlaw20.ParkTwice making uses heliast/heliastlaw20.known
open Go.Proofs.He
def evT (id : ByteArray) (t : Int) : Ev := ⟨id, ⟨#[]⟩, t⟩
theorem tw_1 (id : ByteArray) : putE [] (evT id 1) [] = 1 ∧ putS [] (evT id 1) [] = [] := ⟨rfl, rfl⟩
theorem tw_2 (id : ByteArray) : putE [] (evT id 1) [sA] = 0 ∧ putS [] (evT id 1) [sA] = [(evT id 1, [sA])] := ⟨rfl, rfl⟩
theorem tw_3 (id : ByteArray) (t : Int) (l : List ByteArray) : hasS [(evT id t, l)] id = true := by simp [hasS, evT]
theorem tw_4 (id : ByteArray) (more : List ByteArray) : putE [(evT id 1, [sA])] (evT id 2) more = 30 ∧ putS [(evT id 1, [sA])] (evT id 2) more = [(evT id 1, [sA])] := by
  have h : putE [(evT id 1, [sA])] (evT id 2) more = 30 := by
    unfold putE
    rw [show (evT id 2).id = id from rfl, tw_3]; rfl
  exact ⟨h, by unfold putS; rw [h, if_neg (by decide)]⟩
theorem tw_5 (id : ByteArray) : cameS [(evT id 1, [sA])] sA = [(evT id 1, [])] := by simp [cameS]
theorem tw_6 (id : ByteArray) : tookS [(evT id 1, [])] = true ∧ takeX [(evT id 1, [])] = evT id 1 ∧ takeS [(evT id 1, [])] = [] := ⟨rfl, rfl, rfl⟩
theorem tw_V (id : ByteArray) (t : Int) : evV (evT id t) = .agg #[.string id, .string ⟨#[]⟩, .string ⟨#[]⟩, .bool false, .string ⟨#[]⟩, .string ⟨#[]⟩, .slice none 0 0, .slice none 0 0, .int .i64 0, .int .i64 t, .int .i64 0, .int .i64 0, .string ⟨#[]⟩, .slice none 0 0, .slice none 0 0] := rfl
set_option maxHeartbeats 8000000 in
set_option maxRecDepth 100000 in
theorem law20_ParkTwice.walk (A : Option Addr) (c : Nat) (more : List ByteArray) (id : ByteArray) (w : World) (hr : Kd.string.C w A more.length more) (hc : more.length ≤ c) (hsz : ∀ s ∈ more, s.size ≤ maxLen) :
    Calls Try.prog 4 #[.slice A more.length c, .string id] w fun e w' => e = .returned (.bool true) ∧ Below w.heap.size w w' := by
  have hu46 := Try.underlying34
  have HKN := Aside0.mk (fun W => law20_known.walk W)
  have HR := Aside0.mk hr
  have HSZ := Aside0.mk hsz
  clear hr hsz
  by_cases hbig : (id.size : Int) > 50
  · go_enter Try.func4, Try.ntmps4
    go_wp2_with (go_at_call 22; refine (HKN.out _).mono ?_; rintro e w1 ⟨rfl, hb1⟩)
    go_ret
    exact ⟨rfl, hb1⟩
  · by_cases hbig2 : (more.length : Int) > 20
    · go_enter Try.func4, Try.ntmps4
      go_wp2_with (go_at_call 22; refine (HKN.out _).mono ?_; rintro e w1 ⟨rfl, hb1⟩)
      go_ret
      exact ⟨rfl, hb1⟩
    · have hml : more.length < maxLen := Nat.lt_of_le_of_lt (by omega : more.length ≤ 20) (by decide)
      go_enter Try.func4, Try.ntmps4
      go_wp2_with fail
      refine (pl_new w).mono ?_
      rintro e w1 ⟨rfl, hb1, hp1⟩
      have hs1 : w.heap.size < w1.heap.size := hp1.lt
      have hba := (Below.refl w1.heap.size w1).alloc (Nat.le_refl _) (Obj.cells (evL (evT id 1)).toArray 34)
      have hput := pl_put (hp1.below hba) (Nat.le_trans hb1.size hba.size) (evT id 1) none 0 [] (C_noneS _) (by decide) (by simp) (by decide)
      rw [(tw_1 id).1, (tw_1 id).2, tw_V] at hput
      have HPUT := Aside0.mk hput
      have HB1 := Aside0.mk (below_then hb1 hb1.size hba)
      have HX1 := Aside0.mk (heap_alloc_new w1 (Obj.cells (evL (evT id 1)).toArray 34))
      have HP1 := Aside0.mk (hp1.below hba)
      have HZ1 : Aside0 (w1.heap.size ≠ w.heap.size) := ⟨by omega⟩
      clear hb1 hp1 hba hput
      go_wp2_with fail
      refine HPUT.out.mono ?_
      rintro e w2 ⟨rfl, hk2, Z2, hp2, hg2⟩
      have hx2 := (hk2.block w1.heap.size (by simp) HZ1.out).trans HX1.out
      have hz2 : ¬ Z2 w1.heap.size := fun hz => HZ1.out (hg2 _ (by simp) hz)
      have HB2 := Aside0.mk (hk2.below HB1.out HB1.out.size (fun k _ hz => HP1.out.base k hz))
      have hba := (Below.refl w2.heap.size w2).alloc (Nat.le_refl _) (Obj.cells #[.string sA] 9)
      have hput := pl_put (hp2.below hba) (Nat.le_trans HB2.out.size hba.size) (evT id 1) _ 1 [sA] (C_lits [sA] (heap_alloc_new w2 _) (by decide)) (by decide) (by decide) (by decide)
      rw [(tw_2 id).1, (tw_2 id).2, tw_V] at hput
      have HPUT2 := Aside0.mk hput
      have HBA := Aside0.mk (below_then HB2.out HB2.out.size hba)
      have HP2 := Aside0.mk (hp2.below hba)
      have HZ2 := Aside0.mk hz2
      have hbl2 := blk_lt hx2
      have hxa := blk_alloc hx2 (Obj.cells #[.string sA] 9)
      have HX2 := Aside0.mk hxa
      obtain ⟨g0, g1, g2, g3, g4, g5, g6, g7, g8, g9, g10, g11, g12, g13, g14⟩ := evL_cells (l := []) hx2
      clear hk2 hp2 hg2 hx2 hz2 hba hput hxa HB1 HX1 HP1 HZ1 HPUT
      go_wp2_with fail
      refine HPUT2.out.mono ?_
      rintro e w3 ⟨rfl, hk3, Z3, hp3, hg3⟩
      clear g0 g1 g2 g3 g4 g5 g6 g7 g8 g9 g10 g11 g12 g13 g14
      have hx3 := (hk3.block w1.heap.size (blk_lt HX2.out) HZ2.out).trans HX2.out
      have HB3 := Aside0.mk (hk3.below HBA.out HBA.out.size (fun k _ hz => HP2.out.base k hz))
      have hba := (Below.refl w3.heap.size w3).alloc (Nat.le_refl _) (Obj.cells (evL (evT id 2)).toArray 34)
      have hput := pl_put (hp3.below hba) (Nat.le_trans HB3.out.size hba.size) (evT id 2) A c more (Kd.C_below HR.out (below_then HB3.out HB3.out.size hba)) hc HSZ.out hml
      rw [(tw_4 id more).1, (tw_4 id more).2, tw_V] at hput
      have HPUT3 := Aside0.mk hput
      have HBA3 := Aside0.mk (below_then HB3.out HB3.out.size hba)
      have HP3 := Aside0.mk (hp3.below hba)
      have hbl3 := blk_lt hx3
      obtain ⟨g0, g1, g2, g3, g4, g5, g6, g7, g8, g9, g10, g11, g12, g13, g14⟩ := evL_cells (l := []) hx3
      clear hk3 hp3 hg3 hx3 hba hput HX2 HZ2 HPUT2
      go_wp2_with fail
      refine HPUT3.out.mono ?_
      rintro e w4 ⟨rfl, hk4, Z4, hp4, hg4⟩
      clear g0 g1 g2 g3 g4 g5 g6 g7 g8 g9 g10 g11 g12 g13 g14
      have HB4 := Aside0.mk (hk4.below HBA3.out HBA3.out.size (fun k _ hz => HP3.out.base k hz))
      have hha := pl_has hp4 id
      rw [tw_3] at hha
      have HHA := Aside0.mk hha
      have HP4 := Aside0.mk hp4
      clear hk4 hp4 hg4 hha HPUT3 HBA3 HP3 HB3 HBA HP2 HB2
      go_wp2_with fail
      refine HHA.out.mono ?_
      rintro e w5 ⟨rfl, hb5⟩
      have HB5 := Aside0.mk (below_then HB4.out HB4.out.size hb5)
      have hp5 := HP4.out.below hb5
      have hca := pl_came hp5 sA (by decide)
      rw [tw_5] at hca
      have HCA := Aside0.mk hca
      have HP5 := Aside0.mk hp5
      clear hb5 hp5 hca HB4 HP4 HHA
      go_wp2_with fail
      refine HCA.out.mono ?_
      rintro e w6 ⟨rfl, hk6, hp6⟩
      have HB6 := Aside0.mk (hk6.below HB5.out HB5.out.size (fun k _ hz => HP5.out.base k hz))
      have hta := pl_take hp6
      rw [(tw_6 id).1, (tw_6 id).2.1, (tw_6 id).2.2, tw_V] at hta
      have HTA := Aside0.mk hta
      have HP6 := Aside0.mk hp6
      clear hk6 hp6 hta HB5 HP5 HCA
      go_wp2_with fail
      refine HTA.out.mono ?_
      rintro e w7 ⟨rfl, hk7, hp7⟩
      have HB7 := Aside0.mk (hk7.below HB6.out HB6.out.size (fun k _ hz => HP6.out.base k hz))
      have hba := (Below.refl w7.heap.size w7).alloc (Nat.le_refl _) (Obj.cells (evL (evT id 1)).toArray 34)
      have HBA7 := Aside0.mk (below_then HB7.out HB7.out.size hba)
      have HP7 := Aside0.mk (hp7.below hba)
      have HX7 := Aside0.mk (heap_alloc_new w7 (Obj.cells (evL (evT id 1)).toArray 34))
      clear hk7 hp7 hba HB7 HB6 HP6 HTA
      go_wp2_with fail
      refine (HKN.out _).mono ?_
      rintro e w8 ⟨rfl, hb8⟩
      have HB8 := Aside0.mk (below_then HBA7.out HBA7.out.size hb8)
      have hp8 := HP7.out.below hb8
      have hx8 := (hb8.block w7.heap.size (by simp)).trans HX7.out
      have g9 : w8.cell? ⟨w7.heap.size, 9, none⟩ = some (.int .i64 1) := (blk_cell hx8 9).trans rfl
      have hh8 := pl_has hp8 id
      rw [show hasS [] id = false from rfl] at hh8
      have HH8 := Aside0.mk hh8
      have HP8 := Aside0.mk hp8
      clear hb8 hp8 hx8 hh8 HBA7 HP7 HX7
      go_wp2_with fail
      refine HH8.out.mono ?_
      rintro e w9 ⟨rfl, hb9⟩
      have HB9 := Aside0.mk (below_then HB8.out HB8.out.size hb9)
      have HL9 := Aside0.mk (pl_len (HP8.out.below hb9))
      clear hb9 g9 HB8 HP8 HH8
      go_wp2_with fail
      refine HL9.out.mono ?_
      rintro e w10 ⟨rfl, rfl⟩
      go_wp2
      go_ret
      exact ⟨rfl, HB9.out⟩
theorem heliastlaw20_ParkTwice.calls (k : Nat) (A0 : Option Addr) (c0 : Nat) (l0 : List ByteArray) (a1 : ByteArray) (r : Bool) (w : World) (hr0 : Kd.string.C w A0 l0.length l0) (hc0 : l0.length ≤ c0) (h : ∀ s ∈ l0, s.size ≤ 140737488351232) (hlaw : r = true) :
    Calls Try.prog 4 #[.slice A0 l0.length c0, .string a1] w fun e w' => e = .returned (.bool r) ∧ Below w.heap.size w w' := by
  subst hlaw
  exact law20_ParkTwice.walk A0 c0 l0 a1 w hr0 hc0 (fun s hs => Nat.le_trans (h s hs) (by decide))

end Go.Proofs.Ytbldllghkfgkeaa.S

-- Written by heprint.py (this session's, over the kit's print.py): not trusted, Lean checks it.
import Derived.Test.YtmmalieacakcbaaHa0
import Derived.Test.YtmmalieacakcbaaHa1
namespace Go.Proofs.Ytmmalieacakcbaa.S
open Go.RowKit Go.Proofs.YtmmalieacakcbaaW.PrintWords Go.Proofs.YtmmalieacakcbaaW.PrintLast Go.Proofs.YtmmalieacakcbaaW.PrintMore
attribute [local go_sem] max2_int min2_int max_two min_two max_three min_three max_four min_four   -- for this text's walks alone
set_option linter.unusedVariables false
set_option linter.unusedSimpArgs false

/-! ### park_New: function 15 -/
-- GIVEN heliast/park.New making uses (*heliast/park.Lot).Put uses (*heliast/park.Lot).Came uses (*heliast/park.Lot).Take uses (*heliast/park.Lot).Lost
open Go.Proofs.He
set_option maxHeartbeats 4000000 in
set_option maxRecDepth 100000 in
theorem park_Put_nil (x : Ev) (A0 : Option Addr) (c0 : Nat) (n : Nat) (w : World) :
    Calls Try.prog 20 #[.pointer none, evV x, .slice A0 n c0] w fun e w' => e = .returned (.int .u16 32) ∧ Below w.heap.size w w' := by
  have hu46 := Try.underlying46
  have hb0 := (Below.refl w.heap.size w).alloc (Nat.le_refl _) (Obj.cells (evL x).toArray 46)
  have HB0 := Aside0.mk hb0
  have HH := Aside0.mk (park_Has_nil x.id (w.alloc (Obj.cells (evL x).toArray 46)))
  clear hb0
  unfold evV
  go_enter Try.func20, Try.ntmps20
  go_wp2_with (go_at_call 28; refine HH.out.mono ?_; rintro e w1 ⟨rfl, hb1⟩)
  go_ret
  exact ⟨rfl, below_then HB0.out HB0.out.size hb1⟩
set_option maxHeartbeats 4000000 in
set_option maxRecDepth 100000 in
theorem park_Take_nil (w : World) : Calls Try.prog 22 #[.pointer none] w fun e w' => e = .returned (.tuple #[evV evZ, .bool false]) ∧ Below w.heap.size w w' := by
  have hu46 := Try.underlying46
  go_enter Try.func22, Try.ntmps22
  go_wp2_with (go_at_call 64; refine (park_place_nil _ _).mono ?_; rintro e w1 ⟨rfl, rfl⟩)
  refine bodyPost_ret (results_ct rfl _ _ w.heap.size _ (evL evZ).toArray (0, 0) _ rfl (heap_alloc_new w _) Try.underlying46 rfl rfl) rfl ?_
  exact ⟨rfl, (Below.refl w.heap.size w).alloc (Nat.le_refl _) _⟩
/-- A lot of the call's own. -/
structure PL (w : World) (B : Nat) (Z : Nat → Prop) (p : Nat) (S : Lo) : Prop where
  lot : PLotIs w Z p S
  old : ∀ k, Z k → k < w.heap.size
  base : ∀ k, Z k → B ≤ k
section
variable {w w1 : World} {B p : Nat} {Z Z' : Nat → Prop} {S : Lo}
theorem PL.below (h : PL w B Z p S) (hb : Below w.heap.size w w1) : PL w1 B Z p S := ⟨LotIs.below h.lot hb, fun k hk => Nat.lt_of_lt_of_le (h.old k hk) hb.size, h.base⟩
theorem PL.kept {F : Nat → Prop} (h : PL w B Z p S) (hk : Kept F w w1) (hF : ∀ k, Z k → ¬ F k) : PL w1 B Z p S := ⟨LotIs.kept h.lot hk (fun k _ hz => hF k hz), fun k hk' => Nat.lt_of_lt_of_le (h.old k hk') hk.size, h.base⟩
theorem PL.lt (h : PL w B Z p S) : p < w.heap.size := LotIs.lt h.lot
theorem PL.nil {w0 : World} (h : PLotIs w1 (fun k => k = w.heap.size) w.heap.size S) (hs : w.heap.size < w1.heap.size) (hB : B ≤ w.heap.size) : PL w1 B (fun k => k = w.heap.size) w.heap.size S := ⟨h, fun k hk => by omega, fun k hk => by omega⟩
theorem PLotIs.narrow (h : PLotIs w Z p S) : PLotIs w (fun k => Z k ∧ k < w.heap.size) p S := by
  obtain ⟨v, L, hL, hS⟩ := h
  exact ⟨v, L, ⟨hL.obj, ⟨hL.zp, LotAt.lt hL⟩, hL.row, fun g hg => ⟨hL.zrow g hg, own_lt hL.row g hg⟩, fun i hi => ⟨(hL.one i hi).1, (hL.one i hi).2, (Array.getElem?_eq_some_iff.1 (hL.one i hi).1).1⟩, fun i hi => ⟨(hL.map i hi).1, (hL.map i hi).2, (hL.map i hi).1.lt⟩, hL.nd⟩, hS⟩
theorem pl_new (w : World) : Calls Try.prog 15 #[] w fun e w' => e = .returned (.pointer (some ⟨w.heap.size, 0, none⟩)) ∧ Below w.heap.size w w' ∧ PL w' w.heap.size (fun k => k = w.heap.size) w.heap.size [] :=
  (park_New w).mono fun e w' ⟨h1, h2, h3, h4⟩ => ⟨h1, h2, h4, fun k hk => by omega, fun k hk => by omega⟩
theorem pl_put (h : PL w B Z p S) (hB : B ≤ w.heap.size) (x : Ev) (A0 : Option Addr) (c0 : Nat) (lost : List ByteArray) (hr : Kd.string.C w A0 lost.length lost) (hc : lost.length ≤ c0) (hsz : ∀ s ∈ lost, s.size ≤ maxLen) (hlen : lost.length < maxLen) :
    Calls Try.prog 20 #[.pointer (some ⟨p, 0, none⟩), evV x, .slice A0 lost.length c0] w fun e w' => e = .returned (.int .u16 (putE S x lost)) ∧ Kept Z w w' ∧ ∃ Z', PL w' B Z' p (putS S x lost) ∧ Grew w Z Z' :=
  (park_Put x A0 c0 lost w h.lot hr hc hsz hlen).mono fun e w' ⟨h1, h2, Z', h3, h4⟩ => ⟨h1, h2, fun k => Z' k ∧ k < w'.heap.size, ⟨PLotIs.narrow h3, fun k hk => hk.2, fun k hk => by
    by_cases hlt : k < w.heap.size
    · exact h.base k (h4 k hlt hk.1)
    · omega⟩, fun k hk hz => h4 k hk hz.1⟩
theorem pl_came (h : PL w B Z p S) (id : ByteArray) (hid : id.size ≤ maxLen) :
    Calls Try.prog 21 #[.pointer (some ⟨p, 0, none⟩), .string id] w fun e w' => e = .returned (.tuple #[]) ∧ Kept Z w w' ∧ PL w' B Z p (cameS S id) :=
  (park_Came id hid w h.lot).mono fun e w' ⟨h1, h2, h3⟩ => ⟨h1, h3, h2, fun k hk => Nat.lt_of_lt_of_le (h.old k hk) h3.size, h.base⟩
theorem pl_take (h : PL w B Z p S) :
    Calls Try.prog 22 #[.pointer (some ⟨p, 0, none⟩)] w fun e w' => e = .returned (.tuple #[evV (takeX S), .bool (tookS S)]) ∧ Kept Z w w' ∧ PL w' B Z p (takeS S) :=
  (park_Take w h.lot h.old).mono fun e w' ⟨h1, h2, h3⟩ => ⟨h1, h3, h2, fun k hk => Nat.lt_of_lt_of_le (h.old k hk) h3.size, h.base⟩
theorem pl_has (h : PL w B Z p S) (id : ByteArray) :
    Calls Try.prog 28 #[.pointer (some ⟨p, 0, none⟩), .string id] w fun e w' => e = .returned (.bool (hasS S id)) ∧ Below w.heap.size w w' := park_Has id w h.lot
theorem pl_len (h : PL w B Z p S) :
    Calls Try.prog 23 #[.pointer (some ⟨p, 0, none⟩)] w fun e w' => e = .returned (.int .i64 (S.length : Int)) ∧ w' = w := park_Len w h.lot
theorem pl_lost (h : PL w B Z p S) (hN : (namesS S).length < 8796093022207) :
    Calls Try.prog 25 #[.pointer (some ⟨p, 0, none⟩)] w fun e w' => ∃ v, e = .returned v ∧ Kd.string.R 9 w' w.heap.size (fun _ => True) v (riseB (namesS S)) ∧ Below w.heap.size w w' := park_Lost w h.lot hN
end

/-! ### heliastlaw20_known: function 17 -/
-- GIVEN heliast/heliastlaw20.known making uses heliast/park.New
open Go.Proofs.He
def sA : ByteArray := ⟨#[36, 97]⟩
def evX : Ev := ⟨⟨#[36, 120]⟩, ⟨#[]⟩, 0⟩
theorem kn20_1 : putE [] evX [sA] = 0 ∧ putS [] evX [sA] = [(evX, [sA])] := ⟨rfl, rfl⟩
theorem kn20_2 : tookS [(evX, [sA])] = false ∧ takeX [(evX, [sA])] = evZ ∧ takeS [(evX, [sA])] = [(evX, [sA])] := ⟨rfl, rfl, rfl⟩
theorem evV_X : evV evX = .agg #[.string ⟨#[36, 120]⟩, .string ⟨#[]⟩, .string ⟨#[]⟩, .bool false, .string ⟨#[]⟩, .string ⟨#[]⟩, .slice none 0 0, .slice none 0 0, .int .i64 0, .int .i64 0, .int .i64 0, .int .i64 0, .string ⟨#[]⟩, .slice none 0 0, .slice none 0 0] := rfl
theorem evV_Z : evV evZ = .agg #[.string ⟨#[]⟩, .string ⟨#[]⟩, .string ⟨#[]⟩, .bool false, .string ⟨#[]⟩, .string ⟨#[]⟩, .slice none 0 0, .slice none 0 0, .int .i64 0, .int .i64 0, .int .i64 0, .int .i64 0, .string ⟨#[]⟩, .slice none 0 0, .slice none 0 0] := rfl
theorem kn20_3 : cameS [(evX, [sA])] sA = [(evX, [])] := by
  simp [cameS]
theorem kn20_4 : tookS [(evX, [])] = true ∧ takeX [(evX, [])] = evX ∧ takeS [(evX, [])] = [] := ⟨rfl, rfl, rfl⟩
theorem kn20_5 : putE [] evX [] = 1 ∧ putS [] evX [] = [] := ⟨rfl, rfl⟩
theorem C_lits {W : World} {g : Nat} {t : TypeId} (l : List ByteArray) (hg : W.heap[g]? = some (.cells (l.map Value.string).toArray t (0, 0))) (hm : l.length ≤ 9223372036854775807) : Kd.string.C W (some ⟨g, 0, none⟩) l.length l :=
  Flat.C_mk (flatScalar _ _) hm (fun j u hj => by
    rw [add_plain, blk_cell hg]
    rw [flatMap_one] at hj
    simpa using hj)
theorem C_noneS (W : World) : Kd.string.C W none ([] : List ByteArray).length [] := ⟨rfl, by simp, fun h => by simp at h⟩
set_option maxHeartbeats 8000000 in
set_option maxRecDepth 100000 in
theorem law20_known.walk (w : World) : Calls Try.prog 17 #[] w fun e w' => e = .returned (.bool true) ∧ Below w.heap.size w w' := by
  have hu46 := Try.underlying46
  go_enter Try.func17, Try.ntmps17
  go_wp2_with fail
  refine (pl_new w).mono ?_
  rintro e w1 ⟨rfl, hb1, hp1⟩
  have hs1 : w.heap.size < w1.heap.size := hp1.lt
  obtain ⟨W1, hW1⟩ : ∃ W1, W1 = (w1.alloc (Obj.cells (evL evX).toArray 46)).alloc (Obj.cells #[.string sA] 9) := ⟨_, rfl⟩
  have hbW : Below w1.heap.size w1 W1 := by rw [hW1]; exact ((Below.refl _ _).alloc (Nat.le_refl _) _).alloc (by simp) _
  have hx1 : W1.heap[w1.heap.size]? = some (Obj.cells (evL evX).toArray 46 (0, 0)) := by rw [hW1]; exact (heap_alloc_old _ _ (by simp)).trans (heap_alloc_new w1 _)
  have hl1 : W1.heap[w1.heap.size + 1]? = some (Obj.cells (([sA].map Value.string).toArray) 9 (0, 0)) := by
    have := heap_alloc_new (w1.alloc (Obj.cells (evL evX).toArray 46)) (Obj.cells #[.string sA] 9)
    rw [World.size_alloc] at this; rw [hW1]; exact this
  have hput := (pl_put (hp1.below hbW) (Nat.le_trans hb1.size hbW.size) evX _ 1 [sA] (C_lits [sA] hl1 (by decide)) (by decide) (by decide) (by decide))
  rw [kn20_1.1, kn20_1.2, hW1] at hput
  have HPUT := Aside0.mk hput
  have HB1 := Aside0.mk (below_then hb1 hb1.size hbW)
  have HX1 := Aside0.mk hx1
  have HW1 := Aside0.mk hW1
  have HP1 := Aside0.mk hp1
  have hsW : w1.heap.size + 2 = W1.heap.size := by rw [hW1]; simp
  have HSW := Aside0.mk hsW
  clear hb1 hp1 hx1 hl1 hbW hW1 hsW hput
  go_wp2_with fail
  refine HPUT.out.mono ?_
  rintro e w2 ⟨rfl, hk2, Z2, hp2, hg2⟩
  rw [← HW1.out] at hk2 hg2
  have hz2 : ∀ k, k < W1.heap.size → k ≠ w.heap.size → ¬ Z2 k := fun k hk hn hz => hn (hg2 k hk hz)
  have hbx : ¬ Z2 w1.heap.size := hz2 _ (by have := HSW.out; omega) (by omega)
  have HBX := Aside0.mk hbx
  have HX2 := Aside0.mk ((hk2.block w1.heap.size (by have := HSW.out; omega) (by omega)).trans HX1.out)
  have HB2 := Aside0.mk (hk2.below HB1.out (Nat.le_trans HB1.out.size (Nat.le_refl _)) (fun k hk hz => by omega))
  have HP2 := Aside0.mk hp2
  have hta := pl_take hp2
  rw [kn20_2.1, kn20_2.2.1, kn20_2.2.2, evV_Z] at hta
  have HT2 := Aside0.mk hta
  clear hk2 hp2 hg2 hz2 hbx hta HPUT HW1 HX1 HB1 HP1 HSW
  go_wp2_with fail
  refine HT2.out.mono ?_
  rintro e w3 ⟨rfl, hk3, hp3⟩
  have hx3 := (hk3.block w1.heap.size (blk_lt HX2.out) HBX.out).trans HX2.out
  have hb3 := hk3.below HB2.out HB2.out.size (fun k hk hz => HP2.out.base k hz)
  have hba := (Below.refl w3.heap.size w3).alloc (Nat.le_refl _) (Obj.cells (evL evZ).toArray 46)
  have HC3 := Aside0.mk (pl_came (hp3.below hba) sA (by decide))
  have HX3 := Aside0.mk (blk_alloc hx3 (Obj.cells (evL evZ).toArray 46))
  have HB3 := Aside0.mk (below_then hb3 hb3.size hba)
  have HP3 := Aside0.mk (hp3.below hba)
  clear hk3 hp3 hx3 hb3 hba HX2 HB2 HP2 HT2
  go_wp2_with fail
  refine HC3.out.mono ?_
  rintro e w4 ⟨rfl, hk4, hp4⟩
  have hx4 := (hk4.block w1.heap.size (blk_lt HX3.out) HBX.out).trans HX3.out
  have hb4 := hk4.below HB3.out HB3.out.size (fun k hk hz => HP3.out.base k hz)
  rw [kn20_3] at hp4
  have hta := pl_take hp4
  rw [kn20_4.1, kn20_4.2.1, kn20_4.2.2, evV_X] at hta
  have HT4 := Aside0.mk hta
  have HX4 := Aside0.mk hx4
  have HB4 := Aside0.mk hb4
  have HP4 := Aside0.mk hp4
  clear hk4 hp4 hx4 hb4 HX3 HB3 HP3 HC3 hta
  go_wp2_with fail
  refine HT4.out.mono ?_
  rintro e w5 ⟨rfl, hk5, hp5⟩
  have hx5 := (hk5.block w1.heap.size (blk_lt HX4.out) HBX.out).trans HX4.out
  have hb5 := hk5.below HB4.out HB4.out.size (fun k hk hz => HP4.out.base k hz)
  have hba := (Below.refl w5.heap.size w5).alloc (Nat.le_refl _) (Obj.cells (evL evX).toArray 46)
  have hput := pl_put (hp5.below hba) (Nat.le_trans hb5.size hba.size) evX none 0 [] (C_noneS _) (by decide) (by simp) (by decide)
  rw [kn20_5.1, kn20_5.2] at hput
  have HPUT := Aside0.mk hput
  have HB5 := Aside0.mk (below_then hb5 hb5.size hba)
  have hl5 := blk_lt hx5
  obtain ⟨g0, g1, g2, g3, g4, g5, g6, g7, g8, g9, g10, g11, g12, g13, g14⟩ := evL_cells (l := []) hx5
  have HP5 := Aside0.mk (hp5.below hba)
  clear hk5 hp5 hx5 hb5 hba HX4 HB4 HP4 HT4 hput
  go_wp2_with fail
  refine HPUT.out.mono ?_
  rintro e w6 ⟨rfl, hk6, Z6, hp6, hg6⟩
  have hb6 := hk6.below HB5.out HB5.out.size (fun k hk hz => HP5.out.base k hz)
  have HB6 := Aside0.mk hb6
  have HL6 := Aside0.mk (pl_len hp6)
  clear hk6 hp6 hg6 hb6 g0 g1 g2 g3 g4 g5 g6 g7 g8 g9 g10 g11 g12 g13 g14
  go_wp2_with fail
  refine HL6.out.mono ?_
  rintro e w7 ⟨rfl, rfl⟩
  go_wp2
  go_ret
  exact ⟨rfl, HB6.out⟩
def heliastlaw20_known.f : Option Bool := some true
theorem heliastlaw20_known.calls (r : Bool) (w : World) (h : heliastlaw20_known.f = some r) :
    Calls Try.prog 17 #[] w fun e w' => e = .returned (.bool r) ∧ Below w.heap.size w w' := by
  obtain rfl := Option.some.inj h
  exact law20_known.walk w

/-! ### heliastlaw20_ParkNone: function 6 -/
-- GIVEN heliast/heliastlaw20.ParkNone making uses heliast/heliastlaw20.known
open Go.Proofs.He
set_option maxHeartbeats 8000000 in
set_option maxRecDepth 100000 in
theorem law20_ParkNone.walk (id : ByteArray) (A : Option Addr) (n c : Nat) (w : World) : Calls Try.prog 6 #[.string id, .slice A n c] w fun e w' => e = .returned (.bool true) ∧ Below w.heap.size w w' := by
  have hu46 := Try.underlying46
  have HKN := Aside0.mk (fun W => law20_known.walk W)
  by_cases hbig : (id.size : Int) > 50
  · go_enter Try.func6, Try.ntmps6
    go_wp2_with (go_at_call 17; refine (HKN.out _).mono ?_; rintro e w1 ⟨rfl, hb1⟩)
    go_ret
    exact ⟨rfl, hb1⟩
  · by_cases hbig2 : (n : Int) > 20
    · go_enter Try.func6, Try.ntmps6
      go_wp2_with (go_at_call 17; refine (HKN.out _).mono ?_; rintro e w1 ⟨rfl, hb1⟩)
      go_ret
      exact ⟨rfl, hb1⟩
    · go_enter Try.func6, Try.ntmps6
      go_wp2_with fail
      refine (park_Came_nil id w).mono ?_
      rintro e w1 ⟨rfl, rfl⟩
      have HT := Aside0.mk (park_Take_nil w1)
      rw [evV_Z] at HT
      go_wp2_with fail
      refine HT.out.mono ?_
      rintro e w2 ⟨rfl, hb2⟩
      have HB2 := Aside0.mk (below_then hb2 hb2.size ((Below.refl w2.heap.size w2).alloc (Nat.le_refl _) (Obj.cells (evL evZ).toArray 46)))
      clear hb2
      go_wp2_with fail
      refine (HKN.out _).mono ?_
      rintro e w3 ⟨rfl, hb3⟩
      have HB3 := Aside0.mk (below_then HB2.out HB2.out.size hb3)
      have HP := Aside0.mk (park_Put_nil ⟨id, ⟨#[]⟩, 0⟩ A c n w3)
      clear hb3
      go_wp2_with fail
      refine HP.out.mono ?_
      rintro e w4 ⟨rfl, hb4⟩
      have HB4 := Aside0.mk (below_then HB3.out HB3.out.size hb4)
      clear hb4
      go_wp2_with fail
      refine (park_Len_nil w4).mono ?_
      rintro e w5 ⟨rfl, rfl⟩
      go_wp2_with fail
      refine (park_Has_nil id w5).mono ?_
      rintro e w6 ⟨rfl, hb6⟩
      have HB6 := Aside0.mk (below_then HB4.out HB4.out.size hb6)
      clear hb6
      go_wp2_with fail
      refine (park_Lost_nil w6).mono ?_
      rintro e w7 ⟨rfl, rfl⟩
      go_wp2
      go_ret
      exact ⟨rfl, HB6.out⟩
theorem heliastlaw20_ParkNone.calls (k : Nat) (a0 : ByteArray) (A1 : Option Addr) (c1 : Nat) (l1 : List ByteArray) (r : Bool) (w : World) (hr1 : Kd.string.C w A1 l1.length l1) (hc1 : l1.length ≤ c1) (h : k = 0) (hlaw : r = true) :
    Calls Try.prog 6 #[.string a0, .slice A1 l1.length c1] w fun e w' => e = .returned (.bool r) ∧ Below w.heap.size w w' := by
  subst hlaw
  exact law20_ParkNone.walk a0 A1 l1.length c1 w

end Go.Proofs.Ytmmalieacakcbaa.S

-- Written by heprint.py (this session's, over the kit's print.py): not trusted, Lean checks it.
import Derived.Test.YtmmalieacakcbaaHc0
import Derived.Test.YtmmalieacakcbaaHc1
namespace Go.Proofs.Ytmmalieacakcbaa.S
open Go.RowKit Go.Proofs.YtmmalieacakcbaaW.PrintWords Go.Proofs.YtmmalieacakcbaaW.PrintLast Go.Proofs.YtmmalieacakcbaaW.PrintMore
attribute [local go_sem] max2_int min2_int max_two min_two max_three min_three max_four min_four   -- for this text's walks alone
set_option linter.unusedVariables false
set_option linter.unusedSimpArgs false

/-! ### heliastlaw20_known: function 17 -/
-- GIVEN heliast/heliastlaw20.known making uses heliast/park.New
open Go.Proofs.He
def sA : ByteArray := ⟨#[36, 97]⟩
def evX : Ev := ⟨⟨#[36, 120]⟩, ⟨#[]⟩, 0⟩
theorem kn20_1 : putE [] evX [sA] = 0 ∧ putS [] evX [sA] = [(evX, [sA])] := ⟨rfl, rfl⟩
theorem kn20_2 : tookS [(evX, [sA])] = false ∧ takeX [(evX, [sA])] = evZ ∧ takeS [(evX, [sA])] = [(evX, [sA])] := ⟨rfl, rfl, rfl⟩
theorem evV_X : evV evX = .agg #[.string ⟨#[36, 120]⟩, .string ⟨#[]⟩, .string ⟨#[]⟩, .bool false, .string ⟨#[]⟩, .string ⟨#[]⟩, .slice none 0 0, .slice none 0 0, .int .i64 0, .int .i64 0, .int .i64 0, .int .i64 0, .string ⟨#[]⟩, .slice none 0 0, .slice none 0 0] := rfl
theorem evV_Z : evV evZ = .agg #[.string ⟨#[]⟩, .string ⟨#[]⟩, .string ⟨#[]⟩, .bool false, .string ⟨#[]⟩, .string ⟨#[]⟩, .slice none 0 0, .slice none 0 0, .int .i64 0, .int .i64 0, .int .i64 0, .int .i64 0, .string ⟨#[]⟩, .slice none 0 0, .slice none 0 0] := rfl
theorem kn20_3 : cameS [(evX, [sA])] sA = [(evX, [])] := by
  simp [cameS]
theorem kn20_4 : tookS [(evX, [])] = true ∧ takeX [(evX, [])] = evX ∧ takeS [(evX, [])] = [] := ⟨rfl, rfl, rfl⟩
theorem kn20_5 : putE [] evX [] = 1 ∧ putS [] evX [] = [] := ⟨rfl, rfl⟩
theorem C_lits {W : World} {g : Nat} {t : TypeId} (l : List ByteArray) (hg : W.heap[g]? = some (.cells (l.map Value.string).toArray t (0, 0))) (hm : l.length ≤ 9223372036854775807) : Kd.string.C W (some ⟨g, 0, none⟩) l.length l :=
  Flat.C_mk (flatScalar _ _) hm (fun j u hj => by
    rw [add_plain, blk_cell hg]
    rw [flatMap_one] at hj
    simpa using hj)
theorem C_noneS (W : World) : Kd.string.C W none ([] : List ByteArray).length [] := ⟨rfl, by simp, fun h => by simp at h⟩
set_option maxHeartbeats 8000000 in
set_option maxRecDepth 100000 in
theorem law20_known.walk (w : World) : Calls Try.prog 17 #[] w fun e w' => e = .returned (.bool true) ∧ Below w.heap.size w w' := by
  have hu46 := Try.underlying46
  go_enter Try.func17, Try.ntmps17
  go_wp2_with fail
  refine (pl_new w).mono ?_
  rintro e w1 ⟨rfl, hb1, hp1⟩
  have hs1 : w.heap.size < w1.heap.size := hp1.lt
  obtain ⟨W1, hW1⟩ : ∃ W1, W1 = (w1.alloc (Obj.cells (evL evX).toArray 46)).alloc (Obj.cells #[.string sA] 9) := ⟨_, rfl⟩
  have hbW : Below w1.heap.size w1 W1 := by rw [hW1]; exact ((Below.refl _ _).alloc (Nat.le_refl _) _).alloc (by simp) _
  have hx1 : W1.heap[w1.heap.size]? = some (Obj.cells (evL evX).toArray 46 (0, 0)) := by rw [hW1]; exact (heap_alloc_old _ _ (by simp)).trans (heap_alloc_new w1 _)
  have hl1 : W1.heap[w1.heap.size + 1]? = some (Obj.cells (([sA].map Value.string).toArray) 9 (0, 0)) := by
    have := heap_alloc_new (w1.alloc (Obj.cells (evL evX).toArray 46)) (Obj.cells #[.string sA] 9)
    rw [World.size_alloc] at this; rw [hW1]; exact this
  have hput := (pl_put (hp1.below hbW) (Nat.le_trans hb1.size hbW.size) evX _ 1 [sA] (C_lits [sA] hl1 (by decide)) (by decide) (by decide) (by decide))
  rw [kn20_1.1, kn20_1.2, hW1] at hput
  have HPUT := Aside0.mk hput
  have HB1 := Aside0.mk (below_then hb1 hb1.size hbW)
  have HX1 := Aside0.mk hx1
  have HW1 := Aside0.mk hW1
  have HP1 := Aside0.mk hp1
  have hsW : w1.heap.size + 2 = W1.heap.size := by rw [hW1]; simp
  have HSW := Aside0.mk hsW
  clear hb1 hp1 hx1 hl1 hbW hW1 hsW hput
  go_wp2_with fail
  refine HPUT.out.mono ?_
  rintro e w2 ⟨rfl, hk2, Z2, hp2, hg2⟩
  rw [← HW1.out] at hk2 hg2
  have hz2 : ∀ k, k < W1.heap.size → k ≠ w.heap.size → ¬ Z2 k := fun k hk hn hz => hn (hg2 k hk hz)
  have hbx : ¬ Z2 w1.heap.size := hz2 _ (by have := HSW.out; omega) (by omega)
  have HBX := Aside0.mk hbx
  have HX2 := Aside0.mk ((hk2.block w1.heap.size (by have := HSW.out; omega) (by omega)).trans HX1.out)
  have HB2 := Aside0.mk (hk2.below HB1.out (Nat.le_trans HB1.out.size (Nat.le_refl _)) (fun k hk hz => by omega))
  have HP2 := Aside0.mk hp2
  have hta := pl_take hp2
  rw [kn20_2.1, kn20_2.2.1, kn20_2.2.2, evV_Z] at hta
  have HT2 := Aside0.mk hta
  clear hk2 hp2 hg2 hz2 hbx hta HPUT HW1 HX1 HB1 HP1 HSW
  go_wp2_with fail
  refine HT2.out.mono ?_
  rintro e w3 ⟨rfl, hk3, hp3⟩
  have hx3 := (hk3.block w1.heap.size (blk_lt HX2.out) HBX.out).trans HX2.out
  have hb3 := hk3.below HB2.out HB2.out.size (fun k hk hz => HP2.out.base k hz)
  have hba := (Below.refl w3.heap.size w3).alloc (Nat.le_refl _) (Obj.cells (evL evZ).toArray 46)
  have HC3 := Aside0.mk (pl_came (hp3.below hba) sA (by decide))
  have HX3 := Aside0.mk (blk_alloc hx3 (Obj.cells (evL evZ).toArray 46))
  have HB3 := Aside0.mk (below_then hb3 hb3.size hba)
  have HP3 := Aside0.mk (hp3.below hba)
  clear hk3 hp3 hx3 hb3 hba HX2 HB2 HP2 HT2
  go_wp2_with fail
  refine HC3.out.mono ?_
  rintro e w4 ⟨rfl, hk4, hp4⟩
  have hx4 := (hk4.block w1.heap.size (blk_lt HX3.out) HBX.out).trans HX3.out
  have hb4 := hk4.below HB3.out HB3.out.size (fun k hk hz => HP3.out.base k hz)
  rw [kn20_3] at hp4
  have hta := pl_take hp4
  rw [kn20_4.1, kn20_4.2.1, kn20_4.2.2, evV_X] at hta
  have HT4 := Aside0.mk hta
  have HX4 := Aside0.mk hx4
  have HB4 := Aside0.mk hb4
  have HP4 := Aside0.mk hp4
  clear hk4 hp4 hx4 hb4 HX3 HB3 HP3 HC3 hta
  go_wp2_with fail
  refine HT4.out.mono ?_
  rintro e w5 ⟨rfl, hk5, hp5⟩
  have hx5 := (hk5.block w1.heap.size (blk_lt HX4.out) HBX.out).trans HX4.out
  have hb5 := hk5.below HB4.out HB4.out.size (fun k hk hz => HP4.out.base k hz)
  have hba := (Below.refl w5.heap.size w5).alloc (Nat.le_refl _) (Obj.cells (evL evX).toArray 46)
  have hput := pl_put (hp5.below hba) (Nat.le_trans hb5.size hba.size) evX none 0 [] (C_noneS _) (by decide) (by simp) (by decide)
  rw [kn20_5.1, kn20_5.2] at hput
  have HPUT := Aside0.mk hput
  have HB5 := Aside0.mk (below_then hb5 hb5.size hba)
  have hl5 := blk_lt hx5
  obtain ⟨g0, g1, g2, g3, g4, g5, g6, g7, g8, g9, g10, g11, g12, g13, g14⟩ := evL_cells (l := []) hx5
  have HP5 := Aside0.mk (hp5.below hba)
  clear hk5 hp5 hx5 hb5 hba HX4 HB4 HP4 HT4 hput
  go_wp2_with fail
  refine HPUT.out.mono ?_
  rintro e w6 ⟨rfl, hk6, Z6, hp6, hg6⟩
  have hb6 := hk6.below HB5.out HB5.out.size (fun k hk hz => HP5.out.base k hz)
  have HB6 := Aside0.mk hb6
  have HL6 := Aside0.mk (pl_len hp6)
  clear hk6 hp6 hg6 hb6 g0 g1 g2 g3 g4 g5 g6 g7 g8 g9 g10 g11 g12 g13 g14
  go_wp2_with fail
  refine HL6.out.mono ?_
  rintro e w7 ⟨rfl, rfl⟩
  go_wp2
  go_ret
  exact ⟨rfl, HB6.out⟩
def heliastlaw20_known.f : Option Bool := some true
theorem heliastlaw20_known.calls (r : Bool) (w : World) (h : heliastlaw20_known.f = some r) :
    Calls Try.prog 17 #[] w fun e w' => e = .returned (.bool r) ∧ Below w.heap.size w w' := by
  obtain rfl := Option.some.inj h
  exact law20_known.walk w

/-! ### heliastref02_Strings: function 24 -/
def heliastref02_Strings.l0 : Nat → List ByteArray → List ByteArray → Int → Option (Bool)
  | 0, _, _, _ => none
  | k + 1, x0, x1, x5 => if x5 < (x0.length : Int) then (if 0 ≤ x5 then (if x5 < (x1.length : Int) then (if (rdOf ByteArray.empty x0 x5).toList = (rdOf ByteArray.empty x1 x5).toList then (heliastref02_Strings.l0 k x0 x1 (wrap64 (x5 + 1))) else (some false)) else (none)) else (none)) else (some true)
def heliastref02_Strings.f (k : Nat) (l0 : List ByteArray) (l1 : List ByteArray) : Option (Bool) := if (l0.length : Int) = (l1.length : Int) then (heliastref02_Strings.l0 k l0 l1 0) else (some false)
theorem heliastref02_Strings.mono_l : ∀ k, (∀ y0 y1 y2, LeO (heliastref02_Strings.l0 k y0 y1 y2) (heliastref02_Strings.l0 (k + 1) y0 y1 y2))
  | 0 => fun _ _ _ r h => by simp [heliastref02_Strings.l0] at h
  | k + 1 => by
    have ih0 := heliastref02_Strings.mono_l k
    · intro y0 y1 y2
      unfold heliastref02_Strings.l0
      repeat' first
      | (with_reducible exact ih0 _ _ _)
      | (with_reducible exact LeO.refl _)
      | (with_reducible exact LeO.none _)
      | (with_reducible refine LeO.ite ?_ ?_)
      | (with_reducible refine LeO.bind ?_ (fun _ => ?_))
      | exact ih0 _ _ _
      | exact LeO.none _
      | refine LeO.ite ?_ ?_
      | refine LeO.bind ?_ (fun _ => ?_)
theorem heliastref02_Strings.mono : ∀ a0 a1 k, LeO (heliastref02_Strings.f k a0 a1) (heliastref02_Strings.f (k + 1) a0 a1) := by
  intro a0 a1 k
  have ih0 := heliastref02_Strings.mono_l k
  unfold heliastref02_Strings.f
  repeat' first
      | (with_reducible exact ih0 _ _ _)
      | (with_reducible exact LeO.refl _)
      | (with_reducible exact LeO.none _)
      | (with_reducible refine LeO.ite ?_ ?_)
      | (with_reducible refine LeO.bind ?_ (fun _ => ?_))
      | exact ih0 _ _ _
      | exact LeO.none _
      | refine LeO.ite ?_ ?_
      | refine LeO.bind ?_ (fun _ => ?_)
set_option maxHeartbeats 8000000 in
set_option maxRecDepth 100000 in
theorem heliastref02_Strings.calls (k : Nat) (A0 : Option Addr) (c0 : Nat) (l0 : List ByteArray) (A1 : Option Addr) (c1 : Nat) (l1 : List ByteArray) (r : Bool) (w : World) (hr0 : Kd.C Kd.string w A0 l0.length l0) (hc0 : l0.length ≤ c0) (hr1 : Kd.C Kd.string w A1 l1.length l1) (hc1 : l1.length ≤ c1) (h : heliastref02_Strings.f k l0 l1 = some r) :
    Calls Try.prog 24 #[.slice A0 l0.length c0, .slice A1 l1.length c1] w fun e w' => e = .returned (.bool r) ∧ Drawn0 w w' := by
  have HR0 := Aside0.mk hr0
  have HC0 := Aside0.mk hc0
  clear hr0 hc0
  have HR1 := Aside0.mk hr1
  have HC1 := Aside0.mk hc1
  clear hr1 hc1
  have H : (if (l0.length : Int) = (l1.length : Int) then (heliastref02_Strings.l0 k l0 l1 0) else (some false)) = some r := h
  clear h
  by_cases c3 : (l0.length : Int) = (l1.length : Int)
  · rw [if_pos c3] at H
    have c3b0 : ((l0.length : Int) == (l1.length : Int)) = true := beq_iff_eq.mpr c3
    have c3b1 : ((l0.length : Int) != (l1.length : Int)) = false := bne_eq_false_iff_eq.mpr c3
    have c3b2 : (l0.length == l1.length) = true := by first | simpa using c3 | (simp at c3 ⊢; omega)
    clear c3
    have H' := Aside0.mk H
    clear H
    go_enter Try.func24, Try.ntmps24
    go_wp2
    repeat (go_quiet (fail); try go_wp2)
    go_loopg [5] k (fun kq v5 w' => ∃ (x5_1 : Int), v5 = .int .i64 x5_1 ∧ Aside0 (heliastref02_Strings.l0 kq l0 l1 x5_1 = some r) ∧ Aside0 (kq ≤ k) ∧ Drawn0 w w')
    case atStart => exact ⟨(0), (by first | rfl | (simp; done) | (simp [*]; done)), H', ⟨Nat.le_refl _⟩, by repeat (first | exact Drawn0.refl _ | apply Drawn0.step)⟩
    case round =>
      clear H'
      try clear c1
      try clear c2
      try clear p2
      try clear c3
      try clear c3b0
      try clear c3b1
      try clear c3b2
      obtain ⟨x5_1, rfl, HA, HK1, ⟨m1, rfl⟩⟩ := hrel
      cases gk with
      | zero => exact absurd HA.out (by simp [heliastref02_Strings.l0])
      | succ k1 =>
        have H := HA.out
        clear HA
        simp only [heliastref02_Strings.l0] at H
        by_cases c4 : x5_1 < (l0.length : Int)
        · rw [if_pos c4] at H
          have c4b0 : decide (x5_1 < (l0.length : Int)) = true := decide_eq_true c4
          clear c4
          by_cases c5 : 0 ≤ x5_1
          · rw [if_pos c5] at H
            have c5b0 : decide (0 ≤ x5_1) = true := decide_eq_true c5
            clear c5
            by_cases c6 : x5_1 < (l1.length : Int)
            · rw [if_pos c6] at H
              have c6b0 : decide (x5_1 < (l1.length : Int)) = true := decide_eq_true c6
              clear c6
              by_cases c7 : (rdOf ByteArray.empty l0 x5_1).toList = (rdOf ByteArray.empty l1 x5_1).toList
              · rw [if_pos c7] at H
                have c7b0 : ((rdOf ByteArray.empty l0 x5_1).toList == (rdOf ByteArray.empty l1 x5_1).toList) = true := beq_iff_eq.mpr c7
                have c7b1 : ((rdOf ByteArray.empty l0 x5_1).toList != (rdOf ByteArray.empty l1 x5_1).toList) = false := bne_eq_false_iff_eq.mpr c7
                clear c7
                have H' := Aside0.mk H
                clear H
                have p101 : 0 ≤ (x5_1 : Int) := of_decide_eq_true (by first | (with_reducible assumption) | assumption)
                have q101 : x5_1 < (l0.length : Int) := of_decide_eq_true (by first | (with_reducible assumption) | assumption)
                obtain ⟨ad101, e101, hx101_0⟩ := Kd.at_string HR0.out x5_1 p101 q101
                cases e101
                replace p101 := eq_true p101
                replace q101 := eq_true q101
                have p102 : 0 ≤ (x5_1 : Int) := of_decide_eq_true (by first | (with_reducible assumption) | assumption)
                have q102 : x5_1 < (l1.length : Int) := of_decide_eq_true (by first | (with_reducible assumption) | assumption)
                obtain ⟨ad102, e102, hx102_0⟩ := Kd.at_string HR1.out x5_1 p102 q102
                cases e102
                replace p102 := eq_true p102
                replace q102 := eq_true q102
                go_wp2
                repeat (go_quiet (fail); try go_wp2)
                go_roundg k1
                case measure => have := HK1.out; omega
                case rel => exact ⟨(wrap64 (x5_1 + 1)), (by first | rfl | (simp; done) | (simp [*]; done)), H', ⟨by have := HK1.out; omega⟩, by repeat (first | exact Drawn0.refl _ | apply Drawn0.step)⟩
              · rw [if_neg c7] at H
                have c7b0 : ((rdOf ByteArray.empty l0 x5_1).toList == (rdOf ByteArray.empty l1 x5_1).toList) = false := beq_eq_false_iff_ne.mpr c7
                have c7b1 : ((rdOf ByteArray.empty l0 x5_1).toList != (rdOf ByteArray.empty l1 x5_1).toList) = true := bne_iff_ne.mpr c7
                obtain rfl := Option.some.inj H
                have p101 : 0 ≤ (x5_1 : Int) := of_decide_eq_true (by first | (with_reducible assumption) | assumption)
                have q101 : x5_1 < (l0.length : Int) := of_decide_eq_true (by first | (with_reducible assumption) | assumption)
                obtain ⟨ad101, e101, hx101_0⟩ := Kd.at_string HR0.out x5_1 p101 q101
                cases e101
                replace p101 := eq_true p101
                replace q101 := eq_true q101
                have p102 : 0 ≤ (x5_1 : Int) := of_decide_eq_true (by first | (with_reducible assumption) | assumption)
                have q102 : x5_1 < (l1.length : Int) := of_decide_eq_true (by first | (with_reducible assumption) | assumption)
                obtain ⟨ad102, e102, hx102_0⟩ := Kd.at_string HR1.out x5_1 p102 q102
                cases e102
                replace p102 := eq_true p102
                replace q102 := eq_true q102
                go_wp2
                repeat (go_quiet (fail); try go_wp2)
                go_ret
                exact ⟨by first | rfl | (simp; done) | (simp [*]; done), by repeat (first | exact Drawn0.refl _ | apply Drawn0.step)⟩
            · rw [if_neg c6] at H
              exact absurd H (by simp)
          · rw [if_neg c5] at H
            exact absurd H (by simp)
        · rw [if_neg c4] at H
          have c4b0 : decide (x5_1 < (l0.length : Int)) = false := decide_eq_false c4
          clear c4
          obtain rfl := Option.some.inj H
          go_wp2
          repeat (go_quiet (fail); try go_wp2)
          go_ret
          exact ⟨by first | rfl | (simp; done) | (simp [*]; done), by repeat (first | exact Drawn0.refl _ | apply Drawn0.step)⟩
  · rw [if_neg c3] at H
    have c3b0 : ((l0.length : Int) == (l1.length : Int)) = false := beq_eq_false_iff_ne.mpr c3
    have c3b1 : ((l0.length : Int) != (l1.length : Int)) = true := bne_iff_ne.mpr c3
    have c3b2 : (l0.length == l1.length) = false := by first | simpa using c3 | (simp at c3 ⊢; omega)
    obtain rfl := Option.some.inj H
    go_enter Try.func24, Try.ntmps24
    go_wp2
    repeat (go_quiet (fail); try go_wp2)
    go_ret
    exact ⟨by first | rfl | (simp; done) | (simp [*]; done), by repeat (first | exact Drawn0.refl _ | apply Drawn0.step)⟩

/-! ### heliastlaw20_Name: function 27 -/
def heliastlaw20_Name.f (a0 : Int) : Option (ByteArray) := (some (([(97 + (Int.tmod a0 9)) % 256] : List Int) : List Int)).bind fun y103 => (if 1 + (strOfNums y103).size ≤ 9223372036854775807 then (some ((⟨#[36]⟩ : ByteArray) ++ (strOfNums y103))) else (none))
set_option maxHeartbeats 8000000 in
set_option maxRecDepth 100000 in
theorem heliastlaw20_Name.calls (a0 : Int) (r : ByteArray) (w : World) (h : heliastlaw20_Name.f a0 = some r) :
    Calls Try.prog 27 #[.int .u8 a0] w fun e w' => e = .returned (.string r) ∧ Below w.heap.size w w' := by
  have HB := Aside0.mk (Below.refl w.heap.size w)
  have H : ((some (([(97 + (Int.tmod a0 9)) % 256] : List Int) : List Int)).bind fun y103 => (if 1 + (strOfNums y103).size ≤ 9223372036854775807 then (some ((⟨#[36]⟩ : ByteArray) ++ (strOfNums y103))) else (none))) = some r := h
  clear h
  obtain ⟨y103, hy103⟩ : ∃ y_ : List Int, y_ = (([(97 + (Int.tmod a0 9)) % 256] : List Int)) := ⟨_, rfl⟩
  replace H : (if 1 + (strOfNums y103).size ≤ 9223372036854775807 then (some ((⟨#[36]⟩ : ByteArray) ++ (strOfNums y103))) else (none)) = some r := by first | (rw [hy103]; with_reducible exact H) | (have H2_ := (Option.bind_some _ _).symm.trans H; rw [hy103]; with_reducible exact H2_) | (have H2_ := (Option.bind_some _ _).symm.trans H; with_reducible exact H2_) | with_reducible exact H | (rw [hy103]; exact H) | exact H
  have Ny103 := Aside0.mk hy103
  clear hy103
  by_cases c2 : 1 + (strOfNums y103).size ≤ 9223372036854775807
  · rw [if_pos c2] at H
    have c2b0 := eq_true c2
    have c2b1 : decide (1 + (strOfNums y103).size ≤ 9223372036854775807) = true := decide_eq_true c2
    try have c2b2 : (9223372036854775807 < 1 + (strOfNums y103).size) = False := eq_false (Nat.not_lt.2 c2)
    obtain rfl := Option.some.inj H
    go_enter Try.func27, Try.ntmps27
    go_wp2_with (first | ((with_reducible refine gate_dst (N := 6) rfl ?_); refine Kd.R_lit (Kd.int .u8) _ 5 ?hg (N := 6) ?hd (xs := ([(97 + (Int.tmod a0 9)) % 256] : List Int)) (inner := [.int .u8 ((97 + (Int.tmod a0 9)) % 256)]) (ok := fun _ => True) (okp := fun _ => True) ?hr ?hp (fun _ hk => hk) trivial (Below.refl _ _) (Nat.le_refl _) (by simp) ?_; (case hd => rfl); (case hg => rfl); (case hr => first | (go_simp; done) | (go_simp; rfl)); (case hp => exact (Reps.one (show Kd.M (Kd.int .u8) _ _ _ ((97 + (Int.tmod a0 9)) % 256) [.int .u8 ((97 + (Int.tmod a0 9)) % 256)] from rfl) (Reps.none _ _))); intro v104 w3 ho4 hb hg_ hnew_; clear hg_ hnew_; (first | rw [← Ny103.out] at ho4 | (simp only [Int.reduceToNat] at ho4; rw [← Ny103.out] at ho4)); have n0_ := Aside0.mk (Kd.R_lower ho4 (below_size (by repeat (first | (with_reducible first | exact HB.out | apply below_alloc | apply pw_below_drewN | apply below_drew1) | exact HB.out)))); have n1_ := Aside0.mk (below_step (by repeat (first | (with_reducible first | exact HB.out | apply below_alloc | apply pw_below_drewN | apply below_drew1) | exact HB.out)) hb); clear HB; have HO105 := n0_; have HB := n1_; clear n0_ n1_; clear hb ho4; have hcv5 := own_string (P := Try.prog) Try.underlying35 Try.underlying5 Try.underlying9 (Kd.own_of_R HO105.out)))
    go_ret
    exact ⟨by first | rfl | (simp [errW_none, errW_some] <;> rfl) | (simp [*, errW_none, errW_some] <;> rfl), by repeat (first | (with_reducible first | exact HB.out | apply below_alloc | apply pw_below_drewN | apply below_drew1) | exact HB.out)⟩
  · rw [if_neg c2] at H
    exact absurd H (by simp)

/-! ### heliastlaw20_list: function 26 -/
def heliastlaw20_list.l0 : Nat → List Int → List ByteArray → Int → Option (List ByteArray)
  | 0, _, _, _ => none
  | k + 1, x0, x3, x4 => if x4 < (x0.length : Int) then (if x4 < 5 then (if 0 ≤ x4 then ((heliastlaw20_Name.f (rd x0 x4)).bind fun t107 => (if x3.length < 8796093022208 then (heliastlaw20_list.l0 k x0 (x3 ++ [t107]) (wrap64 (x4 + 1))) else (none))) else (none)) else (some x3)) else (some x3)
def heliastlaw20_list.f (k : Nat) (l0 : List Int) : Option (List ByteArray) := heliastlaw20_list.l0 k l0 ([] : List ByteArray) 0
theorem heliastlaw20_list.mono_l : ∀ k, (∀ y0 y1 y2, LeO (heliastlaw20_list.l0 k y0 y1 y2) (heliastlaw20_list.l0 (k + 1) y0 y1 y2))
  | 0 => fun _ _ _ r h => by simp [heliastlaw20_list.l0] at h
  | k + 1 => by
    have ih0 := heliastlaw20_list.mono_l k
    · intro y0 y1 y2
      unfold heliastlaw20_list.l0
      repeat' first
      | (with_reducible exact ih0 _ _ _)
      | (with_reducible exact LeO.refl _)
      | (with_reducible exact LeO.none _)
      | (with_reducible refine LeO.ite ?_ ?_)
      | (with_reducible refine LeO.bind ?_ (fun _ => ?_))
      | exact ih0 _ _ _
      | exact LeO.none _
      | refine LeO.ite ?_ ?_
      | refine LeO.bind ?_ (fun _ => ?_)
theorem heliastlaw20_list.mono : ∀ a0 k, LeO (heliastlaw20_list.f k a0) (heliastlaw20_list.f (k + 1) a0) := by
  intro a0 k
  have ih0 := heliastlaw20_list.mono_l k
  unfold heliastlaw20_list.f
  repeat' first
      | (with_reducible exact ih0 _ _ _)
      | (with_reducible exact LeO.refl _)
      | (with_reducible exact LeO.none _)
      | (with_reducible refine LeO.ite ?_ ?_)
      | (with_reducible refine LeO.bind ?_ (fun _ => ?_))
      | exact ih0 _ _ _
      | exact LeO.none _
      | refine LeO.ite ?_ ?_
      | refine LeO.bind ?_ (fun _ => ?_)
set_option maxHeartbeats 8000000 in
set_option maxRecDepth 100000 in
theorem heliastlaw20_list.calls (k : Nat) (A0 : Option Addr) (c0 : Nat) (l0 : List Int) (r : List ByteArray) (w : World) (hr0 : Kd.C (Kd.int .u8) w A0 l0.length l0) (hc0 : l0.length ≤ c0) (h : heliastlaw20_list.f k l0 = some r) :
    Calls Try.prog 26 #[.slice A0 l0.length c0] w fun e w' => ∃ v0_ : Value, e = .returned (v0_) ∧ Kd.R Kd.string 9 w' w.heap.size (fun _ => True) v0_ r ∧ Below w.heap.size w w' := by
  have HR0 := Aside0.mk hr0
  have HC0 := Aside0.mk hc0
  clear hr0 hc0
  have HB := Aside0.mk (Below.refl w.heap.size w)
  have H : (heliastlaw20_list.l0 k l0 ([] : List ByteArray) 0) = some r := h
  clear h
  have H' := Aside0.mk H
  clear H
  go_enter Try.func26, Try.ntmps26
  go_wp2
  go_loopg [3, 4] k (fun kq v3 v4 w' => ∃ (x3_1 : List ByteArray) (x4_1 : Int), v4 = .int .i64 x4_1 ∧ Aside0 (heliastlaw20_list.l0 kq l0 x3_1 x4_1 = some r) ∧ Aside0 (kq ≤ k) ∧ Aside0 (Kd.R Kd.string 9 w' w.heap.size (fun _ => True) v3 x3_1) ∧ Aside0 (Below w.heap.size w w'))
  case atStart => exact ⟨(([] : List ByteArray)), (0), (by first | rfl | (simp; done) | (simp [*]; done)), H', ⟨Nat.le_refl _⟩, ⟨by first | exact Kd.R_nil _ _ _ _ _ | exact Kd.N_nil _ _ _ _ _ | exact Kd.V_nil _ _ _ _ _ | exact Kd.Q_nil _ _ _ _ _ | exact Kd.S_nil _ _ _ _ _⟩, ⟨by repeat (first | (with_reducible first | exact HB.out | apply below_alloc | apply pw_below_drewN | apply below_drew1) | exact HB.out)⟩⟩
  case round =>
    clear H'
    obtain ⟨x3_1, x4_1, rfl, HA, HK1, HO_3, HB⟩ := hrel
    cases gk with
    | zero => exact absurd HA.out (by simp [heliastlaw20_list.l0])
    | succ k1 =>
      have H := HA.out
      clear HA
      simp only [heliastlaw20_list.l0] at H
      by_cases c2 : x4_1 < (l0.length : Int)
      · rw [if_pos c2] at H
        have c2b0 : decide (x4_1 < (l0.length : Int)) = true := decide_eq_true c2
        clear c2
        by_cases c3 : x4_1 < 5
        · rw [if_pos c3] at H
          have c3b0 : decide (x4_1 < 5) = true := decide_eq_true c3
          clear c3
          by_cases c4 : 0 ≤ x4_1
          · rw [if_pos c4] at H
            have c4b0 : decide (0 ≤ x4_1) = true := decide_eq_true c4
            clear c4
            replace H := Option.bind_eq_some_iff.mp H
            obtain ⟨t107, A50, H⟩ := H
            replace H : (if x3_1.length < 8796093022208 then (heliastlaw20_list.l0 k1 l0 (x3_1 ++ [t107]) (wrap64 (x4_1 + 1))) else (none)) = some r := H
            have A5 := Aside0.mk A50
            clear A50
            by_cases c6 : x3_1.length < 8796093022208
            · rw [if_pos c6] at H
              have LMc6 := Aside0.mk c6
              clear c6
              obtain ⟨y108, hy108⟩ : ∃ y_ : List ByteArray, y_ = (x3_1 ++ [t107]) := ⟨_, rfl⟩
              replace H : (heliastlaw20_list.l0 k1 l0 y108 (wrap64 (x4_1 + 1))) = some r := by first | (rw [hy108]; with_reducible exact H) | (have H2_ := (Option.bind_some _ _).symm.trans H; rw [hy108]; with_reducible exact H2_) | (have H2_ := (Option.bind_some _ _).symm.trans H; with_reducible exact H2_) | with_reducible exact H | (rw [hy108]; exact H) | exact H
              have Ny108 := Aside0.mk hy108
              clear hy108
              have H' := Aside0.mk H
              clear H
              have p106 : 0 ≤ (x4_1 : Int) := of_decide_eq_true (by first | (with_reducible assumption) | assumption)
              have q106 : x4_1 < (l0.length : Int) := of_decide_eq_true (by first | (with_reducible assumption) | assumption)
              obtain ⟨ad106, e106, hx106_0⟩ := Kd.at_int HR0.out x4_1 p106 q106
              cases e106
              replace hx106_0 := (HB.out.cell (World.block_lt_of_cell? w _ hx106_0)).trans hx106_0
              replace p106 := eq_true p106
              replace q106 := eq_true q106
              go_wp2_with (first | ((with_reducible refine gate_callee (f := 27) rfl ?_); refine goesL_ (some 20) rfl rfl Try.func27 (by kernel_rfl) rfl #[.int .u8 (rd l0 x4_1)] rfl (by (try simp only [List.map_toArray, List.map_cons, List.map_nil]); first | done | rfl | (simp only [List.length_drop, List.length_take]; rfl)) ?_; (with_reducible refine (heliastlaw20_Name.calls (rd l0 x4_1) t107 _ A5.out).mono ?_); rintro e w7 ⟨rfl, hb⟩; refine ⟨_, rfl, ?_⟩; have n0_ := Aside0.mk (Kd.R_below (by (with_reducible repeat (first | apply Kd.R_alloc | apply Kd.R_drewN | apply Kd.R_drew)); exact HO_3.out) hb); have n1_ := Aside0.mk (below_step (by repeat (first | (with_reducible first | exact HB.out | apply below_alloc | apply pw_below_drewN | apply below_drew1) | exact HB.out)) hb); clear HO_3; clear HB; have HO_3 := n0_; have HB := n1_; clear n0_ n1_; (try clear hb); (try clear hb2); (try clear hk); (try clear hi)) | ((with_reducible refine gate_builtin (b := .append) (xs := #[.tmp 15, .tmp 21]) rfl ?_); at_builtin; refine Kd.R_append Kd.string (w0 := w) w.heap.size rfl (.tmp 15) (.tmp 21) 41 9 (.string ⟨#[]⟩) 16 rfl Try.underlying41 info9 rfl (by decide) (by omega) u3 x3_1 t107 [.string t107] (fun _ => True) (fun _ => False) rfl rfl ?aP (fun _ hk => hk.elim) ?aF ?aO ?aB ?aS ?aL ?_; (case aP => exact rfl); (case aB => exact (by repeat (first | (with_reducible first | exact HB.out | apply below_alloc | apply pw_below_drewN | apply below_drew1) | exact HB.out))); (case aF => exact (fun _ _ => trivial)); (case aO => exact (by (with_reducible repeat (first | apply Kd.R_alloc | apply Kd.R_drewN | apply Kd.R_drew)); exact HO_3.out)); (case aS => exact (below_size (by repeat (first | (with_reducible first | exact HB.out | apply below_alloc | apply pw_below_drewN | apply below_drew1) | exact HB.out)))); (case aL => have := LMc6.out; omega); intro v109 w8 ho hb hg hat; rw [← Ny108.out] at ho; have n0_ := Aside0.mk (hb); have n1_ := Aside0.mk (ho); clear HB; clear HO_3; have HB := n0_; have HO110 := n1_; clear n0_ n1_; clear ho hb hg hat))
              go_roundg k1
              case measure => have := HK1.out; omega
              case rel => exact ⟨(y108), (wrap64 (x4_1 + 1)), (by first | rfl | (simp; done) | (simp [*]; done)), H', ⟨by have := HK1.out; omega⟩, ⟨by (with_reducible repeat (first | apply Kd.R_alloc | apply Kd.R_drewN | apply Kd.R_drew)); exact HO110.out⟩, ⟨by repeat (first | (with_reducible first | exact HB.out | apply below_alloc | apply pw_below_drewN | apply below_drew1) | exact HB.out)⟩⟩
            · rw [if_neg c6] at H
              exact absurd H (by simp)
          · rw [if_neg c4] at H
            exact absurd H (by simp)
        · rw [if_neg c3] at H
          have c3b0 : decide (x4_1 < 5) = false := decide_eq_false c3
          clear c3
          obtain rfl := Option.some.inj H
          go_wp2
          go_ret
          exact ⟨_, by first | rfl | (simp [errW_none, errW_some] <;> rfl) | (simp [*, errW_none, errW_some] <;> rfl), by (with_reducible repeat (first | apply Kd.R_alloc | apply Kd.R_drewN | apply Kd.R_drew)); exact HO_3.out, by repeat (first | (with_reducible first | exact HB.out | apply below_alloc | apply pw_below_drewN | apply below_drew1) | exact HB.out)⟩
      · rw [if_neg c2] at H
        have c2b0 : decide (x4_1 < (l0.length : Int)) = false := decide_eq_false c2
        clear c2
        obtain rfl := Option.some.inj H
        go_wp2
        go_ret
        exact ⟨_, by first | rfl | (simp [errW_none, errW_some] <;> rfl) | (simp [*, errW_none, errW_some] <;> rfl), by (with_reducible repeat (first | apply Kd.R_alloc | apply Kd.R_drewN | apply Kd.R_drew)); exact HO_3.out, by repeat (first | (with_reducible first | exact HB.out | apply below_alloc | apply pw_below_drewN | apply below_drew1) | exact HB.out)⟩

/-! ### park_Lot_Lost: function 25 -/
-- GIVEN (*heliast/park.Lot).Lost making uses (*heliast/park.Lot).Came uses heliast/park.New
open Go.Proofs.He
set_option maxHeartbeats 8000000 in
set_option maxRecDepth 100000 in
theorem park_Lost {Z : Nat → Prop} {p : Nat} {S : Lo} (w : World) (hL : PLotIs w Z p S) (hN : (namesS S).length < 8796093022207) :
    Calls Try.prog 25 #[.pointer (some ⟨p, 0, none⟩)] w fun e w' => ∃ v, e = .returned v ∧ Kd.string.R 9 w' w.heap.size (fun _ => True) v (riseB (namesS S)) ∧ Below w.heap.size w w' := by
  obtain ⟨v, L, hL, hS⟩ := hL
  obtain ⟨A, c, rfl, hc, hC⟩ := hL.cells
  have hcell := hL.ptr
  have hlen : L.length ≤ 9223372036854775807 := hC.2.1
  have hsum := lost_sum hS (fun i hi => by have := (LotAt.map hL i hi).1.nodup; rwa [keyed_keys] at this)
  have HSUM := Aside0.mk (Nat.lt_of_le_of_lt hsum hN)
  have HL := Aside0.mk hL
  have HS := Aside0.mk hS
  clear hL hC hS hN hsum
  go_enter Try.func25, Try.ntmps25
  go_wp2
  go_loopg [3, 5, 6, 14] L.length (fun gg v3 _ _ v14 wr => ∃ (k : Nat) (xs : List ByteArray), k ≤ L.length ∧ L.length - k ≤ gg ∧ v14 = .int .i64 k ∧ Aside0 (Kd.string.R 9 wr w.heap.size (fun _ => True) v3 xs) ∧ Aside0 (∀ z, z ∈ xs ↔ ∃ i ∈ L.take k, z ∈ i.lost) ∧ Aside0 (xs.length ≤ lostLen (L.take k)) ∧ Aside0 (Below w.heap.size w wr))
  case atStart => exact ⟨0, [], Nat.zero_le _, by omega, rfl, ⟨Kd.R_nil _ _ _ _ _⟩, ⟨by simp⟩, ⟨by simp⟩, ⟨Below.refl _ _⟩⟩
  case round =>
    obtain ⟨k, xs, hk, hg, rfl, HR, HM, HLE, HB⟩ := hrel
    by_cases hlt : k < L.length
    · have HLr : PLot _ Z p (.slice A L.length c) L := LotAt.below HL.out HB.out
      obtain ⟨it, hit⟩ : ∃ it, it = L[k] := ⟨_, rfl⟩
      have hat : L[k]? = some it := by rw [hit]; exact List.getElem?_eq_getElem hlt
      have hmem := List.mem_of_getElem? hat
      obtain ⟨g, rfl, hx, hgl⟩ := PLot.item HLr hat
      have ho := (LotAt.one HLr it hmem).1
      have hm := (LotAt.map HLr it hmem).1
      have h1 : _ = some (Value.map (some it.mp)) := (blk_cell ho 15).trans rfl
      have HMP := Aside0.mk ((LotAt.map HL.out it hmem).1.lt)
      have HOM := Aside0.mk hm
      have HIT := Aside0.mk hit
      have hltz : (k : Int) < (L.length : Int) := by omega
      clear ho hm hat hit hcell HLr hmem
      go_wp2_with (first | (at_range; refine wpList_mrange rfl _ 100 rfl kPm unitV 103 Try.underlying100 it.mp (keyed it.lost) rfl HOM.out ?_; intro w3 hi0 hg0 hs0) | go_in)
      go_frame
      rw [keyed_keys] at hi0
      generalize hrI : wr.heap.size = rI at hi0 ⊢
      have HRI := Aside0.mk (show w.heap.size ≤ rI by rw [← hrI]; exact HB.out.size)
      have HI0 := Aside0.mk hi0
      have HB3 := Aside0.mk (HB.out.grown hg0 HB.out.size (fun k e => by cases e))
      have HR3 := Aside0.mk (Kd.R_grown HR.out hg0 (fun _ _ => by simp))
      clear hi0 hg0 hs0 hrI HOM hx h1 hgl
      go_loopw [3, 6] (fun v3 _ wi => ∃ (todo ys : List ByteArray), Aside0 (Iter kPm unitV wi it.mp rI (keyed it.lost) todo) ∧ Aside0 (Kd.string.R 9 wi w.heap.size (fun _ => True) v3 (xs ++ ys)) ∧ Aside0 (∀ z, z ∈ ys ↔ z ∈ it.lost ∧ z ∉ todo) ∧ Aside0 (ys.length + todo.length ≤ it.lost.length) ∧ Aside0 (Below w.heap.size w wi)) (fun _ _ wi => wi.rangeLeft it.mp rI)
      case atStart => exact ⟨it.lost, [], HI0, ⟨by rw [List.append_nil]; exact HR3.out⟩, ⟨fun z => by simp⟩, ⟨by simp⟩, HB3⟩
      case round =>
        clear HI0 HB3 HR3 HR HB
        obtain ⟨todo, ys, HI, HR, HY, HYL, HB⟩ := hrel
        go_wp2_with (first | (at_next; refine wpList_mnext rfl _ rfl kPm unitV it.mp rI (keyed it.lost) rfl HI.out ?_ ?_) | go_in)
        · intro ht
          subst ht
          have HY' := Aside0.mk (fun z => by simpa using HY.out z : ∀ z, z ∈ ys ↔ z ∈ it.lost)
          have HYL' := Aside0.mk (by simpa using HYL.out : ys.length ≤ it.lost.length)
          clear HY HYL HI
          go_wp2
          go_roundg (L.length - (k + 1))
          case measure => omega
          case rel =>
            refine ⟨k + 1, xs ++ ys, by omega, by omega, by go_num, HR, ⟨fun z => ?_⟩, ⟨?_⟩, HB⟩
            · rw [List.mem_append, HM.out, HY'.out, List.take_succ_eq_append_getElem hlt, ← HIT.out]
              simp only [List.mem_append, List.mem_singleton]
              constructor
              · rintro (⟨i, h1, h2⟩ | h)
                · exact ⟨i, .inl h1, h2⟩
                · exact ⟨it, .inr rfl, h⟩
              · rintro ⟨i, h1 | rfl, h2⟩
                · exact .inl ⟨i, h1, h2⟩
                · exact .inr h2
            · rw [lostLen_take L hlt, ← HIT.out, List.length_append]
              have := HLE.out; have := HYL'.out; omega
        · intro x y w4 hx hxM hi1 hlt1 hg1 hs1 hen
          have hen' : (Instr.entry (.pointer (some ⟨rI, 0, none⟩))).run Try.prog w4 = .ok (.tuple #[.string x, .agg #[]]) w4 := hen
          have hl1 := length_strike1 HI.out.nodup hx
          have HB4 := Aside0.mk (HB.out.grown hg1 HB.out.size (fun k e => by cases e; exact HRI.out))
          have HR4 := Aside0.mk (Kd.R_grown1 HR.out rfl hg1 (iter_ne_row HI.out HR.out))
          have HO4 := Aside0.mk hi1
          have HX := Aside0.mk hx
          have HL1 := Aside0.mk hl1
          have HLT := Aside0.mk hlt1
          have hbnd : ((xs ++ ys).length + 1) * 16 ≤ 140737488355328 := by
            have e1 := HLE.out; have e2 := HYL.out; have e3 := lostLen_take L hlt; have e4 := lostLen_le L (k + 1); have e5 := HSUM.out
            rw [← HIT.out] at e3
            rw [List.length_append]; omega
          have HBND := Aside0.mk hbnd
          clear hen hi1 hx hl1 hlt1 hg1 hbnd hxM
          go_wp2_with (first | (at_builtin; refine Kd.R_append Kd.string (w0 := w) w.heap.size rfl _ _ 41 9 (.string ⟨#[]⟩) 16 rfl Try.underlying41 (by kernel_rfl) rfl (by decide) (by omega) u3 (xs ++ ys) x [.string x] (fun _ => True) (fun _ => False) rfl (by first | rfl | (go_simp; done)) rfl (fun _ hk => hk.elim) (fun _ _ => trivial) HR4.out HB4.out HB4.out.size HBND.out ?_; intro v5 w5 hr5 hb5 hg5 hat5; have HR5 := Aside0.mk hr5; have HB5 := Aside0.mk hb5; have HG5 := Aside0.mk hg5; clear hr5 hb5 hg5 hat5) | go_in)
          have n1 := own_ne_row HO4.out.own HR4.out
          have n2 := iter_ne_row HO4.out HR4.out
          have HL5 := Aside0.mk (HO4.out.left_grown HG5.out n1 n2)
          have HI5 := Aside0.mk (HO4.out.grown HG5.out n1 n2)
          clear n1 n2
          go_roundw
          case rel =>
            refine ⟨strikeL todo x, ys ++ [x], HI5, ⟨by have := HR5.out; rwa [List.append_assoc] at this⟩, ⟨fun z => ?_⟩, ⟨?_⟩, HB5⟩
            · rw [List.mem_append, HY.out, List.mem_singleton, mem_strikeL]
              have hin : x ∈ it.lost := by have := HI.out.sub x HX.out; rwa [keyed_keys] at this
              constructor
              · rintro (⟨h1, h2⟩ | rfl)
                · exact ⟨h1, fun h => h2 h.1⟩
                · exact ⟨hin, fun h => h.2 rfl⟩
              · rintro ⟨h1, h2⟩
                by_cases e : z = x
                · exact .inr e
                · exact .inl ⟨h1, fun h => h2 ⟨h, e⟩⟩
            · have := HYL.out; have := HL1.out
              rw [List.length_append, List.length_singleton]; omega
          case measure => rw [HL5.out]; exact HLT.out
    · have hltz : ¬ (k : Int) < (L.length : Int) := by omega
      have : k = L.length := by omega
      subst this
      have HM' := Aside0.mk (fun z => by
        have h1 := HM.out z
        rw [List.take_length] at h1
        exact h1.trans (lost_mem HS.out z) : ∀ z, z ∈ xs ↔ z ∈ namesS S)
      have hxl : xs.length < 4611686018427387904 := by have h1 := HLE.out; have h2 := HSUM.out; rw [List.take_length] at h1; omega
      have HSO := Aside0.mk (sort_row (srt := fun xs => xs.mergeSort fun x y => decide (x ≤ y)) (fun l => List.length_mergeSort l) (by simp) (fun p cap w => Any.slices_Sort_string_none Try.laysSortS p cap w) (fun blk off cap zs w h1 h2 h3 => Any.slices_Sort_string Try.laysSortS blk off cap zs w h1 h2 h3) (str_row HR.out) (by simpa using hxl))
      clear hxl
      go_wp2_with (go_at_call 67; refine HSO.out.mono ?_; rintro e w1 ⟨rfl, hr1, hg1⟩)
      have HB1 := Aside0.mk (HB.out.grown hg1 HB.out.size (fun k e => own_base (Kd.R_own HR.out).choose_spec k e))
      have HR1 := Aside0.mk hr1
      have HC := Aside0.mk (compact_rowG (enc := Proofs.encStr) [] (fun a cap w => Any.slices_Compact_string_empty Try.laysCompactS a cap w) (fun blk off cap zs w h1 h2 h3 => Any.slices_Compact_string Try.laysCompactS blk off cap zs w h1 h2 h3) hr1)
      clear hg1 hr1 HSO
      go_wp2_with fail
      refine HC.out.mono ?_
      rintro e w2 ⟨v2, rfl, hr2, hg2⟩
      go_wp2
      go_ret
      refine ⟨_, rfl, ?_, HB1.out.grown hg2 HB1.out.size (fun k e => own_base (Kd.R_own HR1.out).choose_spec k e)⟩
      have h3 := row_str hr2
      have e : (Lib.compact ((xs.map toBs).mergeSort fun x y => decide (x ≤ y))).map ofBs = riseB (namesS S) := by
        show (riseS (xs.map toBs)).map ofBs = (riseS ((namesS S).map toBs)).map ofBs
        rw [riseS_eq (l := xs.map toBs) (l' := (namesS S).map toBs)]
        intro z
        constructor
        · intro hz; obtain ⟨y, hy, rfl⟩ := List.mem_map.1 hz; exact List.mem_map.2 ⟨y, (HM'.out y).1 hy, rfl⟩
        · intro hz; obtain ⟨y, hy, rfl⟩ := List.mem_map.1 hz; exact List.mem_map.2 ⟨y, (HM'.out y).2 hy, rfl⟩
      rw [e] at h3
      exact h3
set_option maxHeartbeats 4000000 in
set_option maxRecDepth 100000 in
theorem park_Lost_nil (w : World) : Calls Try.prog 25 #[.pointer none] w fun e w' => e = .returned (.slice none 0 0) ∧ w' = w := by
  go_enter Try.func25, Try.ntmps25
  go_wp2
  go_ret
  exact ⟨rfl, rfl⟩
theorem pl_lost {w : World} {B p : Nat} {Z : Nat → Prop} {S : Lo} (h : PL w B Z p S) (hN : (namesS S).length < 8796093022207) :
    Calls Try.prog 25 #[.pointer (some ⟨p, 0, none⟩)] w fun e w' => ∃ v, e = .returned v ∧ Kd.string.R 9 w' w.heap.size (fun _ => True) v (riseB (namesS S)) ∧ Below w.heap.size w w' := park_Lost w h.lot hN

/-! ### heliastlaw20_ParkBusy: function 4 -/
-- GIVEN heliast/heliastlaw20.ParkBusy making uses heliast/heliastlaw20.known uses heliast/heliastref02.Strings uses (*heliast/park.Lot).Lost
open Go.Proofs.He
def nmB (j : Nat) : ByteArray := ⟨#[36]⟩ ++ strOfNums [(j : Int)]
theorem nmB_data (j : Nat) : (nmB j).data.toList = [36, UInt8.ofNat j] := by
  unfold nmB strOfNums
  simp [ByteArray.data_append]
theorem nmB_inj {i j : Nat} (hi : i < 256) (hj : j < 256) (h : nmB i = nmB j) : i = j := by
  have h1 := congrArg (fun b : ByteArray => b.data.toList) h
  simp only [nmB_data] at h1
  have h2 : UInt8.ofNat i = UInt8.ofNat j := by simpa using h1
  have h3 := congrArg UInt8.toNat h2
  simpa [UInt8.toNat_ofNat, Nat.mod_eq_of_lt hi, Nat.mod_eq_of_lt hj] using h3
theorem lit_u8 {w : World} {g base : Nat} {m : Int} (h : w.heap[g]? = some (.cells #[.int .u8 m] 5 (0, 0))) (hb : base ≤ g) : w.ownsRow base 5 1 (.slice (some ⟨g, 0, none⟩) 1 1) 1 (nums .u8 [m]) :=
  ⟨rfl, .inr ⟨g, 1, #[.int .u8 m], rfl, hb, h, Nat.le_refl _, by decide, rfl, rfl⟩⟩
def sB : ByteArray := ⟨#[36, 98]⟩
def evN (j : Nat) : Ev := ⟨nmB j, ⟨#[]⟩, 0⟩
def evNew : Ev := ⟨⟨#[36, 110, 101, 119]⟩, ⟨#[]⟩, 0⟩
def busyS (k : Nat) : Lo := (List.range (min k 64)).map fun j => (evN j, [sA])
theorem busy_len (k : Nat) : (busyS k).length = min k 64 := by simp [busyS]
theorem busy_has {i : Nat} (hi : i < 256) : hasS (busyS i) (nmB i) = false := by
  unfold hasS busyS
  rw [List.any_eq_false]
  intro a ha
  obtain ⟨j, hj, rfl⟩ := List.mem_map.1 ha
  rw [List.mem_range] at hj
  simp only [decide_eq_true_eq]
  intro e
  have := nmB_inj (by omega) hi e
  omega
theorem busy_put {i : Nat} (hi : i < 256) : putE (busyS i) (evN i) [sA] = (if i < 64 then 0 else 32) ∧ putS (busyS i) (evN i) [sA] = busyS (i + 1) := by
  have h0 : putE (busyS i) (evN i) [sA] = (if i < 64 then 0 else 32) := by
    unfold putE
    rw [show (evN i).id = nmB i from rfl, busy_has hi, if_neg (by decide), busy_len]
    by_cases h : i < 64
    · rw [if_neg (by omega), if_neg (by simp), if_pos h]
    · rw [if_pos (by omega), if_neg h]
  refine ⟨h0, ?_⟩
  unfold putS
  rw [h0]
  by_cases h : i < 64
  · rw [if_pos h, if_pos rfl]
    unfold busyS
    rw [show min (i + 1) 64 = min i 64 + 1 by omega, List.range_succ, List.map_append, show min i 64 = i by omega]; rfl
  · rw [if_neg h, if_neg (by decide)]
    unfold busyS
    rw [show min (i + 1) 64 = min i 64 by omega]
def busyT (n : Nat) : Lo := (List.range n).map fun j => (evN j, [])
theorem busy_came (k : Nat) : cameS (busyS k) sA = busyT (min k 64) := by
  unfold cameS busyS busyT
  rw [List.map_map]
  refine List.map_congr_left (fun j _ => ?_)
  simp
def busyU (n : Nat) : Lo := (List.range n).map fun j => (evN (j + 1), [])
theorem busy_take (n : Nat) : tookS (busyT (n + 1)) = true ∧ takeS (busyT (n + 1)) = busyU n := by
  have e : busyT (n + 1) = (evN 0, []) :: busyU n := by
    unfold busyT busyU
    rw [List.range_succ_eq_map, List.map_cons, List.map_map]; rfl
  rw [e]
  exact ⟨rfl, rfl⟩
theorem busy_new (n : Nat) (hn : n < 64) : putE (busyU n) evNew [sB] = 0 ∧ putS (busyU n) evNew [sB] = busyU n ++ [(evNew, [sB])] := by
  have h1 : hasS (busyU n) evNew.id = false := by
    unfold hasS busyU
    rw [List.any_eq_false]
    intro a ha
    obtain ⟨j, hj, rfl⟩ := List.mem_map.1 ha
    simp only [decide_eq_true_eq]
    intro e
    have := congrArg (fun b : ByteArray => b.data.toList) e
    rw [show (evN (j + 1), ([] : List ByteArray)).1.id = nmB (j + 1) from rfl] at this
    simp only [nmB_data] at this
    simp [evNew] at this
  have h0 : putE (busyU n) evNew [sB] = 0 := by
    unfold putE
    rw [h1, if_neg (by decide), if_neg (by simp [busyU]; omega), if_neg (by simp)]
  exact ⟨h0, by unfold putS; rw [h0, if_pos rfl]⟩
theorem busy_names (n : Nat) : namesS (busyU n ++ [(evNew, [sB])]) = [sB] := by
  unfold namesS
  rw [List.flatMap_append]
  have : (busyU n).flatMap (·.2) = [] := by
    unfold busyU
    rw [List.flatMap_eq_nil_iff]
    intro a ha
    obtain ⟨j, _, rfl⟩ := List.mem_map.1 ha; rfl
  rw [this]; rfl
theorem busy_rise (n : Nat) : riseB (namesS (busyU n ++ [(evNew, [sB])])) = [sB] := by
  rw [busy_names]; exact (riseB_uniq (l' := [sB]) (by simp) (fun x => Iff.rfl)).symm
theorem strings_l0 (l : List ByteArray) (hl : l.length < 9223372036854775807) : ∀ (j k : Nat), j ≤ l.length → l.length - j < k → heliastref02_Strings.l0 k l l j = some true
  | j, 0, _, h => by omega
  | j, k + 1, hj, h => by
    unfold heliastref02_Strings.l0
    by_cases e : j < l.length
    · rw [if_pos (by omega), if_pos (by omega), if_pos (by omega), if_pos rfl]
      have : wrap64 ((j : Int) + 1) = ((j + 1 : Nat) : Int) := by unfold wrap64; omega
      rw [this]
      exact strings_l0 l hl (j + 1) k (by omega) (by omega)
    · rw [if_neg (by omega)]
theorem strings_same (l : List ByteArray) (hl : l.length < 9223372036854775807) : heliastref02_Strings.f (l.length + 1) l l = some true := by
  unfold heliastref02_Strings.f
  rw [if_pos rfl]
  exact strings_l0 l hl 0 _ (by omega) (by omega)
set_option maxHeartbeats 8000000 in
set_option maxRecDepth 100000 in
theorem law20_ParkBusy.walk (k : Nat) (hk : k < 256) (w : World) : Calls Try.prog 4 #[.int .u8 k] w fun e w' => e = .returned (.bool true) ∧ Below w.heap.size w w' := by
  have hu46 := Try.underlying46
  have HKN := Aside0.mk (fun W => law20_known.walk W)
  have HKK := Aside0.mk hk
  obtain ⟨m, hm⟩ : ∃ m : Nat, m = 60 + k % 9 := ⟨_, rfl⟩
  have hm1 : 60 ≤ m := by omega
  have hm2 : m < 69 := by omega
  have HM := Aside0.mk hm
  clear hm
  go_enter Try.func4, Try.ntmps4
  go_wp2_with fail
  refine (pl_new w).mono ?_
  rintro e w1 ⟨rfl, hb1, hp1⟩
  have HB1 := Aside0.mk hb1
  have HP1 := Aside0.mk hp1
  have hs1 : w.heap.size < w1.heap.size := hp1.lt
  clear hb1 hp1
  go_wp2
  have hM : (60 + (k : Int) % 9) = (m : Int) := by have := HM.out; omega
  rw [hM]
  have HMM := Aside0.mk hM
  clear hM
  go_loopg [5, 6, 7] m (fun gg v5 v6 _ wr => ∃ (i : Nat) (Z : Nat → Prop), i ≤ m ∧ m - i ≤ gg ∧ v5 = .int .i64 ((min i 64 : Nat) : Int) ∧ v6 = .int .i64 (i : Int) ∧ Aside0 (PL wr w.heap.size Z w.heap.size (busyS i)) ∧ Aside0 (Below w.heap.size w wr))
  case atStart => exact ⟨0, _, Nat.zero_le _, by omega, rfl, rfl, HP1, HB1⟩
  case round =>
    obtain ⟨i, Z, hi, hg, rfl, rfl, HP, HB⟩ := hrel
    by_cases hlt : i < m
    · have hltz : (i : Int) < (m : Int) := by omega
      have hwrap : IntKind.u8.wrap (i : Int) = (i : Int) := by
        show (i : Int) % 256 = i
        omega
      have hcv := own_string (P := Try.prog) Try.underlying35 Try.underlying5 Try.underlying9 (lit_u8 (w := wr.alloc (Obj.cells #[.int .u8 (i : Int)] 5)) (heap_alloc_new wr _) (Nat.zero_le _))
      have hsz : 1 + (strOfNums [(i : Int)]).size ≤ 9223372036854775807 := by rw [strOfNums_size]; exact (by decide : (1 : Nat) + 1 ≤ 9223372036854775807)
      have hsz2 : (9223372036854775807 < 1 + (strOfNums [(i : Int)]).size) = False := eq_false (Nat.not_lt.2 hsz)
      obtain ⟨W1, hW1⟩ : ∃ W1, W1 = (wr.alloc (Obj.cells #[.int .u8 (i : Int)] 5)).alloc (Obj.cells #[.string sA] 9) := ⟨_, rfl⟩
      have hbW : Below wr.heap.size wr W1 := by rw [hW1]; exact ((Below.refl _ _).alloc (Nat.le_refl _) _).alloc (by simp) _
      have hl1 : W1.heap[wr.heap.size + 1]? = some (Obj.cells (([sA].map Value.string).toArray) 9 (0, 0)) := by
        have := heap_alloc_new (wr.alloc (Obj.cells #[.int .u8 (i : Int)] 5)) (Obj.cells #[.string sA] 9)
        rw [World.size_alloc] at this; rw [hW1]; exact this
      have hput := pl_put (HP.out.below hbW) (Nat.le_trans HB.out.size hbW.size) (evN i) _ 1 [sA] (C_lits [sA] hl1 (by decide)) (by decide) (by decide) (by decide)
      have hPL := HP.out.below hbW
      have HBW := Aside0.mk (below_then HB.out HB.out.size hbW)
      rw [(busy_put (by omega)).1, (busy_put (by omega)).2, hW1] at hput
      rw [hW1] at hPL HBW
      have HPW := Aside0.mk hPL
      clear hbW hl1 hW1 hPL
      by_cases h64 : i < 64
      · rw [if_pos h64] at hput
        have HPUT := Aside0.mk hput
        clear hput
        go_wp2_with fail
        refine HPUT.out.mono ?_
        rintro e w2 ⟨rfl, hk2, Z2, hp2, hg2⟩
        have HB2 := Aside0.mk (hk2.below HBW.out HBW.out.size (fun k _ hz => HPW.out.base k hz))
        have HP2 := Aside0.mk hp2
        have hmin : min i 64 = i := by omega
        have hmin2 : min (i + 1) 64 = i + 1 := by omega
        clear hk2 hp2 hg2
        rw [hmin]
        go_wp2
        go_roundg (m - (i + 1))
        case measure => omega
        case rel => exact ⟨i + 1, Z2, by omega, by omega, by rw [hmin2]; go_num, by go_num, HP2, HB2⟩
      · rw [if_neg h64] at hput
        have HPUT := Aside0.mk hput
        clear hput
        go_wp2_with fail
        refine HPUT.out.mono ?_
        rintro e w2 ⟨rfl, hk2, Z2, hp2, hg2⟩
        have HB2 := Aside0.mk (hk2.below HBW.out HBW.out.size (fun k _ hz => HPW.out.base k hz))
        have HP2 := Aside0.mk hp2
        have hmin : min i 64 = 64 := by omega
        have hmin2 : min (i + 1) 64 = 64 := by omega
        clear hk2 hp2 hg2
        rw [hmin]
        go_wp2
        go_roundg (m - (i + 1))
        case measure => omega
        case rel => exact ⟨i + 1, Z2, by omega, by omega, by rw [hmin2]; go_num, by go_num, HP2, HB2⟩
    · have hltz : ¬ (i : Int) < (m : Int) := by omega
      have : i = m := by omega
      subst this
      obtain ⟨n, hn⟩ : ∃ n, n + 1 = min i 64 := ⟨min i 64 - 1, by omega⟩
      have hn1 : n < 64 := by omega
      have hn2 : 59 ≤ n := by omega
      rw [← hn]
      have hca := pl_came HP.out sA (by decide)
      rw [busy_came, ← hn] at hca
      have HCA := Aside0.mk hca
      have HN := Aside0.mk hn
      clear hca hn
      go_wp2_with fail
      refine HCA.out.mono ?_
      rintro e w2 ⟨rfl, hk2, hp2⟩
      have HB2 := Aside0.mk (hk2.below HB.out HB.out.size (fun k _ hz => HP.out.base k hz))
      have HP2 := Aside0.mk hp2
      have hta := pl_take hp2
      rw [(busy_take n).1, (busy_take n).2] at hta
      obtain ⟨xt, hxt⟩ : ∃ xt, xt = takeX (busyT (n + 1)) := ⟨_, rfl⟩
      rw [← hxt] at hta
      unfold evV at hta
      have HTA := Aside0.mk hta
      clear hk2 hp2 hta HCA HB hxt
      go_wp2_with fail
      refine HTA.out.mono ?_
      rintro e w3 ⟨rfl, hk3, hp3⟩
      have HB3 := Aside0.mk (hk3.below HB2.out HB2.out.size (fun k _ hz => HP2.out.base k hz))
      obtain ⟨W1, hW1⟩ : ∃ W1, W1 = (w3.alloc (Obj.cells (evL xt).toArray 46)).alloc (Obj.cells #[.string sB] 9) := ⟨_, rfl⟩
      have hbW : Below w3.heap.size w3 W1 := by rw [hW1]; exact ((Below.refl _ _).alloc (Nat.le_refl _) _).alloc (by simp) _
      have hl1 : W1.heap[w3.heap.size + 1]? = some (Obj.cells (([sB].map Value.string).toArray) 9 (0, 0)) := by
        have := heap_alloc_new (w3.alloc (Obj.cells (evL xt).toArray 46)) (Obj.cells #[.string sB] 9)
        rw [World.size_alloc] at this; rw [hW1]; exact this
      have hput := pl_put (hp3.below hbW) (Nat.le_trans HB3.out.size hbW.size) evNew _ 1 [sB] (C_lits [sB] hl1 (by decide)) (by decide) (by decide) (by decide)
      have hPL := hp3.below hbW
      have HBW := Aside0.mk (below_then HB3.out HB3.out.size hbW)
      rw [(busy_new n hn1).1, (busy_new n hn1).2, hW1] at hput
      rw [hW1] at hPL HBW
      have HPW := Aside0.mk hPL
      have HPUT := Aside0.mk hput
      clear hbW hl1 hW1 hPL hput hk3 hp3 HB2 HP2 HB3 HTA
      go_wp2_with fail
      refine HPUT.out.mono ?_
      rintro e w4 ⟨rfl, hk4, Z4, hp4, hg4⟩
      have HB4 := Aside0.mk (hk4.below HBW.out HBW.out.size (fun k _ hz => HPW.out.base k hz))
      have HP4 := Aside0.mk hp4
      clear hk4 hp4 hg4 HPUT
      go_wp2_with fail
      refine (HKN.out _).mono ?_
      rintro e w5 ⟨rfl, hb5⟩
      have HB5 := Aside0.mk (below_then HB4.out HB4.out.size hb5)
      have hp5 := HP4.out.below hb5
      have HLE := Aside0.mk (pl_len hp5)
      rw [show ((busyU n ++ [(evNew, [sB])] : Lo).length : Int) = (n : Int) + 1 by simp [busyU]] at HLE
      have hlo := pl_lost hp5 (by rw [busy_names]; decide)
      rw [busy_rise] at hlo
      have HLO := Aside0.mk hlo
      have hmin : min (i : Int) 64 = (n : Int) + 1 := by have := HN.out; omega
      clear hb5 hp5 hlo HB4 HP4
      go_wp2_with fail
      all_goals
        refine HLE.out.mono ?_
        rintro e w6 ⟨rfl, rfl⟩
        go_wp2_with fail
        refine HLO.out.mono ?_
        rintro e w7 ⟨v7, rfl, hr7, hb7⟩
        obtain ⟨A7, c7, rfl, hc7, hC7⟩ := Kd.R_reads hr7
        have hba := (Below.refl w7.heap.size w7).alloc (Nat.le_refl _) (Obj.cells #[.string sB] 9)
        have HS7 := Aside0.mk (heliastref02_Strings.calls 2 A7 c7 [sB] (some ⟨w7.heap.size, 0, none⟩) 1 [sB] true (w7.alloc (Obj.cells #[.string sB] 9)) (Kd.C_below hC7 hba) hc7 (C_lits [sB] (heap_alloc_new w7 _) (by decide)) (by decide) (strings_same [sB] (by decide)))
        have HB7 := Aside0.mk (below_then (below_then HB5.out HB5.out.size hb7) (Nat.le_trans HB5.out.size hb7.size) hba)
        clear hr7 hb7 hC7 hba
        go_wp2_with fail
        refine HS7.out.mono ?_
        rintro e w8 ⟨rfl, hd8⟩
        go_wp2
        go_ret
        exact ⟨rfl, below_then HB7.out HB7.out.size hd8.below⟩
theorem wf_byte {a : Int} (h : (Lit.int .u8 a).wf = true) : ∃ n : Nat, a = n ∧ n < 256 := by
  have h1 : 0 ≤ a ∧ a < 256 := by
    simp only [Lit.wf, Bool.and_eq_true, decide_eq_true_eq] at h
    have h1 : (0 : Int) ≤ a := h.1
    have h2 : a ≤ (255 : Int) := h.2
    omega
  exact ⟨a.toNat, by omega, by omega⟩
theorem heliastlaw20_ParkBusy.calls (k : Nat) (a0 : Int) (r : Bool) (w : World) (h : (Lit.int .u8 a0).wf = true) (hlaw : r = true) :
    Calls Try.prog 4 #[.int .u8 a0] w fun e w' => e = .returned (.bool r) ∧ Below w.heap.size w w' := by
  subst hlaw
  obtain ⟨n, rfl, hn⟩ := wf_byte h
  exact law20_ParkBusy.walk n hn w

end Go.Proofs.Ytmmalieacakcbaa.S

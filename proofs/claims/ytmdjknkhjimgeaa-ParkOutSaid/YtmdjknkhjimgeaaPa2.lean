-- Written by heprint.py (this session's, over the kit's print.py): not trusted, Lean checks it.
import Derived.Test.YtmdjknkhjimgeaaPa0
import Derived.Test.YtmdjknkhjimgeaaPa1
namespace Go.Proofs.Ytmdjknkhjimgeaa.S
open Go.RowKit Go.Proofs.YtmdjknkhjimgeaaW.PrintWords Go.Proofs.YtmdjknkhjimgeaaW.PrintLast Go.Proofs.YtmdjknkhjimgeaaW.PrintMore
attribute [local go_sem] max2_int min2_int max_two min_two max_three min_three max_four min_four   -- for this text's walks alone
set_option linter.unusedVariables false
set_option linter.unusedSimpArgs false

/-! ### heliastlaw20_known: function 16 -/
-- GIVEN heliast/heliastlaw20.known making uses heliast/park.New
open Go.Proofs.He
def sA : ByteArray := ⟨#[36, 97]⟩
def evX : Ev := ⟨⟨#[36, 120]⟩, ⟨#[]⟩, 0⟩
theorem kn20_1 : putE [] evX [sA] = 0 ∧ putS [] evX [sA] = [(evX, [sA])] := ⟨rfl, rfl⟩
theorem kn20_2 : tookS [(evX, [sA])] = false ∧ takeX [(evX, [sA])] = evZ ∧ takeS [(evX, [sA])] = [(evX, [sA])] := ⟨rfl, rfl, rfl⟩
theorem evV_X : evV evX = .agg #[.string ⟨#[36, 120]⟩, .string ⟨#[]⟩, .string ⟨#[]⟩, .bool false, .string ⟨#[]⟩, .string ⟨#[]⟩, .slice none 0 0, .slice none 0 0, .int .i64 0, .int .i64 0, .int .i64 0, .int .i64 0, .string ⟨#[]⟩, .slice none 0 0, .slice none 0 0] := rfl
theorem evV_Z : evV evZ = .agg #[.string ⟨#[]⟩, .string ⟨#[]⟩, .string ⟨#[]⟩, .bool false, .string ⟨#[]⟩, .string ⟨#[]⟩, .slice none 0 0, .slice none 0 0, .int .i64 0, .int .i64 0, .int .i64 0, .int .i64 0, .string ⟨#[]⟩, .slice none 0 0, .slice none 0 0] := rfl
theorem kn20_3 : cameS [(evX, [sA])] sA = [(evX, [])] := by
  simp [cameS]
theorem kn20_4 : tookS [(evX, [])] = true ∧ takeX [(evX, [])] = evX ∧ takeS [(evX, [])] = [] := ⟨rfl, rfl, rfl⟩
theorem kn20_5 : putE [] evX [] = 1 ∧ putS [] evX [] = [] := ⟨rfl, rfl⟩
theorem C_lits {W : World} {g : Nat} {t : TypeId} (l : List ByteArray) (hg : W.heap[g]? = some (.cells (l.map Value.string).toArray t (0, 0))) (hm : l.length ≤ 9223372036854775807) : Kd.string.C W (some ⟨g, 0, none⟩) l.length l :=
  Flat.C_mk (flatScalar _ _) hm (fun j u hj => by
    rw [add_plain, blk_cell hg]
    rw [flatMap_one] at hj
    simpa using hj)
theorem C_noneS (W : World) : Kd.string.C W none ([] : List ByteArray).length [] := ⟨rfl, by simp, fun h => by simp at h⟩
set_option maxHeartbeats 8000000 in
set_option maxRecDepth 100000 in
theorem law20_known.walk (w : World) : Calls Try.prog 16 #[] w fun e w' => e = .returned (.bool true) ∧ Below w.heap.size w w' := by
  have hu46 := Try.underlying34
  go_enter Try.func16, Try.ntmps16
  go_wp2_with fail
  refine (pl_new w).mono ?_
  rintro e w1 ⟨rfl, hb1, hp1⟩
  have hs1 : w.heap.size < w1.heap.size := hp1.lt
  obtain ⟨W1, hW1⟩ : ∃ W1, W1 = (w1.alloc (Obj.cells (evL evX).toArray 34)).alloc (Obj.cells #[.string sA] 9) := ⟨_, rfl⟩
  have hbW : Below w1.heap.size w1 W1 := by rw [hW1]; exact ((Below.refl _ _).alloc (Nat.le_refl _) _).alloc (by simp) _
  have hx1 : W1.heap[w1.heap.size]? = some (Obj.cells (evL evX).toArray 34 (0, 0)) := by rw [hW1]; exact (heap_alloc_old _ _ (by simp)).trans (heap_alloc_new w1 _)
  have hl1 : W1.heap[w1.heap.size + 1]? = some (Obj.cells (([sA].map Value.string).toArray) 9 (0, 0)) := by
    have := heap_alloc_new (w1.alloc (Obj.cells (evL evX).toArray 34)) (Obj.cells #[.string sA] 9)
    rw [World.size_alloc] at this; rw [hW1]; exact this
  have hput := (pl_put (hp1.below hbW) (Nat.le_trans hb1.size hbW.size) evX _ 1 [sA] (C_lits [sA] hl1 (by decide)) (by decide) (by decide) (by decide))
  rw [kn20_1.1, kn20_1.2, hW1] at hput
  have HPUT := Aside0.mk hput
  have HB1 := Aside0.mk (below_then hb1 hb1.size hbW)
  have HX1 := Aside0.mk hx1
  have HW1 := Aside0.mk hW1
  have HP1 := Aside0.mk hp1
  have hsW : w1.heap.size + 2 = W1.heap.size := by rw [hW1]; simp
  have HSW := Aside0.mk hsW
  clear hb1 hp1 hx1 hl1 hbW hW1 hsW hput
  go_wp2_with fail
  refine HPUT.out.mono ?_
  rintro e w2 ⟨rfl, hk2, Z2, hp2, hg2⟩
  rw [← HW1.out] at hk2 hg2
  have hz2 : ∀ k, k < W1.heap.size → k ≠ w.heap.size → ¬ Z2 k := fun k hk hn hz => hn (hg2 k hk hz)
  have hbx : ¬ Z2 w1.heap.size := hz2 _ (by have := HSW.out; omega) (by omega)
  have HBX := Aside0.mk hbx
  have HX2 := Aside0.mk ((hk2.block w1.heap.size (by have := HSW.out; omega) (by omega)).trans HX1.out)
  have HB2 := Aside0.mk (hk2.below HB1.out (Nat.le_trans HB1.out.size (Nat.le_refl _)) (fun k hk hz => by omega))
  have HP2 := Aside0.mk hp2
  have hta := pl_take hp2
  rw [kn20_2.1, kn20_2.2.1, kn20_2.2.2, evV_Z] at hta
  have HT2 := Aside0.mk hta
  clear hk2 hp2 hg2 hz2 hbx hta HPUT HW1 HX1 HB1 HP1 HSW
  go_wp2_with fail
  refine HT2.out.mono ?_
  rintro e w3 ⟨rfl, hk3, hp3⟩
  have hx3 := (hk3.block w1.heap.size (blk_lt HX2.out) HBX.out).trans HX2.out
  have hb3 := hk3.below HB2.out HB2.out.size (fun k hk hz => HP2.out.base k hz)
  have hba := (Below.refl w3.heap.size w3).alloc (Nat.le_refl _) (Obj.cells (evL evZ).toArray 34)
  have HC3 := Aside0.mk (pl_came (hp3.below hba) sA (by decide))
  have HX3 := Aside0.mk (blk_alloc hx3 (Obj.cells (evL evZ).toArray 34))
  have HB3 := Aside0.mk (below_then hb3 hb3.size hba)
  have HP3 := Aside0.mk (hp3.below hba)
  clear hk3 hp3 hx3 hb3 hba HX2 HB2 HP2 HT2
  go_wp2_with fail
  refine HC3.out.mono ?_
  rintro e w4 ⟨rfl, hk4, hp4⟩
  have hx4 := (hk4.block w1.heap.size (blk_lt HX3.out) HBX.out).trans HX3.out
  have hb4 := hk4.below HB3.out HB3.out.size (fun k hk hz => HP3.out.base k hz)
  rw [kn20_3] at hp4
  have hta := pl_take hp4
  rw [kn20_4.1, kn20_4.2.1, kn20_4.2.2, evV_X] at hta
  have HT4 := Aside0.mk hta
  have HX4 := Aside0.mk hx4
  have HB4 := Aside0.mk hb4
  have HP4 := Aside0.mk hp4
  clear hk4 hp4 hx4 hb4 HX3 HB3 HP3 HC3 hta
  go_wp2_with fail
  refine HT4.out.mono ?_
  rintro e w5 ⟨rfl, hk5, hp5⟩
  have hx5 := (hk5.block w1.heap.size (blk_lt HX4.out) HBX.out).trans HX4.out
  have hb5 := hk5.below HB4.out HB4.out.size (fun k hk hz => HP4.out.base k hz)
  have hba := (Below.refl w5.heap.size w5).alloc (Nat.le_refl _) (Obj.cells (evL evX).toArray 34)
  have hput := pl_put (hp5.below hba) (Nat.le_trans hb5.size hba.size) evX none 0 [] (C_noneS _) (by decide) (by simp) (by decide)
  rw [kn20_5.1, kn20_5.2] at hput
  have HPUT := Aside0.mk hput
  have HB5 := Aside0.mk (below_then hb5 hb5.size hba)
  have hl5 := blk_lt hx5
  obtain ⟨g0, g1, g2, g3, g4, g5, g6, g7, g8, g9, g10, g11, g12, g13, g14⟩ := evL_cells (l := []) hx5
  have HP5 := Aside0.mk (hp5.below hba)
  clear hk5 hp5 hx5 hb5 hba HX4 HB4 HP4 HT4 hput
  go_wp2_with fail
  refine HPUT.out.mono ?_
  rintro e w6 ⟨rfl, hk6, Z6, hp6, hg6⟩
  have hb6 := hk6.below HB5.out HB5.out.size (fun k hk hz => HP5.out.base k hz)
  have HB6 := Aside0.mk hb6
  have HL6 := Aside0.mk (pl_len hp6)
  clear hk6 hp6 hg6 hb6 g0 g1 g2 g3 g4 g5 g6 g7 g8 g9 g10 g11 g12 g13 g14
  go_wp2_with fail
  refine HL6.out.mono ?_
  rintro e w7 ⟨rfl, rfl⟩
  go_wp2
  go_ret
  exact ⟨rfl, HB6.out⟩
def heliastlaw20_known.f : Option Bool := some true
theorem heliastlaw20_known.calls (r : Bool) (w : World) (h : heliastlaw20_known.f = some r) :
    Calls Try.prog 16 #[] w fun e w' => e = .returned (.bool r) ∧ Below w.heap.size w w' := by
  obtain rfl := Option.some.inj h
  exact law20_known.walk w

/-! ### heliastlaw20_Name: function 13 -/
def heliastlaw20_Name.f (a0 : Int) : Option (ByteArray) := (some (([(97 + (Int.tmod a0 9)) % 256] : List Int) : List Int)).bind fun y101 => (if 1 + (strOfNums y101).size ≤ 9223372036854775807 then (some ((⟨#[36]⟩ : ByteArray) ++ (strOfNums y101))) else (none))
set_option maxHeartbeats 8000000 in
set_option maxRecDepth 100000 in
theorem heliastlaw20_Name.calls (a0 : Int) (r : ByteArray) (w : World) (h : heliastlaw20_Name.f a0 = some r) :
    Calls Try.prog 13 #[.int .u8 a0] w fun e w' => e = .returned (.string r) ∧ Below w.heap.size w w' := by
  have HB := Aside0.mk (Below.refl w.heap.size w)
  have H : ((some (([(97 + (Int.tmod a0 9)) % 256] : List Int) : List Int)).bind fun y101 => (if 1 + (strOfNums y101).size ≤ 9223372036854775807 then (some ((⟨#[36]⟩ : ByteArray) ++ (strOfNums y101))) else (none))) = some r := h
  clear h
  obtain ⟨y101, hy101⟩ : ∃ y_ : List Int, y_ = (([(97 + (Int.tmod a0 9)) % 256] : List Int)) := ⟨_, rfl⟩
  replace H : (if 1 + (strOfNums y101).size ≤ 9223372036854775807 then (some ((⟨#[36]⟩ : ByteArray) ++ (strOfNums y101))) else (none)) = some r := by first | (rw [hy101]; with_reducible exact H) | (have H2_ := (Option.bind_some _ _).symm.trans H; rw [hy101]; with_reducible exact H2_) | (have H2_ := (Option.bind_some _ _).symm.trans H; with_reducible exact H2_) | with_reducible exact H | (rw [hy101]; exact H) | exact H
  have Ny101 := Aside0.mk hy101
  clear hy101
  by_cases c2 : 1 + (strOfNums y101).size ≤ 9223372036854775807
  · rw [if_pos c2] at H
    have c2b0 := eq_true c2
    have c2b1 : decide (1 + (strOfNums y101).size ≤ 9223372036854775807) = true := decide_eq_true c2
    try have c2b2 : (9223372036854775807 < 1 + (strOfNums y101).size) = False := eq_false (Nat.not_lt.2 c2)
    obtain rfl := Option.some.inj H
    go_enter Try.func13, Try.ntmps13
    go_wp2_with (first | ((with_reducible refine gate_dst (N := 6) rfl ?_); refine Kd.R_lit (Kd.int .u8) _ 5 ?hg (N := 6) ?hd (xs := ([(97 + (Int.tmod a0 9)) % 256] : List Int)) (inner := [.int .u8 ((97 + (Int.tmod a0 9)) % 256)]) (ok := fun _ => True) (okp := fun _ => True) ?hr ?hp (fun _ hk => hk) trivial (Below.refl _ _) (Nat.le_refl _) (by simp) ?_; (case hd => rfl); (case hg => rfl); (case hr => first | (go_simp; done) | (go_simp; rfl)); (case hp => exact (Reps.one (show Kd.M (Kd.int .u8) _ _ _ ((97 + (Int.tmod a0 9)) % 256) [.int .u8 ((97 + (Int.tmod a0 9)) % 256)] from rfl) (Reps.none _ _))); intro v102 w3 ho4 hb hg_ hnew_; clear hg_ hnew_; (first | rw [← Ny101.out] at ho4 | (simp only [Int.reduceToNat] at ho4; rw [← Ny101.out] at ho4)); have n0_ := Aside0.mk (Kd.R_lower ho4 (below_size (by repeat (first | (with_reducible first | exact HB.out | apply below_alloc | apply pw_below_drewN | apply below_drew1) | exact HB.out)))); have n1_ := Aside0.mk (below_step (by repeat (first | (with_reducible first | exact HB.out | apply below_alloc | apply pw_below_drewN | apply below_drew1) | exact HB.out)) hb); clear HB; have HO103 := n0_; have HB := n1_; clear n0_ n1_; clear hb ho4; have hcv5 := own_string (P := Try.prog) Try.underlying23 Try.underlying5 Try.underlying9 (Kd.own_of_R HO103.out)))
    go_ret
    exact ⟨by first | rfl | (simp [errW_none, errW_some] <;> rfl) | (simp [*, errW_none, errW_some] <;> rfl), by repeat (first | (with_reducible first | exact HB.out | apply below_alloc | apply pw_below_drewN | apply below_drew1) | exact HB.out)⟩
  · rw [if_neg c2] at H
    exact absurd H (by simp)

/-! ### heliastlaw20_list: function 11 -/
def heliastlaw20_list.l0 : Nat → List Int → List ByteArray → Int → Option (List ByteArray)
  | 0, _, _, _ => none
  | k + 1, x0, x3, x4 => if x4 < (x0.length : Int) then (if x4 < 5 then (if 0 ≤ x4 then ((heliastlaw20_Name.f (rd x0 x4)).bind fun t105 => (if x3.length < 8796093022208 then (heliastlaw20_list.l0 k x0 (x3 ++ [t105]) (wrap64 (x4 + 1))) else (none))) else (none)) else (some x3)) else (some x3)
def heliastlaw20_list.f (k : Nat) (l0 : List Int) : Option (List ByteArray) := heliastlaw20_list.l0 k l0 ([] : List ByteArray) 0
theorem heliastlaw20_list.mono_l : ∀ k, (∀ y0 y1 y2, LeO (heliastlaw20_list.l0 k y0 y1 y2) (heliastlaw20_list.l0 (k + 1) y0 y1 y2))
  | 0 => fun _ _ _ r h => by simp [heliastlaw20_list.l0] at h
  | k + 1 => by
    have ih0 := heliastlaw20_list.mono_l k
    · intro y0 y1 y2
      unfold heliastlaw20_list.l0
      repeat' first
      | (with_reducible exact ih0 _ _ _)
      | (with_reducible exact LeO.refl _)
      | (with_reducible exact LeO.none _)
      | (with_reducible refine LeO.ite ?_ ?_)
      | (with_reducible refine LeO.bind ?_ (fun _ => ?_))
      | exact ih0 _ _ _
      | exact LeO.none _
      | refine LeO.ite ?_ ?_
      | refine LeO.bind ?_ (fun _ => ?_)
theorem heliastlaw20_list.mono : ∀ a0 k, LeO (heliastlaw20_list.f k a0) (heliastlaw20_list.f (k + 1) a0) := by
  intro a0 k
  have ih0 := heliastlaw20_list.mono_l k
  unfold heliastlaw20_list.f
  repeat' first
      | (with_reducible exact ih0 _ _ _)
      | (with_reducible exact LeO.refl _)
      | (with_reducible exact LeO.none _)
      | (with_reducible refine LeO.ite ?_ ?_)
      | (with_reducible refine LeO.bind ?_ (fun _ => ?_))
      | exact ih0 _ _ _
      | exact LeO.none _
      | refine LeO.ite ?_ ?_
      | refine LeO.bind ?_ (fun _ => ?_)
set_option maxHeartbeats 8000000 in
set_option maxRecDepth 100000 in
theorem heliastlaw20_list.calls (k : Nat) (A0 : Option Addr) (c0 : Nat) (l0 : List Int) (r : List ByteArray) (w : World) (hr0 : Kd.C (Kd.int .u8) w A0 l0.length l0) (hc0 : l0.length ≤ c0) (h : heliastlaw20_list.f k l0 = some r) :
    Calls Try.prog 11 #[.slice A0 l0.length c0] w fun e w' => ∃ v0_ : Value, e = .returned (v0_) ∧ Kd.R Kd.string 9 w' w.heap.size (fun _ => True) v0_ r ∧ Below w.heap.size w w' := by
  have HR0 := Aside0.mk hr0
  have HC0 := Aside0.mk hc0
  clear hr0 hc0
  have HB := Aside0.mk (Below.refl w.heap.size w)
  have H : (heliastlaw20_list.l0 k l0 ([] : List ByteArray) 0) = some r := h
  clear h
  have H' := Aside0.mk H
  clear H
  go_enter Try.func11, Try.ntmps11
  go_wp2
  go_loopg [3, 4] k (fun kq v3 v4 w' => ∃ (x3_1 : List ByteArray) (x4_1 : Int), v4 = .int .i64 x4_1 ∧ Aside0 (heliastlaw20_list.l0 kq l0 x3_1 x4_1 = some r) ∧ Aside0 (kq ≤ k) ∧ Aside0 (Kd.R Kd.string 9 w' w.heap.size (fun _ => True) v3 x3_1) ∧ Aside0 (Below w.heap.size w w'))
  case atStart => exact ⟨(([] : List ByteArray)), (0), (by first | rfl | (simp; done) | (simp [*]; done)), H', ⟨Nat.le_refl _⟩, ⟨by first | exact Kd.R_nil _ _ _ _ _ | exact Kd.N_nil _ _ _ _ _ | exact Kd.V_nil _ _ _ _ _ | exact Kd.Q_nil _ _ _ _ _ | exact Kd.S_nil _ _ _ _ _⟩, ⟨by repeat (first | (with_reducible first | exact HB.out | apply below_alloc | apply pw_below_drewN | apply below_drew1) | exact HB.out)⟩⟩
  case round =>
    clear H'
    try clear c1
    obtain ⟨x3_1, x4_1, rfl, HA, HK1, HO_3, HB⟩ := hrel
    cases gk with
    | zero => exact absurd HA.out (by simp [heliastlaw20_list.l0])
    | succ k1 =>
      have H := HA.out
      clear HA
      simp only [heliastlaw20_list.l0] at H
      by_cases c2 : x4_1 < (l0.length : Int)
      · rw [if_pos c2] at H
        have c2b0 : decide (x4_1 < (l0.length : Int)) = true := decide_eq_true c2
        clear c2
        by_cases c3 : x4_1 < 5
        · rw [if_pos c3] at H
          have c3b0 : decide (x4_1 < 5) = true := decide_eq_true c3
          clear c3
          by_cases c4 : 0 ≤ x4_1
          · rw [if_pos c4] at H
            have c4b0 : decide (0 ≤ x4_1) = true := decide_eq_true c4
            clear c4
            replace H := Option.bind_eq_some_iff.mp H
            obtain ⟨t105, A50, H⟩ := H
            replace H : (if x3_1.length < 8796093022208 then (heliastlaw20_list.l0 k1 l0 (x3_1 ++ [t105]) (wrap64 (x4_1 + 1))) else (none)) = some r := H
            have A5 := Aside0.mk A50
            clear A50
            by_cases c6 : x3_1.length < 8796093022208
            · rw [if_pos c6] at H
              have LMc6 := Aside0.mk c6
              clear c6
              obtain ⟨y106, hy106⟩ : ∃ y_ : List ByteArray, y_ = (x3_1 ++ [t105]) := ⟨_, rfl⟩
              replace H : (heliastlaw20_list.l0 k1 l0 y106 (wrap64 (x4_1 + 1))) = some r := by first | (rw [hy106]; with_reducible exact H) | (have H2_ := (Option.bind_some _ _).symm.trans H; rw [hy106]; with_reducible exact H2_) | (have H2_ := (Option.bind_some _ _).symm.trans H; with_reducible exact H2_) | with_reducible exact H | (rw [hy106]; exact H) | exact H
              have Ny106 := Aside0.mk hy106
              clear hy106
              have H' := Aside0.mk H
              clear H
              have p104 : 0 ≤ (x4_1 : Int) := of_decide_eq_true (by first | (with_reducible assumption) | assumption)
              have q104 : x4_1 < (l0.length : Int) := of_decide_eq_true (by first | (with_reducible assumption) | assumption)
              obtain ⟨ad104, e104, hx104_0⟩ := Kd.at_int HR0.out x4_1 p104 q104
              cases e104
              replace hx104_0 := (HB.out.cell (World.block_lt_of_cell? w _ hx104_0)).trans hx104_0
              replace p104 := eq_true p104
              replace q104 := eq_true q104
              go_wp2_with (first | ((with_reducible refine gate_callee (f := 13) rfl ?_); refine goesL_ (some 20) rfl rfl Try.func13 (by kernel_rfl) rfl #[.int .u8 (rd l0 x4_1)] rfl (by (try simp only [List.map_toArray, List.map_cons, List.map_nil]); first | done | rfl | (simp only [List.length_drop, List.length_take]; rfl)) ?_; (with_reducible refine (heliastlaw20_Name.calls (rd l0 x4_1) t105 _ A5.out).mono ?_); rintro e w7 ⟨rfl, hb⟩; refine ⟨_, rfl, ?_⟩; have n0_ := Aside0.mk (Kd.R_below (by (with_reducible repeat (first | apply Kd.R_alloc | apply Kd.R_drewN | apply Kd.R_drew)); exact HO_3.out) hb); have n1_ := Aside0.mk (below_step (by repeat (first | (with_reducible first | exact HB.out | apply below_alloc | apply pw_below_drewN | apply below_drew1) | exact HB.out)) hb); clear HO_3; clear HB; have HO_3 := n0_; have HB := n1_; clear n0_ n1_; (try clear hb); (try clear hb2); (try clear hk); (try clear hi)) | ((with_reducible refine gate_builtin (b := .append) (xs := #[.tmp 15, .tmp 21]) rfl ?_); at_builtin; refine Kd.R_append Kd.string (w0 := w) w.heap.size rfl (.tmp 15) (.tmp 21) 29 9 (.string ⟨#[]⟩) 16 rfl Try.underlying29 info9 rfl (by decide) (by omega) u3 x3_1 t105 [.string t105] (fun _ => True) (fun _ => False) rfl rfl ?aP (fun _ hk => hk.elim) ?aF ?aO ?aB ?aS ?aL ?_; (case aP => exact rfl); (case aB => exact (by repeat (first | (with_reducible first | exact HB.out | apply below_alloc | apply pw_below_drewN | apply below_drew1) | exact HB.out))); (case aF => exact (fun _ _ => trivial)); (case aO => exact (by (with_reducible repeat (first | apply Kd.R_alloc | apply Kd.R_drewN | apply Kd.R_drew)); exact HO_3.out)); (case aS => exact (below_size (by repeat (first | (with_reducible first | exact HB.out | apply below_alloc | apply pw_below_drewN | apply below_drew1) | exact HB.out)))); (case aL => have := LMc6.out; omega); intro v107 w8 ho hb hg hat; rw [← Ny106.out] at ho; have n0_ := Aside0.mk (hb); have n1_ := Aside0.mk (ho); clear HB; clear HO_3; have HB := n0_; have HO108 := n1_; clear n0_ n1_; clear ho hb hg hat))
              go_roundg k1
              case measure => have := HK1.out; omega
              case rel => exact ⟨(y106), (wrap64 (x4_1 + 1)), (by first | rfl | (simp; done) | (simp [*]; done)), H', ⟨by have := HK1.out; omega⟩, ⟨by (with_reducible repeat (first | apply Kd.R_alloc | apply Kd.R_drewN | apply Kd.R_drew)); exact HO108.out⟩, ⟨by repeat (first | (with_reducible first | exact HB.out | apply below_alloc | apply pw_below_drewN | apply below_drew1) | exact HB.out)⟩⟩
            · rw [if_neg c6] at H
              exact absurd H (by simp)
          · rw [if_neg c4] at H
            exact absurd H (by simp)
        · rw [if_neg c3] at H
          have c3b0 : decide (x4_1 < 5) = false := decide_eq_false c3
          clear c3
          obtain rfl := Option.some.inj H
          go_wp2
          go_ret
          exact ⟨_, by first | rfl | (simp [errW_none, errW_some] <;> rfl) | (simp [*, errW_none, errW_some] <;> rfl), by (with_reducible repeat (first | apply Kd.R_alloc | apply Kd.R_drewN | apply Kd.R_drew)); exact HO_3.out, by repeat (first | (with_reducible first | exact HB.out | apply below_alloc | apply pw_below_drewN | apply below_drew1) | exact HB.out)⟩
      · rw [if_neg c2] at H
        have c2b0 : decide (x4_1 < (l0.length : Int)) = false := decide_eq_false c2
        clear c2
        obtain rfl := Option.some.inj H
        go_wp2
        go_ret
        exact ⟨_, by first | rfl | (simp [errW_none, errW_some] <;> rfl) | (simp [*, errW_none, errW_some] <;> rfl), by (with_reducible repeat (first | apply Kd.R_alloc | apply Kd.R_drewN | apply Kd.R_drew)); exact HO_3.out, by repeat (first | (with_reducible first | exact HB.out | apply below_alloc | apply pw_below_drewN | apply below_drew1) | exact HB.out)⟩

/-! ### park_one: function 75 -/
-- GIVEN slices.IndexFunc[[]*heliast/park.one,*heliast/park.one] making uses heliast/heliastlaw20.list uses heliast/heliastlaw20.Name
open Go.Proofs.He
theorem lit_u8 {w : World} {g base : Nat} {m : Int} (h : w.heap[g]? = some (.cells #[.int .u8 m] 5 (0, 0))) (hb : base ≤ g) : w.ownsRow base 5 1 (.slice (some ⟨g, 0, none⟩) 1 1) 1 (nums .u8 [m]) :=
  ⟨rfl, .inr ⟨g, 1, #[.int .u8 m], rfl, hb, h, Nat.le_refl _, by decide, rfl, rfl⟩⟩
theorem wf_byte {a : Int} (h : (Lit.int .u8 a).wf = true) : ∃ n : Nat, a = n ∧ n < 256 := by
  have h1 : 0 ≤ a ∧ a < 256 := by
    simp only [Lit.wf, Bool.and_eq_true, decide_eq_true_eq] at h
    have h1 : (0 : Int) ≤ a := h.1
    have h2 : a ≤ (255 : Int) := h.2
    omega
  exact ⟨a.toNat, by omega, by omega⟩
def nmK (x : Int) : ByteArray := ⟨#[36]⟩ ++ strOfNums [(97 + x.tmod 9) % 256]
theorem name_f (x : Int) : heliastlaw20_Name.f x = some (nmK x) := by
  unfold heliastlaw20_Name.f
  rw [Option.bind_some, if_pos (by rw [strOfNums_size]; exact (by decide : (1 : Nat) + 1 ≤ 9223372036854775807))]; rfl
theorem nmK_data {x : Int} (h : 0 ≤ x) : toBs (nmK x) = [36, UInt8.ofNat (97 + x.toNat % 9)] := by
  unfold nmK strOfNums toBs
  have e : ((97 + x.tmod 9) % 256).toNat = 97 + x.toNat % 9 := by
    have := Int.tmod_eq_emod_of_nonneg (b := 9) h
    omega
  simp [ByteArray.data_append, e]
theorem toBs_inj {a b : ByteArray} (h : toBs a = toBs b) : a = b := by rw [← ofBs_toBs a, h, ofBs_toBs]
theorem nmK_eq {x y : Int} (hx : 0 ≤ x) (hy : 0 ≤ y) : nmK x = nmK y ↔ x.toNat % 9 = y.toNat % 9 := by
  constructor
  · intro h
    have h1 := congrArg toBs h
    rw [nmK_data hx, nmK_data hy] at h1
    have h2 : UInt8.ofNat (97 + x.toNat % 9) = UInt8.ofNat (97 + y.toNat % 9) := by simpa using h1
    have h3 := congrArg UInt8.toNat h2
    simp only [UInt8.toNat_ofNat'] at h3
    omega
  · intro h
    exact toBs_inj (by rw [nmK_data hx, nmK_data hy, h])
theorem nmK_size (x : Int) : (nmK x).size ≤ maxLen := by
  unfold nmK
  rw [ByteArray.size_append, strOfNums_size]
  exact (by decide : (1 : Nat) + 1 ≤ maxLen)
theorem list_l0 (l : List Int) : ∀ (d j : Nat), j + d = 5 → j ≤ l.length → heliastlaw20_list.l0 (d + 1) l ((l.take j).map nmK) j = some ((l.take 5).map nmK)
  | 0, j, h, hj => by
    unfold heliastlaw20_list.l0
    have : j = 5 := by omega
    subst this
    by_cases e : ((5 : Nat) : Int) < (l.length : Int)
    · rw [if_pos e, if_neg (by omega)]
    · rw [if_neg e]
  | d + 1, j, h, hj => by
    unfold heliastlaw20_list.l0
    by_cases e : (j : Int) < (l.length : Int)
    · rw [if_pos e, if_pos (by omega), if_pos (by omega), name_f, Option.bind_some, if_pos (by simp; omega)]
      have e1 : wrap64 ((j : Int) + 1) = ((j + 1 : Nat) : Int) := by unfold wrap64; omega
      have hj' : j < l.length := by omega
      have e2 : (l.take j).map nmK ++ [nmK (rd l (j : Int))] = (l.take (j + 1)).map nmK := by
        rw [List.take_succ_eq_append_getElem hj', List.map_append]
        simp [rd, hj']
      rw [e1, e2]
      exact list_l0 l d (j + 1) (by omega) (by omega)
    · rw [if_neg e, List.take_of_length_le (by omega), List.take_of_length_le (by omega)]
theorem list_f (l : List Int) : heliastlaw20_list.f 6 l = some ((l.take 5).map nmK) := list_l0 l 5 0 (by omega) (by omega)
def evA (a : Nat) : Ev := ⟨⟨#[36]⟩ ++ strOfNums [65 + (a : Int)], ⟨#[]⟩, 0⟩
theorem evA_inj {a b : Nat} (ha : a < 20) (hb : b < 20) (h : (evA a).id = (evA b).id) : a = b := by
  have h1 := congrArg toBs h
  unfold evA strOfNums toBs at h1
  have e : ∀ c : Nat, (65 + (c : Int)).toNat = 65 + c := fun c => by omega
  simp only [ByteArray.data_append, Array.toList_append, List.map_cons, List.map_nil, e] at h1
  have h2 : UInt8.ofNat (65 + a) = UInt8.ofNat (65 + b) := by simpa using h1
  have h3 := congrArg UInt8.toNat h2
  simp only [UInt8.toNat_ofNat'] at h3
  omega
theorem C_u8 {w : World} {A : Option Addr} {n : Nat} {xs : List Int} (h : (Kd.int .u8).C w A n xs) {k : Nat} (hk : k < xs.length) : ∃ ad, A = some ad ∧ w.cell? (ad.add k) = some (.int .u8 xs[k]) := by
  have hn : xs.length = n := h.1
  obtain ⟨ad, c, e, hcl, hK, hcell⟩ := Kd.C_get h xs[k] (k : Int) (by omega) (by omega)
  refine ⟨ad, e, ?_⟩
  have h1 : c = [Value.int .u8 (xs.getD (k : Int).toNat xs[k])] := hK
  have h2 := hcell 0 (.int .u8 xs[k]) (by rw [h1]; simp [List.getD_eq_getElem?_getD, hk])
  simpa [Kd.int, Kd.scalar] using h2
theorem setBools (ms : List Bool) (b : Nat) (u : Bool) : (ms.map Value.bool).toArray.setIfInBounds b (.bool u) = ((ms.set b u).map Value.bool).toArray := by
  apply Array.toList_inj.1
  rw [Array.toList_setIfInBounds, List.map_set]
theorem madeBools (n : Nat) : madeCells #[Value.bool false] n = ((List.replicate n false).map Value.bool).toArray := by
  have h : ∀ x : Nat, (#[Value.bool false])[x % (#[Value.bool false]).size]! = Value.bool false := fun x => by
    have h1 : x % (#[Value.bool false]).size = 0 := Nat.mod_one x
    rw [h1]; rfl
  unfold madeCells
  rw [show (fun x : Nat => (#[Value.bool false])[x % (#[Value.bool false]).size]!) = fun _ => Value.bool false from funext h]
  apply Array.toList_inj.1
  rw [Array.toList_map, Array.toList_range, List.map_replicate]
  apply List.ext_getElem?
  intro j
  rw [List.getElem?_map]
  by_cases hj : j < n
  · rw [List.getElem?_range hj, List.getElem?_replicate, if_pos hj]; rfl
  · rw [List.getElem?_eq_none (by simpa using hj), List.getElem?_eq_none (by simpa using hj)]; rfl

/-! ### heliastlaw20_done: function 14 -/
def heliastlaw20_done.l0 : Nat → List Int → List Bool → Int → Option (Bool)
  | 0, _, _, _ => none
  | k + 1, x0, x1, x5 => if x5 < (x0.length : Int) then (if 0 ≤ x5 then (if 0 ≤ (Int.tmod (rd x0 x5) 9) then (if (Int.tmod (rd x0 x5) 9) < (x1.length : Int) then (if (rdOf false x1 (Int.tmod (rd x0 x5) 9) = true) then (heliastlaw20_done.l0 k x0 x1 (wrap64 (x5 + 1))) else (some false)) else (none)) else (none)) else (none)) else (some true)
def heliastlaw20_done.f (k : Nat) (l0 : List Int) (l1 : List Bool) : Option (Bool) := heliastlaw20_done.l0 k l0 l1 0
theorem heliastlaw20_done.mono_l : ∀ k, (∀ y0 y1 y2, LeO (heliastlaw20_done.l0 k y0 y1 y2) (heliastlaw20_done.l0 (k + 1) y0 y1 y2))
  | 0 => fun _ _ _ r h => by simp [heliastlaw20_done.l0] at h
  | k + 1 => by
    have ih0 := heliastlaw20_done.mono_l k
    · intro y0 y1 y2
      unfold heliastlaw20_done.l0
      repeat' first
      | (with_reducible exact ih0 _ _ _)
      | (with_reducible exact LeO.refl _)
      | (with_reducible exact LeO.none _)
      | (with_reducible refine LeO.ite ?_ ?_)
      | (with_reducible refine LeO.bind ?_ (fun _ => ?_))
      | exact ih0 _ _ _
      | exact LeO.none _
      | refine LeO.ite ?_ ?_
      | refine LeO.bind ?_ (fun _ => ?_)
theorem heliastlaw20_done.mono : ∀ a0 a1 k, LeO (heliastlaw20_done.f k a0 a1) (heliastlaw20_done.f (k + 1) a0 a1) := by
  intro a0 a1 k
  have ih0 := heliastlaw20_done.mono_l k
  unfold heliastlaw20_done.f
  repeat' first
      | (with_reducible exact ih0 _ _ _)
      | (with_reducible exact LeO.refl _)
      | (with_reducible exact LeO.none _)
      | (with_reducible refine LeO.ite ?_ ?_)
      | (with_reducible refine LeO.bind ?_ (fun _ => ?_))
      | exact ih0 _ _ _
      | exact LeO.none _
      | refine LeO.ite ?_ ?_
      | refine LeO.bind ?_ (fun _ => ?_)
set_option maxHeartbeats 8000000 in
set_option maxRecDepth 100000 in
theorem heliastlaw20_done.calls (k : Nat) (A0 : Option Addr) (c0 : Nat) (l0 : List Int) (A1 : Option Addr) (c1 : Nat) (l1 : List Bool) (r : Bool) (w : World) (hr0 : Kd.C (Kd.int .u8) w A0 l0.length l0) (hc0 : l0.length ≤ c0) (hr1 : Kd.C Kd.bool w A1 l1.length l1) (hc1 : l1.length ≤ c1) (h : heliastlaw20_done.f k l0 l1 = some r) :
    Calls Try.prog 14 #[.slice A0 l0.length c0, .slice A1 l1.length c1] w fun e w' => e = .returned (.bool r) ∧ Drawn0 w w' := by
  have HR0 := Aside0.mk hr0
  have HC0 := Aside0.mk hc0
  clear hr0 hc0
  have HR1 := Aside0.mk hr1
  have HC1 := Aside0.mk hc1
  clear hr1 hc1
  have H : (heliastlaw20_done.l0 k l0 l1 0) = some r := h
  clear h
  have H' := Aside0.mk H
  clear H
  go_enter Try.func14, Try.ntmps14
  go_wp2
  go_loopg [5] k (fun kq v5 w' => ∃ (x5_1 : Int), v5 = .int .i64 x5_1 ∧ Aside0 (heliastlaw20_done.l0 kq l0 l1 x5_1 = some r) ∧ Aside0 (kq ≤ k) ∧ Drawn0 w w')
  case atStart => exact ⟨(0), (by first | rfl | (simp; done) | (simp [*]; done)), H', ⟨Nat.le_refl _⟩, by repeat (first | exact Drawn0.refl _ | apply Drawn0.step)⟩
  case round =>
    clear H'
    try clear c1
    try clear p2
    obtain ⟨x5_1, rfl, HA, HK1, ⟨m1, rfl⟩⟩ := hrel
    cases gk with
    | zero => exact absurd HA.out (by simp [heliastlaw20_done.l0])
    | succ k1 =>
      have H := HA.out
      clear HA
      simp only [heliastlaw20_done.l0] at H
      by_cases c3 : x5_1 < (l0.length : Int)
      · rw [if_pos c3] at H
        have c3b0 : decide (x5_1 < (l0.length : Int)) = true := decide_eq_true c3
        clear c3
        by_cases c4 : 0 ≤ x5_1
        · rw [if_pos c4] at H
          have c4b0 : decide (0 ≤ x5_1) = true := decide_eq_true c4
          clear c4
          obtain ⟨ji5, hji5⟩ : ∃ j_ : Int, (Int.tmod (rd l0 x5_1) 9) = j_ := ⟨_, rfl⟩
          replace H : (if 0 ≤ (ji5) then (if (ji5) < (l1.length : Int) then (if (rdOf false l1 (ji5) = true) then (heliastlaw20_done.l0 k1 l0 l1 (wrap64 (x5_1 + 1))) else (some false)) else (none)) else (none)) = some r := by first | (rw [hji5] at H; exact H) | (simp only [hji5] at H ⊢; exact H)
          by_cases c6 : 0 ≤ (ji5)
          · rw [if_pos c6] at H
            have c6b0 : decide (0 ≤ (ji5)) = true := decide_eq_true c6
            clear c6
            by_cases c7 : (ji5) < (l1.length : Int)
            · rw [if_pos c7] at H
              have c7b0 : decide ((ji5) < (l1.length : Int)) = true := decide_eq_true c7
              clear c7
              obtain ⟨bq8, hbq8⟩ : ∃ b_ : Bool, b_ = (rdOf false l1 (ji5)) := ⟨_, rfl⟩
              replace H : (if (bq8 = true) then (heliastlaw20_done.l0 k1 l0 l1 (wrap64 (x5_1 + 1))) else (some false)) = some r := by rw [← hbq8] at H; exact H
              have Nbq8 := Aside0.mk hbq8
              clear hbq8
              by_cases c9 : (bq8 = true)
              · subst c9
                have H1 : (heliastlaw20_done.l0 k1 l0 l1 (wrap64 (x5_1 + 1))) = some r := by rw [if_pos rfl] at H; exact H
                clear H
                have H := H1
                clear H1
                have H' := Aside0.mk H
                clear H
                have p109 : 0 ≤ (x5_1 : Int) := of_decide_eq_true (by first | (with_reducible assumption) | assumption)
                have q109 : x5_1 < (l0.length : Int) := of_decide_eq_true (by first | (with_reducible assumption) | assumption)
                obtain ⟨ad109, e109, hx109_0⟩ := Kd.at_int HR0.out x5_1 p109 q109
                cases e109
                replace p109 := eq_true p109
                replace q109 := eq_true q109
                have p110 : 0 ≤ ((ji5) : Int) := of_decide_eq_true (by first | (with_reducible assumption) | assumption)
                have q110 : (ji5) < (l1.length : Int) := of_decide_eq_true (by first | (with_reducible assumption) | assumption)
                obtain ⟨ad110, e110, hx110_0⟩ := Kd.at_bool HR1.out (ji5) p110 q110
                (try rw [← Nbq8.out] at hx110_0)
                cases e110
                replace p110 := eq_true p110
                replace q110 := eq_true q110
                go_wp2
                go_roundg k1
                case measure => have := HK1.out; omega
                case rel => exact ⟨(wrap64 (x5_1 + 1)), (by first | rfl | (simp; done) | (simp [*]; done)), H', ⟨by have := HK1.out; omega⟩, by repeat (first | exact Drawn0.refl _ | apply Drawn0.step)⟩
              · replace c9 := Bool.eq_false_iff.mpr c9
                subst c9
                have H1 : (some false) = some r := by rw [if_neg (show ¬ (false = true) by decide)] at H; exact H
                clear H
                have H := H1
                clear H1
                obtain rfl := Option.some.inj H
                have p109 : 0 ≤ (x5_1 : Int) := of_decide_eq_true (by first | (with_reducible assumption) | assumption)
                have q109 : x5_1 < (l0.length : Int) := of_decide_eq_true (by first | (with_reducible assumption) | assumption)
                obtain ⟨ad109, e109, hx109_0⟩ := Kd.at_int HR0.out x5_1 p109 q109
                cases e109
                replace p109 := eq_true p109
                replace q109 := eq_true q109
                have p110 : 0 ≤ ((ji5) : Int) := of_decide_eq_true (by first | (with_reducible assumption) | assumption)
                have q110 : (ji5) < (l1.length : Int) := of_decide_eq_true (by first | (with_reducible assumption) | assumption)
                obtain ⟨ad110, e110, hx110_0⟩ := Kd.at_bool HR1.out (ji5) p110 q110
                (try rw [← Nbq8.out] at hx110_0)
                cases e110
                replace p110 := eq_true p110
                replace q110 := eq_true q110
                go_wp2
                go_ret
                exact ⟨by first | rfl | (simp; done) | (simp only [← hji5] <;> (first | rfl | simp)) | (simp [*]; done), by repeat (first | exact Drawn0.refl _ | apply Drawn0.step)⟩
            · rw [if_neg c7] at H
              exact absurd H (by simp)
          · rw [if_neg c6] at H
            exact absurd H (by simp)
        · rw [if_neg c4] at H
          exact absurd H (by simp)
      · rw [if_neg c3] at H
        have c3b0 : decide (x5_1 < (l0.length : Int)) = false := decide_eq_false c3
        clear c3
        obtain rfl := Option.some.inj H
        go_wp2
        go_ret
        exact ⟨by first | rfl | (simp; done) | (simp [*]; done), by repeat (first | exact Drawn0.refl _ | apply Drawn0.step)⟩

end Go.Proofs.Ytmdjknkhjimgeaa.S

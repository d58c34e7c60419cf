-- Written by heprint.py (this session's, over the kit's print.py): not trusted, Lean checks it.
import Derived.Test.YtmmalieacakcbaaHa0
import Derived.Test.YtmmalieacakcbaaHa1
import Derived.Test.YtmmalieacakcbaaHa2
import Derived.Test.YtmmalieacakcbaaHa3
import Derived.Test.YtmmalieacakcbaaHa4
namespace Go.Proofs.Ytmmalieacakcbaa.S
open Go.RowKit Go.Proofs.YtmmalieacakcbaaW.PrintWords Go.Proofs.YtmmalieacakcbaaW.PrintLast Go.Proofs.YtmmalieacakcbaaW.PrintMore
attribute [local go_sem] max2_int min2_int max_two min_two max_three min_three max_four min_four   -- for this text's walks alone
set_option linter.unusedVariables false
set_option linter.unusedSimpArgs false

/-! ### graph_Long: function 93 -/
-- GIVEN heliast/graph.Long making
open Go.Proofs.He
structure LongIn (g : List (List Int)) (w0 w : World) (v : Value) (k r : Nat) (cur : Int) : Prop where
  row : (Kd.int .i64).R 3 w w0.heap.size (fun _ => True) v (longT g k ++ cur :: List.replicate r 0)
  bel : Below w0.heap.size w0 w
theorem table_len (g : List (List Int)) (k r : Nat) (cur : Int) : (longT g k ++ cur :: List.replicate r 0).length = k + 1 + r := by
  rw [List.length_append, longT_length, List.length_cons, List.length_replicate]; omega
theorem table_at (g : List (List Int)) (k r : Nat) (cur : Int) : (longT g k ++ cur :: List.replicate r 0).getD k 0 = cur := by
  rw [List.getD_eq_getElem?_getD, List.getElem?_append_right (by rw [longT_length]; exact Nat.le_refl _), longT_length]; simp
theorem table_old (g : List (List Int)) (k r i : Nat) (cur : Int) (h : i < k) : (longT g k ++ cur :: List.replicate r 0).getD i 0 = (longT g k).getD i 0 := by
  rw [List.getD_eq_getElem?_getD, List.getElem?_append_left (by rw [longT_length]; exact h), ← List.getD_eq_getElem?_getD]
theorem table_set (g : List (List Int)) (k r : Nat) (cur x : Int) : (longT g k ++ cur :: List.replicate r 0).set k x = longT g k ++ x :: List.replicate r 0 := by
  rw [List.set_append_right _ _ (by rw [longT_length]; exact Nat.le_refl _), longT_length, Nat.sub_self]; rfl
set_option maxHeartbeats 8000000 in
set_option maxRecDepth 100000 in
theorem graph_Long.walk (A0 : Option Addr) (c0 : Nat) (g : List (List Int)) (n : Int) (w : World) (hr0 : Kd.C (Kd.slice 3 (Kd.int .i64)) w A0 g.length g) (hlim : g.length < 17592186044416) :
    Calls Try.prog 93 #[.slice A0 g.length c0, .int .i64 n] w fun e w' => e = .returned (.int .i64 (longL g n)) ∧ Below w.heap.size w w' := by
  have HR0 := Aside0.mk hr0
  clear hr0
  by_cases h0 : n < 0
  · have HX := Aside0.mk (show longL g n = 0 by unfold longL; rw [if_pos h0])
    go_enter Try.func93, Try.ntmps93
    go_wp2
    go_ret
    exact ⟨by rw [HX.out]; rfl, Below.refl _ _⟩
  · by_cases h1 : n ≥ g.length
    · have HX := Aside0.mk (show longL g n = 0 by unfold longL; rw [if_neg h0, if_pos h1])
      have h1b : (g.length : Int) ≤ n := h1
      go_enter Try.func93, Try.ntmps93
      go_wp2
      go_ret
      exact ⟨by rw [HX.out]; rfl, Below.refl _ _⟩
    · obtain ⟨N, rfl⟩ := Int.eq_ofNat_of_zero_le (show 0 ≤ n by omega)
      have hN : N < g.length := by omega
      have HX := Aside0.mk (show longL g N = (longT g (N + 1)).getD N 0 by unfold longL; rw [if_neg h0, if_neg h1]; rfl)
      clear h0 h1
      have hlt : (N : Int) < (g.length : Int) := by omega
      have hsz : ((N : Int) + 1).toNat * 8 ≤ 281474976710656 := by omega
      have HSZ := Aside0.mk hsz
      clear hsz
      have hrep : List.replicate ((N : Int) + 1).toNat (0 : Int) = longT g 0 ++ 0 :: List.replicate N 0 := by
        rw [show ((N : Int) + 1).toNat = N + 1 by omega]; rfl
      have HREP := Aside0.mk hrep
      clear hrep
      go_enter Try.func93, Try.ntmps93
      go_wp2_with (first | ((with_reducible refine gate_dst (N := 19) rfl ?_); refine Kd.R_make (Kd.int .i64) (w0 := w) w.heap.size 3 rfl (N := 19) rfl 65 _ _ rfl ((N : Int) + 1) rfl rfl Try.underlying65 (.int .i64 0) 8 info3 rfl (by decide) (by omega) 0 (ok := fun _ => True) (okp := fun _ => True) rfl (fun _ hk => hk) trivial (by omega) HSZ.out (Below.refl _ _) (Nat.le_refl _) ?_; intro v1 w1 hr1 hb1 hg1 hn1; rw [HREP.out] at hr1; obtain ⟨gb, cap, hv, hgb⟩ := row_form hr1 (by rw [table_len]; omega); rw [table_len, show 0 + 1 + N = N + 1 by omega] at hv; subst hv; have HGB := Aside0.mk hgb; have HL := Aside0.mk (show LongIn g w w1 (.slice (some ⟨gb, 0, none⟩) (N + 1) cap) 0 N 0 from ⟨hr1, hb1⟩); clear hr1 hb1 hg1 hn1 hgb))
      go_loopw [22] (fun v22 wr => ∃ (k r : Nat), v22 = .int .i64 k ∧ k + r = N + 1 ∧ Aside0 (∃ t : List Int, (Kd.int .i64).R 3 wr w.heap.size (fun _ => True) (.slice (some ⟨gb, 0, none⟩) (N + 1) cap) (longT g k ++ List.replicate r 0)) ∧ Aside0 (Below w.heap.size w wr)) (fun v22 _ => N + 1 - (intOf v22).toNat)
      case atStart => exact ⟨0, N + 1, rfl, by omega, ⟨[], HL.out.row⟩, ⟨HL.out.bel⟩⟩
      case round =>
        clear HL
        obtain ⟨k, r, rfl, hkr, HR, HB⟩ := hrel
        obtain ⟨_, hr⟩ := HR.out
        have HR1 := Aside0.mk hr
        clear HR hr
        by_cases hk : k < N + 1
        · obtain ⟨r, rfl⟩ : ∃ q, r = q + 1 := ⟨r - 1, by omega⟩
          have HL := Aside0.mk (show LongIn g w wr (.slice (some ⟨gb, 0, none⟩) (N + 1) cap) k r 0 from ⟨HR1.out, HB.out⟩)
          clear HR1 HB
          obtain ⟨ad, Ar, cr, e, hrx, hrl, hrc⟩ := at_row HR0.out (k : Int) (by omega) (by omega)
          cases e
          replace hrx := (HL.out.bel.cell (World.block_lt_of_cell? w _ hrx)).trans hrx
          rw [Int.toNat_natCast] at hrx hrl hrc
          obtain ⟨ns, hns⟩ : ∃ ns, ns = g.getD k [] := ⟨_, rfl⟩
          rw [← hns] at hrx hrl hrc
          have HN := Aside0.mk hns
          have HRC := Aside0.mk hrc
          have hnl : ns.length ≤ 9223372036854775807 := hrc.2.1
          have hkg : (k : Int) < (g.length : Int) := by omega
          have hkNI : (k : Int) < (N : Int) + 1 := by omega
          clear hns hrc hrl
          go_wp2
          go_loopw [30] (fun v30 w3 => ∃ (j : Nat), v30 = .int .i64 j ∧ j ≤ ns.length ∧ Aside0 (LongIn g w w3 (.slice (some ⟨gb, 0, none⟩) (N + 1) cap) k r (rowMax (longT g k) k 0 (ns.take j)))) (fun v30 _ => ns.length - (intOf v30).toNat)
          case atStart => exact ⟨0, rfl, Nat.zero_le _, HL⟩
          case round =>
            clear HL hrx
            obtain ⟨j, rfl, hj, HL⟩ := hrel
            by_cases hlt2 : j < ns.length
            · obtain ⟨ad2, e, hx⟩ := Kd.at_int (Kd.C_below HRC.out HL.out.bel) (j : Int) (by omega) (by omega)
              cases e
              obtain ⟨x, hxd⟩ : ∃ x, x = rd ns j := ⟨_, rfl⟩
              rw [← hxd, Int.toNat_natCast] at hx
              have hts : ns.take (j + 1) = ns.take j ++ [x] := by
                have e : rd ns j = ns[j] := by simp [rd, hlt2]
                rw [List.take_succ_eq_append_getElem hlt2, hxd, e]
              have HTS := Aside0.mk hts
              clear hxd hts
              by_cases hx0 : 0 ≤ x
              · by_cases hx1 : x < k
                · obtain ⟨y, rfl⟩ := Int.eq_ofNat_of_zero_le hx0
                  have hyk : y < k := by omega
                  obtain ⟨cur, hcur⟩ : ∃ cur, cur = rowMax (longT g k) k 0 (ns.take j) := ⟨_, rfl⟩
                  rw [← hcur] at HL
                  obtain ⟨old, hold⟩ : ∃ old, old = (longT g k).getD y 0 := ⟨_, rfl⟩
                  have hb := rowMax_bd (k := (k : Int)) (longT_bd g k) (ns.take j) 0 (by omega) (by omega)
                  rw [← hcur] at hb
                  have ho := longT_bd g k y
                  rw [← hold] at ho
                  have hc1 := (Kd.R_celln 0 HL.out.row (k : Int) (by omega) (by omega))
                  have hc2 := (Kd.R_celln 0 HL.out.row (y : Int) (by omega) (by omega))
                  have e1 : rdOf 0 (longT g k ++ cur :: List.replicate r 0) (k : Int) = cur := by unfold rdOf; rw [Int.toNat_natCast]; exact table_at g k r cur
                  have e2 : rdOf 0 (longT g k ++ cur :: List.replicate r 0) (y : Int) = old := by unfold rdOf; rw [Int.toNat_natCast, table_old g k r y cur hyk, hold]
                  rw [e1, Int.toNat_natCast] at hc1
                  rw [e2, Int.toNat_natCast] at hc2
                  have HNX := Aside0.mk (show rowMax (longT g k) k 0 (ns.take (j + 1)) = mxL cur (1 + old) by rw [HTS.out, rowMax_append, if_pos ⟨by omega, by omega⟩, ← hcur, Int.toNat_natCast, ← hold])
                  have hwr : IntKind.i64.wrap (1 + old) = 1 + old := by rw [IntKind.wrap_i64]; omega
                  obtain ⟨hc1, hf1⟩ := hc1
                  obtain ⟨hc2, hf2⟩ := hc2
                  have HCUR := Aside0.mk hcur
                  have HOLD := Aside0.mk hold
                  have hyN : y < N + 1 := by omega
                  have hyNI : (y : Int) < (N : Int) + 1 := by omega
                  clear hcur hold e1 e2 hb ho
                  by_cases hmx : cur < 1 + old
                  · have HMX := Aside0.mk (show mxL cur (1 + old) = 1 + old from if_pos hmx)
                    go_wp2
                    go_still_tail 13, (by kernel_rfl)
                    go_wp2
                    have hp := Kd.R_putg HL.out.row (k : Int) (1 + old)
                    rw [Int.toNat_natCast, table_set] at hp
                    have HNL := Aside0.mk (show LongIn g w (wr.setCell ⟨gb, k, none⟩ (Value.int .i64 (1 + old))).drew (.slice (some ⟨gb, 0, none⟩) (N + 1) cap) k r (rowMax (longT g k) k 0 (ns.take (j + 1))) from by
                      rw [HNX.out, HMX.out]
                      exact ⟨Kd.R_drew hp.1, below_drew1 (HL.out.bel.grown hp.2 HL.out.bel.size (fun k e => by cases e; exact HGB.out))⟩)
                    clear hp
                    go_roundw
                    case rel => exact ⟨j + 1, by go_num, by omega, HNL⟩
                    case measure => simp [intOf]; omega
                  · have HMX := Aside0.mk (show mxL cur (1 + old) = cur from if_neg hmx)
                    have hmx2 : 1 + old ≤ cur := by omega
                    go_wp2
                    go_still_tail 13, (by kernel_rfl)
                    go_wp2
                    have hp := Kd.R_putg HL.out.row (k : Int) cur
                    rw [Int.toNat_natCast, table_set] at hp
                    have HNL := Aside0.mk (show LongIn g w (wr.setCell ⟨gb, k, none⟩ (Value.int .i64 cur)).drew (.slice (some ⟨gb, 0, none⟩) (N + 1) cap) k r (rowMax (longT g k) k 0 (ns.take (j + 1))) from by
                      rw [HNX.out, HMX.out]
                      exact ⟨Kd.R_drew hp.1, below_drew1 (HL.out.bel.grown hp.2 HL.out.bel.size (fun k e => by cases e; exact HGB.out))⟩)
                    clear hp
                    go_roundw
                    case rel => exact ⟨j + 1, by go_num, by omega, HNL⟩
                    case measure => simp [intOf]; omega
                · go_wp2
                  go_roundw
                  case rel => exact ⟨j + 1, by go_num, by omega, ⟨by rw [HTS.out, rowMax_append, if_neg (by omega)]; exact HL.out⟩⟩
                  case measure => simp [intOf]; omega
              · go_wp2
                go_roundw
                case rel => exact ⟨j + 1, by go_num, by omega, ⟨by rw [HTS.out, rowMax_append, if_neg (by omega)]; exact HL.out⟩⟩
                case measure => simp [intOf]; omega
            · go_wp2
              go_roundw
              case rel => exact ⟨k + 1, r, by go_num, by omega, ⟨[], by
                have hjl : ns.take j = g.getD k [] := by rw [List.take_of_length_le (by omega), HN.out]
                have := HL.out.row
                rw [hjl] at this
                rw [longT, List.append_assoc]; exact this⟩, ⟨HL.out.bel⟩⟩
              case measure => simp [intOf]; omega
        · have hkn : k = N + 1 := by omega
          subst hkn
          obtain rfl : r = 0 := by omega
          have hc1 := (Kd.R_celln 0 HR1.out (N : Int) (by omega) (by omega)).1
          have e1 : rdOf 0 (longT g (N + 1) ++ List.replicate 0 0) (N : Int) = (longT g (N + 1)).getD N 0 := by unfold rdOf; rw [Int.toNat_natCast]; simp
          rw [e1, Int.toNat_natCast, ← HX.out] at hc1
          clear e1
          generalize hres : longL g (N : Int) = res at hc1
          go_wp2
          go_ret
          exact ⟨by simp [hres], HB.out⟩
def graph_Long.f (g : List (List Int)) (n : Int) : Option Int := if g.length < 17592186044416 then some (longL g n) else none
theorem graph_Long.calls (A0 : Option Addr) (c0 : Nat) (l0 : List (List Int)) (a1 : Int) (r : Int) (w : World) (hr0 : Kd.C (Kd.slice 3 (Kd.int .i64)) w A0 l0.length l0) (hc0 : l0.length ≤ c0) (h : graph_Long.f l0 a1 = some r) :
    Calls Try.prog 93 #[.slice A0 l0.length c0, .int .i64 a1] w fun e w' => e = .returned (.int .i64 r) ∧ Below w.heap.size w w' := by
  unfold graph_Long.f at h
  split at h
  · obtain rfl := Option.some.inj h
    exact graph_Long.walk A0 c0 l0 a1 w hr0 ‹_›
  · cases h

/-! ### heliastlaw12_known: function 47 -/
def heliastlaw12_known.f (k : Nat)  : Option (Bool) := (some (([[], [], (([0, 1] : List Int))] : List (List Int)) : List (List Int))).bind fun y129 => ((graph_Order.f y129 (([0, 1, 2] : List Int)) (([5, 3, 0] : List Int))).bind fun t138 => ((heliastref12_Same.f k t138 (([1, 0, 2] : List Int))).bind fun t144 => (if t144 = true then ((graph_Right.f k y129).bind fun t145 => (if t145 = true then ((graph_Right.f k (([(([0] : List Int))] : List (List Int)))).bind fun t152 => (if t152 = true then (some false) else ((graph_Long.f y129 2).bind fun t153 => (some (t153 == 1))))) else (some false))) else (some false))))
theorem heliastlaw12_known.mono : ∀ k, LeO (heliastlaw12_known.f k ) (heliastlaw12_known.f (k + 1) ) := by
  intro  k
  unfold heliastlaw12_known.f
  repeat' first
      | (with_reducible exact graph_Right.mono _ _)
      | (with_reducible exact heliastref12_Same.mono _ _ _)
      | (with_reducible exact LeO.refl _)
      | (with_reducible exact LeO.none _)
      | (with_reducible refine LeO.ite ?_ ?_)
      | (with_reducible refine LeO.bind ?_ (fun _ => ?_))
      | exact graph_Right.mono _ _
      | exact heliastref12_Same.mono _ _ _
      | exact LeO.none _
      | refine LeO.ite ?_ ?_
      | refine LeO.bind ?_ (fun _ => ?_)
set_option maxHeartbeats 8000000 in
set_option maxRecDepth 100000 in
theorem heliastlaw12_known.calls (k : Nat)  (r : Bool) (w : World) (h : heliastlaw12_known.f k  = some r) (hlaw : r = true) :
    Calls Try.prog 47 #[] w fun e w' => e = .returned (.bool r) ∧ Below w.heap.size w w' := by
  have HLAW := Aside0.mk hlaw
  clear hlaw
  have HB := Aside0.mk (Below.refl w.heap.size w)
  have H : ((some (([[], [], (([0, 1] : List Int))] : List (List Int)) : List (List Int))).bind fun y129 => ((graph_Order.f y129 (([0, 1, 2] : List Int)) (([5, 3, 0] : List Int))).bind fun t138 => ((heliastref12_Same.f k t138 (([1, 0, 2] : List Int))).bind fun t144 => (if t144 = true then ((graph_Right.f k y129).bind fun t145 => (if t145 = true then ((graph_Right.f k (([(([0] : List Int))] : List (List Int)))).bind fun t152 => (if t152 = true then (some false) else ((graph_Long.f y129 2).bind fun t153 => (some (t153 == 1))))) else (some false))) else (some false))))) = some r := h
  clear h
  obtain ⟨y126, hy126⟩ : ∃ y_ : List Int, y_ = (([0, 1] : List Int)) := ⟨_, rfl⟩
  replace H : ((some (([[], [], y126] : List (List Int)) : List (List Int))).bind fun y129 => ((graph_Order.f y129 (([0, 1, 2] : List Int)) (([5, 3, 0] : List Int))).bind fun t138 => ((heliastref12_Same.f k t138 (([1, 0, 2] : List Int))).bind fun t144 => (if t144 = true then ((graph_Right.f k y129).bind fun t145 => (if t145 = true then ((graph_Right.f k (([(([0] : List Int))] : List (List Int)))).bind fun t152 => (if t152 = true then (some false) else ((graph_Long.f y129 2).bind fun t153 => (some (t153 == 1))))) else (some false))) else (some false))))) = some r := by first | (rw [hy126]; with_reducible exact H) | (have H2_ := (Option.bind_some _ _).symm.trans H; rw [hy126]; with_reducible exact H2_) | (have H2_ := (Option.bind_some _ _).symm.trans H; with_reducible exact H2_) | with_reducible exact H | (rw [hy126]; exact H) | exact H
  have Ny126 := Aside0.mk hy126
  clear hy126
  obtain ⟨y129, hy129⟩ : ∃ y_ : List (List Int), y_ = (([[], [], y126] : List (List Int))) := ⟨_, rfl⟩
  replace H : ((graph_Order.f y129 (([0, 1, 2] : List Int)) (([5, 3, 0] : List Int))).bind fun t138 => ((heliastref12_Same.f k t138 (([1, 0, 2] : List Int))).bind fun t144 => (if t144 = true then ((graph_Right.f k y129).bind fun t145 => (if t145 = true then ((graph_Right.f k (([(([0] : List Int))] : List (List Int)))).bind fun t152 => (if t152 = true then (some false) else ((graph_Long.f y129 2).bind fun t153 => (some (t153 == 1))))) else (some false))) else (some false)))) = some r := by first | (rw [hy129]; with_reducible exact H) | (have H2_ := (Option.bind_some _ _).symm.trans H; rw [hy129]; with_reducible exact H2_) | (have H2_ := (Option.bind_some _ _).symm.trans H; with_reducible exact H2_) | with_reducible exact H | (rw [hy129]; exact H) | exact H
  have Ny129 := Aside0.mk hy129
  clear hy129
  obtain ⟨y132, hy132⟩ : ∃ y_ : List Int, y_ = (([0, 1, 2] : List Int)) := ⟨_, rfl⟩
  replace H : ((graph_Order.f y129 y132 (([5, 3, 0] : List Int))).bind fun t138 => ((heliastref12_Same.f k t138 (([1, 0, 2] : List Int))).bind fun t144 => (if t144 = true then ((graph_Right.f k y129).bind fun t145 => (if t145 = true then ((graph_Right.f k (([(([0] : List Int))] : List (List Int)))).bind fun t152 => (if t152 = true then (some false) else ((graph_Long.f y129 2).bind fun t153 => (some (t153 == 1))))) else (some false))) else (some false)))) = some r := by first | (rw [hy132]; with_reducible exact H) | (have H2_ := (Option.bind_some _ _).symm.trans H; rw [hy132]; with_reducible exact H2_) | (have H2_ := (Option.bind_some _ _).symm.trans H; with_reducible exact H2_) | with_reducible exact H | (rw [hy132]; exact H) | exact H
  have Ny132 := Aside0.mk hy132
  clear hy132
  obtain ⟨y135, hy135⟩ : ∃ y_ : List Int, y_ = (([5, 3, 0] : List Int)) := ⟨_, rfl⟩
  replace H : ((graph_Order.f y129 y132 y135).bind fun t138 => ((heliastref12_Same.f k t138 (([1, 0, 2] : List Int))).bind fun t144 => (if t144 = true then ((graph_Right.f k y129).bind fun t145 => (if t145 = true then ((graph_Right.f k (([(([0] : List Int))] : List (List Int)))).bind fun t152 => (if t152 = true then (some false) else ((graph_Long.f y129 2).bind fun t153 => (some (t153 == 1))))) else (some false))) else (some false)))) = some r := by first | (rw [hy135]; with_reducible exact H) | (have H2_ := (Option.bind_some _ _).symm.trans H; rw [hy135]; with_reducible exact H2_) | (have H2_ := (Option.bind_some _ _).symm.trans H; with_reducible exact H2_) | with_reducible exact H | (rw [hy135]; exact H) | exact H
  have Ny135 := Aside0.mk hy135
  clear hy135
  replace H := Option.bind_eq_some_iff.mp H
  obtain ⟨t138, A10, H⟩ := H
  replace H : ((heliastref12_Same.f k t138 (([1, 0, 2] : List Int))).bind fun t144 => (if t144 = true then ((graph_Right.f k y129).bind fun t145 => (if t145 = true then ((graph_Right.f k (([(([0] : List Int))] : List (List Int)))).bind fun t152 => (if t152 = true then (some false) else ((graph_Long.f y129 2).bind fun t153 => (some (t153 == 1))))) else (some false))) else (some false))) = some r := H
  have A1 := Aside0.mk A10
  clear A10
  obtain ⟨y141, hy141⟩ : ∃ y_ : List Int, y_ = (([1, 0, 2] : List Int)) := ⟨_, rfl⟩
  replace H : ((heliastref12_Same.f k t138 y141).bind fun t144 => (if t144 = true then ((graph_Right.f k y129).bind fun t145 => (if t145 = true then ((graph_Right.f k (([(([0] : List Int))] : List (List Int)))).bind fun t152 => (if t152 = true then (some false) else ((graph_Long.f y129 2).bind fun t153 => (some (t153 == 1))))) else (some false))) else (some false))) = some r := by first | (rw [hy141]; with_reducible exact H) | (have H2_ := (Option.bind_some _ _).symm.trans H; rw [hy141]; with_reducible exact H2_) | (have H2_ := (Option.bind_some _ _).symm.trans H; with_reducible exact H2_) | with_reducible exact H | (rw [hy141]; exact H) | exact H
  have Ny141 := Aside0.mk hy141
  clear hy141
  replace H := Option.bind_eq_some_iff.mp H
  obtain ⟨t144, A20, H⟩ := H
  replace H : (if t144 = true then ((graph_Right.f k y129).bind fun t145 => (if t145 = true then ((graph_Right.f k (([(([0] : List Int))] : List (List Int)))).bind fun t152 => (if t152 = true then (some false) else ((graph_Long.f y129 2).bind fun t153 => (some (t153 == 1))))) else (some false))) else (some false)) = some r := H
  have A2 := Aside0.mk A20
  clear A20
  by_cases c3 : t144 = true
  · subst c3
    have H1 : ((graph_Right.f k y129).bind fun t145 => (if t145 = true then ((graph_Right.f k (([(([0] : List Int))] : List (List Int)))).bind fun t152 => (if t152 = true then (some false) else ((graph_Long.f y129 2).bind fun t153 => (some (t153 == 1))))) else (some false))) = some r := by rw [if_pos rfl] at H; exact H
    clear H
    have H := H1
    clear H1
    replace H := Option.bind_eq_some_iff.mp H
    obtain ⟨t145, A40, H⟩ := H
    replace H : (if t145 = true then ((graph_Right.f k (([(([0] : List Int))] : List (List Int)))).bind fun t152 => (if t152 = true then (some false) else ((graph_Long.f y129 2).bind fun t153 => (some (t153 == 1))))) else (some false)) = some r := H
    have A4 := Aside0.mk A40
    clear A40
    by_cases c5 : t145 = true
    · subst c5
      have H1 : ((graph_Right.f k (([(([0] : List Int))] : List (List Int)))).bind fun t152 => (if t152 = true then (some false) else ((graph_Long.f y129 2).bind fun t153 => (some (t153 == 1))))) = some r := by rw [if_pos rfl] at H; exact H
      clear H
      have H := H1
      clear H1
      obtain ⟨y146, hy146⟩ : ∃ y_ : List Int, y_ = (([0] : List Int)) := ⟨_, rfl⟩
      replace H : ((graph_Right.f k (([y146] : List (List Int)))).bind fun t152 => (if t152 = true then (some false) else ((graph_Long.f y129 2).bind fun t153 => (some (t153 == 1))))) = some r := by first | (rw [hy146]; with_reducible exact H) | (have H2_ := (Option.bind_some _ _).symm.trans H; rw [hy146]; with_reducible exact H2_) | (have H2_ := (Option.bind_some _ _).symm.trans H; with_reducible exact H2_) | with_reducible exact H | (rw [hy146]; exact H) | exact H
      have Ny146 := Aside0.mk hy146
      clear hy146
      obtain ⟨y149, hy149⟩ : ∃ y_ : List (List Int), y_ = (([y146] : List (List Int))) := ⟨_, rfl⟩
      replace H : ((graph_Right.f k y149).bind fun t152 => (if t152 = true then (some false) else ((graph_Long.f y129 2).bind fun t153 => (some (t153 == 1))))) = some r := by first | (rw [hy149]; with_reducible exact H) | (have H2_ := (Option.bind_some _ _).symm.trans H; rw [hy149]; with_reducible exact H2_) | (have H2_ := (Option.bind_some _ _).symm.trans H; with_reducible exact H2_) | with_reducible exact H | (rw [hy149]; exact H) | exact H
      have Ny149 := Aside0.mk hy149
      clear hy149
      replace H := Option.bind_eq_some_iff.mp H
      obtain ⟨t152, A60, H⟩ := H
      replace H : (if t152 = true then (some false) else ((graph_Long.f y129 2).bind fun t153 => (some (t153 == 1)))) = some r := H
      have A6 := Aside0.mk A60
      clear A60
      by_cases c7 : t152 = true
      · subst c7
        have H1 : (some false) = some r := by rw [if_pos rfl] at H; exact H
        clear H
        have H := H1
        clear H1
        exact absurd ((Option.some.inj H).trans HLAW.out) (by decide)
      · replace c7 := Bool.eq_false_iff.mpr c7
        subst c7
        have H1 : ((graph_Long.f y129 2).bind fun t153 => (some (t153 == 1))) = some r := by rw [if_neg (show ¬ (false = true) by decide)] at H; exact H
        clear H
        have H := H1
        clear H1
        replace H := Option.bind_eq_some_iff.mp H
        obtain ⟨t153, A80, H⟩ := H
        replace H : (some (t153 == 1)) = some r := H
        have A8 := Aside0.mk A80
        clear A80
        obtain rfl := Option.some.inj H
        go_enter Try.func47, Try.ntmps47
        have tok1_ : True := trivial
        have tok2_ : True := trivial
        go_wp2_with (first | ((with_reducible refine gate_dst (N := 2) rfl ?_); (try (refine gate_guard (by rfl) ?_; dsimp only)); refine Kd.R_lit (Kd.int .i64) _ 3 ?hg (N := 2) ?hd (xs := ([0, 1] : List Int)) (inner := [.int .i64 0, .int .i64 1]) (ok := fun _ => True) (okp := fun _ => True) ?hr ?hp (fun _ hk => hk) trivial (Below.refl _ _) (Nat.le_refl _) (by simp) ?_; (case hd => rfl); (case hg => rfl); (case hr => first | (go_simp; done) | (go_simp; rfl)); (case hp => exact (Reps.one (show Kd.M (Kd.int .i64) _ _ _ 0 [.int .i64 0] from rfl) (Reps.one (show Kd.M (Kd.int .i64) _ _ _ 1 [.int .i64 1] from rfl) (Reps.none _ _)))); intro v127 w9 ho10 hb hg_ hnew_; clear hg_ hnew_; (first | rw [← Ny126.out] at ho10 | (simp only [Int.reduceToNat] at ho10; rw [← Ny126.out] at ho10)); have n0_ := Aside0.mk (Kd.R_lower ho10 (below_size (by repeat (first | (with_reducible first | exact HB.out | apply below_alloc | apply pw_below_drewN | apply below_drew1) | exact HB.out)))); have n1_ := Aside0.mk (below_step (by repeat (first | (with_reducible first | exact HB.out | apply below_alloc | apply pw_below_drewN | apply below_drew1) | exact HB.out)) hb); clear HB; have HO128 := n0_; have HB := n1_; clear n0_ n1_; clear hb ho10; obtain ⟨Ao11, co11, eo11⟩ := Kd.R_slice HO128.out; subst eo11) | ((with_reducible refine gate_dst (N := 3) rfl ?_); (try (refine gate_guard (by rfl) ?_; dsimp only)); refine Kd.N_lit (Kd.slice 3 (Kd.int .i64)) _ 65 ?hg (N' := 3) ?hd (xs := ([[], [], y126] : List (List Int))) (inner := [.slice none 0 0, .slice none 0 0, .slice Ao11 y126.length co11]) (ok := (fun _ => True)) (okp := (fun _ => True)) ?hr ?hp (fun _ hk => hk) ((show ∀ k_, w9.heap.size ≤ k_ → (fun _ => True) k_ from fun k_ hk => trivial) _ (Nat.le_refl _)) (Below.refl _ _) (Nat.le_refl _) (by simp) ?_; (case hd => rfl); (case hg => rfl); (case hr => first | (go_simp; done) | (go_simp; rfl)); (case hp => exact (Reps.one (show Kd.FK (Kd.slice 3 (Kd.int .i64)) _ _ [] [.slice none 0 0] from (Kd.FK_slice_mk (Nat.le_refl _) (Kd.F_nil _ _ _))) (Reps.one (show Kd.FK (Kd.slice 3 (Kd.int .i64)) _ _ [] [.slice none 0 0] from (Kd.FK_slice_mk (Nat.le_refl _) (Kd.F_nil _ _ _))) (Reps.one (show Kd.FK (Kd.slice 3 (Kd.int .i64)) _ _ y126 [.slice Ao11 y126.length co11] from (Kd.FK_slice_mk (Kd.R_reads' (Kd.R_mono (ok' := (fun _ => True)) (HO128.out) (fun k_ hk => trivial))).2.1 (Kd.R_F (Kd.R_mono (ok' := (fun _ => True)) (HO128.out) (fun k_ hk => trivial))))) (Reps.none _ _))))); intro v130 w12 ho13 hb hg_ hnew_; clear hg_ hnew_; (first | rw [← Ny129.out] at ho13 | (simp only [Int.reduceToNat] at ho13; rw [← Ny129.out] at ho13)); have n0_ := Aside0.mk (Kd.N_lower ho13 (below_size (by repeat (first | (with_reducible first | exact HB.out | apply below_alloc | apply pw_below_drewN | apply below_drew1) | exact HB.out)))); have n1_ := Aside0.mk (below_step (by repeat (first | (with_reducible first | exact HB.out | apply below_alloc | apply pw_below_drewN | apply below_drew1) | exact HB.out)) hb); clear HB; clear HO128; have HO131 := n0_; have HB := n1_; clear n0_ n1_; clear hb ho13) | ((with_reducible refine gate_dst (N := 5) rfl ?_); (try (refine gate_guard (by rfl) ?_; dsimp only)); refine Kd.R_lit (Kd.int .i64) _ 3 ?hg (N := 5) ?hd (xs := ([0, 1, 2] : List Int)) (inner := [.int .i64 0, .int .i64 1, .int .i64 2]) (ok := fun _ => True) (okp := fun _ => True) ?hr ?hp (fun _ hk => hk) trivial (Below.refl _ _) (Nat.le_refl _) (by simp) ?_; (case hd => rfl); (case hg => rfl); (case hr => first | (go_simp; done) | (go_simp; rfl)); (case hp => exact (Reps.one (show Kd.M (Kd.int .i64) _ _ _ 0 [.int .i64 0] from rfl) (Reps.one (show Kd.M (Kd.int .i64) _ _ _ 1 [.int .i64 1] from rfl) (Reps.one (show Kd.M (Kd.int .i64) _ _ _ 2 [.int .i64 2] from rfl) (Reps.none _ _))))); intro v133 w14 ho15 hb hg_ hnew_; clear hg_ hnew_; (first | rw [← Ny132.out] at ho15 | (simp only [Int.reduceToNat] at ho15; rw [← Ny132.out] at ho15)); have n0_ := Aside0.mk (Kd.N_elder' (by (with_reducible repeat (first | apply Kd.N_alloc | apply Kd.N_drewN | apply Kd.N_drew)); exact HO131.out) (Kd.R_base ho15) hb); have n1_ := Aside0.mk (Kd.R_lower ho15 (below_size (by repeat (first | (with_reducible first | exact HB.out | apply below_alloc | apply pw_below_drewN | apply below_drew1) | exact HB.out)))); have n2_ := Aside0.mk (below_step (by repeat (first | (with_reducible first | exact HB.out | apply below_alloc | apply pw_below_drewN | apply below_drew1) | exact HB.out)) hb); clear HO131; clear HB; have HO131 := n0_; have HO134 := n1_; have HB := n2_; clear n0_ n1_ n2_; clear hb ho15) | ((with_reducible refine gate_dst (N := 6) rfl ?_); (try (refine gate_guard (by rfl) ?_; dsimp only)); refine Kd.R_lit (Kd.int .i64) _ 3 ?hg (N := 6) ?hd (xs := ([5, 3, 0] : List Int)) (inner := [.int .i64 5, .int .i64 3, .int .i64 0]) (ok := fun _ => True) (okp := fun _ => True) ?hr ?hp (fun _ hk => hk) trivial (Below.refl _ _) (Nat.le_refl _) (by simp) ?_; (case hd => rfl); (case hg => rfl); (case hr => first | (go_simp; done) | (go_simp; rfl)); (case hp => exact (Reps.one (show Kd.M (Kd.int .i64) _ _ _ 5 [.int .i64 5] from rfl) (Reps.one (show Kd.M (Kd.int .i64) _ _ _ 3 [.int .i64 3] from rfl) (Reps.one (show Kd.M (Kd.int .i64) _ _ _ 0 [.int .i64 0] from rfl) (Reps.none _ _))))); intro v136 w16 ho17 hb hg_ hnew_; clear hg_ hnew_; (first | rw [← Ny135.out] at ho17 | (simp only [Int.reduceToNat] at ho17; rw [← Ny135.out] at ho17)); have n0_ := Aside0.mk (Kd.N_elder' (by (with_reducible repeat (first | apply Kd.N_alloc | apply Kd.N_drewN | apply Kd.N_drew)); exact HO131.out) (Kd.R_base ho17) hb); have n1_ := Aside0.mk (Kd.R_elder' (by (with_reducible repeat (first | apply Kd.R_alloc | apply Kd.R_drewN | apply Kd.R_drew)); exact HO134.out) (Kd.R_base ho17) hb); have n2_ := Aside0.mk (Kd.R_lower (Kd.R_new' ho17 (Kd.R_lt (by (with_reducible repeat (first | apply Kd.R_alloc | apply Kd.R_drewN | apply Kd.R_drew)); exact HO134.out))) (below_size (by repeat (first | (with_reducible first | exact HB.out | apply below_alloc | apply pw_below_drewN | apply below_drew1) | exact HB.out)))); have n3_ := Aside0.mk (below_step (by repeat (first | (with_reducible first | exact HB.out | apply below_alloc | apply pw_below_drewN | apply below_drew1) | exact HB.out)) hb); clear HO131; clear HO134; clear HB; have HO131 := n0_; have HO134 := n1_; have HO137 := n2_; have HB := n3_; clear n0_ n1_ n2_ n3_; clear hb ho17; obtain ⟨Ao18, co18, eo18⟩ := Kd.N_slice HO131.out; subst eo18; obtain ⟨Ao19, co19, eo19⟩ := Kd.R_slice HO134.out; subst eo19; obtain ⟨Ao20, co20, eo20⟩ := Kd.R_slice HO137.out; subst eo20) | ((with_reducible refine gate_callee (f := 92) rfl ?_); refine goesL_ (some 7) rfl rfl Try.func92 (by kernel_rfl) rfl #[.slice Ao18 y129.length co18, .slice Ao19 y132.length co19, .slice Ao20 y135.length co20] rfl (by (try simp only [List.map_toArray, List.map_cons, List.map_nil]); first | done | rfl | (simp only [List.length_drop, List.length_take]; rfl)) ?_; (with_reducible refine (graph_Order.calls _ _ y129 _ _ y132 _ _ y135 t138 _ ?side1 ?side2 ?side3 ?side4 ?side5 ?side6 A1.out).mono ?_); (case side1 => repeat (first | exact (Kd.N_reads' HO131.out).2.2 | (with_reducible refine Kd.C_alloc ?_ _) | (with_reducible refine Kd.C_drewN ?_ _) | (with_reducible refine Kd.C_drew ?_))); (case side2 => exact (Kd.N_reads' HO131.out).2.1); (case side3 => repeat (first | exact (Kd.R_reads' HO134.out).2.2 | (with_reducible refine Kd.C_alloc ?_ _) | (with_reducible refine Kd.C_drewN ?_ _) | (with_reducible refine Kd.C_drew ?_))); (case side4 => exact (Kd.R_reads' HO134.out).2.1); (case side5 => repeat (first | exact (Kd.R_reads' HO137.out).2.2 | (with_reducible refine Kd.C_alloc ?_ _) | (with_reducible refine Kd.C_drewN ?_ _) | (with_reducible refine Kd.C_drew ?_))); (case side6 => exact (Kd.R_reads' HO137.out).2.1); rintro e w21 ⟨v139, rfl, ho0, hb⟩; refine ⟨_, rfl, ?_⟩; have n0_ := Aside0.mk (Kd.N_elder' (by (with_reducible repeat (first | apply Kd.N_alloc | apply Kd.N_drewN | apply Kd.N_drew)); exact HO131.out) (Kd.R_base ho0) hb); have n1_ := Aside0.mk (Kd.R_elder' (by (with_reducible repeat (first | apply Kd.R_alloc | apply Kd.R_drewN | apply Kd.R_drew)); exact HO134.out) (Kd.R_base ho0) hb); have n2_ := Aside0.mk (Kd.R_elder' (by (with_reducible repeat (first | apply Kd.R_alloc | apply Kd.R_drewN | apply Kd.R_drew)); exact HO137.out) (Kd.R_base ho0) hb); have n3_ := Aside0.mk (Kd.R_lower (Kd.R_new' (Kd.R_new' ho0 (Kd.R_lt (by (with_reducible repeat (first | apply Kd.R_alloc | apply Kd.R_drewN | apply Kd.R_drew)); exact HO134.out))) (Kd.R_lt (by (with_reducible repeat (first | apply Kd.R_alloc | apply Kd.R_drewN | apply Kd.R_drew)); exact HO137.out))) (below_size (by repeat (first | (with_reducible first | exact HB.out | apply below_alloc | apply pw_below_drewN | apply below_drew1) | exact HB.out)))); have n4_ := Aside0.mk (below_step (by repeat (first | (with_reducible first | exact HB.out | apply below_alloc | apply pw_below_drewN | apply below_drew1) | exact HB.out)) hb); clear HO131; clear HO134; clear HO137; clear HB; have HO131 := n0_; have HO134 := n1_; have HO137 := n2_; have HO140 := n3_; have HB := n4_; clear n0_ n1_ n2_ n3_ n4_; (try clear hb); (try clear hb2); (try clear hk); (try clear hi); (try clear ho0)) | ((with_reducible refine gate_dst (N := 8) rfl ?_); (try (refine gate_guard (by rfl) ?_; dsimp only)); refine Kd.R_lit (Kd.int .i64) _ 3 ?hg (N := 8) ?hd (xs := ([1, 0, 2] : List Int)) (inner := [.int .i64 1, .int .i64 0, .int .i64 2]) (ok := fun _ => True) (okp := fun _ => True) ?hr ?hp (fun _ hk => hk) trivial (Below.refl _ _) (Nat.le_refl _) (by simp) ?_; (case hd => rfl); (case hg => rfl); (case hr => first | (go_simp; done) | (go_simp; rfl)); (case hp => exact (Reps.one (show Kd.M (Kd.int .i64) _ _ _ 1 [.int .i64 1] from rfl) (Reps.one (show Kd.M (Kd.int .i64) _ _ _ 0 [.int .i64 0] from rfl) (Reps.one (show Kd.M (Kd.int .i64) _ _ _ 2 [.int .i64 2] from rfl) (Reps.none _ _))))); intro v142 w22 ho23 hb hg_ hnew_; clear hg_ hnew_; (first | rw [← Ny141.out] at ho23 | (simp only [Int.reduceToNat] at ho23; rw [← Ny141.out] at ho23)); have n0_ := Aside0.mk (Kd.N_elder' (by (with_reducible repeat (first | apply Kd.N_alloc | apply Kd.N_drewN | apply Kd.N_drew)); exact HO131.out) (Kd.R_base ho23) hb); have n1_ := Aside0.mk (Kd.R_elder' (by (with_reducible repeat (first | apply Kd.R_alloc | apply Kd.R_drewN | apply Kd.R_drew)); exact HO134.out) (Kd.R_base ho23) hb); have n2_ := Aside0.mk (Kd.R_elder' (by (with_reducible repeat (first | apply Kd.R_alloc | apply Kd.R_drewN | apply Kd.R_drew)); exact HO137.out) (Kd.R_base ho23) hb); have n3_ := Aside0.mk (Kd.R_elder' (by (with_reducible repeat (first | apply Kd.R_alloc | apply Kd.R_drewN | apply Kd.R_drew)); exact HO140.out) (Kd.R_base ho23) hb); have n4_ := Aside0.mk (Kd.R_lower (Kd.R_new' (Kd.R_new' (Kd.R_new' ho23 (Kd.R_lt (by (with_reducible repeat (first | apply Kd.R_alloc | apply Kd.R_drewN | apply Kd.R_drew)); exact HO134.out))) (Kd.R_lt (by (with_reducible repeat (first | apply Kd.R_alloc | apply Kd.R_drewN | apply Kd.R_drew)); exact HO137.out))) (Kd.R_lt (by (with_reducible repeat (first | apply Kd.R_alloc | apply Kd.R_drewN | apply Kd.R_drew)); exact HO140.out))) (below_size (by repeat (first | (with_reducible first | exact HB.out | apply below_alloc | apply pw_below_drewN | apply below_drew1) | exact HB.out)))); have n5_ := Aside0.mk (below_step (by repeat (first | (with_reducible first | exact HB.out | apply below_alloc | apply pw_below_drewN | apply below_drew1) | exact HB.out)) hb); clear HO131; clear HO134; clear HO137; clear HO140; clear HB; have HO131 := n0_; have HO134 := n1_; have HO137 := n2_; have HO140 := n3_; have HO143 := n4_; have HB := n5_; clear n0_ n1_ n2_ n3_ n4_ n5_; clear hb ho23; obtain ⟨Ao24, co24, eo24⟩ := Kd.R_slice HO140.out; subst eo24; obtain ⟨Ao25, co25, eo25⟩ := Kd.R_slice HO143.out; subst eo25) | ((with_reducible refine gate_callee (f := 40) rfl ?_); refine goesL_ (some 9) rfl rfl Try.func40 (by kernel_rfl) rfl #[.slice Ao24 t138.length co24, .slice Ao25 y141.length co25] rfl (by (try simp only [List.map_toArray, List.map_cons, List.map_nil]); first | done | rfl | (simp only [List.length_drop, List.length_take]; rfl)) ?_; (with_reducible refine (heliastref12_Same.calls k _ _ t138 _ _ y141 true _ ?side1 ?side2 ?side3 ?side4 A2.out).mono ?_); (case side1 => repeat (first | exact (Kd.R_reads' HO140.out).2.2 | (with_reducible refine Kd.C_alloc ?_ _) | (with_reducible refine Kd.C_drewN ?_ _) | (with_reducible refine Kd.C_drew ?_))); (case side2 => exact (Kd.R_reads' HO140.out).2.1); (case side3 => repeat (first | exact (Kd.R_reads' HO143.out).2.2 | (with_reducible refine Kd.C_alloc ?_ _) | (with_reducible refine Kd.C_drewN ?_ _) | (with_reducible refine Kd.C_drew ?_))); (case side4 => exact (Kd.R_reads' HO143.out).2.1); rintro e w' ⟨rfl, ⟨nd, rfl⟩⟩; refine ⟨_, rfl, ?_⟩) | (go_at_call 52; clear tok1_; (with_reducible refine (graph_Right.calls k _ _ y129 true _ ?side1 ?side2 A4.out).mono ?_); (case side1 => repeat (first | exact (Kd.N_reads' HO131.out).2.2 | (with_reducible refine Kd.C_alloc ?_ _) | (with_reducible refine Kd.C_drewN ?_ _) | (with_reducible refine Kd.C_drew ?_))); (case side2 => exact (Kd.N_reads' HO131.out).2.1); rintro e w' ⟨rfl, ⟨nd, rfl⟩⟩) | ((with_reducible refine gate_dst (N := 15) rfl ?_); (try (refine gate_guard (by rfl) ?_; dsimp only)); refine Kd.R_lit (Kd.int .i64) _ 3 ?hg (N := 15) ?hd (xs := ([0] : List Int)) (inner := [.int .i64 0]) (ok := fun _ => True) (okp := fun _ => True) ?hr ?hp (fun _ hk => hk) trivial (Below.refl _ _) (Nat.le_refl _) (by simp) ?_; (case hd => rfl); (case hg => rfl); (case hr => first | (go_simp; done) | (go_simp; rfl)); (case hp => exact (Reps.one (show Kd.M (Kd.int .i64) _ _ _ 0 [.int .i64 0] from rfl) (Reps.none _ _))); intro v147 w26 ho27 hb hg_ hnew_; clear hg_ hnew_; (first | rw [← Ny146.out] at ho27 | (simp only [Int.reduceToNat] at ho27; rw [← Ny146.out] at ho27)); have n0_ := Aside0.mk (Kd.N_elder' (by (with_reducible repeat (first | apply Kd.N_alloc | apply Kd.N_drewN | apply Kd.N_drew)); exact HO131.out) (Kd.R_base ho27) hb); have n1_ := Aside0.mk (Kd.R_elder' (by (with_reducible repeat (first | apply Kd.R_alloc | apply Kd.R_drewN | apply Kd.R_drew)); exact HO134.out) (Kd.R_base ho27) hb); have n2_ := Aside0.mk (Kd.R_elder' (by (with_reducible repeat (first | apply Kd.R_alloc | apply Kd.R_drewN | apply Kd.R_drew)); exact HO137.out) (Kd.R_base ho27) hb); have n3_ := Aside0.mk (Kd.R_elder' (by (with_reducible repeat (first | apply Kd.R_alloc | apply Kd.R_drewN | apply Kd.R_drew)); exact HO140.out) (Kd.R_base ho27) hb); have n4_ := Aside0.mk (Kd.R_elder' (by (with_reducible repeat (first | apply Kd.R_alloc | apply Kd.R_drewN | apply Kd.R_drew)); exact HO143.out) (Kd.R_base ho27) hb); have n5_ := Aside0.mk (Kd.R_lower (Kd.R_new' (Kd.R_new' (Kd.R_new' (Kd.R_new' ho27 (Kd.R_lt (by (with_reducible repeat (first | apply Kd.R_alloc | apply Kd.R_drewN | apply Kd.R_drew)); exact HO134.out))) (Kd.R_lt (by (with_reducible repeat (first | apply Kd.R_alloc | apply Kd.R_drewN | apply Kd.R_drew)); exact HO137.out))) (Kd.R_lt (by (with_reducible repeat (first | apply Kd.R_alloc | apply Kd.R_drewN | apply Kd.R_drew)); exact HO140.out))) (Kd.R_lt (by (with_reducible repeat (first | apply Kd.R_alloc | apply Kd.R_drewN | apply Kd.R_drew)); exact HO143.out))) (below_size (by repeat (first | (with_reducible first | exact HB.out | apply below_alloc | apply pw_below_drewN | apply below_drew1) | exact HB.out)))); have n6_ := Aside0.mk (below_step (by repeat (first | (with_reducible first | exact HB.out | apply below_alloc | apply pw_below_drewN | apply below_drew1) | exact HB.out)) hb); clear HO131; clear HO134; clear HO137; clear HO140; clear HO143; clear HB; have HO131 := n0_; have HO134 := n1_; have HO137 := n2_; have HO140 := n3_; have HO143 := n4_; have HO148 := n5_; have HB := n6_; clear n0_ n1_ n2_ n3_ n4_ n5_ n6_; clear hb ho27; obtain ⟨Ao28, co28, eo28⟩ := Kd.R_slice HO148.out; subst eo28) | ((with_reducible refine gate_dst (N := 16) rfl ?_); (try (refine gate_guard (by rfl) ?_; dsimp only)); refine Kd.N_lit (Kd.slice 3 (Kd.int .i64)) _ 65 ?hg (N' := 16) ?hd (xs := ([y146] : List (List Int))) (inner := [.slice Ao28 y146.length co28]) (ok := (fun k_ => some k_ ≠ (.slice Ao18 y129.length co18 : Value).ownBlock ∧ some k_ ≠ (.slice Ao19 y132.length co19 : Value).ownBlock ∧ some k_ ≠ (.slice Ao20 y135.length co20 : Value).ownBlock ∧ some k_ ≠ (.slice Ao24 t138.length co24 : Value).ownBlock ∧ some k_ ≠ (.slice Ao25 y141.length co25 : Value).ownBlock)) (okp := (fun k_ => some k_ ≠ (.slice Ao18 y129.length co18 : Value).ownBlock ∧ some k_ ≠ (.slice Ao19 y132.length co19 : Value).ownBlock ∧ some k_ ≠ (.slice Ao20 y135.length co20 : Value).ownBlock ∧ some k_ ≠ (.slice Ao24 t138.length co24 : Value).ownBlock ∧ some k_ ≠ (.slice Ao25 y141.length co25 : Value).ownBlock)) ?hr ?hp (fun _ hk => hk) ((show ∀ k_, w26.heap.size ≤ k_ → (fun k_ => some k_ ≠ (.slice Ao18 y129.length co18 : Value).ownBlock ∧ some k_ ≠ (.slice Ao19 y132.length co19 : Value).ownBlock ∧ some k_ ≠ (.slice Ao20 y135.length co20 : Value).ownBlock ∧ some k_ ≠ (.slice Ao24 t138.length co24 : Value).ownBlock ∧ some k_ ≠ (.slice Ao25 y141.length co25 : Value).ownBlock) k_ from fun k_ hk => ⟨Kd.fresh' (Kd.N_lt (by (with_reducible repeat (first | apply Kd.N_alloc | apply Kd.N_drewN | apply Kd.N_drew)); exact HO131.out)) k_ hk, Kd.fresh' (Kd.R_lt (by (with_reducible repeat (first | apply Kd.R_alloc | apply Kd.R_drewN | apply Kd.R_drew)); exact HO134.out)) k_ hk, Kd.fresh' (Kd.R_lt (by (with_reducible repeat (first | apply Kd.R_alloc | apply Kd.R_drewN | apply Kd.R_drew)); exact HO137.out)) k_ hk, Kd.fresh' (Kd.R_lt (by (with_reducible repeat (first | apply Kd.R_alloc | apply Kd.R_drewN | apply Kd.R_drew)); exact HO140.out)) k_ hk, Kd.fresh' (Kd.R_lt (by (with_reducible repeat (first | apply Kd.R_alloc | apply Kd.R_drewN | apply Kd.R_drew)); exact HO143.out)) k_ hk⟩) _ (Nat.le_refl _)) (Below.refl _ _) (Nat.le_refl _) (by simp) ?_; (case hd => rfl); (case hg => rfl); (case hr => first | (go_simp; done) | (go_simp; rfl)); (case hp => exact (Reps.one (show Kd.FK (Kd.slice 3 (Kd.int .i64)) _ _ y146 [.slice Ao28 y146.length co28] from (Kd.FK_slice_mk (Kd.R_reads' (Kd.R_mono (ok' := (fun k_ => some k_ ≠ (.slice Ao18 y129.length co18 : Value).ownBlock ∧ some k_ ≠ (.slice Ao19 y132.length co19 : Value).ownBlock ∧ some k_ ≠ (.slice Ao20 y135.length co20 : Value).ownBlock ∧ some k_ ≠ (.slice Ao24 t138.length co24 : Value).ownBlock ∧ some k_ ≠ (.slice Ao25 y141.length co25 : Value).ownBlock)) (Kd.R_apart' (HO148.out) (Kd.N_typed HO131.out) (by decide)) (fun k_ hk => ⟨hk.2, ⟨hk.1.1.1.1.2, ⟨hk.1.1.1.2, ⟨hk.1.1.2, hk.1.2⟩⟩⟩⟩))).2.1 (Kd.R_F (Kd.R_mono (ok' := (fun k_ => some k_ ≠ (.slice Ao18 y129.length co18 : Value).ownBlock ∧ some k_ ≠ (.slice Ao19 y132.length co19 : Value).ownBlock ∧ some k_ ≠ (.slice Ao20 y135.length co20 : Value).ownBlock ∧ some k_ ≠ (.slice Ao24 t138.length co24 : Value).ownBlock ∧ some k_ ≠ (.slice Ao25 y141.length co25 : Value).ownBlock)) (Kd.R_apart' (HO148.out) (Kd.N_typed HO131.out) (by decide)) (fun k_ hk => ⟨hk.2, ⟨hk.1.1.1.1.2, ⟨hk.1.1.1.2, ⟨hk.1.1.2, hk.1.2⟩⟩⟩⟩))))) (Reps.none _ _))); intro v150 w29 ho30 hb hg_ hnew_; clear hg_ hnew_; (first | rw [← Ny149.out] at ho30 | (simp only [Int.reduceToNat] at ho30; rw [← Ny149.out] at ho30)); have n0_ := Aside0.mk (Kd.N_elder' (by (with_reducible repeat (first | apply Kd.N_alloc | apply Kd.N_drewN | apply Kd.N_drew)); exact HO131.out) (Kd.N_base ho30) hb); have n1_ := Aside0.mk (Kd.R_below (by (with_reducible repeat (first | apply Kd.R_alloc | apply Kd.R_drewN | apply Kd.R_drew)); exact HO134.out) hb); have n2_ := Aside0.mk (Kd.R_below (by (with_reducible repeat (first | apply Kd.R_alloc | apply Kd.R_drewN | apply Kd.R_drew)); exact HO137.out) hb); have n3_ := Aside0.mk (Kd.R_below (by (with_reducible repeat (first | apply Kd.R_alloc | apply Kd.R_drewN | apply Kd.R_drew)); exact HO140.out) hb); have n4_ := Aside0.mk (Kd.R_below (by (with_reducible repeat (first | apply Kd.R_alloc | apply Kd.R_drewN | apply Kd.R_drew)); exact HO143.out) hb); have n5_ := Aside0.mk (Kd.N_lower ho30 (below_size (by repeat (first | (with_reducible first | exact HB.out | apply below_alloc | apply pw_below_drewN | apply below_drew1) | exact HB.out)))); have n6_ := Aside0.mk (below_step (by repeat (first | (with_reducible first | exact HB.out | apply below_alloc | apply pw_below_drewN | apply below_drew1) | exact HB.out)) hb); clear HO131; clear HO134; clear HO137; clear HO140; clear HO143; clear HB; clear HO148; have HO131 := n0_; have HO134 := n1_; have HO137 := n2_; have HO140 := n3_; have HO143 := n4_; have HO151 := n5_; have HB := n6_; clear n0_ n1_ n2_ n3_ n4_ n5_ n6_; clear hb ho30; obtain ⟨Ao31, co31, eo31⟩ := Kd.N_slice HO151.out; subst eo31) | (go_at_call 52; clear tok2_; (with_reducible refine (graph_Right.calls k _ _ y149 false _ ?side1 ?side2 A6.out).mono ?_); (case side1 => repeat (first | exact (Kd.N_reads' HO151.out).2.2 | (with_reducible refine Kd.C_alloc ?_ _) | (with_reducible refine Kd.C_drewN ?_ _) | (with_reducible refine Kd.C_drew ?_))); (case side2 => exact (Kd.N_reads' HO151.out).2.1); rintro e w' ⟨rfl, ⟨nd, rfl⟩⟩) | (go_at_call 93; (with_reducible refine (graph_Long.calls _ _ y129 2 t153 _ ?side1 ?side2 A8.out).mono ?_); (case side1 => repeat (first | exact (Kd.N_reads' HO131.out).2.2 | (with_reducible refine Kd.C_alloc ?_ _) | (with_reducible refine Kd.C_drewN ?_ _) | (with_reducible refine Kd.C_drew ?_))); (case side2 => exact (Kd.N_reads' HO131.out).2.1); rintro e w32 ⟨rfl, hb⟩; have n0_ := Aside0.mk (Kd.N_below (by (with_reducible repeat (first | apply Kd.N_alloc | apply Kd.N_drewN | apply Kd.N_drew)); exact HO131.out) hb); have n1_ := Aside0.mk (Kd.R_below (by (with_reducible repeat (first | apply Kd.R_alloc | apply Kd.R_drewN | apply Kd.R_drew)); exact HO134.out) hb); have n2_ := Aside0.mk (Kd.R_below (by (with_reducible repeat (first | apply Kd.R_alloc | apply Kd.R_drewN | apply Kd.R_drew)); exact HO137.out) hb); have n3_ := Aside0.mk (Kd.R_below (by (with_reducible repeat (first | apply Kd.R_alloc | apply Kd.R_drewN | apply Kd.R_drew)); exact HO140.out) hb); have n4_ := Aside0.mk (Kd.R_below (by (with_reducible repeat (first | apply Kd.R_alloc | apply Kd.R_drewN | apply Kd.R_drew)); exact HO143.out) hb); have n5_ := Aside0.mk (Kd.N_below (by (with_reducible repeat (first | apply Kd.N_alloc | apply Kd.N_drewN | apply Kd.N_drew)); exact HO151.out) hb); have n6_ := Aside0.mk (below_step (by repeat (first | (with_reducible first | exact HB.out | apply below_alloc | apply pw_below_drewN | apply below_drew1) | exact HB.out)) hb); clear HO131; clear HO134; clear HO137; clear HO140; clear HO143; clear HO151; clear HB; have HO131 := n0_; have HO134 := n1_; have HO137 := n2_; have HO140 := n3_; have HO143 := n4_; have HO151 := n5_; have HB := n6_; clear n0_ n1_ n2_ n3_ n4_ n5_ n6_; (try clear hb); (try clear hb2); (try clear hk); (try clear hi)))
        go_ret
        exact ⟨by first | rfl | (simp [errW_none, errW_some] <;> rfl) | (simp [*, errW_none, errW_some] <;> rfl), by repeat (first | (with_reducible first | exact HB.out | apply below_alloc | apply pw_below_drewN | apply below_drew1) | exact HB.out)⟩
    · replace c5 := Bool.eq_false_iff.mpr c5
      subst c5
      have H1 : (some false) = some r := by rw [if_neg (show ¬ (false = true) by decide)] at H; exact H
      clear H
      have H := H1
      clear H1
      exact absurd ((Option.some.inj H).trans HLAW.out) (by decide)
  · replace c3 := Bool.eq_false_iff.mpr c3
    subst c3
    have H1 : (some false) = some r := by rw [if_neg (show ¬ (false = true) by decide)] at H; exact H
    clear H
    have H := H1
    clear H1
    exact absurd ((Option.some.inj H).trans HLAW.out) (by decide)

/-! ### heliastlaw12_GraphHeads: function 11 -/
mutual
def heliastlaw12_GraphHeads.l0 : Nat → Int → List (List Int) → List Int → List Int → Int → Option (Bool)
  | 0, _, _, _, _, _ => none
  | k + 1, x2, x7, x8, x9, x10 => if x10 < (x8.length : Int) then (heliastlaw12_GraphHeads.l1 k x2 x7 x8 x9 x10 false 0) else (if (x7.length : Int) = 0 then ((heliastlaw12_known.f k).bind fun t172 => (some t172)) else ((heliastlaw12_known.f k).bind fun t173 => (if t173 = true then (if (x9.length : Int) ≤ (x8.length : Int) then ((graph_Reach.f x7 (([Int.tmod (wrap64 (x2)) (x7.length : Int)] : List Int))).bind fun t177 => ((graph_Heads.f x7 t177).bind fun t180 => ((heliastref12_Same.f k t180 (([Int.tmod (wrap64 (x2)) (x7.length : Int)] : List Int))).bind fun t186 => (some t186)))) else (some false)) else (some false))))
def heliastlaw12_GraphHeads.l1 : Nat → Int → List (List Int) → List Int → List Int → Int → Bool → Int → Option (Bool)
  | 0, _, _, _, _, _, _, _ => none
  | k + 1, x2, x7, x8, x9, x10, x11, x12 => if x12 < (x8.length : Int) then (if x11 = true then (heliastlaw12_GraphHeads.l1 k x2 x7 x8 x9 x10 true (wrap64 (x12 + 1))) else (if 0 ≤ x12 then (if 0 ≤ (rd x8 x12) then (if (rd x8 x12) < (x7.length : Int) then (if 0 ≤ x10 then (if x10 < (x8.length : Int) then ((heliastref12_Has.f k (rd_L1 x7 (rd x8 x12)) (rd x8 x10)).bind fun t169 => (heliastlaw12_GraphHeads.l1 k x2 x7 x8 x9 x10 t169 (wrap64 (x12 + 1)))) else (none)) else (none)) else (none)) else (none)) else (none))) else (if 0 ≤ x10 then (if x10 < (x8.length : Int) then ((heliastref12_Has.f k x9 (rd x8 x10)).bind fun t171 => (if (t171 == x11) = true then (some false) else (heliastlaw12_GraphHeads.l0 k x2 x7 x8 x9 (wrap64 (x10 + 1))))) else (none)) else (none))
end
def heliastlaw12_GraphHeads.f (k : Nat) (l0 : List Int) (l1 : List Int) (a2 : Int) : Option (Bool) := (heliastlaw12_Graph.f k l0).bind fun t154 => ((heliastlaw12_Some.f k l1).bind fun t157 => ((heliastref12_Set.f k t154 t157).bind fun t160 => ((graph_Heads.f t154 t160).bind fun t163 => (heliastlaw12_GraphHeads.l0 k a2 t154 t160 t163 0))))
theorem heliastlaw12_GraphHeads.mono_l : ∀ k, (∀ y0 y1 y2 y3 y4, LeO (heliastlaw12_GraphHeads.l0 k y0 y1 y2 y3 y4) (heliastlaw12_GraphHeads.l0 (k + 1) y0 y1 y2 y3 y4)) ∧ (∀ y0 y1 y2 y3 y4 y5 y6, LeO (heliastlaw12_GraphHeads.l1 k y0 y1 y2 y3 y4 y5 y6) (heliastlaw12_GraphHeads.l1 (k + 1) y0 y1 y2 y3 y4 y5 y6))
  | 0 => ⟨fun _ _ _ _ _ r h => by simp [heliastlaw12_GraphHeads.l0] at h, fun _ _ _ _ _ _ _ r h => by simp [heliastlaw12_GraphHeads.l1] at h⟩
  | k + 1 => by
    obtain ⟨ih0, ih1⟩ := heliastlaw12_GraphHeads.mono_l k
    refine ⟨?_, ?_⟩
    · intro y0 y1 y2 y3 y4
      unfold heliastlaw12_GraphHeads.l0
      repeat' first
      | (with_reducible exact ih0 _ _ _ _ _)
      | (with_reducible exact ih1 _ _ _ _ _ _ _)
      | (with_reducible exact heliastlaw12_Graph.mono _ _)
      | (with_reducible exact heliastlaw12_Some.mono _ _)
      | (with_reducible exact heliastlaw12_known.mono _)
      | (with_reducible exact heliastref12_Has.mono _ _ _)
      | (with_reducible exact heliastref12_Same.mono _ _ _)
      | (with_reducible exact heliastref12_Set.mono _ _ _)
      | (with_reducible exact LeO.refl _)
      | (with_reducible exact LeO.none _)
      | (with_reducible refine LeO.ite ?_ ?_)
      | (with_reducible refine LeO.bind ?_ (fun _ => ?_))
      | exact ih0 _ _ _ _ _
      | exact ih1 _ _ _ _ _ _ _
      | exact heliastlaw12_Graph.mono _ _
      | exact heliastlaw12_Some.mono _ _
      | exact heliastlaw12_known.mono _
      | exact heliastref12_Has.mono _ _ _
      | exact heliastref12_Same.mono _ _ _
      | exact heliastref12_Set.mono _ _ _
      | exact LeO.none _
      | refine LeO.ite ?_ ?_
      | refine LeO.bind ?_ (fun _ => ?_)
    · intro y0 y1 y2 y3 y4 y5 y6
      unfold heliastlaw12_GraphHeads.l1
      repeat' first
      | (with_reducible exact ih0 _ _ _ _ _)
      | (with_reducible exact ih1 _ _ _ _ _ _ _)
      | (with_reducible exact heliastlaw12_Graph.mono _ _)
      | (with_reducible exact heliastlaw12_Some.mono _ _)
      | (with_reducible exact heliastlaw12_known.mono _)
      | (with_reducible exact heliastref12_Has.mono _ _ _)
      | (with_reducible exact heliastref12_Same.mono _ _ _)
      | (with_reducible exact heliastref12_Set.mono _ _ _)
      | (with_reducible exact LeO.refl _)
      | (with_reducible exact LeO.none _)
      | (with_reducible refine LeO.ite ?_ ?_)
      | (with_reducible refine LeO.bind ?_ (fun _ => ?_))
      | exact ih0 _ _ _ _ _
      | exact ih1 _ _ _ _ _ _ _
      | exact heliastlaw12_Graph.mono _ _
      | exact heliastlaw12_Some.mono _ _
      | exact heliastlaw12_known.mono _
      | exact heliastref12_Has.mono _ _ _
      | exact heliastref12_Same.mono _ _ _
      | exact heliastref12_Set.mono _ _ _
      | exact LeO.none _
      | refine LeO.ite ?_ ?_
      | refine LeO.bind ?_ (fun _ => ?_)
theorem heliastlaw12_GraphHeads.mono : ∀ a0 a1 a2 k, LeO (heliastlaw12_GraphHeads.f k a0 a1 a2) (heliastlaw12_GraphHeads.f (k + 1) a0 a1 a2) := by
  intro a0 a1 a2 k
  obtain ⟨ih0, ih1⟩ := heliastlaw12_GraphHeads.mono_l k
  unfold heliastlaw12_GraphHeads.f
  repeat' first
      | (with_reducible exact ih0 _ _ _ _ _)
      | (with_reducible exact ih1 _ _ _ _ _ _ _)
      | (with_reducible exact heliastlaw12_Graph.mono _ _)
      | (with_reducible exact heliastlaw12_Some.mono _ _)
      | (with_reducible exact heliastlaw12_known.mono _)
      | (with_reducible exact heliastref12_Has.mono _ _ _)
      | (with_reducible exact heliastref12_Same.mono _ _ _)
      | (with_reducible exact heliastref12_Set.mono _ _ _)
      | (with_reducible exact LeO.refl _)
      | (with_reducible exact LeO.none _)
      | (with_reducible refine LeO.ite ?_ ?_)
      | (with_reducible refine LeO.bind ?_ (fun _ => ?_))
      | exact ih0 _ _ _ _ _
      | exact ih1 _ _ _ _ _ _ _
      | exact heliastlaw12_Graph.mono _ _
      | exact heliastlaw12_Some.mono _ _
      | exact heliastlaw12_known.mono _
      | exact heliastref12_Has.mono _ _ _
      | exact heliastref12_Same.mono _ _ _
      | exact heliastref12_Set.mono _ _ _
      | exact LeO.none _
      | refine LeO.ite ?_ ?_
      | refine LeO.bind ?_ (fun _ => ?_)
set_option maxHeartbeats 8000000 in
set_option maxRecDepth 100000 in
theorem heliastlaw12_GraphHeads.calls (k : Nat) (A0 : Option Addr) (c0 : Nat) (l0 : List Int) (A1 : Option Addr) (c1 : Nat) (l1 : List Int) (a2 : Int) (r : Bool) (w : World) (hr0 : Kd.C (Kd.int .u8) w A0 l0.length l0) (hc0 : l0.length ≤ c0) (hr1 : Kd.C (Kd.int .u8) w A1 l1.length l1) (hc1 : l1.length ≤ c1) (h : heliastlaw12_GraphHeads.f k l0 l1 a2 = some r) (hlaw : r = true) :
    Calls Try.prog 11 #[.slice A0 l0.length c0, .slice A1 l1.length c1, .int .u8 a2] w fun e w' => e = .returned (.bool r) ∧ Below w.heap.size w w' := by
  have HLAW := Aside0.mk hlaw
  clear hlaw
  have HR0 := Aside0.mk hr0
  have HC0 := Aside0.mk hc0
  clear hr0 hc0
  have HR1 := Aside0.mk hr1
  have HC1 := Aside0.mk hc1
  clear hr1 hc1
  have HB := Aside0.mk (Below.refl w.heap.size w)
  have H : ((heliastlaw12_Graph.f k l0).bind fun t154 => ((heliastlaw12_Some.f k l1).bind fun t157 => ((heliastref12_Set.f k t154 t157).bind fun t160 => ((graph_Heads.f t154 t160).bind fun t163 => (heliastlaw12_GraphHeads.l0 k a2 t154 t160 t163 0))))) = some r := h
  clear h
  replace H := Option.bind_eq_some_iff.mp H
  obtain ⟨t154, A40, H⟩ := H
  replace H : ((heliastlaw12_Some.f k l1).bind fun t157 => ((heliastref12_Set.f k t154 t157).bind fun t160 => ((graph_Heads.f t154 t160).bind fun t163 => (heliastlaw12_GraphHeads.l0 k a2 t154 t160 t163 0)))) = some r := H
  have A4 := Aside0.mk A40
  clear A40
  replace H := Option.bind_eq_some_iff.mp H
  obtain ⟨t157, A50, H⟩ := H
  replace H : ((heliastref12_Set.f k t154 t157).bind fun t160 => ((graph_Heads.f t154 t160).bind fun t163 => (heliastlaw12_GraphHeads.l0 k a2 t154 t160 t163 0))) = some r := H
  have A5 := Aside0.mk A50
  clear A50
  replace H := Option.bind_eq_some_iff.mp H
  obtain ⟨t160, A60, H⟩ := H
  replace H : ((graph_Heads.f t154 t160).bind fun t163 => (heliastlaw12_GraphHeads.l0 k a2 t154 t160 t163 0)) = some r := H
  have A6 := Aside0.mk A60
  clear A60
  replace H := Option.bind_eq_some_iff.mp H
  obtain ⟨t163, A70, H⟩ := H
  replace H : (heliastlaw12_GraphHeads.l0 k a2 t154 t160 t163 0) = some r := H
  have A7 := Aside0.mk A70
  clear A70
  have H' := Aside0.mk H
  clear H
  go_enter Try.func11, Try.ntmps11
  go_wp2_with (first | (go_at_call 37; (with_reducible refine (heliastlaw12_Graph.calls k _ _ l0 t154 _ ?side1 ?side2 A4.out).mono ?_); (case side1 => repeat (first | exact HR0.out | (with_reducible refine Kd.C_alloc ?_ _) | (with_reducible refine Kd.C_drewN ?_ _) | (with_reducible refine Kd.C_drew ?_))); (case side2 => exact HC0.out); rintro e w8 ⟨v155, rfl, ho0, hb⟩; have n0_ := Aside0.mk (Kd.S_lower ho0 (below_size (by repeat (first | (with_reducible first | exact HB.out | apply below_alloc | apply pw_below_drewN | apply below_drew1) | exact HB.out)))); have n1_ := Aside0.mk (below_step (by repeat (first | (with_reducible first | exact HB.out | apply below_alloc | apply pw_below_drewN | apply below_drew1) | exact HB.out)) hb); clear HB; have HO156 := n0_; have HB := n1_; clear n0_ n1_; (try clear hb); (try clear hb2); (try clear hk); (try clear hi); (try clear ho0)) | (go_at_call 45; (with_reducible refine (heliastlaw12_Some.calls k _ _ l1 t157 _ ?side1 ?side2 A5.out).mono ?_); (case side1 => repeat (first | exact (Kd.C_below HR1.out HB.out) | (with_reducible refine Kd.C_alloc ?_ _) | (with_reducible refine Kd.C_drewN ?_ _) | (with_reducible refine Kd.C_drew ?_))); (case side2 => exact HC1.out); rintro e w9 ⟨v158, rfl, ho0, hb⟩; have n0_ := Aside0.mk (Kd.S_elder' (by (with_reducible repeat (first | apply Kd.S_alloc | apply Kd.S_drewN | apply Kd.S_drew)); exact HO156.out) (Kd.R_base ho0) hb); have n1_ := Aside0.mk (Kd.R_lower ho0 (below_size (by repeat (first | (with_reducible first | exact HB.out | apply below_alloc | apply pw_below_drewN | apply below_drew1) | exact HB.out)))); have n2_ := Aside0.mk (below_step (by repeat (first | (with_reducible first | exact HB.out | apply below_alloc | apply pw_below_drewN | apply below_drew1) | exact HB.out)) hb); clear HO156; clear HB; have HO156 := n0_; have HO159 := n1_; have HB := n2_; clear n0_ n1_ n2_; (try clear hb); (try clear hb2); (try clear hk); (try clear hi); (try clear ho0); obtain ⟨Ao10, co10, eo10⟩ := Kd.S_slice HO156.out; subst eo10; obtain ⟨Ao11, co11, eo11⟩ := Kd.R_slice HO159.out; subst eo11) | (go_at_call 41; (with_reducible refine (heliastref12_Set.calls k _ _ t154 _ _ t157 t160 _ ?side1 ?side2 ?side3 ?side4 A6.out).mono ?_); (case side1 => repeat (first | exact (Kd.S_reads' HO156.out).2.2 | (with_reducible refine Kd.C_alloc ?_ _) | (with_reducible refine Kd.C_drewN ?_ _) | (with_reducible refine Kd.C_drew ?_))); (case side2 => exact (Kd.S_reads' HO156.out).2.1); (case side3 => repeat (first | exact (Kd.R_reads' HO159.out).2.2 | (with_reducible refine Kd.C_alloc ?_ _) | (with_reducible refine Kd.C_drewN ?_ _) | (with_reducible refine Kd.C_drew ?_))); (case side4 => exact (Kd.R_reads' HO159.out).2.1); rintro e w12 ⟨v161, rfl, ho0, hb⟩; have n0_ := Aside0.mk (Kd.S_elder' (by (with_reducible repeat (first | apply Kd.S_alloc | apply Kd.S_drewN | apply Kd.S_drew)); exact HO156.out) (Kd.R_base ho0) hb); have n1_ := Aside0.mk (Kd.R_elder' (by (with_reducible repeat (first | apply Kd.R_alloc | apply Kd.R_drewN | apply Kd.R_drew)); exact HO159.out) (Kd.R_base ho0) hb); have n2_ := Aside0.mk (Kd.R_lower (Kd.R_new' ho0 (Kd.R_lt (by (with_reducible repeat (first | apply Kd.R_alloc | apply Kd.R_drewN | apply Kd.R_drew)); exact HO159.out))) (below_size (by repeat (first | (with_reducible first | exact HB.out | apply below_alloc | apply pw_below_drewN | apply below_drew1) | exact HB.out)))); have n3_ := Aside0.mk (below_step (by repeat (first | (with_reducible first | exact HB.out | apply below_alloc | apply pw_below_drewN | apply below_drew1) | exact HB.out)) hb); clear HO156; clear HO159; clear HB; have HO156 := n0_; have HO159 := n1_; have HO162 := n2_; have HB := n3_; clear n0_ n1_ n2_ n3_; (try clear hb); (try clear hb2); (try clear hk); (try clear hi); (try clear ho0); obtain ⟨Ao13, co13, eo13⟩ := Kd.R_slice HO162.out; subst eo13) | (go_at_call 46; (with_reducible refine (graph_Heads.calls _ _ t154 _ _ t160 t163 _ ?side1 ?side2 ?side3 ?side4 A7.out).mono ?_); (case side1 => repeat (first | exact (Kd.S_reads' HO156.out).2.2 | (with_reducible refine Kd.C_alloc ?_ _) | (with_reducible refine Kd.C_drewN ?_ _) | (with_reducible refine Kd.C_drew ?_))); (case side2 => exact (Kd.S_reads' HO156.out).2.1); (case side3 => repeat (first | exact (Kd.R_reads' HO162.out).2.2 | (with_reducible refine Kd.C_alloc ?_ _) | (with_reducible refine Kd.C_drewN ?_ _) | (with_reducible refine Kd.C_drew ?_))); (case side4 => exact (Kd.R_reads' HO162.out).2.1); rintro e w14 ⟨v164, rfl, ho0, hb⟩; have n0_ := Aside0.mk (Kd.S_elder' (by (with_reducible repeat (first | apply Kd.S_alloc | apply Kd.S_drewN | apply Kd.S_drew)); exact HO156.out) (Kd.R_base ho0) hb); have n1_ := Aside0.mk (Kd.R_elder' (by (with_reducible repeat (first | apply Kd.R_alloc | apply Kd.R_drewN | apply Kd.R_drew)); exact HO159.out) (Kd.R_base ho0) hb); have n2_ := Aside0.mk (Kd.R_elder' (by (with_reducible repeat (first | apply Kd.R_alloc | apply Kd.R_drewN | apply Kd.R_drew)); exact HO162.out) (Kd.R_base ho0) hb); have n3_ := Aside0.mk (Kd.R_lower (Kd.R_new' (Kd.R_new' ho0 (Kd.R_lt (by (with_reducible repeat (first | apply Kd.R_alloc | apply Kd.R_drewN | apply Kd.R_drew)); exact HO159.out))) (Kd.R_lt (by (with_reducible repeat (first | apply Kd.R_alloc | apply Kd.R_drewN | apply Kd.R_drew)); exact HO162.out))) (below_size (by repeat (first | (with_reducible first | exact HB.out | apply below_alloc | apply pw_below_drewN | apply below_drew1) | exact HB.out)))); have n4_ := Aside0.mk (below_step (by repeat (first | (with_reducible first | exact HB.out | apply below_alloc | apply pw_below_drewN | apply below_drew1) | exact HB.out)) hb); clear HO156; clear HO159; clear HO162; clear HB; have HO156 := n0_; have HO159 := n1_; have HO162 := n2_; have HO165 := n3_; have HB := n4_; clear n0_ n1_ n2_ n3_ n4_; (try clear hb); (try clear hb2); (try clear hk); (try clear hi); (try clear ho0)))
  repeat (go_quiet (first | (go_at_call 37; (with_reducible refine (heliastlaw12_Graph.calls k _ _ l0 t154 _ ?side1 ?side2 A4.out).mono ?_); (case side1 => repeat (first | exact HR0.out | (with_reducible refine Kd.C_alloc ?_ _) | (with_reducible refine Kd.C_drewN ?_ _) | (with_reducible refine Kd.C_drew ?_))); (case side2 => exact HC0.out); rintro e w8 ⟨v155, rfl, ho0, hb⟩; have n0_ := Aside0.mk (Kd.S_lower ho0 (below_size (by repeat (first | (with_reducible first | exact HB.out | apply below_alloc | apply pw_below_drewN | apply below_drew1) | exact HB.out)))); have n1_ := Aside0.mk (below_step (by repeat (first | (with_reducible first | exact HB.out | apply below_alloc | apply pw_below_drewN | apply below_drew1) | exact HB.out)) hb); clear HB; have HO156 := n0_; have HB := n1_; clear n0_ n1_; (try clear hb); (try clear hb2); (try clear hk); (try clear hi); (try clear ho0)) | (go_at_call 45; (with_reducible refine (heliastlaw12_Some.calls k _ _ l1 t157 _ ?side1 ?side2 A5.out).mono ?_); (case side1 => repeat (first | exact (Kd.C_below HR1.out HB.out) | (with_reducible refine Kd.C_alloc ?_ _) | (with_reducible refine Kd.C_drewN ?_ _) | (with_reducible refine Kd.C_drew ?_))); (case side2 => exact HC1.out); rintro e w9 ⟨v158, rfl, ho0, hb⟩; have n0_ := Aside0.mk (Kd.S_elder' (by (with_reducible repeat (first | apply Kd.S_alloc | apply Kd.S_drewN | apply Kd.S_drew)); exact HO156.out) (Kd.R_base ho0) hb); have n1_ := Aside0.mk (Kd.R_lower ho0 (below_size (by repeat (first | (with_reducible first | exact HB.out | apply below_alloc | apply pw_below_drewN | apply below_drew1) | exact HB.out)))); have n2_ := Aside0.mk (below_step (by repeat (first | (with_reducible first | exact HB.out | apply below_alloc | apply pw_below_drewN | apply below_drew1) | exact HB.out)) hb); clear HO156; clear HB; have HO156 := n0_; have HO159 := n1_; have HB := n2_; clear n0_ n1_ n2_; (try clear hb); (try clear hb2); (try clear hk); (try clear hi); (try clear ho0); obtain ⟨Ao10, co10, eo10⟩ := Kd.S_slice HO156.out; subst eo10; obtain ⟨Ao11, co11, eo11⟩ := Kd.R_slice HO159.out; subst eo11) | (go_at_call 41; (with_reducible refine (heliastref12_Set.calls k _ _ t154 _ _ t157 t160 _ ?side1 ?side2 ?side3 ?side4 A6.out).mono ?_); (case side1 => repeat (first | exact (Kd.S_reads' HO156.out).2.2 | (with_reducible refine Kd.C_alloc ?_ _) | (with_reducible refine Kd.C_drewN ?_ _) | (with_reducible refine Kd.C_drew ?_))); (case side2 => exact (Kd.S_reads' HO156.out).2.1); (case side3 => repeat (first | exact (Kd.R_reads' HO159.out).2.2 | (with_reducible refine Kd.C_alloc ?_ _) | (with_reducible refine Kd.C_drewN ?_ _) | (with_reducible refine Kd.C_drew ?_))); (case side4 => exact (Kd.R_reads' HO159.out).2.1); rintro e w12 ⟨v161, rfl, ho0, hb⟩; have n0_ := Aside0.mk (Kd.S_elder' (by (with_reducible repeat (first | apply Kd.S_alloc | apply Kd.S_drewN | apply Kd.S_drew)); exact HO156.out) (Kd.R_base ho0) hb); have n1_ := Aside0.mk (Kd.R_elder' (by (with_reducible repeat (first | apply Kd.R_alloc | apply Kd.R_drewN | apply Kd.R_drew)); exact HO159.out) (Kd.R_base ho0) hb); have n2_ := Aside0.mk (Kd.R_lower (Kd.R_new' ho0 (Kd.R_lt (by (with_reducible repeat (first | apply Kd.R_alloc | apply Kd.R_drewN | apply Kd.R_drew)); exact HO159.out))) (below_size (by repeat (first | (with_reducible first | exact HB.out | apply below_alloc | apply pw_below_drewN | apply below_drew1) | exact HB.out)))); have n3_ := Aside0.mk (below_step (by repeat (first | (with_reducible first | exact HB.out | apply below_alloc | apply pw_below_drewN | apply below_drew1) | exact HB.out)) hb); clear HO156; clear HO159; clear HB; have HO156 := n0_; have HO159 := n1_; have HO162 := n2_; have HB := n3_; clear n0_ n1_ n2_ n3_; (try clear hb); (try clear hb2); (try clear hk); (try clear hi); (try clear ho0); obtain ⟨Ao13, co13, eo13⟩ := Kd.R_slice HO162.out; subst eo13) | (go_at_call 46; (with_reducible refine (graph_Heads.calls _ _ t154 _ _ t160 t163 _ ?side1 ?side2 ?side3 ?side4 A7.out).mono ?_); (case side1 => repeat (first | exact (Kd.S_reads' HO156.out).2.2 | (with_reducible refine Kd.C_alloc ?_ _) | (with_reducible refine Kd.C_drewN ?_ _) | (with_reducible refine Kd.C_drew ?_))); (case side2 => exact (Kd.S_reads' HO156.out).2.1); (case side3 => repeat (first | exact (Kd.R_reads' HO162.out).2.2 | (with_reducible refine Kd.C_alloc ?_ _) | (with_reducible refine Kd.C_drewN ?_ _) | (with_reducible refine Kd.C_drew ?_))); (case side4 => exact (Kd.R_reads' HO162.out).2.1); rintro e w14 ⟨v164, rfl, ho0, hb⟩; have n0_ := Aside0.mk (Kd.S_elder' (by (with_reducible repeat (first | apply Kd.S_alloc | apply Kd.S_drewN | apply Kd.S_drew)); exact HO156.out) (Kd.R_base ho0) hb); have n1_ := Aside0.mk (Kd.R_elder' (by (with_reducible repeat (first | apply Kd.R_alloc | apply Kd.R_drewN | apply Kd.R_drew)); exact HO159.out) (Kd.R_base ho0) hb); have n2_ := Aside0.mk (Kd.R_elder' (by (with_reducible repeat (first | apply Kd.R_alloc | apply Kd.R_drewN | apply Kd.R_drew)); exact HO162.out) (Kd.R_base ho0) hb); have n3_ := Aside0.mk (Kd.R_lower (Kd.R_new' (Kd.R_new' ho0 (Kd.R_lt (by (with_reducible repeat (first | apply Kd.R_alloc | apply Kd.R_drewN | apply Kd.R_drew)); exact HO159.out))) (Kd.R_lt (by (with_reducible repeat (first | apply Kd.R_alloc | apply Kd.R_drewN | apply Kd.R_drew)); exact HO162.out))) (below_size (by repeat (first | (with_reducible first | exact HB.out | apply below_alloc | apply pw_below_drewN | apply below_drew1) | exact HB.out)))); have n4_ := Aside0.mk (below_step (by repeat (first | (with_reducible first | exact HB.out | apply below_alloc | apply pw_below_drewN | apply below_drew1) | exact HB.out)) hb); clear HO156; clear HO159; clear HO162; clear HB; have HO156 := n0_; have HO159 := n1_; have HO162 := n2_; have HO165 := n3_; have HB := n4_; clear n0_ n1_ n2_ n3_ n4_; (try clear hb); (try clear hb2); (try clear hk); (try clear hi); (try clear ho0))); try go_wp2_with (first | (go_at_call 37; (with_reducible refine (heliastlaw12_Graph.calls k _ _ l0 t154 _ ?side1 ?side2 A4.out).mono ?_); (case side1 => repeat (first | exact HR0.out | (with_reducible refine Kd.C_alloc ?_ _) | (with_reducible refine Kd.C_drewN ?_ _) | (with_reducible refine Kd.C_drew ?_))); (case side2 => exact HC0.out); rintro e w8 ⟨v155, rfl, ho0, hb⟩; have n0_ := Aside0.mk (Kd.S_lower ho0 (below_size (by repeat (first | (with_reducible first | exact HB.out | apply below_alloc | apply pw_below_drewN | apply below_drew1) | exact HB.out)))); have n1_ := Aside0.mk (below_step (by repeat (first | (with_reducible first | exact HB.out | apply below_alloc | apply pw_below_drewN | apply below_drew1) | exact HB.out)) hb); clear HB; have HO156 := n0_; have HB := n1_; clear n0_ n1_; (try clear hb); (try clear hb2); (try clear hk); (try clear hi); (try clear ho0)) | (go_at_call 45; (with_reducible refine (heliastlaw12_Some.calls k _ _ l1 t157 _ ?side1 ?side2 A5.out).mono ?_); (case side1 => repeat (first | exact (Kd.C_below HR1.out HB.out) | (with_reducible refine Kd.C_alloc ?_ _) | (with_reducible refine Kd.C_drewN ?_ _) | (with_reducible refine Kd.C_drew ?_))); (case side2 => exact HC1.out); rintro e w9 ⟨v158, rfl, ho0, hb⟩; have n0_ := Aside0.mk (Kd.S_elder' (by (with_reducible repeat (first | apply Kd.S_alloc | apply Kd.S_drewN | apply Kd.S_drew)); exact HO156.out) (Kd.R_base ho0) hb); have n1_ := Aside0.mk (Kd.R_lower ho0 (below_size (by repeat (first | (with_reducible first | exact HB.out | apply below_alloc | apply pw_below_drewN | apply below_drew1) | exact HB.out)))); have n2_ := Aside0.mk (below_step (by repeat (first | (with_reducible first | exact HB.out | apply below_alloc | apply pw_below_drewN | apply below_drew1) | exact HB.out)) hb); clear HO156; clear HB; have HO156 := n0_; have HO159 := n1_; have HB := n2_; clear n0_ n1_ n2_; (try clear hb); (try clear hb2); (try clear hk); (try clear hi); (try clear ho0); obtain ⟨Ao10, co10, eo10⟩ := Kd.S_slice HO156.out; subst eo10; obtain ⟨Ao11, co11, eo11⟩ := Kd.R_slice HO159.out; subst eo11) | (go_at_call 41; (with_reducible refine (heliastref12_Set.calls k _ _ t154 _ _ t157 t160 _ ?side1 ?side2 ?side3 ?side4 A6.out).mono ?_); (case side1 => repeat (first | exact (Kd.S_reads' HO156.out).2.2 | (with_reducible refine Kd.C_alloc ?_ _) | (with_reducible refine Kd.C_drewN ?_ _) | (with_reducible refine Kd.C_drew ?_))); (case side2 => exact (Kd.S_reads' HO156.out).2.1); (case side3 => repeat (first | exact (Kd.R_reads' HO159.out).2.2 | (with_reducible refine Kd.C_alloc ?_ _) | (with_reducible refine Kd.C_drewN ?_ _) | (with_reducible refine Kd.C_drew ?_))); (case side4 => exact (Kd.R_reads' HO159.out).2.1); rintro e w12 ⟨v161, rfl, ho0, hb⟩; have n0_ := Aside0.mk (Kd.S_elder' (by (with_reducible repeat (first | apply Kd.S_alloc | apply Kd.S_drewN | apply Kd.S_drew)); exact HO156.out) (Kd.R_base ho0) hb); have n1_ := Aside0.mk (Kd.R_elder' (by (with_reducible repeat (first | apply Kd.R_alloc | apply Kd.R_drewN | apply Kd.R_drew)); exact HO159.out) (Kd.R_base ho0) hb); have n2_ := Aside0.mk (Kd.R_lower (Kd.R_new' ho0 (Kd.R_lt (by (with_reducible repeat (first | apply Kd.R_alloc | apply Kd.R_drewN | apply Kd.R_drew)); exact HO159.out))) (below_size (by repeat (first | (with_reducible first | exact HB.out | apply below_alloc | apply pw_below_drewN | apply below_drew1) | exact HB.out)))); have n3_ := Aside0.mk (below_step (by repeat (first | (with_reducible first | exact HB.out | apply below_alloc | apply pw_below_drewN | apply below_drew1) | exact HB.out)) hb); clear HO156; clear HO159; clear HB; have HO156 := n0_; have HO159 := n1_; have HO162 := n2_; have HB := n3_; clear n0_ n1_ n2_ n3_; (try clear hb); (try clear hb2); (try clear hk); (try clear hi); (try clear ho0); obtain ⟨Ao13, co13, eo13⟩ := Kd.R_slice HO162.out; subst eo13) | (go_at_call 46; (with_reducible refine (graph_Heads.calls _ _ t154 _ _ t160 t163 _ ?side1 ?side2 ?side3 ?side4 A7.out).mono ?_); (case side1 => repeat (first | exact (Kd.S_reads' HO156.out).2.2 | (with_reducible refine Kd.C_alloc ?_ _) | (with_reducible refine Kd.C_drewN ?_ _) | (with_reducible refine Kd.C_drew ?_))); (case side2 => exact (Kd.S_reads' HO156.out).2.1); (case side3 => repeat (first | exact (Kd.R_reads' HO162.out).2.2 | (with_reducible refine Kd.C_alloc ?_ _) | (with_reducible refine Kd.C_drewN ?_ _) | (with_reducible refine Kd.C_drew ?_))); (case side4 => exact (Kd.R_reads' HO162.out).2.1); rintro e w14 ⟨v164, rfl, ho0, hb⟩; have n0_ := Aside0.mk (Kd.S_elder' (by (with_reducible repeat (first | apply Kd.S_alloc | apply Kd.S_drewN | apply Kd.S_drew)); exact HO156.out) (Kd.R_base ho0) hb); have n1_ := Aside0.mk (Kd.R_elder' (by (with_reducible repeat (first | apply Kd.R_alloc | apply Kd.R_drewN | apply Kd.R_drew)); exact HO159.out) (Kd.R_base ho0) hb); have n2_ := Aside0.mk (Kd.R_elder' (by (with_reducible repeat (first | apply Kd.R_alloc | apply Kd.R_drewN | apply Kd.R_drew)); exact HO162.out) (Kd.R_base ho0) hb); have n3_ := Aside0.mk (Kd.R_lower (Kd.R_new' (Kd.R_new' ho0 (Kd.R_lt (by (with_reducible repeat (first | apply Kd.R_alloc | apply Kd.R_drewN | apply Kd.R_drew)); exact HO159.out))) (Kd.R_lt (by (with_reducible repeat (first | apply Kd.R_alloc | apply Kd.R_drewN | apply Kd.R_drew)); exact HO162.out))) (below_size (by repeat (first | (with_reducible first | exact HB.out | apply below_alloc | apply pw_below_drewN | apply below_drew1) | exact HB.out)))); have n4_ := Aside0.mk (below_step (by repeat (first | (with_reducible first | exact HB.out | apply below_alloc | apply pw_below_drewN | apply below_drew1) | exact HB.out)) hb); clear HO156; clear HO159; clear HO162; clear HB; have HO156 := n0_; have HO159 := n1_; have HO162 := n2_; have HO165 := n3_; have HB := n4_; clear n0_ n1_ n2_ n3_ n4_; (try clear hb); (try clear hb2); (try clear hk); (try clear hi); (try clear ho0))))
  go_loopg [10] k (fun kq v10 w' => ∃ (x10_1 : Int), v10 = .int .i64 x10_1 ∧ Aside0 (heliastlaw12_GraphHeads.l0 kq a2 t154 t160 t163 x10_1 = some r) ∧ Aside0 (kq ≤ k) ∧ Aside0 (Kd.S (Kd.slice 3 (Kd.int .i64)) 65 w' w.heap.size (fun k_ => some k_ ≠ ((.slice Ao13 t160.length co13) : Value).ownBlock ∧ some k_ ≠ (v164 : Value).ownBlock) (.slice Ao10 t154.length co10) t154) ∧ Aside0 (Kd.R (Kd.int .i64) 3 w' w.heap.size (fun k_ => some k_ ≠ (v164 : Value).ownBlock) (.slice Ao13 t160.length co13) t160) ∧ Aside0 (Kd.R (Kd.int .i64) 3 w' w.heap.size (fun k_ => some k_ ≠ ((.slice Ao13 t160.length co13) : Value).ownBlock) v164 t163) ∧ Aside0 (Below w.heap.size w w'))
  case atStart => exact ⟨(0), (by first | rfl | (simp; done) | (simp [*]; done)), H', ⟨Nat.le_refl _⟩, ⟨by (with_reducible repeat (first | apply Kd.S_alloc | apply Kd.S_drewN | apply Kd.S_drew)); exact Kd.S_mono HO156.out (fun _ hk => ⟨hk.1.2, hk.2⟩)⟩, ⟨by (with_reducible repeat (first | apply Kd.R_alloc | apply Kd.R_drewN | apply Kd.R_drew)); exact Kd.R_mono HO162.out (fun _ hk => hk.2)⟩, ⟨by (with_reducible repeat (first | apply Kd.R_alloc | apply Kd.R_drewN | apply Kd.R_drew)); exact Kd.R_mono HO165.out (fun _ hk => hk.2)⟩, ⟨by repeat (first | (with_reducible first | exact HB.out | apply below_alloc | apply pw_below_drewN | apply below_drew1) | exact HB.out)⟩⟩
  case round =>
    clear H'
    try clear c1
    try clear p2
    try clear c11
    obtain ⟨x10_1, rfl, HA, HK1, HO_7, HO_8, HO_9, HB⟩ := hrel
    cases gk with
    | zero => exact absurd HA.out (by simp [heliastlaw12_GraphHeads.l0])
    | succ k1 =>
      have H := HA.out
      clear HA
      simp only [heliastlaw12_GraphHeads.l0] at H
      by_cases c15 : x10_1 < (t160.length : Int)
      · rw [if_pos c15] at H
        have c15b0 : decide (x10_1 < (t160.length : Int)) = true := decide_eq_true c15
        clear c15
        have H' := Aside0.mk H
        clear H
        go_wp2
        repeat (go_quiet (fail); try go_wp2)
        go_loopg [11, 12] k1 (fun kq v11 v12 w' => ∃ (x11_2 : Bool) (x12_2 : Int), v11 = .bool x11_2 ∧ v12 = .int .i64 x12_2 ∧ Aside0 (heliastlaw12_GraphHeads.l1 kq a2 t154 t160 t163 x10_1 x11_2 x12_2 = some r) ∧ Aside0 (kq ≤ k1) ∧ Aside0 (Kd.S (Kd.slice 3 (Kd.int .i64)) 65 w' w.heap.size (fun k_ => some k_ ≠ ((.slice Ao13 t160.length co13) : Value).ownBlock ∧ some k_ ≠ (v164 : Value).ownBlock) (.slice Ao10 t154.length co10) t154) ∧ Aside0 (Kd.R (Kd.int .i64) 3 w' w.heap.size (fun k_ => some k_ ≠ (v164 : Value).ownBlock) (.slice Ao13 t160.length co13) t160) ∧ Aside0 (Kd.R (Kd.int .i64) 3 w' w.heap.size (fun k_ => some k_ ≠ ((.slice Ao13 t160.length co13) : Value).ownBlock) v164 t163) ∧ Aside0 (Below w.heap.size w w'))
        case atStart => exact ⟨(false), (0), (by first | rfl | (simp; done) | (simp [*]; done)), (by first | rfl | (simp; done) | (simp [*]; done)), H', ⟨Nat.le_refl _⟩, ⟨by (with_reducible repeat (first | apply Kd.S_alloc | apply Kd.S_drewN | apply Kd.S_drew)); exact HO_7.out⟩, ⟨by (with_reducible repeat (first | apply Kd.R_alloc | apply Kd.R_drewN | apply Kd.R_drew)); exact HO_8.out⟩, ⟨by (with_reducible repeat (first | apply Kd.R_alloc | apply Kd.R_drewN | apply Kd.R_drew)); exact HO_9.out⟩, ⟨by repeat (first | (with_reducible first | exact HB.out | apply below_alloc | apply pw_below_drewN | apply below_drew1) | exact HB.out)⟩⟩
        case round =>
          clear H'
          try clear c1
          try clear p2
          try clear c11
          try clear c15
          try clear c15b0
          try clear p2
          obtain ⟨x11_2, x12_2, rfl, rfl, HA, HK2, HO_7, HO_8, HO_9, HB⟩ := hrel
          cases gk with
          | zero => exact absurd HA.out (by simp [heliastlaw12_GraphHeads.l1])
          | succ k2 =>
            have H := HA.out
            clear HA
            simp only [heliastlaw12_GraphHeads.l1] at H
            by_cases c16 : x12_2 < (t160.length : Int)
            · rw [if_pos c16] at H
              have c16b0 : decide (x12_2 < (t160.length : Int)) = true := decide_eq_true c16
              clear c16
              by_cases c17 : x11_2 = true
              · subst c17
                have H1 : (heliastlaw12_GraphHeads.l1 k2 a2 t154 t160 t163 x10_1 true (wrap64 (x12_2 + 1))) = some r := by rw [if_pos rfl] at H; exact H
                clear H
                have H := H1
                clear H1
                have H' := Aside0.mk H
                clear H
                go_wp2
                repeat (go_quiet (fail); try go_wp2)
                go_roundg k2
                case measure => have := HK1.out; have := HK2.out; omega
                case rel => exact ⟨(true), (wrap64 (x12_2 + 1)), (by first | rfl | (simp; done) | (simp [*]; done)), (by first | rfl | (simp; done) | (simp [*]; done)), H', ⟨by have := HK1.out; have := HK2.out; omega⟩, ⟨by (with_reducible repeat (first | apply Kd.S_alloc | apply Kd.S_drewN | apply Kd.S_drew)); exact HO_7.out⟩, ⟨by (with_reducible repeat (first | apply Kd.R_alloc | apply Kd.R_drewN | apply Kd.R_drew)); exact HO_8.out⟩, ⟨by (with_reducible repeat (first | apply Kd.R_alloc | apply Kd.R_drewN | apply Kd.R_drew)); exact HO_9.out⟩, ⟨by repeat (first | (with_reducible first | exact HB.out | apply below_alloc | apply pw_below_drewN | apply below_drew1) | exact HB.out)⟩⟩
              · replace c17 := Bool.eq_false_iff.mpr c17
                subst c17
                have H1 : (if 0 ≤ x12_2 then (if 0 ≤ (rd t160 x12_2) then (if (rd t160 x12_2) < (t154.length : Int) then (if 0 ≤ x10_1 then (if x10_1 < (t160.length : Int) then ((heliastref12_Has.f k2 (rd_L1 t154 (rd t160 x12_2)) (rd t160 x10_1)).bind fun t169 => (heliastlaw12_GraphHeads.l1 k2 a2 t154 t160 t163 x10_1 t169 (wrap64 (x12_2 + 1)))) else (none)) else (none)) else (none)) else (none)) else (none)) = some r := by rw [if_neg (show ¬ (false = true) by decide)] at H; exact H
                clear H
                have H := H1
                clear H1
                by_cases c18 : 0 ≤ x12_2
                · rw [if_pos c18] at H
                  have c18b0 : decide (0 ≤ x12_2) = true := decide_eq_true c18
                  clear c18
                  by_cases c19 : 0 ≤ (rd t160 x12_2)
                  · rw [if_pos c19] at H
                    have c19b0 : decide (0 ≤ (rd t160 x12_2)) = true := decide_eq_true c19
                    clear c19
                    by_cases c20 : (rd t160 x12_2) < (t154.length : Int)
                    · rw [if_pos c20] at H
                      have c20b0 : decide ((rd t160 x12_2) < (t154.length : Int)) = true := decide_eq_true c20
                      clear c20
                      by_cases c21 : 0 ≤ x10_1
                      · rw [if_pos c21] at H
                        have c21b0 : decide (0 ≤ x10_1) = true := decide_eq_true c21
                        clear c21
                        by_cases c22 : x10_1 < (t160.length : Int)
                        · rw [if_pos c22] at H
                          have c22b0 : decide (x10_1 < (t160.length : Int)) = true := decide_eq_true c22
                          clear c22
                          replace H := Option.bind_eq_some_iff.mp H
                          obtain ⟨t169, A230, H⟩ := H
                          replace H : (heliastlaw12_GraphHeads.l1 k2 a2 t154 t160 t163 x10_1 t169 (wrap64 (x12_2 + 1))) = some r := H
                          have A23 := Aside0.mk A230
                          clear A230
                          have H' := Aside0.mk H
                          clear H
                          have p166 : 0 ≤ (x12_2 : Int) := of_decide_eq_true (by first | (with_reducible assumption) | assumption)
                          have q166 : x12_2 < (t160.length : Int) := of_decide_eq_true (by first | (with_reducible assumption) | assumption)
                          obtain ⟨ad166, e166, hx166_0⟩ := Kd.at_int (Kd.R_reads' HO_8.out).2.2 x12_2 p166 q166
                          cases e166
                          replace p166 := eq_true p166
                          replace q166 := eq_true q166
                          have p167 : 0 ≤ ((rd t160 x12_2) : Int) := of_decide_eq_true (by first | (with_reducible assumption) | assumption)
                          have q167 : (rd t160 x12_2) < (t154.length : Int) := of_decide_eq_true (by first | (with_reducible assumption) | assumption)
                          obtain ⟨ad167, A167_0, c167_0, e167, hx167_0, hl167_0, hi167_0⟩ := at_L1 (Kd.S_reads' HO_7.out).2.2 (rd t160 x12_2) p167 q167
                          cases e167
                          obtain ⟨ce167, hce167, hMe167, hcc167⟩ := Kd.S_get HO_7.out [] (rd t160 x12_2) p167 (by first | exact q167 | exact of_decide_eq_true (by first | (with_reducible assumption) | assumption) | (have e_ := (Kd.S_reads' HO_7.out).1; omega))
                          obtain ⟨ve167_0, rfl, ge167_0⟩ := hMe167
                          have hv167_0 := hcc167 0 _ rfl
                          rw [Nat.add_zero, show ((Kd.slice 3 (Kd.int .i64))).sz = 1 from rfl, Nat.mul_one] at hv167_0
                          replace hv167_0 := Option.some.inj (hv167_0.symm.trans hx167_0)
                          rw [hv167_0] at ge167_0
                          have HL167_0 := Aside0.mk (show Kd.R (Kd.int .i64) 3 _ _ _ _ (rd_L1 t154 (rd t160 x12_2)) from ge167_0)
                          clear hv167_0 ge167_0
                          clear hcc167 hce167
                          have HR167_0 := Aside0.mk hi167_0
                          have HC167_0 := Aside0.mk hl167_0
                          clear hi167_0 hl167_0
                          replace p167 := eq_true p167
                          replace q167 := eq_true q167
                          have p168 : 0 ≤ (x10_1 : Int) := of_decide_eq_true (by first | (with_reducible assumption) | assumption)
                          have q168 : x10_1 < (t160.length : Int) := of_decide_eq_true (by first | (with_reducible assumption) | assumption)
                          obtain ⟨ad168, e168, hx168_0⟩ := Kd.at_int (Kd.R_reads' HO_8.out).2.2 x10_1 p168 q168
                          obtain rfl : ad166 = ad168 := (by injection e168)
                          replace p168 := eq_true p168
                          replace q168 := eq_true q168
                          go_wp2_with (first | (go_at_call 33; (with_reducible refine (heliastref12_Has.calls k2 _ _ (rd_L1 t154 (rd t160 x12_2)) (rd t160 x10_1) t169 _ ?side1 ?side2 A23.out).mono ?_); (case side1 => repeat (first | exact (by repeat (first | (with_reducible exact HR167_0.out) | (with_reducible refine Kd.C_alloc ?_ _) | (with_reducible refine Kd.C_drewN ?_ _) | (with_reducible refine Kd.C_drew ?_) | exact HR167_0.out)) | (with_reducible refine Kd.C_alloc ?_ _) | (with_reducible refine Kd.C_drewN ?_ _) | (with_reducible refine Kd.C_drew ?_))); (case side2 => exact HC167_0.out); rintro e w' ⟨rfl, ⟨nd, rfl⟩⟩; (try first | exact ⟨rfl, _, World.drewN_drewN _ _ _⟩ | exact ⟨rfl, _, Eq.trans (World.drewN_drewN _ _ _) (congrArg (World.drewN _) (Nat.add_assoc _ _ _))⟩)))
                          repeat (go_quiet (first | (go_at_call 33; (with_reducible refine (heliastref12_Has.calls k2 _ _ (rd_L1 t154 (rd t160 x12_2)) (rd t160 x10_1) t169 _ ?side1 ?side2 A23.out).mono ?_); (case side1 => repeat (first | exact (by repeat (first | (with_reducible exact HR167_0.out) | (with_reducible refine Kd.C_alloc ?_ _) | (with_reducible refine Kd.C_drewN ?_ _) | (with_reducible refine Kd.C_drew ?_) | exact HR167_0.out)) | (with_reducible refine Kd.C_alloc ?_ _) | (with_reducible refine Kd.C_drewN ?_ _) | (with_reducible refine Kd.C_drew ?_))); (case side2 => exact HC167_0.out); rintro e w' ⟨rfl, ⟨nd, rfl⟩⟩; (try first | exact ⟨rfl, _, World.drewN_drewN _ _ _⟩ | exact ⟨rfl, _, Eq.trans (World.drewN_drewN _ _ _) (congrArg (World.drewN _) (Nat.add_assoc _ _ _))⟩))); try go_wp2_with (first | (go_at_call 33; (with_reducible refine (heliastref12_Has.calls k2 _ _ (rd_L1 t154 (rd t160 x12_2)) (rd t160 x10_1) t169 _ ?side1 ?side2 A23.out).mono ?_); (case side1 => repeat (first | exact (by repeat (first | (with_reducible exact HR167_0.out) | (with_reducible refine Kd.C_alloc ?_ _) | (with_reducible refine Kd.C_drewN ?_ _) | (with_reducible refine Kd.C_drew ?_) | exact HR167_0.out)) | (with_reducible refine Kd.C_alloc ?_ _) | (with_reducible refine Kd.C_drewN ?_ _) | (with_reducible refine Kd.C_drew ?_))); (case side2 => exact HC167_0.out); rintro e w' ⟨rfl, ⟨nd, rfl⟩⟩; (try first | exact ⟨rfl, _, World.drewN_drewN _ _ _⟩ | exact ⟨rfl, _, Eq.trans (World.drewN_drewN _ _ _) (congrArg (World.drewN _) (Nat.add_assoc _ _ _))⟩))))
                          go_roundg k2
                          case measure => have := HK1.out; have := HK2.out; omega
                          case rel => exact ⟨(t169), (wrap64 (x12_2 + 1)), (by first | rfl | (simp; done) | (simp [*]; done)), (by first | rfl | (simp; done) | (simp [*]; done)), H', ⟨by have := HK1.out; have := HK2.out; omega⟩, ⟨by (with_reducible repeat (first | apply Kd.S_alloc | apply Kd.S_drewN | apply Kd.S_drew)); exact HO_7.out⟩, ⟨by (with_reducible repeat (first | apply Kd.R_alloc | apply Kd.R_drewN | apply Kd.R_drew)); exact HO_8.out⟩, ⟨by (with_reducible repeat (first | apply Kd.R_alloc | apply Kd.R_drewN | apply Kd.R_drew)); exact HO_9.out⟩, ⟨by repeat (first | (with_reducible first | exact HB.out | apply below_alloc | apply pw_below_drewN | apply below_drew1) | exact HB.out)⟩⟩
                        · rw [if_neg c22] at H
                          exact absurd H (by simp)
                      · rw [if_neg c21] at H
                        exact absurd H (by simp)
                    · rw [if_neg c20] at H
                      exact absurd H (by simp)
                  · rw [if_neg c19] at H
                    exact absurd H (by simp)
                · rw [if_neg c18] at H
                  exact absurd H (by simp)
            · rw [if_neg c16] at H
              have c16b0 : decide (x12_2 < (t160.length : Int)) = false := decide_eq_false c16
              clear c16
              by_cases c24 : 0 ≤ x10_1
              · rw [if_pos c24] at H
                have c24b0 : decide (0 ≤ x10_1) = true := decide_eq_true c24
                clear c24
                by_cases c25 : x10_1 < (t160.length : Int)
                · rw [if_pos c25] at H
                  have c25b0 : decide (x10_1 < (t160.length : Int)) = true := decide_eq_true c25
                  clear c25
                  replace H := Option.bind_eq_some_iff.mp H
                  obtain ⟨t171, A260, H⟩ := H
                  replace H : (if (t171 == x11_2) = true then (some false) else (heliastlaw12_GraphHeads.l0 k2 a2 t154 t160 t163 (wrap64 (x10_1 + 1)))) = some r := H
                  have A26 := Aside0.mk A260
                  clear A260
                  by_cases c27 : (t171 == x11_2) = true
                  · rw [if_pos c27] at H
                    have c27b0 : (t171 == x11_2) = true := c27
                    (try (have c27b1 : decide (t171 = x11_2) = true := by simpa using c27))
                    (try (have c27b2 : (t171 == x11_2) = true := by simpa using c27))
                    clear c27
                    exact absurd ((Option.some.inj H).trans HLAW.out) (by decide)
                  · rw [if_neg c27] at H
                    have c27b0 : (t171 == x11_2) = false := by simpa using c27
                    (try (have c27b1 : decide (t171 = x11_2) = false := by simpa using c27))
                    (try (have c27b2 : (t171 == x11_2) = false := by simpa using c27))
                    (try (have c27b3 : ¬ (t171 = x11_2) := by simpa using c27))
                    clear c27
                    have H' := Aside0.mk H
                    clear H
                    have p170 : 0 ≤ (x10_1 : Int) := of_decide_eq_true (by first | (with_reducible assumption) | assumption)
                    have q170 : x10_1 < (t160.length : Int) := of_decide_eq_true (by first | (with_reducible assumption) | assumption)
                    obtain ⟨ad170, e170, hx170_0⟩ := Kd.at_int (Kd.R_reads' HO_8.out).2.2 x10_1 p170 q170
                    cases e170
                    replace p170 := eq_true p170
                    replace q170 := eq_true q170
                    obtain ⟨Ao28, co28, eo28⟩ := Kd.R_slice HO_9.out
                    subst eo28
                    go_wp2_with (first | (go_at_call 33; (with_reducible refine (heliastref12_Has.calls k2 _ _ t163 (rd t160 x10_1) t171 _ ?side1 ?side2 A26.out).mono ?_); (case side1 => repeat (first | exact (Kd.R_reads' HO_9.out).2.2 | (with_reducible refine Kd.C_alloc ?_ _) | (with_reducible refine Kd.C_drewN ?_ _) | (with_reducible refine Kd.C_drew ?_))); (case side2 => exact (Kd.R_reads' HO_9.out).2.1); rintro e w' ⟨rfl, ⟨nd, rfl⟩⟩; (try first | exact ⟨rfl, _, World.drewN_drewN _ _ _⟩ | exact ⟨rfl, _, Eq.trans (World.drewN_drewN _ _ _) (congrArg (World.drewN _) (Nat.add_assoc _ _ _))⟩)))
                    repeat (go_quiet (first | (go_at_call 33; (with_reducible refine (heliastref12_Has.calls k2 _ _ t163 (rd t160 x10_1) t171 _ ?side1 ?side2 A26.out).mono ?_); (case side1 => repeat (first | exact (Kd.R_reads' HO_9.out).2.2 | (with_reducible refine Kd.C_alloc ?_ _) | (with_reducible refine Kd.C_drewN ?_ _) | (with_reducible refine Kd.C_drew ?_))); (case side2 => exact (Kd.R_reads' HO_9.out).2.1); rintro e w' ⟨rfl, ⟨nd, rfl⟩⟩; (try first | exact ⟨rfl, _, World.drewN_drewN _ _ _⟩ | exact ⟨rfl, _, Eq.trans (World.drewN_drewN _ _ _) (congrArg (World.drewN _) (Nat.add_assoc _ _ _))⟩))); try go_wp2_with (first | (go_at_call 33; (with_reducible refine (heliastref12_Has.calls k2 _ _ t163 (rd t160 x10_1) t171 _ ?side1 ?side2 A26.out).mono ?_); (case side1 => repeat (first | exact (Kd.R_reads' HO_9.out).2.2 | (with_reducible refine Kd.C_alloc ?_ _) | (with_reducible refine Kd.C_drewN ?_ _) | (with_reducible refine Kd.C_drew ?_))); (case side2 => exact (Kd.R_reads' HO_9.out).2.1); rintro e w' ⟨rfl, ⟨nd, rfl⟩⟩; (try first | exact ⟨rfl, _, World.drewN_drewN _ _ _⟩ | exact ⟨rfl, _, Eq.trans (World.drewN_drewN _ _ _) (congrArg (World.drewN _) (Nat.add_assoc _ _ _))⟩))))
                    go_roundg k2
                    case measure => have := HK1.out; have := HK2.out; omega
                    case rel => exact ⟨(wrap64 (x10_1 + 1)), (by first | rfl | (simp; done) | (simp [*]; done)), H', ⟨by have := HK1.out; have := HK2.out; omega⟩, ⟨by (with_reducible repeat (first | apply Kd.S_alloc | apply Kd.S_drewN | apply Kd.S_drew)); exact HO_7.out⟩, ⟨by (with_reducible repeat (first | apply Kd.R_alloc | apply Kd.R_drewN | apply Kd.R_drew)); exact HO_8.out⟩, ⟨by (with_reducible repeat (first | apply Kd.R_alloc | apply Kd.R_drewN | apply Kd.R_drew)); exact HO_9.out⟩, ⟨by repeat (first | (with_reducible first | exact HB.out | apply below_alloc | apply pw_below_drewN | apply below_drew1) | exact HB.out)⟩⟩
                · rw [if_neg c25] at H
                  exact absurd H (by simp)
              · rw [if_neg c24] at H
                exact absurd H (by simp)
      · rw [if_neg c15] at H
        have c15b0 : decide (x10_1 < (t160.length : Int)) = false := decide_eq_false c15
        clear c15
        by_cases c29 : (t154.length : Int) = 0
        · rw [if_pos c29] at H
          have c29b0 : ((t154.length : Int) == 0) = true := beq_iff_eq.mpr c29
          have c29b1 : ((t154.length : Int) != 0) = false := bne_eq_false_iff_eq.mpr c29
          clear c29
          replace H := Option.bind_eq_some_iff.mp H
          obtain ⟨t172, A300, H⟩ := H
          replace H : (some t172) = some r := H
          have A30 := Aside0.mk A300
          clear A300
          obtain rfl := Option.some.inj H
          go_wp2_with (first | (go_at_call 47; (with_reducible refine (heliastlaw12_known.calls k1  t172 _ A30.out (by first | rfl | exact HLAW.out)).mono ?_); rintro e w31 ⟨rfl, hb⟩; have n0_ := Aside0.mk (Kd.S_below (by (with_reducible repeat (first | apply Kd.S_alloc | apply Kd.S_drewN | apply Kd.S_drew)); exact HO_7.out) hb); have n1_ := Aside0.mk (Kd.R_below (by (with_reducible repeat (first | apply Kd.R_alloc | apply Kd.R_drewN | apply Kd.R_drew)); exact HO_8.out) hb); have n2_ := Aside0.mk (Kd.R_below (by (with_reducible repeat (first | apply Kd.R_alloc | apply Kd.R_drewN | apply Kd.R_drew)); exact HO_9.out) hb); have n3_ := Aside0.mk (below_step (by repeat (first | (with_reducible first | exact HB.out | apply below_alloc | apply pw_below_drewN | apply below_drew1) | exact HB.out)) hb); clear HO_7; clear HO_8; clear HO_9; clear HB; have HO_7 := n0_; have HO_8 := n1_; have HO_9 := n2_; have HB := n3_; clear n0_ n1_ n2_ n3_; (try clear hb); (try clear hb2); (try clear hk); (try clear hi)))
          repeat (go_quiet (first | (go_at_call 47; (with_reducible refine (heliastlaw12_known.calls k1  t172 _ A30.out (by first | rfl | exact HLAW.out)).mono ?_); rintro e w31 ⟨rfl, hb⟩; have n0_ := Aside0.mk (Kd.S_below (by (with_reducible repeat (first | apply Kd.S_alloc | apply Kd.S_drewN | apply Kd.S_drew)); exact HO_7.out) hb); have n1_ := Aside0.mk (Kd.R_below (by (with_reducible repeat (first | apply Kd.R_alloc | apply Kd.R_drewN | apply Kd.R_drew)); exact HO_8.out) hb); have n2_ := Aside0.mk (Kd.R_below (by (with_reducible repeat (first | apply Kd.R_alloc | apply Kd.R_drewN | apply Kd.R_drew)); exact HO_9.out) hb); have n3_ := Aside0.mk (below_step (by repeat (first | (with_reducible first | exact HB.out | apply below_alloc | apply pw_below_drewN | apply below_drew1) | exact HB.out)) hb); clear HO_7; clear HO_8; clear HO_9; clear HB; have HO_7 := n0_; have HO_8 := n1_; have HO_9 := n2_; have HB := n3_; clear n0_ n1_ n2_ n3_; (try clear hb); (try clear hb2); (try clear hk); (try clear hi))); try go_wp2_with (first | (go_at_call 47; (with_reducible refine (heliastlaw12_known.calls k1  t172 _ A30.out (by first | rfl | exact HLAW.out)).mono ?_); rintro e w31 ⟨rfl, hb⟩; have n0_ := Aside0.mk (Kd.S_below (by (with_reducible repeat (first | apply Kd.S_alloc | apply Kd.S_drewN | apply Kd.S_drew)); exact HO_7.out) hb); have n1_ := Aside0.mk (Kd.R_below (by (with_reducible repeat (first | apply Kd.R_alloc | apply Kd.R_drewN | apply Kd.R_drew)); exact HO_8.out) hb); have n2_ := Aside0.mk (Kd.R_below (by (with_reducible repeat (first | apply Kd.R_alloc | apply Kd.R_drewN | apply Kd.R_drew)); exact HO_9.out) hb); have n3_ := Aside0.mk (below_step (by repeat (first | (with_reducible first | exact HB.out | apply below_alloc | apply pw_below_drewN | apply below_drew1) | exact HB.out)) hb); clear HO_7; clear HO_8; clear HO_9; clear HB; have HO_7 := n0_; have HO_8 := n1_; have HO_9 := n2_; have HB := n3_; clear n0_ n1_ n2_ n3_; (try clear hb); (try clear hb2); (try clear hk); (try clear hi))))
          go_ret
          exact ⟨by first | rfl | (simp [errW_none, errW_some] <;> rfl) | (simp [*, errW_none, errW_some] <;> rfl), by repeat (first | (with_reducible first | exact HB.out | apply below_alloc | apply pw_below_drewN | apply below_drew1) | exact HB.out)⟩
        · rw [if_neg c29] at H
          have c29b0 : ((t154.length : Int) == 0) = false := beq_eq_false_iff_ne.mpr c29
          have c29b1 : ((t154.length : Int) != 0) = true := bne_iff_ne.mpr c29
          have c29b2 : ¬ (t154 = []) := fun h_ => c29 (by rw [h_]; rfl)
          replace H := Option.bind_eq_some_iff.mp H
          obtain ⟨t173, A320, H⟩ := H
          replace H : (if t173 = true then (if (t163.length : Int) ≤ (t160.length : Int) then ((graph_Reach.f t154 (([Int.tmod (wrap64 (a2)) (t154.length : Int)] : List Int))).bind fun t177 => ((graph_Heads.f t154 t177).bind fun t180 => ((heliastref12_Same.f k1 t180 (([Int.tmod (wrap64 (a2)) (t154.length : Int)] : List Int))).bind fun t186 => (some t186)))) else (some false)) else (some false)) = some r := H
          have A32 := Aside0.mk A320
          clear A320
          by_cases c33 : t173 = true
          · subst c33
            have H1 : (if (t163.length : Int) ≤ (t160.length : Int) then ((graph_Reach.f t154 (([Int.tmod (wrap64 (a2)) (t154.length : Int)] : List Int))).bind fun t177 => ((graph_Heads.f t154 t177).bind fun t180 => ((heliastref12_Same.f k1 t180 (([Int.tmod (wrap64 (a2)) (t154.length : Int)] : List Int))).bind fun t186 => (some t186)))) else (some false)) = some r := by rw [if_pos rfl] at H; exact H
            clear H
            have H := H1
            clear H1
            by_cases c34 : (t163.length : Int) ≤ (t160.length : Int)
            · rw [if_pos c34] at H
              have c34b0 : decide ((t163.length : Int) ≤ (t160.length : Int)) = true := decide_eq_true c34
              have c34b1 : decide (t163.length ≤ t160.length) = true := decide_eq_true (Int.ofNat_le.mp c34)
              clear c34
              obtain ⟨y174, hy174⟩ : ∃ y_ : List Int, y_ = (([Int.tmod (wrap64 (a2)) (t154.length : Int)] : List Int)) := ⟨_, rfl⟩
              replace H : ((graph_Reach.f t154 y174).bind fun t177 => ((graph_Heads.f t154 t177).bind fun t180 => ((heliastref12_Same.f k1 t180 (([Int.tmod (wrap64 (a2)) (t154.length : Int)] : List Int))).bind fun t186 => (some t186)))) = some r := by first | (rw [hy174]; with_reducible exact H) | (have H2_ := (Option.bind_some _ _).symm.trans H; rw [hy174]; with_reducible exact H2_) | (have H2_ := (Option.bind_some _ _).symm.trans H; with_reducible exact H2_) | with_reducible exact H | (rw [hy174]; exact H) | exact H
              have Ny174 := Aside0.mk hy174
              clear hy174
              replace H := Option.bind_eq_some_iff.mp H
              obtain ⟨t177, A350, H⟩ := H
              replace H : ((graph_Heads.f t154 t177).bind fun t180 => ((heliastref12_Same.f k1 t180 (([Int.tmod (wrap64 (a2)) (t154.length : Int)] : List Int))).bind fun t186 => (some t186))) = some r := H
              have A35 := Aside0.mk A350
              clear A350
              replace H := Option.bind_eq_some_iff.mp H
              obtain ⟨t180, A360, H⟩ := H
              replace H : ((heliastref12_Same.f k1 t180 (([Int.tmod (wrap64 (a2)) (t154.length : Int)] : List Int))).bind fun t186 => (some t186)) = some r := H
              have A36 := Aside0.mk A360
              clear A360
              obtain ⟨y183, hy183⟩ : ∃ y_ : List Int, y_ = (([Int.tmod (wrap64 (a2)) (t154.length : Int)] : List Int)) := ⟨_, rfl⟩
              replace H : ((heliastref12_Same.f k1 t180 y183).bind fun t186 => (some t186)) = some r := by first | (rw [hy183]; with_reducible exact H) | (have H2_ := (Option.bind_some _ _).symm.trans H; rw [hy183]; with_reducible exact H2_) | (have H2_ := (Option.bind_some _ _).symm.trans H; with_reducible exact H2_) | with_reducible exact H | (rw [hy183]; exact H) | exact H
              have Ny183 := Aside0.mk hy183
              clear hy183
              replace H := Option.bind_eq_some_iff.mp H
              obtain ⟨t186, A370, H⟩ := H
              replace H : (some t186) = some r := H
              have A37 := Aside0.mk A370
              clear A370
              obtain rfl := Option.some.inj H
              go_wp2_with (first | (go_at_call 47; (with_reducible refine (heliastlaw12_known.calls k1  true _ A32.out (by first | rfl | exact HLAW.out)).mono ?_); rintro e w38 ⟨rfl, hb⟩; have n0_ := Aside0.mk (Kd.S_below (by (with_reducible repeat (first | apply Kd.S_alloc | apply Kd.S_drewN | apply Kd.S_drew)); exact HO_7.out) hb); have n1_ := Aside0.mk (Kd.R_below (by (with_reducible repeat (first | apply Kd.R_alloc | apply Kd.R_drewN | apply Kd.R_drew)); exact HO_8.out) hb); have n2_ := Aside0.mk (Kd.R_below (by (with_reducible repeat (first | apply Kd.R_alloc | apply Kd.R_drewN | apply Kd.R_drew)); exact HO_9.out) hb); have n3_ := Aside0.mk (below_step (by repeat (first | (with_reducible first | exact HB.out | apply below_alloc | apply pw_below_drewN | apply below_drew1) | exact HB.out)) hb); clear HO_7; clear HO_8; clear HO_9; clear HB; have HO_7 := n0_; have HO_8 := n1_; have HO_9 := n2_; have HB := n3_; clear n0_ n1_ n2_ n3_; (try clear hb); (try clear hb2); (try clear hk); (try clear hi); obtain ⟨Ao39, co39, eo39⟩ := Kd.R_slice HO_9.out; subst eo39) | ((with_reducible refine gate_dst (N := 79) rfl ?_); (try (refine gate_guard (by rfl) ?_; dsimp only)); refine Kd.R_lit (Kd.int .i64) _ 3 ?hg (N := 79) ?hd (xs := ([Int.tmod (wrap64 (a2)) (t154.length : Int)] : List Int)) (inner := [.int .i64 (Int.tmod (wrap64 (a2)) (t154.length : Int))]) (ok := fun _ => True) (okp := fun _ => True) ?hr ?hp (fun _ hk => hk) trivial (Below.refl _ _) (Nat.le_refl _) (by simp) ?_; (case hd => rfl); (case hg => rfl); (case hr => first | (go_simp; done) | (go_simp; rfl)); (case hp => exact (Reps.one (show Kd.M (Kd.int .i64) _ _ _ (Int.tmod (wrap64 (a2)) (t154.length : Int)) [.int .i64 (Int.tmod (wrap64 (a2)) (t154.length : Int))] from rfl) (Reps.none _ _))); intro v175 w40 ho41 hb hg_ hnew_; clear hg_ hnew_; (first | rw [← Ny174.out] at ho41 | (simp only [Int.reduceToNat] at ho41; rw [← Ny174.out] at ho41)); have n0_ := Aside0.mk (Kd.S_elder' (by (with_reducible repeat (first | apply Kd.S_alloc | apply Kd.S_drewN | apply Kd.S_drew)); exact HO_7.out) (Kd.R_base ho41) hb); have n1_ := Aside0.mk (Kd.R_elder' (by (with_reducible repeat (first | apply Kd.R_alloc | apply Kd.R_drewN | apply Kd.R_drew)); exact HO_8.out) (Kd.R_base ho41) hb); have n2_ := Aside0.mk (Kd.R_elder' (by (with_reducible repeat (first | apply Kd.R_alloc | apply Kd.R_drewN | apply Kd.R_drew)); exact HO_9.out) (Kd.R_base ho41) hb); have n3_ := Aside0.mk (Kd.R_lower (Kd.R_new' (Kd.R_new' ho41 (Kd.R_lt (by (with_reducible repeat (first | apply Kd.R_alloc | apply Kd.R_drewN | apply Kd.R_drew)); exact HO_8.out))) (Kd.R_lt (by (with_reducible repeat (first | apply Kd.R_alloc | apply Kd.R_drewN | apply Kd.R_drew)); exact HO_9.out))) (below_size (by repeat (first | (with_reducible first | exact HB.out | apply below_alloc | apply pw_below_drewN | apply below_drew1) | exact HB.out)))); have n4_ := Aside0.mk (below_step (by repeat (first | (with_reducible first | exact HB.out | apply below_alloc | apply pw_below_drewN | apply below_drew1) | exact HB.out)) hb); clear HO_7; clear HO_8; clear HO_9; clear HB; have HO_7 := n0_; have HO_8 := n1_; have HO_9 := n2_; have HO176 := n3_; have HB := n4_; clear n0_ n1_ n2_ n3_ n4_; clear hb ho41; obtain ⟨Ao42, co42, eo42⟩ := Kd.R_slice HO176.out; subst eo42) | (go_at_call 39; (with_reducible refine (graph_Reach.calls _ _ t154 _ _ y174 t177 _ ?side1 ?side2 ?side3 ?side4 A35.out).mono ?_); (case side1 => repeat (first | exact (Kd.S_reads' HO_7.out).2.2 | (with_reducible refine Kd.C_alloc ?_ _) | (with_reducible refine Kd.C_drewN ?_ _) | (with_reducible refine Kd.C_drew ?_))); (case side2 => exact (Kd.S_reads' HO_7.out).2.1); (case side3 => repeat (first | exact (Kd.R_reads' HO176.out).2.2 | (with_reducible refine Kd.C_alloc ?_ _) | (with_reducible refine Kd.C_drewN ?_ _) | (with_reducible refine Kd.C_drew ?_))); (case side4 => exact (Kd.R_reads' HO176.out).2.1); rintro e w43 ⟨v178, rfl, ho0, hb⟩; have n0_ := Aside0.mk (Kd.S_elder' (by (with_reducible repeat (first | apply Kd.S_alloc | apply Kd.S_drewN | apply Kd.S_drew)); exact HO_7.out) (Kd.R_base ho0) hb); have n1_ := Aside0.mk (Kd.R_elder' (by (with_reducible repeat (first | apply Kd.R_alloc | apply Kd.R_drewN | apply Kd.R_drew)); exact HO_8.out) (Kd.R_base ho0) hb); have n2_ := Aside0.mk (Kd.R_elder' (by (with_reducible repeat (first | apply Kd.R_alloc | apply Kd.R_drewN | apply Kd.R_drew)); exact HO_9.out) (Kd.R_base ho0) hb); have n3_ := Aside0.mk (Kd.R_elder' (by (with_reducible repeat (first | apply Kd.R_alloc | apply Kd.R_drewN | apply Kd.R_drew)); exact HO176.out) (Kd.R_base ho0) hb); have n4_ := Aside0.mk (Kd.R_lower (Kd.R_new' (Kd.R_new' (Kd.R_new' ho0 (Kd.R_lt (by (with_reducible repeat (first | apply Kd.R_alloc | apply Kd.R_drewN | apply Kd.R_drew)); exact HO_8.out))) (Kd.R_lt (by (with_reducible repeat (first | apply Kd.R_alloc | apply Kd.R_drewN | apply Kd.R_drew)); exact HO_9.out))) (Kd.R_lt (by (with_reducible repeat (first | apply Kd.R_alloc | apply Kd.R_drewN | apply Kd.R_drew)); exact HO176.out))) (below_size (by repeat (first | (with_reducible first | exact HB.out | apply below_alloc | apply pw_below_drewN | apply below_drew1) | exact HB.out)))); have n5_ := Aside0.mk (below_step (by repeat (first | (with_reducible first | exact HB.out | apply below_alloc | apply pw_below_drewN | apply below_drew1) | exact HB.out)) hb); clear HO_7; clear HO_8; clear HO_9; clear HO176; clear HB; have HO_7 := n0_; have HO_8 := n1_; have HO_9 := n2_; have HO176 := n3_; have HO179 := n4_; have HB := n5_; clear n0_ n1_ n2_ n3_ n4_ n5_; (try clear hb); (try clear hb2); (try clear hk); (try clear hi); (try clear ho0); obtain ⟨Ao44, co44, eo44⟩ := Kd.R_slice HO179.out; subst eo44) | (go_at_call 46; (with_reducible refine (graph_Heads.calls _ _ t154 _ _ t177 t180 _ ?side1 ?side2 ?side3 ?side4 A36.out).mono ?_); (case side1 => repeat (first | exact (Kd.S_reads' HO_7.out).2.2 | (with_reducible refine Kd.C_alloc ?_ _) | (with_reducible refine Kd.C_drewN ?_ _) | (with_reducible refine Kd.C_drew ?_))); (case side2 => exact (Kd.S_reads' HO_7.out).2.1); (case side3 => repeat (first | exact (Kd.R_reads' HO179.out).2.2 | (with_reducible refine Kd.C_alloc ?_ _) | (with_reducible refine Kd.C_drewN ?_ _) | (with_reducible refine Kd.C_drew ?_))); (case side4 => exact (Kd.R_reads' HO179.out).2.1); rintro e w45 ⟨v181, rfl, ho0, hb⟩; have n0_ := Aside0.mk (Kd.S_elder' (by (with_reducible repeat (first | apply Kd.S_alloc | apply Kd.S_drewN | apply Kd.S_drew)); exact HO_7.out) (Kd.R_base ho0) hb); have n1_ := Aside0.mk (Kd.R_elder' (by (with_reducible repeat (first | apply Kd.R_alloc | apply Kd.R_drewN | apply Kd.R_drew)); exact HO_8.out) (Kd.R_base ho0) hb); have n2_ := Aside0.mk (Kd.R_elder' (by (with_reducible repeat (first | apply Kd.R_alloc | apply Kd.R_drewN | apply Kd.R_drew)); exact HO_9.out) (Kd.R_base ho0) hb); have n3_ := Aside0.mk (Kd.R_elder' (by (with_reducible repeat (first | apply Kd.R_alloc | apply Kd.R_drewN | apply Kd.R_drew)); exact HO176.out) (Kd.R_base ho0) hb); have n4_ := Aside0.mk (Kd.R_elder' (by (with_reducible repeat (first | apply Kd.R_alloc | apply Kd.R_drewN | apply Kd.R_drew)); exact HO179.out) (Kd.R_base ho0) hb); have n5_ := Aside0.mk (Kd.R_lower (Kd.R_new' (Kd.R_new' (Kd.R_new' (Kd.R_new' ho0 (Kd.R_lt (by (with_reducible repeat (first | apply Kd.R_alloc | apply Kd.R_drewN | apply Kd.R_drew)); exact HO_8.out))) (Kd.R_lt (by (with_reducible repeat (first | apply Kd.R_alloc | apply Kd.R_drewN | apply Kd.R_drew)); exact HO_9.out))) (Kd.R_lt (by (with_reducible repeat (first | apply Kd.R_alloc | apply Kd.R_drewN | apply Kd.R_drew)); exact HO176.out))) (Kd.R_lt (by (with_reducible repeat (first | apply Kd.R_alloc | apply Kd.R_drewN | apply Kd.R_drew)); exact HO179.out))) (below_size (by repeat (first | (with_reducible first | exact HB.out | apply below_alloc | apply pw_below_drewN | apply below_drew1) | exact HB.out)))); have n6_ := Aside0.mk (below_step (by repeat (first | (with_reducible first | exact HB.out | apply below_alloc | apply pw_below_drewN | apply below_drew1) | exact HB.out)) hb); clear HO_7; clear HO_8; clear HO_9; clear HO176; clear HO179; clear HB; have HO_7 := n0_; have HO_8 := n1_; have HO_9 := n2_; have HO176 := n3_; have HO179 := n4_; have HO182 := n5_; have HB := n6_; clear n0_ n1_ n2_ n3_ n4_ n5_ n6_; (try clear hb); (try clear hb2); (try clear hk); (try clear hi); (try clear ho0)) | ((with_reducible refine gate_dst (N := 83) rfl ?_); (try (refine gate_guard (by rfl) ?_; dsimp only)); refine Kd.R_lit (Kd.int .i64) _ 3 ?hg (N := 83) ?hd (xs := ([Int.tmod (wrap64 (a2)) (t154.length : Int)] : List Int)) (inner := [.int .i64 (Int.tmod (wrap64 (a2)) (t154.length : Int))]) (ok := fun _ => True) (okp := fun _ => True) ?hr ?hp (fun _ hk => hk) trivial (Below.refl _ _) (Nat.le_refl _) (by simp) ?_; (case hd => rfl); (case hg => rfl); (case hr => first | (go_simp; done) | (go_simp; rfl)); (case hp => exact (Reps.one (show Kd.M (Kd.int .i64) _ _ _ (Int.tmod (wrap64 (a2)) (t154.length : Int)) [.int .i64 (Int.tmod (wrap64 (a2)) (t154.length : Int))] from rfl) (Reps.none _ _))); intro v184 w46 ho47 hb hg_ hnew_; clear hg_ hnew_; (first | rw [← Ny183.out] at ho47 | (simp only [Int.reduceToNat] at ho47; rw [← Ny183.out] at ho47)); have n0_ := Aside0.mk (Kd.S_elder' (by (with_reducible repeat (first | apply Kd.S_alloc | apply Kd.S_drewN | apply Kd.S_drew)); exact HO_7.out) (Kd.R_base ho47) hb); have n1_ := Aside0.mk (Kd.R_elder' (by (with_reducible repeat (first | apply Kd.R_alloc | apply Kd.R_drewN | apply Kd.R_drew)); exact HO_8.out) (Kd.R_base ho47) hb); have n2_ := Aside0.mk (Kd.R_elder' (by (with_reducible repeat (first | apply Kd.R_alloc | apply Kd.R_drewN | apply Kd.R_drew)); exact HO_9.out) (Kd.R_base ho47) hb); have n3_ := Aside0.mk (Kd.R_elder' (by (with_reducible repeat (first | apply Kd.R_alloc | apply Kd.R_drewN | apply Kd.R_drew)); exact HO176.out) (Kd.R_base ho47) hb); have n4_ := Aside0.mk (Kd.R_elder' (by (with_reducible repeat (first | apply Kd.R_alloc | apply Kd.R_drewN | apply Kd.R_drew)); exact HO179.out) (Kd.R_base ho47) hb); have n5_ := Aside0.mk (Kd.R_elder' (by (with_reducible repeat (first | apply Kd.R_alloc | apply Kd.R_drewN | apply Kd.R_drew)); exact HO182.out) (Kd.R_base ho47) hb); have n6_ := Aside0.mk (Kd.R_lower (Kd.R_new' (Kd.R_new' (Kd.R_new' (Kd.R_new' (Kd.R_new' ho47 (Kd.R_lt (by (with_reducible repeat (first | apply Kd.R_alloc | apply Kd.R_drewN | apply Kd.R_drew)); exact HO_8.out))) (Kd.R_lt (by (with_reducible repeat (first | apply Kd.R_alloc | apply Kd.R_drewN | apply Kd.R_drew)); exact HO_9.out))) (Kd.R_lt (by (with_reducible repeat (first | apply Kd.R_alloc | apply Kd.R_drewN | apply Kd.R_drew)); exact HO176.out))) (Kd.R_lt (by (with_reducible repeat (first | apply Kd.R_alloc | apply Kd.R_drewN | apply Kd.R_drew)); exact HO179.out))) (Kd.R_lt (by (with_reducible repeat (first | apply Kd.R_alloc | apply Kd.R_drewN | apply Kd.R_drew)); exact HO182.out))) (below_size (by repeat (first | (with_reducible first | exact HB.out | apply below_alloc | apply pw_below_drewN | apply below_drew1) | exact HB.out)))); have n7_ := Aside0.mk (below_step (by repeat (first | (with_reducible first | exact HB.out | apply below_alloc | apply pw_below_drewN | apply below_drew1) | exact HB.out)) hb); clear HO_7; clear HO_8; clear HO_9; clear HO176; clear HO179; clear HO182; clear HB; have HO_7 := n0_; have HO_8 := n1_; have HO_9 := n2_; have HO176 := n3_; have HO179 := n4_; have HO182 := n5_; have HO185 := n6_; have HB := n7_; clear n0_ n1_ n2_ n3_ n4_ n5_ n6_ n7_; clear hb ho47; obtain ⟨Ao48, co48, eo48⟩ := Kd.R_slice HO182.out; subst eo48; obtain ⟨Ao49, co49, eo49⟩ := Kd.R_slice HO185.out; subst eo49) | (go_at_call 40; (with_reducible refine (heliastref12_Same.calls k1 _ _ t180 _ _ y183 t186 _ ?side1 ?side2 ?side3 ?side4 A37.out).mono ?_); (case side1 => repeat (first | exact (Kd.R_reads' HO182.out).2.2 | (with_reducible refine Kd.C_alloc ?_ _) | (with_reducible refine Kd.C_drewN ?_ _) | (with_reducible refine Kd.C_drew ?_))); (case side2 => exact (Kd.R_reads' HO182.out).2.1); (case side3 => repeat (first | exact (Kd.R_reads' HO185.out).2.2 | (with_reducible refine Kd.C_alloc ?_ _) | (with_reducible refine Kd.C_drewN ?_ _) | (with_reducible refine Kd.C_drew ?_))); (case side4 => exact (Kd.R_reads' HO185.out).2.1); rintro e w' ⟨rfl, ⟨nd, rfl⟩⟩; (try first | exact ⟨rfl, _, World.drewN_drewN _ _ _⟩ | exact ⟨rfl, _, Eq.trans (World.drewN_drewN _ _ _) (congrArg (World.drewN _) (Nat.add_assoc _ _ _))⟩)))
              repeat (go_quiet (first | (go_at_call 47; (with_reducible refine (heliastlaw12_known.calls k1  true _ A32.out (by first | rfl | exact HLAW.out)).mono ?_); rintro e w38 ⟨rfl, hb⟩; have n0_ := Aside0.mk (Kd.S_below (by (with_reducible repeat (first | apply Kd.S_alloc | apply Kd.S_drewN | apply Kd.S_drew)); exact HO_7.out) hb); have n1_ := Aside0.mk (Kd.R_below (by (with_reducible repeat (first | apply Kd.R_alloc | apply Kd.R_drewN | apply Kd.R_drew)); exact HO_8.out) hb); have n2_ := Aside0.mk (Kd.R_below (by (with_reducible repeat (first | apply Kd.R_alloc | apply Kd.R_drewN | apply Kd.R_drew)); exact HO_9.out) hb); have n3_ := Aside0.mk (below_step (by repeat (first | (with_reducible first | exact HB.out | apply below_alloc | apply pw_below_drewN | apply below_drew1) | exact HB.out)) hb); clear HO_7; clear HO_8; clear HO_9; clear HB; have HO_7 := n0_; have HO_8 := n1_; have HO_9 := n2_; have HB := n3_; clear n0_ n1_ n2_ n3_; (try clear hb); (try clear hb2); (try clear hk); (try clear hi); obtain ⟨Ao39, co39, eo39⟩ := Kd.R_slice HO_9.out; subst eo39) | ((with_reducible refine gate_dst (N := 79) rfl ?_); (try (refine gate_guard (by rfl) ?_; dsimp only)); refine Kd.R_lit (Kd.int .i64) _ 3 ?hg (N := 79) ?hd (xs := ([Int.tmod (wrap64 (a2)) (t154.length : Int)] : List Int)) (inner := [.int .i64 (Int.tmod (wrap64 (a2)) (t154.length : Int))]) (ok := fun _ => True) (okp := fun _ => True) ?hr ?hp (fun _ hk => hk) trivial (Below.refl _ _) (Nat.le_refl _) (by simp) ?_; (case hd => rfl); (case hg => rfl); (case hr => first | (go_simp; done) | (go_simp; rfl)); (case hp => exact (Reps.one (show Kd.M (Kd.int .i64) _ _ _ (Int.tmod (wrap64 (a2)) (t154.length : Int)) [.int .i64 (Int.tmod (wrap64 (a2)) (t154.length : Int))] from rfl) (Reps.none _ _))); intro v175 w40 ho41 hb hg_ hnew_; clear hg_ hnew_; (first | rw [← Ny174.out] at ho41 | (simp only [Int.reduceToNat] at ho41; rw [← Ny174.out] at ho41)); have n0_ := Aside0.mk (Kd.S_elder' (by (with_reducible repeat (first | apply Kd.S_alloc | apply Kd.S_drewN | apply Kd.S_drew)); exact HO_7.out) (Kd.R_base ho41) hb); have n1_ := Aside0.mk (Kd.R_elder' (by (with_reducible repeat (first | apply Kd.R_alloc | apply Kd.R_drewN | apply Kd.R_drew)); exact HO_8.out) (Kd.R_base ho41) hb); have n2_ := Aside0.mk (Kd.R_elder' (by (with_reducible repeat (first | apply Kd.R_alloc | apply Kd.R_drewN | apply Kd.R_drew)); exact HO_9.out) (Kd.R_base ho41) hb); have n3_ := Aside0.mk (Kd.R_lower (Kd.R_new' (Kd.R_new' ho41 (Kd.R_lt (by (with_reducible repeat (first | apply Kd.R_alloc | apply Kd.R_drewN | apply Kd.R_drew)); exact HO_8.out))) (Kd.R_lt (by (with_reducible repeat (first | apply Kd.R_alloc | apply Kd.R_drewN | apply Kd.R_drew)); exact HO_9.out))) (below_size (by repeat (first | (with_reducible first | exact HB.out | apply below_alloc | apply pw_below_drewN | apply below_drew1) | exact HB.out)))); have n4_ := Aside0.mk (below_step (by repeat (first | (with_reducible first | exact HB.out | apply below_alloc | apply pw_below_drewN | apply below_drew1) | exact HB.out)) hb); clear HO_7; clear HO_8; clear HO_9; clear HB; have HO_7 := n0_; have HO_8 := n1_; have HO_9 := n2_; have HO176 := n3_; have HB := n4_; clear n0_ n1_ n2_ n3_ n4_; clear hb ho41; obtain ⟨Ao42, co42, eo42⟩ := Kd.R_slice HO176.out; subst eo42) | (go_at_call 39; (with_reducible refine (graph_Reach.calls _ _ t154 _ _ y174 t177 _ ?side1 ?side2 ?side3 ?side4 A35.out).mono ?_); (case side1 => repeat (first | exact (Kd.S_reads' HO_7.out).2.2 | (with_reducible refine Kd.C_alloc ?_ _) | (with_reducible refine Kd.C_drewN ?_ _) | (with_reducible refine Kd.C_drew ?_))); (case side2 => exact (Kd.S_reads' HO_7.out).2.1); (case side3 => repeat (first | exact (Kd.R_reads' HO176.out).2.2 | (with_reducible refine Kd.C_alloc ?_ _) | (with_reducible refine Kd.C_drewN ?_ _) | (with_reducible refine Kd.C_drew ?_))); (case side4 => exact (Kd.R_reads' HO176.out).2.1); rintro e w43 ⟨v178, rfl, ho0, hb⟩; have n0_ := Aside0.mk (Kd.S_elder' (by (with_reducible repeat (first | apply Kd.S_alloc | apply Kd.S_drewN | apply Kd.S_drew)); exact HO_7.out) (Kd.R_base ho0) hb); have n1_ := Aside0.mk (Kd.R_elder' (by (with_reducible repeat (first | apply Kd.R_alloc | apply Kd.R_drewN | apply Kd.R_drew)); exact HO_8.out) (Kd.R_base ho0) hb); have n2_ := Aside0.mk (Kd.R_elder' (by (with_reducible repeat (first | apply Kd.R_alloc | apply Kd.R_drewN | apply Kd.R_drew)); exact HO_9.out) (Kd.R_base ho0) hb); have n3_ := Aside0.mk (Kd.R_elder' (by (with_reducible repeat (first | apply Kd.R_alloc | apply Kd.R_drewN | apply Kd.R_drew)); exact HO176.out) (Kd.R_base ho0) hb); have n4_ := Aside0.mk (Kd.R_lower (Kd.R_new' (Kd.R_new' (Kd.R_new' ho0 (Kd.R_lt (by (with_reducible repeat (first | apply Kd.R_alloc | apply Kd.R_drewN | apply Kd.R_drew)); exact HO_8.out))) (Kd.R_lt (by (with_reducible repeat (first | apply Kd.R_alloc | apply Kd.R_drewN | apply Kd.R_drew)); exact HO_9.out))) (Kd.R_lt (by (with_reducible repeat (first | apply Kd.R_alloc | apply Kd.R_drewN | apply Kd.R_drew)); exact HO176.out))) (below_size (by repeat (first | (with_reducible first | exact HB.out | apply below_alloc | apply pw_below_drewN | apply below_drew1) | exact HB.out)))); have n5_ := Aside0.mk (below_step (by repeat (first | (with_reducible first | exact HB.out | apply below_alloc | apply pw_below_drewN | apply below_drew1) | exact HB.out)) hb); clear HO_7; clear HO_8; clear HO_9; clear HO176; clear HB; have HO_7 := n0_; have HO_8 := n1_; have HO_9 := n2_; have HO176 := n3_; have HO179 := n4_; have HB := n5_; clear n0_ n1_ n2_ n3_ n4_ n5_; (try clear hb); (try clear hb2); (try clear hk); (try clear hi); (try clear ho0); obtain ⟨Ao44, co44, eo44⟩ := Kd.R_slice HO179.out; subst eo44) | (go_at_call 46; (with_reducible refine (graph_Heads.calls _ _ t154 _ _ t177 t180 _ ?side1 ?side2 ?side3 ?side4 A36.out).mono ?_); (case side1 => repeat (first | exact (Kd.S_reads' HO_7.out).2.2 | (with_reducible refine Kd.C_alloc ?_ _) | (with_reducible refine Kd.C_drewN ?_ _) | (with_reducible refine Kd.C_drew ?_))); (case side2 => exact (Kd.S_reads' HO_7.out).2.1); (case side3 => repeat (first | exact (Kd.R_reads' HO179.out).2.2 | (with_reducible refine Kd.C_alloc ?_ _) | (with_reducible refine Kd.C_drewN ?_ _) | (with_reducible refine Kd.C_drew ?_))); (case side4 => exact (Kd.R_reads' HO179.out).2.1); rintro e w45 ⟨v181, rfl, ho0, hb⟩; have n0_ := Aside0.mk (Kd.S_elder' (by (with_reducible repeat (first | apply Kd.S_alloc | apply Kd.S_drewN | apply Kd.S_drew)); exact HO_7.out) (Kd.R_base ho0) hb); have n1_ := Aside0.mk (Kd.R_elder' (by (with_reducible repeat (first | apply Kd.R_alloc | apply Kd.R_drewN | apply Kd.R_drew)); exact HO_8.out) (Kd.R_base ho0) hb); have n2_ := Aside0.mk (Kd.R_elder' (by (with_reducible repeat (first | apply Kd.R_alloc | apply Kd.R_drewN | apply Kd.R_drew)); exact HO_9.out) (Kd.R_base ho0) hb); have n3_ := Aside0.mk (Kd.R_elder' (by (with_reducible repeat (first | apply Kd.R_alloc | apply Kd.R_drewN | apply Kd.R_drew)); exact HO176.out) (Kd.R_base ho0) hb); have n4_ := Aside0.mk (Kd.R_elder' (by (with_reducible repeat (first | apply Kd.R_alloc | apply Kd.R_drewN | apply Kd.R_drew)); exact HO179.out) (Kd.R_base ho0) hb); have n5_ := Aside0.mk (Kd.R_lower (Kd.R_new' (Kd.R_new' (Kd.R_new' (Kd.R_new' ho0 (Kd.R_lt (by (with_reducible repeat (first | apply Kd.R_alloc | apply Kd.R_drewN | apply Kd.R_drew)); exact HO_8.out))) (Kd.R_lt (by (with_reducible repeat (first | apply Kd.R_alloc | apply Kd.R_drewN | apply Kd.R_drew)); exact HO_9.out))) (Kd.R_lt (by (with_reducible repeat (first | apply Kd.R_alloc | apply Kd.R_drewN | apply Kd.R_drew)); exact HO176.out))) (Kd.R_lt (by (with_reducible repeat (first | apply Kd.R_alloc | apply Kd.R_drewN | apply Kd.R_drew)); exact HO179.out))) (below_size (by repeat (first | (with_reducible first | exact HB.out | apply below_alloc | apply pw_below_drewN | apply below_drew1) | exact HB.out)))); have n6_ := Aside0.mk (below_step (by repeat (first | (with_reducible first | exact HB.out | apply below_alloc | apply pw_below_drewN | apply below_drew1) | exact HB.out)) hb); clear HO_7; clear HO_8; clear HO_9; clear HO176; clear HO179; clear HB; have HO_7 := n0_; have HO_8 := n1_; have HO_9 := n2_; have HO176 := n3_; have HO179 := n4_; have HO182 := n5_; have HB := n6_; clear n0_ n1_ n2_ n3_ n4_ n5_ n6_; (try clear hb); (try clear hb2); (try clear hk); (try clear hi); (try clear ho0)) | ((with_reducible refine gate_dst (N := 83) rfl ?_); (try (refine gate_guard (by rfl) ?_; dsimp only)); refine Kd.R_lit (Kd.int .i64) _ 3 ?hg (N := 83) ?hd (xs := ([Int.tmod (wrap64 (a2)) (t154.length : Int)] : List Int)) (inner := [.int .i64 (Int.tmod (wrap64 (a2)) (t154.length : Int))]) (ok := fun _ => True) (okp := fun _ => True) ?hr ?hp (fun _ hk => hk) trivial (Below.refl _ _) (Nat.le_refl _) (by simp) ?_; (case hd => rfl); (case hg => rfl); (case hr => first | (go_simp; done) | (go_simp; rfl)); (case hp => exact (Reps.one (show Kd.M (Kd.int .i64) _ _ _ (Int.tmod (wrap64 (a2)) (t154.length : Int)) [.int .i64 (Int.tmod (wrap64 (a2)) (t154.length : Int))] from rfl) (Reps.none _ _))); intro v184 w46 ho47 hb hg_ hnew_; clear hg_ hnew_; (first | rw [← Ny183.out] at ho47 | (simp only [Int.reduceToNat] at ho47; rw [← Ny183.out] at ho47)); have n0_ := Aside0.mk (Kd.S_elder' (by (with_reducible repeat (first | apply Kd.S_alloc | apply Kd.S_drewN | apply Kd.S_drew)); exact HO_7.out) (Kd.R_base ho47) hb); have n1_ := Aside0.mk (Kd.R_elder' (by (with_reducible repeat (first | apply Kd.R_alloc | apply Kd.R_drewN | apply Kd.R_drew)); exact HO_8.out) (Kd.R_base ho47) hb); have n2_ := Aside0.mk (Kd.R_elder' (by (with_reducible repeat (first | apply Kd.R_alloc | apply Kd.R_drewN | apply Kd.R_drew)); exact HO_9.out) (Kd.R_base ho47) hb); have n3_ := Aside0.mk (Kd.R_elder' (by (with_reducible repeat (first | apply Kd.R_alloc | apply Kd.R_drewN | apply Kd.R_drew)); exact HO176.out) (Kd.R_base ho47) hb); have n4_ := Aside0.mk (Kd.R_elder' (by (with_reducible repeat (first | apply Kd.R_alloc | apply Kd.R_drewN | apply Kd.R_drew)); exact HO179.out) (Kd.R_base ho47) hb); have n5_ := Aside0.mk (Kd.R_elder' (by (with_reducible repeat (first | apply Kd.R_alloc | apply Kd.R_drewN | apply Kd.R_drew)); exact HO182.out) (Kd.R_base ho47) hb); have n6_ := Aside0.mk (Kd.R_lower (Kd.R_new' (Kd.R_new' (Kd.R_new' (Kd.R_new' (Kd.R_new' ho47 (Kd.R_lt (by (with_reducible repeat (first | apply Kd.R_alloc | apply Kd.R_drewN | apply Kd.R_drew)); exact HO_8.out))) (Kd.R_lt (by (with_reducible repeat (first | apply Kd.R_alloc | apply Kd.R_drewN | apply Kd.R_drew)); exact HO_9.out))) (Kd.R_lt (by (with_reducible repeat (first | apply Kd.R_alloc | apply Kd.R_drewN | apply Kd.R_drew)); exact HO176.out))) (Kd.R_lt (by (with_reducible repeat (first | apply Kd.R_alloc | apply Kd.R_drewN | apply Kd.R_drew)); exact HO179.out))) (Kd.R_lt (by (with_reducible repeat (first | apply Kd.R_alloc | apply Kd.R_drewN | apply Kd.R_drew)); exact HO182.out))) (below_size (by repeat (first | (with_reducible first | exact HB.out | apply below_alloc | apply pw_below_drewN | apply below_drew1) | exact HB.out)))); have n7_ := Aside0.mk (below_step (by repeat (first | (with_reducible first | exact HB.out | apply below_alloc | apply pw_below_drewN | apply below_drew1) | exact HB.out)) hb); clear HO_7; clear HO_8; clear HO_9; clear HO176; clear HO179; clear HO182; clear HB; have HO_7 := n0_; have HO_8 := n1_; have HO_9 := n2_; have HO176 := n3_; have HO179 := n4_; have HO182 := n5_; have HO185 := n6_; have HB := n7_; clear n0_ n1_ n2_ n3_ n4_ n5_ n6_ n7_; clear hb ho47; obtain ⟨Ao48, co48, eo48⟩ := Kd.R_slice HO182.out; subst eo48; obtain ⟨Ao49, co49, eo49⟩ := Kd.R_slice HO185.out; subst eo49) | (go_at_call 40; (with_reducible refine (heliastref12_Same.calls k1 _ _ t180 _ _ y183 t186 _ ?side1 ?side2 ?side3 ?side4 A37.out).mono ?_); (case side1 => repeat (first | exact (Kd.R_reads' HO182.out).2.2 | (with_reducible refine Kd.C_alloc ?_ _) | (with_reducible refine Kd.C_drewN ?_ _) | (with_reducible refine Kd.C_drew ?_))); (case side2 => exact (Kd.R_reads' HO182.out).2.1); (case side3 => repeat (first | exact (Kd.R_reads' HO185.out).2.2 | (with_reducible refine Kd.C_alloc ?_ _) | (with_reducible refine Kd.C_drewN ?_ _) | (with_reducible refine Kd.C_drew ?_))); (case side4 => exact (Kd.R_reads' HO185.out).2.1); rintro e w' ⟨rfl, ⟨nd, rfl⟩⟩; (try first | exact ⟨rfl, _, World.drewN_drewN _ _ _⟩ | exact ⟨rfl, _, Eq.trans (World.drewN_drewN _ _ _) (congrArg (World.drewN _) (Nat.add_assoc _ _ _))⟩))); try go_wp2_with (first | (go_at_call 47; (with_reducible refine (heliastlaw12_known.calls k1  true _ A32.out (by first | rfl | exact HLAW.out)).mono ?_); rintro e w38 ⟨rfl, hb⟩; have n0_ := Aside0.mk (Kd.S_below (by (with_reducible repeat (first | apply Kd.S_alloc | apply Kd.S_drewN | apply Kd.S_drew)); exact HO_7.out) hb); have n1_ := Aside0.mk (Kd.R_below (by (with_reducible repeat (first | apply Kd.R_alloc | apply Kd.R_drewN | apply Kd.R_drew)); exact HO_8.out) hb); have n2_ := Aside0.mk (Kd.R_below (by (with_reducible repeat (first | apply Kd.R_alloc | apply Kd.R_drewN | apply Kd.R_drew)); exact HO_9.out) hb); have n3_ := Aside0.mk (below_step (by repeat (first | (with_reducible first | exact HB.out | apply below_alloc | apply pw_below_drewN | apply below_drew1) | exact HB.out)) hb); clear HO_7; clear HO_8; clear HO_9; clear HB; have HO_7 := n0_; have HO_8 := n1_; have HO_9 := n2_; have HB := n3_; clear n0_ n1_ n2_ n3_; (try clear hb); (try clear hb2); (try clear hk); (try clear hi); obtain ⟨Ao39, co39, eo39⟩ := Kd.R_slice HO_9.out; subst eo39) | ((with_reducible refine gate_dst (N := 79) rfl ?_); (try (refine gate_guard (by rfl) ?_; dsimp only)); refine Kd.R_lit (Kd.int .i64) _ 3 ?hg (N := 79) ?hd (xs := ([Int.tmod (wrap64 (a2)) (t154.length : Int)] : List Int)) (inner := [.int .i64 (Int.tmod (wrap64 (a2)) (t154.length : Int))]) (ok := fun _ => True) (okp := fun _ => True) ?hr ?hp (fun _ hk => hk) trivial (Below.refl _ _) (Nat.le_refl _) (by simp) ?_; (case hd => rfl); (case hg => rfl); (case hr => first | (go_simp; done) | (go_simp; rfl)); (case hp => exact (Reps.one (show Kd.M (Kd.int .i64) _ _ _ (Int.tmod (wrap64 (a2)) (t154.length : Int)) [.int .i64 (Int.tmod (wrap64 (a2)) (t154.length : Int))] from rfl) (Reps.none _ _))); intro v175 w40 ho41 hb hg_ hnew_; clear hg_ hnew_; (first | rw [← Ny174.out] at ho41 | (simp only [Int.reduceToNat] at ho41; rw [← Ny174.out] at ho41)); have n0_ := Aside0.mk (Kd.S_elder' (by (with_reducible repeat (first | apply Kd.S_alloc | apply Kd.S_drewN | apply Kd.S_drew)); exact HO_7.out) (Kd.R_base ho41) hb); have n1_ := Aside0.mk (Kd.R_elder' (by (with_reducible repeat (first | apply Kd.R_alloc | apply Kd.R_drewN | apply Kd.R_drew)); exact HO_8.out) (Kd.R_base ho41) hb); have n2_ := Aside0.mk (Kd.R_elder' (by (with_reducible repeat (first | apply Kd.R_alloc | apply Kd.R_drewN | apply Kd.R_drew)); exact HO_9.out) (Kd.R_base ho41) hb); have n3_ := Aside0.mk (Kd.R_lower (Kd.R_new' (Kd.R_new' ho41 (Kd.R_lt (by (with_reducible repeat (first | apply Kd.R_alloc | apply Kd.R_drewN | apply Kd.R_drew)); exact HO_8.out))) (Kd.R_lt (by (with_reducible repeat (first | apply Kd.R_alloc | apply Kd.R_drewN | apply Kd.R_drew)); exact HO_9.out))) (below_size (by repeat (first | (with_reducible first | exact HB.out | apply below_alloc | apply pw_below_drewN | apply below_drew1) | exact HB.out)))); have n4_ := Aside0.mk (below_step (by repeat (first | (with_reducible first | exact HB.out | apply below_alloc | apply pw_below_drewN | apply below_drew1) | exact HB.out)) hb); clear HO_7; clear HO_8; clear HO_9; clear HB; have HO_7 := n0_; have HO_8 := n1_; have HO_9 := n2_; have HO176 := n3_; have HB := n4_; clear n0_ n1_ n2_ n3_ n4_; clear hb ho41; obtain ⟨Ao42, co42, eo42⟩ := Kd.R_slice HO176.out; subst eo42) | (go_at_call 39; (with_reducible refine (graph_Reach.calls _ _ t154 _ _ y174 t177 _ ?side1 ?side2 ?side3 ?side4 A35.out).mono ?_); (case side1 => repeat (first | exact (Kd.S_reads' HO_7.out).2.2 | (with_reducible refine Kd.C_alloc ?_ _) | (with_reducible refine Kd.C_drewN ?_ _) | (with_reducible refine Kd.C_drew ?_))); (case side2 => exact (Kd.S_reads' HO_7.out).2.1); (case side3 => repeat (first | exact (Kd.R_reads' HO176.out).2.2 | (with_reducible refine Kd.C_alloc ?_ _) | (with_reducible refine Kd.C_drewN ?_ _) | (with_reducible refine Kd.C_drew ?_))); (case side4 => exact (Kd.R_reads' HO176.out).2.1); rintro e w43 ⟨v178, rfl, ho0, hb⟩; have n0_ := Aside0.mk (Kd.S_elder' (by (with_reducible repeat (first | apply Kd.S_alloc | apply Kd.S_drewN | apply Kd.S_drew)); exact HO_7.out) (Kd.R_base ho0) hb); have n1_ := Aside0.mk (Kd.R_elder' (by (with_reducible repeat (first | apply Kd.R_alloc | apply Kd.R_drewN | apply Kd.R_drew)); exact HO_8.out) (Kd.R_base ho0) hb); have n2_ := Aside0.mk (Kd.R_elder' (by (with_reducible repeat (first | apply Kd.R_alloc | apply Kd.R_drewN | apply Kd.R_drew)); exact HO_9.out) (Kd.R_base ho0) hb); have n3_ := Aside0.mk (Kd.R_elder' (by (with_reducible repeat (first | apply Kd.R_alloc | apply Kd.R_drewN | apply Kd.R_drew)); exact HO176.out) (Kd.R_base ho0) hb); have n4_ := Aside0.mk (Kd.R_lower (Kd.R_new' (Kd.R_new' (Kd.R_new' ho0 (Kd.R_lt (by (with_reducible repeat (first | apply Kd.R_alloc | apply Kd.R_drewN | apply Kd.R_drew)); exact HO_8.out))) (Kd.R_lt (by (with_reducible repeat (first | apply Kd.R_alloc | apply Kd.R_drewN | apply Kd.R_drew)); exact HO_9.out))) (Kd.R_lt (by (with_reducible repeat (first | apply Kd.R_alloc | apply Kd.R_drewN | apply Kd.R_drew)); exact HO176.out))) (below_size (by repeat (first | (with_reducible first | exact HB.out | apply below_alloc | apply pw_below_drewN | apply below_drew1) | exact HB.out)))); have n5_ := Aside0.mk (below_step (by repeat (first | (with_reducible first | exact HB.out | apply below_alloc | apply pw_below_drewN | apply below_drew1) | exact HB.out)) hb); clear HO_7; clear HO_8; clear HO_9; clear HO176; clear HB; have HO_7 := n0_; have HO_8 := n1_; have HO_9 := n2_; have HO176 := n3_; have HO179 := n4_; have HB := n5_; clear n0_ n1_ n2_ n3_ n4_ n5_; (try clear hb); (try clear hb2); (try clear hk); (try clear hi); (try clear ho0); obtain ⟨Ao44, co44, eo44⟩ := Kd.R_slice HO179.out; subst eo44) | (go_at_call 46; (with_reducible refine (graph_Heads.calls _ _ t154 _ _ t177 t180 _ ?side1 ?side2 ?side3 ?side4 A36.out).mono ?_); (case side1 => repeat (first | exact (Kd.S_reads' HO_7.out).2.2 | (with_reducible refine Kd.C_alloc ?_ _) | (with_reducible refine Kd.C_drewN ?_ _) | (with_reducible refine Kd.C_drew ?_))); (case side2 => exact (Kd.S_reads' HO_7.out).2.1); (case side3 => repeat (first | exact (Kd.R_reads' HO179.out).2.2 | (with_reducible refine Kd.C_alloc ?_ _) | (with_reducible refine Kd.C_drewN ?_ _) | (with_reducible refine Kd.C_drew ?_))); (case side4 => exact (Kd.R_reads' HO179.out).2.1); rintro e w45 ⟨v181, rfl, ho0, hb⟩; have n0_ := Aside0.mk (Kd.S_elder' (by (with_reducible repeat (first | apply Kd.S_alloc | apply Kd.S_drewN | apply Kd.S_drew)); exact HO_7.out) (Kd.R_base ho0) hb); have n1_ := Aside0.mk (Kd.R_elder' (by (with_reducible repeat (first | apply Kd.R_alloc | apply Kd.R_drewN | apply Kd.R_drew)); exact HO_8.out) (Kd.R_base ho0) hb); have n2_ := Aside0.mk (Kd.R_elder' (by (with_reducible repeat (first | apply Kd.R_alloc | apply Kd.R_drewN | apply Kd.R_drew)); exact HO_9.out) (Kd.R_base ho0) hb); have n3_ := Aside0.mk (Kd.R_elder' (by (with_reducible repeat (first | apply Kd.R_alloc | apply Kd.R_drewN | apply Kd.R_drew)); exact HO176.out) (Kd.R_base ho0) hb); have n4_ := Aside0.mk (Kd.R_elder' (by (with_reducible repeat (first | apply Kd.R_alloc | apply Kd.R_drewN | apply Kd.R_drew)); exact HO179.out) (Kd.R_base ho0) hb); have n5_ := Aside0.mk (Kd.R_lower (Kd.R_new' (Kd.R_new' (Kd.R_new' (Kd.R_new' ho0 (Kd.R_lt (by (with_reducible repeat (first | apply Kd.R_alloc | apply Kd.R_drewN | apply Kd.R_drew)); exact HO_8.out))) (Kd.R_lt (by (with_reducible repeat (first | apply Kd.R_alloc | apply Kd.R_drewN | apply Kd.R_drew)); exact HO_9.out))) (Kd.R_lt (by (with_reducible repeat (first | apply Kd.R_alloc | apply Kd.R_drewN | apply Kd.R_drew)); exact HO176.out))) (Kd.R_lt (by (with_reducible repeat (first | apply Kd.R_alloc | apply Kd.R_drewN | apply Kd.R_drew)); exact HO179.out))) (below_size (by repeat (first | (with_reducible first | exact HB.out | apply below_alloc | apply pw_below_drewN | apply below_drew1) | exact HB.out)))); have n6_ := Aside0.mk (below_step (by repeat (first | (with_reducible first | exact HB.out | apply below_alloc | apply pw_below_drewN | apply below_drew1) | exact HB.out)) hb); clear HO_7; clear HO_8; clear HO_9; clear HO176; clear HO179; clear HB; have HO_7 := n0_; have HO_8 := n1_; have HO_9 := n2_; have HO176 := n3_; have HO179 := n4_; have HO182 := n5_; have HB := n6_; clear n0_ n1_ n2_ n3_ n4_ n5_ n6_; (try clear hb); (try clear hb2); (try clear hk); (try clear hi); (try clear ho0)) | ((with_reducible refine gate_dst (N := 83) rfl ?_); (try (refine gate_guard (by rfl) ?_; dsimp only)); refine Kd.R_lit (Kd.int .i64) _ 3 ?hg (N := 83) ?hd (xs := ([Int.tmod (wrap64 (a2)) (t154.length : Int)] : List Int)) (inner := [.int .i64 (Int.tmod (wrap64 (a2)) (t154.length : Int))]) (ok := fun _ => True) (okp := fun _ => True) ?hr ?hp (fun _ hk => hk) trivial (Below.refl _ _) (Nat.le_refl _) (by simp) ?_; (case hd => rfl); (case hg => rfl); (case hr => first | (go_simp; done) | (go_simp; rfl)); (case hp => exact (Reps.one (show Kd.M (Kd.int .i64) _ _ _ (Int.tmod (wrap64 (a2)) (t154.length : Int)) [.int .i64 (Int.tmod (wrap64 (a2)) (t154.length : Int))] from rfl) (Reps.none _ _))); intro v184 w46 ho47 hb hg_ hnew_; clear hg_ hnew_; (first | rw [← Ny183.out] at ho47 | (simp only [Int.reduceToNat] at ho47; rw [← Ny183.out] at ho47)); have n0_ := Aside0.mk (Kd.S_elder' (by (with_reducible repeat (first | apply Kd.S_alloc | apply Kd.S_drewN | apply Kd.S_drew)); exact HO_7.out) (Kd.R_base ho47) hb); have n1_ := Aside0.mk (Kd.R_elder' (by (with_reducible repeat (first | apply Kd.R_alloc | apply Kd.R_drewN | apply Kd.R_drew)); exact HO_8.out) (Kd.R_base ho47) hb); have n2_ := Aside0.mk (Kd.R_elder' (by (with_reducible repeat (first | apply Kd.R_alloc | apply Kd.R_drewN | apply Kd.R_drew)); exact HO_9.out) (Kd.R_base ho47) hb); have n3_ := Aside0.mk (Kd.R_elder' (by (with_reducible repeat (first | apply Kd.R_alloc | apply Kd.R_drewN | apply Kd.R_drew)); exact HO176.out) (Kd.R_base ho47) hb); have n4_ := Aside0.mk (Kd.R_elder' (by (with_reducible repeat (first | apply Kd.R_alloc | apply Kd.R_drewN | apply Kd.R_drew)); exact HO179.out) (Kd.R_base ho47) hb); have n5_ := Aside0.mk (Kd.R_elder' (by (with_reducible repeat (first | apply Kd.R_alloc | apply Kd.R_drewN | apply Kd.R_drew)); exact HO182.out) (Kd.R_base ho47) hb); have n6_ := Aside0.mk (Kd.R_lower (Kd.R_new' (Kd.R_new' (Kd.R_new' (Kd.R_new' (Kd.R_new' ho47 (Kd.R_lt (by (with_reducible repeat (first | apply Kd.R_alloc | apply Kd.R_drewN | apply Kd.R_drew)); exact HO_8.out))) (Kd.R_lt (by (with_reducible repeat (first | apply Kd.R_alloc | apply Kd.R_drewN | apply Kd.R_drew)); exact HO_9.out))) (Kd.R_lt (by (with_reducible repeat (first | apply Kd.R_alloc | apply Kd.R_drewN | apply Kd.R_drew)); exact HO176.out))) (Kd.R_lt (by (with_reducible repeat (first | apply Kd.R_alloc | apply Kd.R_drewN | apply Kd.R_drew)); exact HO179.out))) (Kd.R_lt (by (with_reducible repeat (first | apply Kd.R_alloc | apply Kd.R_drewN | apply Kd.R_drew)); exact HO182.out))) (below_size (by repeat (first | (with_reducible first | exact HB.out | apply below_alloc | apply pw_below_drewN | apply below_drew1) | exact HB.out)))); have n7_ := Aside0.mk (below_step (by repeat (first | (with_reducible first | exact HB.out | apply below_alloc | apply pw_below_drewN | apply below_drew1) | exact HB.out)) hb); clear HO_7; clear HO_8; clear HO_9; clear HO176; clear HO179; clear HO182; clear HB; have HO_7 := n0_; have HO_8 := n1_; have HO_9 := n2_; have HO176 := n3_; have HO179 := n4_; have HO182 := n5_; have HO185 := n6_; have HB := n7_; clear n0_ n1_ n2_ n3_ n4_ n5_ n6_ n7_; clear hb ho47; obtain ⟨Ao48, co48, eo48⟩ := Kd.R_slice HO182.out; subst eo48; obtain ⟨Ao49, co49, eo49⟩ := Kd.R_slice HO185.out; subst eo49) | (go_at_call 40; (with_reducible refine (heliastref12_Same.calls k1 _ _ t180 _ _ y183 t186 _ ?side1 ?side2 ?side3 ?side4 A37.out).mono ?_); (case side1 => repeat (first | exact (Kd.R_reads' HO182.out).2.2 | (with_reducible refine Kd.C_alloc ?_ _) | (with_reducible refine Kd.C_drewN ?_ _) | (with_reducible refine Kd.C_drew ?_))); (case side2 => exact (Kd.R_reads' HO182.out).2.1); (case side3 => repeat (first | exact (Kd.R_reads' HO185.out).2.2 | (with_reducible refine Kd.C_alloc ?_ _) | (with_reducible refine Kd.C_drewN ?_ _) | (with_reducible refine Kd.C_drew ?_))); (case side4 => exact (Kd.R_reads' HO185.out).2.1); rintro e w' ⟨rfl, ⟨nd, rfl⟩⟩; (try first | exact ⟨rfl, _, World.drewN_drewN _ _ _⟩ | exact ⟨rfl, _, Eq.trans (World.drewN_drewN _ _ _) (congrArg (World.drewN _) (Nat.add_assoc _ _ _))⟩))))
              go_ret
              exact ⟨by first | rfl | (simp [errW_none, errW_some] <;> rfl) | (simp [*, errW_none, errW_some] <;> rfl), by repeat (first | (with_reducible first | exact HB.out | apply below_alloc | apply pw_below_drewN | apply below_drew1) | exact HB.out)⟩
            · rw [if_neg c34] at H
              have c34b0 : decide ((t163.length : Int) ≤ (t160.length : Int)) = false := decide_eq_false c34
              have c34b1 : decide (t163.length ≤ t160.length) = false := decide_eq_false (fun h => c34 (Int.ofNat_le.mpr h))
              clear c34
              exact absurd ((Option.some.inj H).trans HLAW.out) (by decide)
          · replace c33 := Bool.eq_false_iff.mpr c33
            subst c33
            have H1 : (some false) = some r := by rw [if_neg (show ¬ (false = true) by decide)] at H; exact H
            clear H
            have H := H1
            clear H1
            exact absurd ((Option.some.inj H).trans HLAW.out) (by decide)

/-- THE ONE PURE STATEMENT of heliastlaw12_GraphHeads: yours. -/
def heliastlaw12_GraphHeads.Pure : Prop := ∀ (l0 : List Int) (l1 : List Int) (a2 : Int), l0.length ≤ maxLen → l0.length * 1 ≤ 140737488351232 → (∀ x ∈ l0, (Lit.int .u8 x).wf = true) → l1.length ≤ maxLen → l1.length * 1 ≤ 140737488351232 → (∀ x ∈ l1, (Lit.int .u8 x).wf = true) → (Lit.int .u8 a2).wf = true → ∃ k, heliastlaw12_GraphHeads.f k l0 l1 a2 = some true
theorem heliastlaw12_GraphHeads.walk (P : heliastlaw12_GraphHeads.Pure) (a0 : Option Addr) (len0 cap0 : Nat) (z0 : List Int) (a1 : Option Addr) (len1 cap1 : Nat) (z1 : List Int) (a2 : Int) (w : World) (w0 : (a0 = none ∧ len0 = 0 ∧ cap0 = 0 ∧ z0 = []) ∨ ∃ x, a0 = some x ∧ len0 ≤ cap0 ∧ cap0 ≤ maxLen ∧ z0.length = cap0 ∧ (∀ i, i < z0.length → w.cell? (x.add i) = some (.int .u8 (z0.getD i 0))) ∧ ∀ n ∈ z0, (Lit.int .u8 n).wf = true) (y0 : len0 * 1 ≤ 140737488351232) (w1 : (a1 = none ∧ len1 = 0 ∧ cap1 = 0 ∧ z1 = []) ∨ ∃ x, a1 = some x ∧ len1 ≤ cap1 ∧ cap1 ≤ maxLen ∧ z1.length = cap1 ∧ (∀ i, i < z1.length → w.cell? (x.add i) = some (.int .u8 (z1.getD i 0))) ∧ ∀ n ∈ z1, (Lit.int .u8 n).wf = true) (y1 : len1 * 1 ≤ 140737488351232) (w2 : (Lit.int .u8 a2).wf = true) :
    Calls Try.prog 11 #[.slice a0 len0 cap0, .slice a1 len1 cap1, .int .u8 a2] w fun e w' => e = .returned (.bool true) ∧ Below w.heap.size w w' := by
  obtain ⟨l0, rfl, hr0, hm0, hw0, hc0⟩ := ReadsInt.ofRowC w0
  obtain ⟨l1, rfl, hr1, hm1, hw1, hc1⟩ := ReadsInt.ofRowC w1
  obtain ⟨k, h⟩ := P l0 l1 a2 hm0 y0 hw0 hm1 y1 hw1 w2
  refine (heliastlaw12_GraphHeads.calls k _ _ l0 _ _ l1 a2 true w (Kd.C_of_reads (d := (0 : Int)) (h1 := fun _ => rfl) hr0) hc0 (Kd.C_of_reads (d := (0 : Int)) (h1 := fun _ => rfl) hr1) hc1 h rfl).mono ?_
  rintro e w' ⟨rfl, hd⟩
  exact ⟨rfl, hd⟩

/-! ### pure Gr0 -/
-- PURE needs heliast/heliastlaw12.Graph needs heliast/heliastlaw12.known needs heliast/heliastref12.Same
open Go.Proofs.He
theorem rd_get {l : List Int} {i : Nat} (h : i < l.length) : rd l (i : Int) = l[i] := by simp [rd, h]
theorem g12_row (g : List (List Int)) (i : Nat) : rd_L1 g (i : Int) = g.getD i [] := by unfold rd_L1; rw [Int.toNat_natCast]
theorem g12_Same_l0 (a b : List Int) (hl : a.length = b.length) (hb : b.length < 4611686018427387904) (d : Nat) : ∀ (i k : Nat), i + d = a.length → d + 1 ≤ k → heliastref12_Same.l0 k a b (i : Int) = some (decide (a.drop i = b.drop i)) := by
  induction d with
  | zero =>
    intro i k hd hk
    obtain ⟨k, rfl⟩ : ∃ m, k = m + 1 := ⟨k - 1, by omega⟩
    simp only [heliastref12_Same.l0]
    rw [if_neg (by omega), List.drop_eq_nil_of_le (by omega), List.drop_eq_nil_of_le (by omega)]; rfl
  | succ d ih =>
    intro i k hd hk
    obtain ⟨k, rfl⟩ : ∃ m, k = m + 1 := ⟨k - 1, by omega⟩
    have hi : i < a.length := by omega
    have hj : i < b.length := by omega
    have hw : wrap64 ((i : Int) + 1) = ((i + 1 : Nat) : Int) := by rw [wrap_sm (by omega) (by omega)]; rfl
    have hd2 : (a.drop i = b.drop i) ↔ (a[i] = b[i] ∧ a.drop (i + 1) = b.drop (i + 1)) := by
      rw [List.drop_eq_getElem_cons hi, List.drop_eq_getElem_cons hj, List.cons.injEq]
    simp only [heliastref12_Same.l0]
    rw [if_pos (by omega), if_pos (by omega), if_pos (by omega), rd_get hi, rd_get hj, decide_eq_decide.2 hd2]
    by_cases he : a[i] = b[i]
    · rw [if_pos he, hw, ih (i + 1) k (by omega) (by omega)]
      simp only [he, true_and]
    · rw [if_neg he, decide_eq_false (fun h => he h.1)]
theorem g12_Same (a b : List Int) (hb : b.length < 4611686018427387904) (k : Nat) (hk : b.length + 1 ≤ k) : heliastref12_Same.f k a b = some (decide (a = b)) := by
  unfold heliastref12_Same.f
  by_cases hl : a.length = b.length
  · have h := g12_Same_l0 a b hl hb a.length 0 k (by omega) (by omega)
    rw [if_pos (by omega), show (0 : Int) = ((0 : Nat) : Int) from rfl, h]
    rfl
  · rw [if_neg (by omega)]
    have : a ≠ b := fun e => hl (by rw [e])
    simp [this]
/-! Graph -/
def g12_sel (c : List Int) (i j : Int) : Bool := decide ((Int.tmod (wrap64 ((wrap64 ((wrap64 (rd c i)) + (wrap64 (j * 7)))) + (wrap64 (rd c (Int.tmod (wrap64 (i + j)) (c.length : Int)))))) 5) = 0) || (decide (j = wrap64 (i - 1)) && decide ((Int.tmod (rd c i) 3) = 0))
theorem g12_Graph_l1 (c : List Int) (G : List (List Int)) (i : Nat) (hi : i < c.length) (hi2 : i < 24) (hG : G.length < 5864062014805) (d : Nat) : ∀ (j : Nat) (L : List Int) (K k : Nat), K = k + d + 1 → j + d = i → L.length ≤ j →
    heliastlaw12_Graph.l1 K c G (i : Int) L (j : Int) = heliastlaw12_Graph.l0 k c (G ++ [L ++ (seg j d).filter (g12_sel c i)]) (((i + 1 : Nat) : Int)) := by
  induction d with
  | zero =>
    intro j L K k hK hd hL
    subst hK
    have hw : wrap64 ((i : Int) + 1) = ((i + 1 : Nat) : Int) := by rw [wrap_sm (by omega) (by omega)]; rfl
    simp only [heliastlaw12_Graph.l1]
    rw [if_neg (by omega), if_pos hG, hw, seg_zero]
    simp
  | succ d ih =>
    intro j L K0 k hK hd hL
    obtain ⟨K, rfl⟩ : ∃ m, K0 = m + 1 := ⟨K0 - 1, by omega⟩
    have hw : wrap64 ((j : Int) + 1) = ((j + 1 : Nat) : Int) := by rw [wrap_sm (by omega) (by omega)]; rfl
    have hw2 : wrap64 ((i : Int) + j) = ((i + j : Nat) : Int) := by rw [wrap_sm (by omega) (by omega)]; rfl
    have hc0 : 0 < (c.length : Int) := by omega
    have hm0 : 0 ≤ Int.tmod ((i + j : Nat) : Int) (c.length : Int) := Int.tmod_nonneg _ (by omega)
    have hm1 : Int.tmod ((i + j : Nat) : Int) (c.length : Int) < (c.length : Int) := Int.tmod_lt_of_pos _ hc0
    simp only [heliastlaw12_Graph.l1]
    rw [if_pos (by omega), if_pos (by omega), if_pos (by omega), if_neg (by omega), hw2, if_pos hm0, if_pos hm1, hw, seg_succ]
    by_cases h1 : (Int.tmod (wrap64 ((wrap64 ((wrap64 (rd c i)) + (wrap64 ((j : Int) * 7)))) + (wrap64 (rd c (Int.tmod ((i + j : Nat) : Int) (c.length : Int)))))) 5) = 0
    · have hs : g12_sel c i j = true := by unfold g12_sel; rw [hw2, decide_eq_true h1]; rfl
      rw [if_pos h1, if_pos (by omega), ih (j + 1) (L ++ [(j : Int)]) K k (by omega) (by omega) (by simp; omega), List.filter_cons_of_pos hs]
      simp
    · rw [if_neg h1]
      by_cases h2 : (j : Int) = wrap64 ((i : Int) - 1)
      · rw [if_pos h2]
        by_cases h3 : (Int.tmod (rd c i) 3) = 0
        · have hs : g12_sel c i j = true := by unfold g12_sel; rw [hw2, decide_eq_false h1, decide_eq_true h2, decide_eq_true h3]; rfl
          rw [if_pos h3, if_pos (by omega), ih (j + 1) (L ++ [(j : Int)]) K k (by omega) (by omega) (by simp; omega), List.filter_cons_of_pos hs]
          simp
        · have hs : ¬ g12_sel c i j = true := by unfold g12_sel; rw [hw2, decide_eq_false h1, decide_eq_true h2, decide_eq_false h3]; simp
          rw [if_neg h3, ih (j + 1) L K k (by omega) (by omega) (by omega), List.filter_cons_of_neg hs]
      · have hs : ¬ g12_sel c i j = true := by unfold g12_sel; rw [hw2, decide_eq_false h1, decide_eq_false h2]; simp
        rw [if_neg h2, ih (j + 1) L K k (by omega) (by omega) (by omega), List.filter_cons_of_neg hs]
def g12_rows (c : List Int) (i d : Nat) : List (List Int) := (List.range' i d).map fun n => (seg 0 n).filter (g12_sel c n)
theorem g12_Graph_l0 (c : List Int) (m : Nat) (hm : m = min c.length 24) (d : Nat) : ∀ (i : Nat) (G : List (List Int)) (k : Nat), i + d = m → G.length = i → 30 * d + 3 ≤ k → heliastlaw12_Graph.l0 k c G (i : Int) = some (G ++ g12_rows c i d) := by
  induction d with
  | zero =>
    intro i G k hd hG hk
    obtain ⟨k, rfl⟩ : ∃ q, k = q + 2 := ⟨k - 2, by omega⟩
    simp only [heliastlaw12_Graph.l0, heliastlaw12_Graph.j1]
    by_cases h : (i : Int) < (c.length : Int)
    · rw [if_pos h, decide_eq_false (by omega)]; simp [g12_rows]
    · rw [if_neg h]; simp [g12_rows]
  | succ d ih =>
    intro i G k hd hG hk
    obtain ⟨k, rfl⟩ : ∃ q, k = (q + i + 1) + 2 := ⟨k - i - 3, by omega⟩
    have h1 := g12_Graph_l1 c G i (by omega) (by omega) (by omega) i 0 [] (k + i + 1) k rfl (by omega) (by simp)
    simp only [heliastlaw12_Graph.l0, heliastlaw12_Graph.j1]
    rw [if_pos (by omega), decide_eq_true (by omega), if_pos rfl, show (0 : Int) = ((0 : Nat) : Int) from rfl, h1, List.nil_append, ih (i + 1) _ k (by omega) (by simp; omega) (by omega)]
    unfold g12_rows
    rw [List.range'_succ, List.map_cons, List.append_assoc, List.singleton_append]
def g12_graph (c : List Int) : List (List Int) := g12_rows c 0 (min c.length 24)
theorem g12_Graph (c : List Int) (k : Nat) (hk : 1000 ≤ k) : heliastlaw12_Graph.f k c = some (g12_graph c) := by
  unfold heliastlaw12_Graph.f
  rw [show (0 : Int) = ((0 : Nat) : Int) from rfl, g12_Graph_l0 c (min c.length 24) rfl (min c.length 24) 0 [] k (by omega) rfl (by omega)]
  rfl
theorem g12_graph_length (c : List Int) : (g12_graph c).length = min c.length 24 := by simp [g12_graph, g12_rows]
theorem g12_graph_good (c : List Int) : BackG (g12_graph c) := by
  have key : ∀ n, n < (g12_graph c).length → (g12_graph c).getD n [] = (seg 0 n).filter (g12_sel c n) := by
    intro n hn
    rw [g12_graph_length] at hn
    unfold g12_graph g12_rows
    rw [List.getD_eq_getElem?_getD, List.getElem?_map, List.getElem?_range' hn]
    simp
  refine ⟨fun n hn => ?_, fun n hn x hx => ?_⟩
  · rw [key n hn]; exact (seg_rises 0 n).filter _
  · rw [key n hn] at hx
    have := mem_seg.1 (List.mem_filter.1 hx).1
    omega
theorem g12_graph_small (c : List Int) : (g12_graph c).length ≤ 24 := by rw [g12_graph_length]; omega
set_option maxRecDepth 100000 in
theorem g12_known_30 : heliastlaw12_known.f 30 = some true := by decide +kernel
theorem g12_known (k : Nat) (hk : 30 ≤ k) : heliastlaw12_known.f k = some true := by
  obtain ⟨d, rfl⟩ : ∃ d, k = 30 + d := ⟨k - 30, by omega⟩
  exact more_rounds heliastlaw12_known.mono 30 d true g12_known_30
theorem g12_Reach (g : List (List Int)) (l : List Int) (hg : g.length ≤ 24) : graph_Reach.f g l = some (rchL g l) := by unfold graph_Reach.f; rw [if_pos (by omega)]
theorem g12_Order (g : List (List Int)) (l r : List Int) (hg : g.length ≤ 24) : graph_Order.f g l r = some (ordL g l r) := by unfold graph_Order.f; rw [if_pos (by omega)]
theorem pickL_length (g : List (List Int)) (p : Int → Bool) : (pickL g p).length ≤ g.length := by
  unfold pickL; exact Nat.le_trans (List.length_filter_le _ _) (by simp)

/-! ### pure Gr1 -/
-- PURE needs heliast/heliastlaw12.Graph needs heliast/heliastlaw12.known needs heliast/heliastref12.Same needs heliast/heliastref12.Set
open Go.Proofs.He
theorem g12_Has_l0 (l : List Int) (x : Int) (hl : l.length < 4611686018427387904) (d : Nat) : ∀ (i k : Nat), i + d = l.length → d + 1 ≤ k → heliastref12_Has.l0 k l x (i : Int) = some (decide (x ∈ l.drop i)) := by
  induction d with
  | zero =>
    intro i k hd hk
    obtain ⟨k, rfl⟩ : ∃ m, k = m + 1 := ⟨k - 1, by omega⟩
    simp only [heliastref12_Has.l0]
    rw [if_neg (by omega), List.drop_eq_nil_of_le (by omega)]; simp
  | succ d ih =>
    intro i k hd hk
    obtain ⟨k, rfl⟩ : ∃ m, k = m + 1 := ⟨k - 1, by omega⟩
    have hi : i < l.length := by omega
    have hw : wrap64 ((i : Int) + 1) = ((i + 1 : Nat) : Int) := by rw [wrap_sm (by omega) (by omega)]; rfl
    simp only [heliastref12_Has.l0]
    rw [if_pos (by omega), if_pos (by omega), rd_get hi, List.drop_eq_getElem_cons hi]
    by_cases he : l[i] = x
    · rw [if_pos he]; simp [he]
    · rw [if_neg he, hw, ih (i + 1) k (by omega) (by omega)]
      have hx : x ≠ l[i] := fun e => he e.symm
      refine congrArg some (decide_eq_decide.2 ?_)
      rw [List.mem_cons]
      exact ⟨fun h => .inr h, fun h => h.resolve_left hx⟩
theorem g12_Has (l : List Int) (x : Int) (hl : l.length < 4611686018427387904) (k : Nat) (hk : l.length + 1 ≤ k) : heliastref12_Has.f k l x = some (decide (x ∈ l)) := by
  unfold heliastref12_Has.f
  rw [show (0 : Int) = ((0 : Nat) : Int) from rfl, g12_Has_l0 l x hl l.length 0 k (by omega) hk]; rfl
theorem g12_Set_l0 (g : List (List Int)) (l : List Int) (hg : g.length < 17592186044416) (hl : l.length < 4611686018427387904) (d : Nat) : ∀ (i : Nat) (out : List Int) (k : Nat), i + d = g.length → out.length ≤ i → d + l.length + 2 ≤ k →
    heliastref12_Set.l0 k g l out (i : Int) = some (out ++ (seg i d).filter (fun x => decide (x ∈ l))) := by
  induction d with
  | zero =>
    intro i out k hd ho hk
    obtain ⟨k, rfl⟩ : ∃ m, k = m + 1 := ⟨k - 1, by omega⟩
    simp only [heliastref12_Set.l0]
    rw [if_neg (by omega), seg_zero]; simp
  | succ d ih =>
    intro i out k hd ho hk
    obtain ⟨k, rfl⟩ : ∃ m, k = m + 1 := ⟨k - 1, by omega⟩
    have hw : wrap64 ((i : Int) + 1) = ((i + 1 : Nat) : Int) := by rw [wrap_sm (by omega) (by omega)]; rfl
    simp only [heliastref12_Set.l0]
    rw [if_pos (by omega), g12_Has l i hl k (by omega), Option.bind_some, hw, seg_succ]
    by_cases h : (i : Int) ∈ l
    · rw [if_pos (by simpa using h), if_pos (by omega), ih (i + 1) _ k (by omega) (by simp; omega) (by omega), List.filter_cons_of_pos (by simpa using h)]; simp
    · rw [if_neg (by simpa using h), ih (i + 1) _ k (by omega) (by omega) (by omega), List.filter_cons_of_neg (by simpa using h)]
theorem g12_Set (g : List (List Int)) (l : List Int) (hg : g.length < 17592186044416) (hl : l.length < 4611686018427387904) (k : Nat) (hk : g.length + l.length + 2 ≤ k) : heliastref12_Set.f k g l = some (setL g l) := by
  unfold heliastref12_Set.f setL
  rw [show (0 : Int) = ((0 : Nat) : Int) from rfl, g12_Set_l0 g l hg hl g.length 0 [] k (by omega) (by simp) hk, pickL_seg]; rfl

end Go.Proofs.Ytmmalieacakcbaa.S

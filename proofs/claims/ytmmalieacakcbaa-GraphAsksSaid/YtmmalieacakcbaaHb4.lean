-- Written by heprint.py (this session's, over the kit's print.py): not trusted, Lean checks it.
import Derived.Test.YtmmalieacakcbaaHb0
import Derived.Test.YtmmalieacakcbaaHb1
import Derived.Test.YtmmalieacakcbaaHb3
namespace Go.Proofs.Ytmmalieacakcbaa.S
open Go.RowKit Go.Proofs.YtmmalieacakcbaaW.PrintWords Go.Proofs.YtmmalieacakcbaaW.PrintLast Go.Proofs.YtmmalieacakcbaaW.PrintMore
attribute [local go_sem] max2_int min2_int max_two min_two max_three min_three max_four min_four   -- for this text's walks alone
set_option linter.unusedVariables false
set_option linter.unusedSimpArgs false

/-! ### graph_Long: function 93 -/
-- GIVEN heliast/graph.Long making
open Go.Proofs.He
structure LongIn (g : List (List Int)) (w0 w : World) (v : Value) (k r : Nat) (cur : Int) : Prop where
  row : (Kd.int .i64).R 3 w w0.heap.size (fun _ => True) v (longT g k ++ cur :: List.replicate r 0)
  bel : Below w0.heap.size w0 w
theorem table_len (g : List (List Int)) (k r : Nat) (cur : Int) : (longT g k ++ cur :: List.replicate r 0).length = k + 1 + r := by
  rw [List.length_append, longT_length, List.length_cons, List.length_replicate]; omega
theorem table_at (g : List (List Int)) (k r : Nat) (cur : Int) : (longT g k ++ cur :: List.replicate r 0).getD k 0 = cur := by
  rw [List.getD_eq_getElem?_getD, List.getElem?_append_right (by rw [longT_length]; exact Nat.le_refl _), longT_length]; simp
theorem table_old (g : List (List Int)) (k r i : Nat) (cur : Int) (h : i < k) : (longT g k ++ cur :: List.replicate r 0).getD i 0 = (longT g k).getD i 0 := by
  rw [List.getD_eq_getElem?_getD, List.getElem?_append_left (by rw [longT_length]; exact h), ← List.getD_eq_getElem?_getD]
theorem table_set (g : List (List Int)) (k r : Nat) (cur x : Int) : (longT g k ++ cur :: List.replicate r 0).set k x = longT g k ++ x :: List.replicate r 0 := by
  rw [List.set_append_right _ _ (by rw [longT_length]; exact Nat.le_refl _), longT_length, Nat.sub_self]; rfl
set_option maxHeartbeats 8000000 in
set_option maxRecDepth 100000 in
theorem graph_Long.walk (A0 : Option Addr) (c0 : Nat) (g : List (List Int)) (n : Int) (w : World) (hr0 : Kd.C (Kd.slice 3 (Kd.int .i64)) w A0 g.length g) (hlim : g.length < 17592186044416) :
    Calls Try.prog 93 #[.slice A0 g.length c0, .int .i64 n] w fun e w' => e = .returned (.int .i64 (longL g n)) ∧ Below w.heap.size w w' := by
  have HR0 := Aside0.mk hr0
  clear hr0
  by_cases h0 : n < 0
  · have HX := Aside0.mk (show longL g n = 0 by unfold longL; rw [if_pos h0])
    go_enter Try.func93, Try.ntmps93
    go_wp2
    go_ret
    exact ⟨by rw [HX.out]; rfl, Below.refl _ _⟩
  · by_cases h1 : n ≥ g.length
    · have HX := Aside0.mk (show longL g n = 0 by unfold longL; rw [if_neg h0, if_pos h1])
      have h1b : (g.length : Int) ≤ n := h1
      go_enter Try.func93, Try.ntmps93
      go_wp2
      go_ret
      exact ⟨by rw [HX.out]; rfl, Below.refl _ _⟩
    · obtain ⟨N, rfl⟩ := Int.eq_ofNat_of_zero_le (show 0 ≤ n by omega)
      have hN : N < g.length := by omega
      have HX := Aside0.mk (show longL g N = (longT g (N + 1)).getD N 0 by unfold longL; rw [if_neg h0, if_neg h1]; rfl)
      clear h0 h1
      have hlt : (N : Int) < (g.length : Int) := by omega
      have hsz : ((N : Int) + 1).toNat * 8 ≤ 281474976710656 := by omega
      have HSZ := Aside0.mk hsz
      clear hsz
      have hrep : List.replicate ((N : Int) + 1).toNat (0 : Int) = longT g 0 ++ 0 :: List.replicate N 0 := by
        rw [show ((N : Int) + 1).toNat = N + 1 by omega]; rfl
      have HREP := Aside0.mk hrep
      clear hrep
      go_enter Try.func93, Try.ntmps93
      go_wp2_with (first | ((with_reducible refine gate_dst (N := 19) rfl ?_); refine Kd.R_make (Kd.int .i64) (w0 := w) w.heap.size 3 rfl (N := 19) rfl 65 _ _ rfl ((N : Int) + 1) rfl rfl Try.underlying65 (.int .i64 0) 8 info3 rfl (by decide) (by omega) 0 (ok := fun _ => True) (okp := fun _ => True) rfl (fun _ hk => hk) trivial (by omega) HSZ.out (Below.refl _ _) (Nat.le_refl _) ?_; intro v1 w1 hr1 hb1 hg1 hn1; rw [HREP.out] at hr1; obtain ⟨gb, cap, hv, hgb⟩ := row_form hr1 (by rw [table_len]; omega); rw [table_len, show 0 + 1 + N = N + 1 by omega] at hv; subst hv; have HGB := Aside0.mk hgb; have HL := Aside0.mk (show LongIn g w w1 (.slice (some ⟨gb, 0, none⟩) (N + 1) cap) 0 N 0 from ⟨hr1, hb1⟩); clear hr1 hb1 hg1 hn1 hgb))
      go_loopw [22] (fun v22 wr => ∃ (k r : Nat), v22 = .int .i64 k ∧ k + r = N + 1 ∧ Aside0 (∃ t : List Int, (Kd.int .i64).R 3 wr w.heap.size (fun _ => True) (.slice (some ⟨gb, 0, none⟩) (N + 1) cap) (longT g k ++ List.replicate r 0)) ∧ Aside0 (Below w.heap.size w wr)) (fun v22 _ => N + 1 - (intOf v22).toNat)
      case atStart => exact ⟨0, N + 1, rfl, by omega, ⟨[], HL.out.row⟩, ⟨HL.out.bel⟩⟩
      case round =>
        clear HL
        obtain ⟨k, r, rfl, hkr, HR, HB⟩ := hrel
        obtain ⟨_, hr⟩ := HR.out
        have HR1 := Aside0.mk hr
        clear HR hr
        by_cases hk : k < N + 1
        · obtain ⟨r, rfl⟩ : ∃ q, r = q + 1 := ⟨r - 1, by omega⟩
          have HL := Aside0.mk (show LongIn g w wr (.slice (some ⟨gb, 0, none⟩) (N + 1) cap) k r 0 from ⟨HR1.out, HB.out⟩)
          clear HR1 HB
          obtain ⟨ad, Ar, cr, e, hrx, hrl, hrc⟩ := at_row HR0.out (k : Int) (by omega) (by omega)
          cases e
          replace hrx := (HL.out.bel.cell (World.block_lt_of_cell? w _ hrx)).trans hrx
          rw [Int.toNat_natCast] at hrx hrl hrc
          obtain ⟨ns, hns⟩ : ∃ ns, ns = g.getD k [] := ⟨_, rfl⟩
          rw [← hns] at hrx hrl hrc
          have HN := Aside0.mk hns
          have HRC := Aside0.mk hrc
          have hnl : ns.length ≤ 9223372036854775807 := hrc.2.1
          have hkg : (k : Int) < (g.length : Int) := by omega
          have hkNI : (k : Int) < (N : Int) + 1 := by omega
          clear hns hrc hrl
          go_wp2
          go_loopw [30] (fun v30 w3 => ∃ (j : Nat), v30 = .int .i64 j ∧ j ≤ ns.length ∧ Aside0 (LongIn g w w3 (.slice (some ⟨gb, 0, none⟩) (N + 1) cap) k r (rowMax (longT g k) k 0 (ns.take j)))) (fun v30 _ => ns.length - (intOf v30).toNat)
          case atStart => exact ⟨0, rfl, Nat.zero_le _, HL⟩
          case round =>
            clear HL hrx
            obtain ⟨j, rfl, hj, HL⟩ := hrel
            by_cases hlt2 : j < ns.length
            · obtain ⟨ad2, e, hx⟩ := Kd.at_int (Kd.C_below HRC.out HL.out.bel) (j : Int) (by omega) (by omega)
              cases e
              obtain ⟨x, hxd⟩ : ∃ x, x = rd ns j := ⟨_, rfl⟩
              rw [← hxd, Int.toNat_natCast] at hx
              have hts : ns.take (j + 1) = ns.take j ++ [x] := by
                have e : rd ns j = ns[j] := by simp [rd, hlt2]
                rw [List.take_succ_eq_append_getElem hlt2, hxd, e]
              have HTS := Aside0.mk hts
              clear hxd hts
              by_cases hx0 : 0 ≤ x
              · by_cases hx1 : x < k
                · obtain ⟨y, rfl⟩ := Int.eq_ofNat_of_zero_le hx0
                  have hyk : y < k := by omega
                  obtain ⟨cur, hcur⟩ : ∃ cur, cur = rowMax (longT g k) k 0 (ns.take j) := ⟨_, rfl⟩
                  rw [← hcur] at HL
                  obtain ⟨old, hold⟩ : ∃ old, old = (longT g k).getD y 0 := ⟨_, rfl⟩
                  have hb := rowMax_bd (k := (k : Int)) (longT_bd g k) (ns.take j) 0 (by omega) (by omega)
                  rw [← hcur] at hb
                  have ho := longT_bd g k y
                  rw [← hold] at ho
                  have hc1 := (Kd.R_celln 0 HL.out.row (k : Int) (by omega) (by omega))
                  have hc2 := (Kd.R_celln 0 HL.out.row (y : Int) (by omega) (by omega))
                  have e1 : rdOf 0 (longT g k ++ cur :: List.replicate r 0) (k : Int) = cur := by unfold rdOf; rw [Int.toNat_natCast]; exact table_at g k r cur
                  have e2 : rdOf 0 (longT g k ++ cur :: List.replicate r 0) (y : Int) = old := by unfold rdOf; rw [Int.toNat_natCast, table_old g k r y cur hyk, hold]
                  rw [e1, Int.toNat_natCast] at hc1
                  rw [e2, Int.toNat_natCast] at hc2
                  have HNX := Aside0.mk (show rowMax (longT g k) k 0 (ns.take (j + 1)) = mxL cur (1 + old) by rw [HTS.out, rowMax_append, if_pos ⟨by omega, by omega⟩, ← hcur, Int.toNat_natCast, ← hold])
                  have hwr : IntKind.i64.wrap (1 + old) = 1 + old := by rw [IntKind.wrap_i64]; omega
                  obtain ⟨hc1, hf1⟩ := hc1
                  obtain ⟨hc2, hf2⟩ := hc2
                  have HCUR := Aside0.mk hcur
                  have HOLD := Aside0.mk hold
                  have hyN : y < N + 1 := by omega
                  have hyNI : (y : Int) < (N : Int) + 1 := by omega
                  clear hcur hold e1 e2 hb ho
                  by_cases hmx : cur < 1 + old
                  · have HMX := Aside0.mk (show mxL cur (1 + old) = 1 + old from if_pos hmx)
                    go_wp2
                    go_still_tail 13, (by kernel_rfl)
                    go_wp2
                    have hp := Kd.R_putg HL.out.row (k : Int) (1 + old)
                    rw [Int.toNat_natCast, table_set] at hp
                    have HNL := Aside0.mk (show LongIn g w (wr.setCell ⟨gb, k, none⟩ (Value.int .i64 (1 + old))).drew (.slice (some ⟨gb, 0, none⟩) (N + 1) cap) k r (rowMax (longT g k) k 0 (ns.take (j + 1))) from by
                      rw [HNX.out, HMX.out]
                      exact ⟨Kd.R_drew hp.1, below_drew1 (HL.out.bel.grown hp.2 HL.out.bel.size (fun k e => by cases e; exact HGB.out))⟩)
                    clear hp
                    go_roundw
                    case rel => exact ⟨j + 1, by go_num, by omega, HNL⟩
                    case measure => simp [intOf]; omega
                  · have HMX := Aside0.mk (show mxL cur (1 + old) = cur from if_neg hmx)
                    have hmx2 : 1 + old ≤ cur := by omega
                    go_wp2
                    go_still_tail 13, (by kernel_rfl)
                    go_wp2
                    have hp := Kd.R_putg HL.out.row (k : Int) cur
                    rw [Int.toNat_natCast, table_set] at hp
                    have HNL := Aside0.mk (show LongIn g w (wr.setCell ⟨gb, k, none⟩ (Value.int .i64 cur)).drew (.slice (some ⟨gb, 0, none⟩) (N + 1) cap) k r (rowMax (longT g k) k 0 (ns.take (j + 1))) from by
                      rw [HNX.out, HMX.out]
                      exact ⟨Kd.R_drew hp.1, below_drew1 (HL.out.bel.grown hp.2 HL.out.bel.size (fun k e => by cases e; exact HGB.out))⟩)
                    clear hp
                    go_roundw
                    case rel => exact ⟨j + 1, by go_num, by omega, HNL⟩
                    case measure => simp [intOf]; omega
                · go_wp2
                  go_roundw
                  case rel => exact ⟨j + 1, by go_num, by omega, ⟨by rw [HTS.out, rowMax_append, if_neg (by omega)]; exact HL.out⟩⟩
                  case measure => simp [intOf]; omega
              · go_wp2
                go_roundw
                case rel => exact ⟨j + 1, by go_num, by omega, ⟨by rw [HTS.out, rowMax_append, if_neg (by omega)]; exact HL.out⟩⟩
                case measure => simp [intOf]; omega
            · go_wp2
              go_roundw
              case rel => exact ⟨k + 1, r, by go_num, by omega, ⟨[], by
                have hjl : ns.take j = g.getD k [] := by rw [List.take_of_length_le (by omega), HN.out]
                have := HL.out.row
                rw [hjl] at this
                rw [longT, List.append_assoc]; exact this⟩, ⟨HL.out.bel⟩⟩
              case measure => simp [intOf]; omega
        · have hkn : k = N + 1 := by omega
          subst hkn
          obtain rfl : r = 0 := by omega
          have hc1 := (Kd.R_celln 0 HR1.out (N : Int) (by omega) (by omega)).1
          have e1 : rdOf 0 (longT g (N + 1) ++ List.replicate 0 0) (N : Int) = (longT g (N + 1)).getD N 0 := by unfold rdOf; rw [Int.toNat_natCast]; simp
          rw [e1, Int.toNat_natCast, ← HX.out] at hc1
          clear e1
          generalize hres : longL g (N : Int) = res at hc1
          go_wp2
          go_ret
          exact ⟨by simp [hres], HB.out⟩
def graph_Long.f (g : List (List Int)) (n : Int) : Option Int := if g.length < 17592186044416 then some (longL g n) else none
theorem graph_Long.calls (A0 : Option Addr) (c0 : Nat) (l0 : List (List Int)) (a1 : Int) (r : Int) (w : World) (hr0 : Kd.C (Kd.slice 3 (Kd.int .i64)) w A0 l0.length l0) (hc0 : l0.length ≤ c0) (h : graph_Long.f l0 a1 = some r) :
    Calls Try.prog 93 #[.slice A0 l0.length c0, .int .i64 a1] w fun e w' => e = .returned (.int .i64 r) ∧ Below w.heap.size w w' := by
  unfold graph_Long.f at h
  split at h
  · obtain rfl := Option.some.inj h
    exact graph_Long.walk A0 c0 l0 a1 w hr0 ‹_›
  · cases h

/-! ### heliastlaw12_known: function 47 -/
def heliastlaw12_known.f (k : Nat)  : Option (Bool) := (some (([[], [], (([0, 1] : List Int))] : List (List Int)) : List (List Int))).bind fun y124 => ((graph_Order.f y124 (([0, 1, 2] : List Int)) (([5, 3, 0] : List Int))).bind fun t133 => ((heliastref12_Same.f k t133 (([1, 0, 2] : List Int))).bind fun t139 => (if t139 = true then ((graph_Right.f k y124).bind fun t140 => (if t140 = true then ((graph_Right.f k (([(([0] : List Int))] : List (List Int)))).bind fun t147 => (if t147 = true then (some false) else ((graph_Long.f y124 2).bind fun t148 => (some (t148 == 1))))) else (some false))) else (some false))))
theorem heliastlaw12_known.mono : ∀ k, LeO (heliastlaw12_known.f k ) (heliastlaw12_known.f (k + 1) ) := by
  intro  k
  unfold heliastlaw12_known.f
  repeat' first
      | (with_reducible exact graph_Right.mono _ _)
      | (with_reducible exact heliastref12_Same.mono _ _ _)
      | (with_reducible exact LeO.refl _)
      | (with_reducible exact LeO.none _)
      | (with_reducible refine LeO.ite ?_ ?_)
      | (with_reducible refine LeO.bind ?_ (fun _ => ?_))
      | exact graph_Right.mono _ _
      | exact heliastref12_Same.mono _ _ _
      | exact LeO.none _
      | refine LeO.ite ?_ ?_
      | refine LeO.bind ?_ (fun _ => ?_)
set_option maxHeartbeats 8000000 in
set_option maxRecDepth 100000 in
theorem heliastlaw12_known.calls (k : Nat)  (r : Bool) (w : World) (h : heliastlaw12_known.f k  = some r) (hlaw : r = true) :
    Calls Try.prog 47 #[] w fun e w' => e = .returned (.bool r) ∧ Below w.heap.size w w' := by
  have HLAW := Aside0.mk hlaw
  clear hlaw
  have HB := Aside0.mk (Below.refl w.heap.size w)
  have H : ((some (([[], [], (([0, 1] : List Int))] : List (List Int)) : List (List Int))).bind fun y124 => ((graph_Order.f y124 (([0, 1, 2] : List Int)) (([5, 3, 0] : List Int))).bind fun t133 => ((heliastref12_Same.f k t133 (([1, 0, 2] : List Int))).bind fun t139 => (if t139 = true then ((graph_Right.f k y124).bind fun t140 => (if t140 = true then ((graph_Right.f k (([(([0] : List Int))] : List (List Int)))).bind fun t147 => (if t147 = true then (some false) else ((graph_Long.f y124 2).bind fun t148 => (some (t148 == 1))))) else (some false))) else (some false))))) = some r := h
  clear h
  obtain ⟨y121, hy121⟩ : ∃ y_ : List Int, y_ = (([0, 1] : List Int)) := ⟨_, rfl⟩
  replace H : ((some (([[], [], y121] : List (List Int)) : List (List Int))).bind fun y124 => ((graph_Order.f y124 (([0, 1, 2] : List Int)) (([5, 3, 0] : List Int))).bind fun t133 => ((heliastref12_Same.f k t133 (([1, 0, 2] : List Int))).bind fun t139 => (if t139 = true then ((graph_Right.f k y124).bind fun t140 => (if t140 = true then ((graph_Right.f k (([(([0] : List Int))] : List (List Int)))).bind fun t147 => (if t147 = true then (some false) else ((graph_Long.f y124 2).bind fun t148 => (some (t148 == 1))))) else (some false))) else (some false))))) = some r := by first | (rw [hy121]; with_reducible exact H) | (have H2_ := (Option.bind_some _ _).symm.trans H; rw [hy121]; with_reducible exact H2_) | (have H2_ := (Option.bind_some _ _).symm.trans H; with_reducible exact H2_) | with_reducible exact H | (rw [hy121]; exact H) | exact H
  have Ny121 := Aside0.mk hy121
  clear hy121
  obtain ⟨y124, hy124⟩ : ∃ y_ : List (List Int), y_ = (([[], [], y121] : List (List Int))) := ⟨_, rfl⟩
  replace H : ((graph_Order.f y124 (([0, 1, 2] : List Int)) (([5, 3, 0] : List Int))).bind fun t133 => ((heliastref12_Same.f k t133 (([1, 0, 2] : List Int))).bind fun t139 => (if t139 = true then ((graph_Right.f k y124).bind fun t140 => (if t140 = true then ((graph_Right.f k (([(([0] : List Int))] : List (List Int)))).bind fun t147 => (if t147 = true then (some false) else ((graph_Long.f y124 2).bind fun t148 => (some (t148 == 1))))) else (some false))) else (some false)))) = some r := by first | (rw [hy124]; with_reducible exact H) | (have H2_ := (Option.bind_some _ _).symm.trans H; rw [hy124]; with_reducible exact H2_) | (have H2_ := (Option.bind_some _ _).symm.trans H; with_reducible exact H2_) | with_reducible exact H | (rw [hy124]; exact H) | exact H
  have Ny124 := Aside0.mk hy124
  clear hy124
  obtain ⟨y127, hy127⟩ : ∃ y_ : List Int, y_ = (([0, 1, 2] : List Int)) := ⟨_, rfl⟩
  replace H : ((graph_Order.f y124 y127 (([5, 3, 0] : List Int))).bind fun t133 => ((heliastref12_Same.f k t133 (([1, 0, 2] : List Int))).bind fun t139 => (if t139 = true then ((graph_Right.f k y124).bind fun t140 => (if t140 = true then ((graph_Right.f k (([(([0] : List Int))] : List (List Int)))).bind fun t147 => (if t147 = true then (some false) else ((graph_Long.f y124 2).bind fun t148 => (some (t148 == 1))))) else (some false))) else (some false)))) = some r := by first | (rw [hy127]; with_reducible exact H) | (have H2_ := (Option.bind_some _ _).symm.trans H; rw [hy127]; with_reducible exact H2_) | (have H2_ := (Option.bind_some _ _).symm.trans H; with_reducible exact H2_) | with_reducible exact H | (rw [hy127]; exact H) | exact H
  have Ny127 := Aside0.mk hy127
  clear hy127
  obtain ⟨y130, hy130⟩ : ∃ y_ : List Int, y_ = (([5, 3, 0] : List Int)) := ⟨_, rfl⟩
  replace H : ((graph_Order.f y124 y127 y130).bind fun t133 => ((heliastref12_Same.f k t133 (([1, 0, 2] : List Int))).bind fun t139 => (if t139 = true then ((graph_Right.f k y124).bind fun t140 => (if t140 = true then ((graph_Right.f k (([(([0] : List Int))] : List (List Int)))).bind fun t147 => (if t147 = true then (some false) else ((graph_Long.f y124 2).bind fun t148 => (some (t148 == 1))))) else (some false))) else (some false)))) = some r := by first | (rw [hy130]; with_reducible exact H) | (have H2_ := (Option.bind_some _ _).symm.trans H; rw [hy130]; with_reducible exact H2_) | (have H2_ := (Option.bind_some _ _).symm.trans H; with_reducible exact H2_) | with_reducible exact H | (rw [hy130]; exact H) | exact H
  have Ny130 := Aside0.mk hy130
  clear hy130
  replace H := Option.bind_eq_some_iff.mp H
  obtain ⟨t133, A10, H⟩ := H
  replace H : ((heliastref12_Same.f k t133 (([1, 0, 2] : List Int))).bind fun t139 => (if t139 = true then ((graph_Right.f k y124).bind fun t140 => (if t140 = true then ((graph_Right.f k (([(([0] : List Int))] : List (List Int)))).bind fun t147 => (if t147 = true then (some false) else ((graph_Long.f y124 2).bind fun t148 => (some (t148 == 1))))) else (some false))) else (some false))) = some r := H
  have A1 := Aside0.mk A10
  clear A10
  obtain ⟨y136, hy136⟩ : ∃ y_ : List Int, y_ = (([1, 0, 2] : List Int)) := ⟨_, rfl⟩
  replace H : ((heliastref12_Same.f k t133 y136).bind fun t139 => (if t139 = true then ((graph_Right.f k y124).bind fun t140 => (if t140 = true then ((graph_Right.f k (([(([0] : List Int))] : List (List Int)))).bind fun t147 => (if t147 = true then (some false) else ((graph_Long.f y124 2).bind fun t148 => (some (t148 == 1))))) else (some false))) else (some false))) = some r := by first | (rw [hy136]; with_reducible exact H) | (have H2_ := (Option.bind_some _ _).symm.trans H; rw [hy136]; with_reducible exact H2_) | (have H2_ := (Option.bind_some _ _).symm.trans H; with_reducible exact H2_) | with_reducible exact H | (rw [hy136]; exact H) | exact H
  have Ny136 := Aside0.mk hy136
  clear hy136
  replace H := Option.bind_eq_some_iff.mp H
  obtain ⟨t139, A20, H⟩ := H
  replace H : (if t139 = true then ((graph_Right.f k y124).bind fun t140 => (if t140 = true then ((graph_Right.f k (([(([0] : List Int))] : List (List Int)))).bind fun t147 => (if t147 = true then (some false) else ((graph_Long.f y124 2).bind fun t148 => (some (t148 == 1))))) else (some false))) else (some false)) = some r := H
  have A2 := Aside0.mk A20
  clear A20
  by_cases c3 : t139 = true
  · subst c3
    have H1 : ((graph_Right.f k y124).bind fun t140 => (if t140 = true then ((graph_Right.f k (([(([0] : List Int))] : List (List Int)))).bind fun t147 => (if t147 = true then (some false) else ((graph_Long.f y124 2).bind fun t148 => (some (t148 == 1))))) else (some false))) = some r := by rw [if_pos rfl] at H; exact H
    clear H
    have H := H1
    clear H1
    replace H := Option.bind_eq_some_iff.mp H
    obtain ⟨t140, A40, H⟩ := H
    replace H : (if t140 = true then ((graph_Right.f k (([(([0] : List Int))] : List (List Int)))).bind fun t147 => (if t147 = true then (some false) else ((graph_Long.f y124 2).bind fun t148 => (some (t148 == 1))))) else (some false)) = some r := H
    have A4 := Aside0.mk A40
    clear A40
    by_cases c5 : t140 = true
    · subst c5
      have H1 : ((graph_Right.f k (([(([0] : List Int))] : List (List Int)))).bind fun t147 => (if t147 = true then (some false) else ((graph_Long.f y124 2).bind fun t148 => (some (t148 == 1))))) = some r := by rw [if_pos rfl] at H; exact H
      clear H
      have H := H1
      clear H1
      obtain ⟨y141, hy141⟩ : ∃ y_ : List Int, y_ = (([0] : List Int)) := ⟨_, rfl⟩
      replace H : ((graph_Right.f k (([y141] : List (List Int)))).bind fun t147 => (if t147 = true then (some false) else ((graph_Long.f y124 2).bind fun t148 => (some (t148 == 1))))) = some r := by first | (rw [hy141]; with_reducible exact H) | (have H2_ := (Option.bind_some _ _).symm.trans H; rw [hy141]; with_reducible exact H2_) | (have H2_ := (Option.bind_some _ _).symm.trans H; with_reducible exact H2_) | with_reducible exact H | (rw [hy141]; exact H) | exact H
      have Ny141 := Aside0.mk hy141
      clear hy141
      obtain ⟨y144, hy144⟩ : ∃ y_ : List (List Int), y_ = (([y141] : List (List Int))) := ⟨_, rfl⟩
      replace H : ((graph_Right.f k y144).bind fun t147 => (if t147 = true then (some false) else ((graph_Long.f y124 2).bind fun t148 => (some (t148 == 1))))) = some r := by first | (rw [hy144]; with_reducible exact H) | (have H2_ := (Option.bind_some _ _).symm.trans H; rw [hy144]; with_reducible exact H2_) | (have H2_ := (Option.bind_some _ _).symm.trans H; with_reducible exact H2_) | with_reducible exact H | (rw [hy144]; exact H) | exact H
      have Ny144 := Aside0.mk hy144
      clear hy144
      replace H := Option.bind_eq_some_iff.mp H
      obtain ⟨t147, A60, H⟩ := H
      replace H : (if t147 = true then (some false) else ((graph_Long.f y124 2).bind fun t148 => (some (t148 == 1)))) = some r := H
      have A6 := Aside0.mk A60
      clear A60
      by_cases c7 : t147 = true
      · subst c7
        have H1 : (some false) = some r := by rw [if_pos rfl] at H; exact H
        clear H
        have H := H1
        clear H1
        exact absurd ((Option.some.inj H).trans HLAW.out) (by decide)
      · replace c7 := Bool.eq_false_iff.mpr c7
        subst c7
        have H1 : ((graph_Long.f y124 2).bind fun t148 => (some (t148 == 1))) = some r := by rw [if_neg (show ¬ (false = true) by decide)] at H; exact H
        clear H
        have H := H1
        clear H1
        replace H := Option.bind_eq_some_iff.mp H
        obtain ⟨t148, A80, H⟩ := H
        replace H : (some (t148 == 1)) = some r := H
        have A8 := Aside0.mk A80
        clear A80
        obtain rfl := Option.some.inj H
        go_enter Try.func47, Try.ntmps47
        have tok1_ : True := trivial
        have tok2_ : True := trivial
        go_wp2_with (first | ((with_reducible refine gate_dst (N := 2) rfl ?_); (try (refine gate_guard (by rfl) ?_; dsimp only)); refine Kd.R_lit (Kd.int .i64) _ 3 ?hg (N := 2) ?hd (xs := ([0, 1] : List Int)) (inner := [.int .i64 0, .int .i64 1]) (ok := fun _ => True) (okp := fun _ => True) ?hr ?hp (fun _ hk => hk) trivial (Below.refl _ _) (Nat.le_refl _) (by simp) ?_; (case hd => rfl); (case hg => rfl); (case hr => first | (go_simp; done) | (go_simp; rfl)); (case hp => exact (Reps.one (show Kd.M (Kd.int .i64) _ _ _ 0 [.int .i64 0] from rfl) (Reps.one (show Kd.M (Kd.int .i64) _ _ _ 1 [.int .i64 1] from rfl) (Reps.none _ _)))); intro v122 w9 ho10 hb hg_ hnew_; clear hg_ hnew_; (first | rw [← Ny121.out] at ho10 | (simp only [Int.reduceToNat] at ho10; rw [← Ny121.out] at ho10)); have n0_ := Aside0.mk (Kd.R_lower ho10 (below_size (by repeat (first | (with_reducible first | exact HB.out | apply below_alloc | apply pw_below_drewN | apply below_drew1) | exact HB.out)))); have n1_ := Aside0.mk (below_step (by repeat (first | (with_reducible first | exact HB.out | apply below_alloc | apply pw_below_drewN | apply below_drew1) | exact HB.out)) hb); clear HB; have HO123 := n0_; have HB := n1_; clear n0_ n1_; clear hb ho10; obtain ⟨Ao11, co11, eo11⟩ := Kd.R_slice HO123.out; subst eo11) | ((with_reducible refine gate_dst (N := 3) rfl ?_); (try (refine gate_guard (by rfl) ?_; dsimp only)); refine Kd.N_lit (Kd.slice 3 (Kd.int .i64)) _ 65 ?hg (N' := 3) ?hd (xs := ([[], [], y121] : List (List Int))) (inner := [.slice none 0 0, .slice none 0 0, .slice Ao11 y121.length co11]) (ok := (fun _ => True)) (okp := (fun _ => True)) ?hr ?hp (fun _ hk => hk) ((show ∀ k_, w9.heap.size ≤ k_ → (fun _ => True) k_ from fun k_ hk => trivial) _ (Nat.le_refl _)) (Below.refl _ _) (Nat.le_refl _) (by simp) ?_; (case hd => rfl); (case hg => rfl); (case hr => first | (go_simp; done) | (go_simp; rfl)); (case hp => exact (Reps.one (show Kd.FK (Kd.slice 3 (Kd.int .i64)) _ _ [] [.slice none 0 0] from (Kd.FK_slice_mk (Nat.le_refl _) (Kd.F_nil _ _ _))) (Reps.one (show Kd.FK (Kd.slice 3 (Kd.int .i64)) _ _ [] [.slice none 0 0] from (Kd.FK_slice_mk (Nat.le_refl _) (Kd.F_nil _ _ _))) (Reps.one (show Kd.FK (Kd.slice 3 (Kd.int .i64)) _ _ y121 [.slice Ao11 y121.length co11] from (Kd.FK_slice_mk (Kd.R_reads' (Kd.R_mono (ok' := (fun _ => True)) (HO123.out) (fun k_ hk => trivial))).2.1 (Kd.R_F (Kd.R_mono (ok' := (fun _ => True)) (HO123.out) (fun k_ hk => trivial))))) (Reps.none _ _))))); intro v125 w12 ho13 hb hg_ hnew_; clear hg_ hnew_; (first | rw [← Ny124.out] at ho13 | (simp only [Int.reduceToNat] at ho13; rw [← Ny124.out] at ho13)); have n0_ := Aside0.mk (Kd.N_lower ho13 (below_size (by repeat (first | (with_reducible first | exact HB.out | apply below_alloc | apply pw_below_drewN | apply below_drew1) | exact HB.out)))); have n1_ := Aside0.mk (below_step (by repeat (first | (with_reducible first | exact HB.out | apply below_alloc | apply pw_below_drewN | apply below_drew1) | exact HB.out)) hb); clear HB; clear HO123; have HO126 := n0_; have HB := n1_; clear n0_ n1_; clear hb ho13) | ((with_reducible refine gate_dst (N := 5) rfl ?_); (try (refine gate_guard (by rfl) ?_; dsimp only)); refine Kd.R_lit (Kd.int .i64) _ 3 ?hg (N := 5) ?hd (xs := ([0, 1, 2] : List Int)) (inner := [.int .i64 0, .int .i64 1, .int .i64 2]) (ok := fun _ => True) (okp := fun _ => True) ?hr ?hp (fun _ hk => hk) trivial (Below.refl _ _) (Nat.le_refl _) (by simp) ?_; (case hd => rfl); (case hg => rfl); (case hr => first | (go_simp; done) | (go_simp; rfl)); (case hp => exact (Reps.one (show Kd.M (Kd.int .i64) _ _ _ 0 [.int .i64 0] from rfl) (Reps.one (show Kd.M (Kd.int .i64) _ _ _ 1 [.int .i64 1] from rfl) (Reps.one (show Kd.M (Kd.int .i64) _ _ _ 2 [.int .i64 2] from rfl) (Reps.none _ _))))); intro v128 w14 ho15 hb hg_ hnew_; clear hg_ hnew_; (first | rw [← Ny127.out] at ho15 | (simp only [Int.reduceToNat] at ho15; rw [← Ny127.out] at ho15)); have n0_ := Aside0.mk (Kd.N_elder' (by (with_reducible repeat (first | apply Kd.N_alloc | apply Kd.N_drewN | apply Kd.N_drew)); exact HO126.out) (Kd.R_base ho15) hb); have n1_ := Aside0.mk (Kd.R_lower ho15 (below_size (by repeat (first | (with_reducible first | exact HB.out | apply below_alloc | apply pw_below_drewN | apply below_drew1) | exact HB.out)))); have n2_ := Aside0.mk (below_step (by repeat (first | (with_reducible first | exact HB.out | apply below_alloc | apply pw_below_drewN | apply below_drew1) | exact HB.out)) hb); clear HO126; clear HB; have HO126 := n0_; have HO129 := n1_; have HB := n2_; clear n0_ n1_ n2_; clear hb ho15) | ((with_reducible refine gate_dst (N := 6) rfl ?_); (try (refine gate_guard (by rfl) ?_; dsimp only)); refine Kd.R_lit (Kd.int .i64) _ 3 ?hg (N := 6) ?hd (xs := ([5, 3, 0] : List Int)) (inner := [.int .i64 5, .int .i64 3, .int .i64 0]) (ok := fun _ => True) (okp := fun _ => True) ?hr ?hp (fun _ hk => hk) trivial (Below.refl _ _) (Nat.le_refl _) (by simp) ?_; (case hd => rfl); (case hg => rfl); (case hr => first | (go_simp; done) | (go_simp; rfl)); (case hp => exact (Reps.one (show Kd.M (Kd.int .i64) _ _ _ 5 [.int .i64 5] from rfl) (Reps.one (show Kd.M (Kd.int .i64) _ _ _ 3 [.int .i64 3] from rfl) (Reps.one (show Kd.M (Kd.int .i64) _ _ _ 0 [.int .i64 0] from rfl) (Reps.none _ _))))); intro v131 w16 ho17 hb hg_ hnew_; clear hg_ hnew_; (first | rw [← Ny130.out] at ho17 | (simp only [Int.reduceToNat] at ho17; rw [← Ny130.out] at ho17)); have n0_ := Aside0.mk (Kd.N_elder' (by (with_reducible repeat (first | apply Kd.N_alloc | apply Kd.N_drewN | apply Kd.N_drew)); exact HO126.out) (Kd.R_base ho17) hb); have n1_ := Aside0.mk (Kd.R_elder' (by (with_reducible repeat (first | apply Kd.R_alloc | apply Kd.R_drewN | apply Kd.R_drew)); exact HO129.out) (Kd.R_base ho17) hb); have n2_ := Aside0.mk (Kd.R_lower (Kd.R_new' ho17 (Kd.R_lt (by (with_reducible repeat (first | apply Kd.R_alloc | apply Kd.R_drewN | apply Kd.R_drew)); exact HO129.out))) (below_size (by repeat (first | (with_reducible first | exact HB.out | apply below_alloc | apply pw_below_drewN | apply below_drew1) | exact HB.out)))); have n3_ := Aside0.mk (below_step (by repeat (first | (with_reducible first | exact HB.out | apply below_alloc | apply pw_below_drewN | apply below_drew1) | exact HB.out)) hb); clear HO126; clear HO129; clear HB; have HO126 := n0_; have HO129 := n1_; have HO132 := n2_; have HB := n3_; clear n0_ n1_ n2_ n3_; clear hb ho17; obtain ⟨Ao18, co18, eo18⟩ := Kd.N_slice HO126.out; subst eo18; obtain ⟨Ao19, co19, eo19⟩ := Kd.R_slice HO129.out; subst eo19; obtain ⟨Ao20, co20, eo20⟩ := Kd.R_slice HO132.out; subst eo20) | ((with_reducible refine gate_callee (f := 92) rfl ?_); refine goesL_ (some 7) rfl rfl Try.func92 (by kernel_rfl) rfl #[.slice Ao18 y124.length co18, .slice Ao19 y127.length co19, .slice Ao20 y130.length co20] rfl (by (try simp only [List.map_toArray, List.map_cons, List.map_nil]); first | done | rfl | (simp only [List.length_drop, List.length_take]; rfl)) ?_; (with_reducible refine (graph_Order.calls _ _ y124 _ _ y127 _ _ y130 t133 _ ?side1 ?side2 ?side3 ?side4 ?side5 ?side6 A1.out).mono ?_); (case side1 => repeat (first | exact (Kd.N_reads' HO126.out).2.2 | (with_reducible refine Kd.C_alloc ?_ _) | (with_reducible refine Kd.C_drewN ?_ _) | (with_reducible refine Kd.C_drew ?_))); (case side2 => exact (Kd.N_reads' HO126.out).2.1); (case side3 => repeat (first | exact (Kd.R_reads' HO129.out).2.2 | (with_reducible refine Kd.C_alloc ?_ _) | (with_reducible refine Kd.C_drewN ?_ _) | (with_reducible refine Kd.C_drew ?_))); (case side4 => exact (Kd.R_reads' HO129.out).2.1); (case side5 => repeat (first | exact (Kd.R_reads' HO132.out).2.2 | (with_reducible refine Kd.C_alloc ?_ _) | (with_reducible refine Kd.C_drewN ?_ _) | (with_reducible refine Kd.C_drew ?_))); (case side6 => exact (Kd.R_reads' HO132.out).2.1); rintro e w21 ⟨v134, rfl, ho0, hb⟩; refine ⟨_, rfl, ?_⟩; have n0_ := Aside0.mk (Kd.N_elder' (by (with_reducible repeat (first | apply Kd.N_alloc | apply Kd.N_drewN | apply Kd.N_drew)); exact HO126.out) (Kd.R_base ho0) hb); have n1_ := Aside0.mk (Kd.R_elder' (by (with_reducible repeat (first | apply Kd.R_alloc | apply Kd.R_drewN | apply Kd.R_drew)); exact HO129.out) (Kd.R_base ho0) hb); have n2_ := Aside0.mk (Kd.R_elder' (by (with_reducible repeat (first | apply Kd.R_alloc | apply Kd.R_drewN | apply Kd.R_drew)); exact HO132.out) (Kd.R_base ho0) hb); have n3_ := Aside0.mk (Kd.R_lower (Kd.R_new' (Kd.R_new' ho0 (Kd.R_lt (by (with_reducible repeat (first | apply Kd.R_alloc | apply Kd.R_drewN | apply Kd.R_drew)); exact HO129.out))) (Kd.R_lt (by (with_reducible repeat (first | apply Kd.R_alloc | apply Kd.R_drewN | apply Kd.R_drew)); exact HO132.out))) (below_size (by repeat (first | (with_reducible first | exact HB.out | apply below_alloc | apply pw_below_drewN | apply below_drew1) | exact HB.out)))); have n4_ := Aside0.mk (below_step (by repeat (first | (with_reducible first | exact HB.out | apply below_alloc | apply pw_below_drewN | apply below_drew1) | exact HB.out)) hb); clear HO126; clear HO129; clear HO132; clear HB; have HO126 := n0_; have HO129 := n1_; have HO132 := n2_; have HO135 := n3_; have HB := n4_; clear n0_ n1_ n2_ n3_ n4_; (try clear hb); (try clear hb2); (try clear hk); (try clear hi); (try clear ho0)) | ((with_reducible refine gate_dst (N := 8) rfl ?_); (try (refine gate_guard (by rfl) ?_; dsimp only)); refine Kd.R_lit (Kd.int .i64) _ 3 ?hg (N := 8) ?hd (xs := ([1, 0, 2] : List Int)) (inner := [.int .i64 1, .int .i64 0, .int .i64 2]) (ok := fun _ => True) (okp := fun _ => True) ?hr ?hp (fun _ hk => hk) trivial (Below.refl _ _) (Nat.le_refl _) (by simp) ?_; (case hd => rfl); (case hg => rfl); (case hr => first | (go_simp; done) | (go_simp; rfl)); (case hp => exact (Reps.one (show Kd.M (Kd.int .i64) _ _ _ 1 [.int .i64 1] from rfl) (Reps.one (show Kd.M (Kd.int .i64) _ _ _ 0 [.int .i64 0] from rfl) (Reps.one (show Kd.M (Kd.int .i64) _ _ _ 2 [.int .i64 2] from rfl) (Reps.none _ _))))); intro v137 w22 ho23 hb hg_ hnew_; clear hg_ hnew_; (first | rw [← Ny136.out] at ho23 | (simp only [Int.reduceToNat] at ho23; rw [← Ny136.out] at ho23)); have n0_ := Aside0.mk (Kd.N_elder' (by (with_reducible repeat (first | apply Kd.N_alloc | apply Kd.N_drewN | apply Kd.N_drew)); exact HO126.out) (Kd.R_base ho23) hb); have n1_ := Aside0.mk (Kd.R_elder' (by (with_reducible repeat (first | apply Kd.R_alloc | apply Kd.R_drewN | apply Kd.R_drew)); exact HO129.out) (Kd.R_base ho23) hb); have n2_ := Aside0.mk (Kd.R_elder' (by (with_reducible repeat (first | apply Kd.R_alloc | apply Kd.R_drewN | apply Kd.R_drew)); exact HO132.out) (Kd.R_base ho23) hb); have n3_ := Aside0.mk (Kd.R_elder' (by (with_reducible repeat (first | apply Kd.R_alloc | apply Kd.R_drewN | apply Kd.R_drew)); exact HO135.out) (Kd.R_base ho23) hb); have n4_ := Aside0.mk (Kd.R_lower (Kd.R_new' (Kd.R_new' (Kd.R_new' ho23 (Kd.R_lt (by (with_reducible repeat (first | apply Kd.R_alloc | apply Kd.R_drewN | apply Kd.R_drew)); exact HO129.out))) (Kd.R_lt (by (with_reducible repeat (first | apply Kd.R_alloc | apply Kd.R_drewN | apply Kd.R_drew)); exact HO132.out))) (Kd.R_lt (by (with_reducible repeat (first | apply Kd.R_alloc | apply Kd.R_drewN | apply Kd.R_drew)); exact HO135.out))) (below_size (by repeat (first | (with_reducible first | exact HB.out | apply below_alloc | apply pw_below_drewN | apply below_drew1) | exact HB.out)))); have n5_ := Aside0.mk (below_step (by repeat (first | (with_reducible first | exact HB.out | apply below_alloc | apply pw_below_drewN | apply below_drew1) | exact HB.out)) hb); clear HO126; clear HO129; clear HO132; clear HO135; clear HB; have HO126 := n0_; have HO129 := n1_; have HO132 := n2_; have HO135 := n3_; have HO138 := n4_; have HB := n5_; clear n0_ n1_ n2_ n3_ n4_ n5_; clear hb ho23; obtain ⟨Ao24, co24, eo24⟩ := Kd.R_slice HO135.out; subst eo24; obtain ⟨Ao25, co25, eo25⟩ := Kd.R_slice HO138.out; subst eo25) | ((with_reducible refine gate_callee (f := 40) rfl ?_); refine goesL_ (some 9) rfl rfl Try.func40 (by kernel_rfl) rfl #[.slice Ao24 t133.length co24, .slice Ao25 y136.length co25] rfl (by (try simp only [List.map_toArray, List.map_cons, List.map_nil]); first | done | rfl | (simp only [List.length_drop, List.length_take]; rfl)) ?_; (with_reducible refine (heliastref12_Same.calls k _ _ t133 _ _ y136 true _ ?side1 ?side2 ?side3 ?side4 A2.out).mono ?_); (case side1 => repeat (first | exact (Kd.R_reads' HO135.out).2.2 | (with_reducible refine Kd.C_alloc ?_ _) | (with_reducible refine Kd.C_drewN ?_ _) | (with_reducible refine Kd.C_drew ?_))); (case side2 => exact (Kd.R_reads' HO135.out).2.1); (case side3 => repeat (first | exact (Kd.R_reads' HO138.out).2.2 | (with_reducible refine Kd.C_alloc ?_ _) | (with_reducible refine Kd.C_drewN ?_ _) | (with_reducible refine Kd.C_drew ?_))); (case side4 => exact (Kd.R_reads' HO138.out).2.1); rintro e w' ⟨rfl, ⟨nd, rfl⟩⟩; refine ⟨_, rfl, ?_⟩) | (go_at_call 52; clear tok1_; (with_reducible refine (graph_Right.calls k _ _ y124 true _ ?side1 ?side2 A4.out).mono ?_); (case side1 => repeat (first | exact (Kd.N_reads' HO126.out).2.2 | (with_reducible refine Kd.C_alloc ?_ _) | (with_reducible refine Kd.C_drewN ?_ _) | (with_reducible refine Kd.C_drew ?_))); (case side2 => exact (Kd.N_reads' HO126.out).2.1); rintro e w' ⟨rfl, ⟨nd, rfl⟩⟩) | ((with_reducible refine gate_dst (N := 15) rfl ?_); (try (refine gate_guard (by rfl) ?_; dsimp only)); refine Kd.R_lit (Kd.int .i64) _ 3 ?hg (N := 15) ?hd (xs := ([0] : List Int)) (inner := [.int .i64 0]) (ok := fun _ => True) (okp := fun _ => True) ?hr ?hp (fun _ hk => hk) trivial (Below.refl _ _) (Nat.le_refl _) (by simp) ?_; (case hd => rfl); (case hg => rfl); (case hr => first | (go_simp; done) | (go_simp; rfl)); (case hp => exact (Reps.one (show Kd.M (Kd.int .i64) _ _ _ 0 [.int .i64 0] from rfl) (Reps.none _ _))); intro v142 w26 ho27 hb hg_ hnew_; clear hg_ hnew_; (first | rw [← Ny141.out] at ho27 | (simp only [Int.reduceToNat] at ho27; rw [← Ny141.out] at ho27)); have n0_ := Aside0.mk (Kd.N_elder' (by (with_reducible repeat (first | apply Kd.N_alloc | apply Kd.N_drewN | apply Kd.N_drew)); exact HO126.out) (Kd.R_base ho27) hb); have n1_ := Aside0.mk (Kd.R_elder' (by (with_reducible repeat (first | apply Kd.R_alloc | apply Kd.R_drewN | apply Kd.R_drew)); exact HO129.out) (Kd.R_base ho27) hb); have n2_ := Aside0.mk (Kd.R_elder' (by (with_reducible repeat (first | apply Kd.R_alloc | apply Kd.R_drewN | apply Kd.R_drew)); exact HO132.out) (Kd.R_base ho27) hb); have n3_ := Aside0.mk (Kd.R_elder' (by (with_reducible repeat (first | apply Kd.R_alloc | apply Kd.R_drewN | apply Kd.R_drew)); exact HO135.out) (Kd.R_base ho27) hb); have n4_ := Aside0.mk (Kd.R_elder' (by (with_reducible repeat (first | apply Kd.R_alloc | apply Kd.R_drewN | apply Kd.R_drew)); exact HO138.out) (Kd.R_base ho27) hb); have n5_ := Aside0.mk (Kd.R_lower (Kd.R_new' (Kd.R_new' (Kd.R_new' (Kd.R_new' ho27 (Kd.R_lt (by (with_reducible repeat (first | apply Kd.R_alloc | apply Kd.R_drewN | apply Kd.R_drew)); exact HO129.out))) (Kd.R_lt (by (with_reducible repeat (first | apply Kd.R_alloc | apply Kd.R_drewN | apply Kd.R_drew)); exact HO132.out))) (Kd.R_lt (by (with_reducible repeat (first | apply Kd.R_alloc | apply Kd.R_drewN | apply Kd.R_drew)); exact HO135.out))) (Kd.R_lt (by (with_reducible repeat (first | apply Kd.R_alloc | apply Kd.R_drewN | apply Kd.R_drew)); exact HO138.out))) (below_size (by repeat (first | (with_reducible first | exact HB.out | apply below_alloc | apply pw_below_drewN | apply below_drew1) | exact HB.out)))); have n6_ := Aside0.mk (below_step (by repeat (first | (with_reducible first | exact HB.out | apply below_alloc | apply pw_below_drewN | apply below_drew1) | exact HB.out)) hb); clear HO126; clear HO129; clear HO132; clear HO135; clear HO138; clear HB; have HO126 := n0_; have HO129 := n1_; have HO132 := n2_; have HO135 := n3_; have HO138 := n4_; have HO143 := n5_; have HB := n6_; clear n0_ n1_ n2_ n3_ n4_ n5_ n6_; clear hb ho27; obtain ⟨Ao28, co28, eo28⟩ := Kd.R_slice HO143.out; subst eo28) | ((with_reducible refine gate_dst (N := 16) rfl ?_); (try (refine gate_guard (by rfl) ?_; dsimp only)); refine Kd.N_lit (Kd.slice 3 (Kd.int .i64)) _ 65 ?hg (N' := 16) ?hd (xs := ([y141] : List (List Int))) (inner := [.slice Ao28 y141.length co28]) (ok := (fun k_ => some k_ ≠ (.slice Ao18 y124.length co18 : Value).ownBlock ∧ some k_ ≠ (.slice Ao19 y127.length co19 : Value).ownBlock ∧ some k_ ≠ (.slice Ao20 y130.length co20 : Value).ownBlock ∧ some k_ ≠ (.slice Ao24 t133.length co24 : Value).ownBlock ∧ some k_ ≠ (.slice Ao25 y136.length co25 : Value).ownBlock)) (okp := (fun k_ => some k_ ≠ (.slice Ao18 y124.length co18 : Value).ownBlock ∧ some k_ ≠ (.slice Ao19 y127.length co19 : Value).ownBlock ∧ some k_ ≠ (.slice Ao20 y130.length co20 : Value).ownBlock ∧ some k_ ≠ (.slice Ao24 t133.length co24 : Value).ownBlock ∧ some k_ ≠ (.slice Ao25 y136.length co25 : Value).ownBlock)) ?hr ?hp (fun _ hk => hk) ((show ∀ k_, w26.heap.size ≤ k_ → (fun k_ => some k_ ≠ (.slice Ao18 y124.length co18 : Value).ownBlock ∧ some k_ ≠ (.slice Ao19 y127.length co19 : Value).ownBlock ∧ some k_ ≠ (.slice Ao20 y130.length co20 : Value).ownBlock ∧ some k_ ≠ (.slice Ao24 t133.length co24 : Value).ownBlock ∧ some k_ ≠ (.slice Ao25 y136.length co25 : Value).ownBlock) k_ from fun k_ hk => ⟨Kd.fresh' (Kd.N_lt (by (with_reducible repeat (first | apply Kd.N_alloc | apply Kd.N_drewN | apply Kd.N_drew)); exact HO126.out)) k_ hk, Kd.fresh' (Kd.R_lt (by (with_reducible repeat (first | apply Kd.R_alloc | apply Kd.R_drewN | apply Kd.R_drew)); exact HO129.out)) k_ hk, Kd.fresh' (Kd.R_lt (by (with_reducible repeat (first | apply Kd.R_alloc | apply Kd.R_drewN | apply Kd.R_drew)); exact HO132.out)) k_ hk, Kd.fresh' (Kd.R_lt (by (with_reducible repeat (first | apply Kd.R_alloc | apply Kd.R_drewN | apply Kd.R_drew)); exact HO135.out)) k_ hk, Kd.fresh' (Kd.R_lt (by (with_reducible repeat (first | apply Kd.R_alloc | apply Kd.R_drewN | apply Kd.R_drew)); exact HO138.out)) k_ hk⟩) _ (Nat.le_refl _)) (Below.refl _ _) (Nat.le_refl _) (by simp) ?_; (case hd => rfl); (case hg => rfl); (case hr => first | (go_simp; done) | (go_simp; rfl)); (case hp => exact (Reps.one (show Kd.FK (Kd.slice 3 (Kd.int .i64)) _ _ y141 [.slice Ao28 y141.length co28] from (Kd.FK_slice_mk (Kd.R_reads' (Kd.R_mono (ok' := (fun k_ => some k_ ≠ (.slice Ao18 y124.length co18 : Value).ownBlock ∧ some k_ ≠ (.slice Ao19 y127.length co19 : Value).ownBlock ∧ some k_ ≠ (.slice Ao20 y130.length co20 : Value).ownBlock ∧ some k_ ≠ (.slice Ao24 t133.length co24 : Value).ownBlock ∧ some k_ ≠ (.slice Ao25 y136.length co25 : Value).ownBlock)) (Kd.R_apart' (HO143.out) (Kd.N_typed HO126.out) (by decide)) (fun k_ hk => ⟨hk.2, ⟨hk.1.1.1.1.2, ⟨hk.1.1.1.2, ⟨hk.1.1.2, hk.1.2⟩⟩⟩⟩))).2.1 (Kd.R_F (Kd.R_mono (ok' := (fun k_ => some k_ ≠ (.slice Ao18 y124.length co18 : Value).ownBlock ∧ some k_ ≠ (.slice Ao19 y127.length co19 : Value).ownBlock ∧ some k_ ≠ (.slice Ao20 y130.length co20 : Value).ownBlock ∧ some k_ ≠ (.slice Ao24 t133.length co24 : Value).ownBlock ∧ some k_ ≠ (.slice Ao25 y136.length co25 : Value).ownBlock)) (Kd.R_apart' (HO143.out) (Kd.N_typed HO126.out) (by decide)) (fun k_ hk => ⟨hk.2, ⟨hk.1.1.1.1.2, ⟨hk.1.1.1.2, ⟨hk.1.1.2, hk.1.2⟩⟩⟩⟩))))) (Reps.none _ _))); intro v145 w29 ho30 hb hg_ hnew_; clear hg_ hnew_; (first | rw [← Ny144.out] at ho30 | (simp only [Int.reduceToNat] at ho30; rw [← Ny144.out] at ho30)); have n0_ := Aside0.mk (Kd.N_elder' (by (with_reducible repeat (first | apply Kd.N_alloc | apply Kd.N_drewN | apply Kd.N_drew)); exact HO126.out) (Kd.N_base ho30) hb); have n1_ := Aside0.mk (Kd.R_below (by (with_reducible repeat (first | apply Kd.R_alloc | apply Kd.R_drewN | apply Kd.R_drew)); exact HO129.out) hb); have n2_ := Aside0.mk (Kd.R_below (by (with_reducible repeat (first | apply Kd.R_alloc | apply Kd.R_drewN | apply Kd.R_drew)); exact HO132.out) hb); have n3_ := Aside0.mk (Kd.R_below (by (with_reducible repeat (first | apply Kd.R_alloc | apply Kd.R_drewN | apply Kd.R_drew)); exact HO135.out) hb); have n4_ := Aside0.mk (Kd.R_below (by (with_reducible repeat (first | apply Kd.R_alloc | apply Kd.R_drewN | apply Kd.R_drew)); exact HO138.out) hb); have n5_ := Aside0.mk (Kd.N_lower ho30 (below_size (by repeat (first | (with_reducible first | exact HB.out | apply below_alloc | apply pw_below_drewN | apply below_drew1) | exact HB.out)))); have n6_ := Aside0.mk (below_step (by repeat (first | (with_reducible first | exact HB.out | apply below_alloc | apply pw_below_drewN | apply below_drew1) | exact HB.out)) hb); clear HO126; clear HO129; clear HO132; clear HO135; clear HO138; clear HB; clear HO143; have HO126 := n0_; have HO129 := n1_; have HO132 := n2_; have HO135 := n3_; have HO138 := n4_; have HO146 := n5_; have HB := n6_; clear n0_ n1_ n2_ n3_ n4_ n5_ n6_; clear hb ho30; obtain ⟨Ao31, co31, eo31⟩ := Kd.N_slice HO146.out; subst eo31) | (go_at_call 52; clear tok2_; (with_reducible refine (graph_Right.calls k _ _ y144 false _ ?side1 ?side2 A6.out).mono ?_); (case side1 => repeat (first | exact (Kd.N_reads' HO146.out).2.2 | (with_reducible refine Kd.C_alloc ?_ _) | (with_reducible refine Kd.C_drewN ?_ _) | (with_reducible refine Kd.C_drew ?_))); (case side2 => exact (Kd.N_reads' HO146.out).2.1); rintro e w' ⟨rfl, ⟨nd, rfl⟩⟩) | (go_at_call 93; (with_reducible refine (graph_Long.calls _ _ y124 2 t148 _ ?side1 ?side2 A8.out).mono ?_); (case side1 => repeat (first | exact (Kd.N_reads' HO126.out).2.2 | (with_reducible refine Kd.C_alloc ?_ _) | (with_reducible refine Kd.C_drewN ?_ _) | (with_reducible refine Kd.C_drew ?_))); (case side2 => exact (Kd.N_reads' HO126.out).2.1); rintro e w32 ⟨rfl, hb⟩; have n0_ := Aside0.mk (Kd.N_below (by (with_reducible repeat (first | apply Kd.N_alloc | apply Kd.N_drewN | apply Kd.N_drew)); exact HO126.out) hb); have n1_ := Aside0.mk (Kd.R_below (by (with_reducible repeat (first | apply Kd.R_alloc | apply Kd.R_drewN | apply Kd.R_drew)); exact HO129.out) hb); have n2_ := Aside0.mk (Kd.R_below (by (with_reducible repeat (first | apply Kd.R_alloc | apply Kd.R_drewN | apply Kd.R_drew)); exact HO132.out) hb); have n3_ := Aside0.mk (Kd.R_below (by (with_reducible repeat (first | apply Kd.R_alloc | apply Kd.R_drewN | apply Kd.R_drew)); exact HO135.out) hb); have n4_ := Aside0.mk (Kd.R_below (by (with_reducible repeat (first | apply Kd.R_alloc | apply Kd.R_drewN | apply Kd.R_drew)); exact HO138.out) hb); have n5_ := Aside0.mk (Kd.N_below (by (with_reducible repeat (first | apply Kd.N_alloc | apply Kd.N_drewN | apply Kd.N_drew)); exact HO146.out) hb); have n6_ := Aside0.mk (below_step (by repeat (first | (with_reducible first | exact HB.out | apply below_alloc | apply pw_below_drewN | apply below_drew1) | exact HB.out)) hb); clear HO126; clear HO129; clear HO132; clear HO135; clear HO138; clear HO146; clear HB; have HO126 := n0_; have HO129 := n1_; have HO132 := n2_; have HO135 := n3_; have HO138 := n4_; have HO146 := n5_; have HB := n6_; clear n0_ n1_ n2_ n3_ n4_ n5_ n6_; (try clear hb); (try clear hb2); (try clear hk); (try clear hi)))
        go_ret
        exact ⟨by first | rfl | (simp [errW_none, errW_some] <;> rfl) | (simp [*, errW_none, errW_some] <;> rfl), by repeat (first | (with_reducible first | exact HB.out | apply below_alloc | apply pw_below_drewN | apply below_drew1) | exact HB.out)⟩
    · replace c5 := Bool.eq_false_iff.mpr c5
      subst c5
      have H1 : (some false) = some r := by rw [if_neg (show ¬ (false = true) by decide)] at H; exact H
      clear H
      have H := H1
      clear H1
      exact absurd ((Option.some.inj H).trans HLAW.out) (by decide)
  · replace c3 := Bool.eq_false_iff.mpr c3
    subst c3
    have H1 : (some false) = some r := by rw [if_neg (show ¬ (false = true) by decide)] at H; exact H
    clear H
    have H := H1
    clear H1
    exact absurd ((Option.some.inj H).trans HLAW.out) (by decide)

/-! ### heliastlaw12_heavy: function 51 -/
def heliastlaw12_heavy.l0 : Nat → List (List Int) → Int → Int → Option (Bool)
  | 0, _, _, _ => none
  | k + 1, x0, x3, x4 => if x4 < (x0.length : Int) then (if 0 ≤ x4 then (heliastlaw12_heavy.l0 k x0 (wrap64 (x3 + (wrap64 (1 + ((rd_L1 x0 x4).length : Int))))) (wrap64 (x4 + 1))) else (none)) else (some (decide (x3 > 300)))
def heliastlaw12_heavy.f (k : Nat) (l0 : List (List Int)) : Option (Bool) := heliastlaw12_heavy.l0 k l0 0 0
theorem heliastlaw12_heavy.mono_l : ∀ k, (∀ y0 y1 y2, LeO (heliastlaw12_heavy.l0 k y0 y1 y2) (heliastlaw12_heavy.l0 (k + 1) y0 y1 y2))
  | 0 => fun _ _ _ r h => by simp [heliastlaw12_heavy.l0] at h
  | k + 1 => by
    have ih0 := heliastlaw12_heavy.mono_l k
    · intro y0 y1 y2
      unfold heliastlaw12_heavy.l0
      repeat' first
      | (with_reducible exact ih0 _ _ _)
      | (with_reducible exact LeO.refl _)
      | (with_reducible exact LeO.none _)
      | (with_reducible refine LeO.ite ?_ ?_)
      | (with_reducible refine LeO.bind ?_ (fun _ => ?_))
      | exact ih0 _ _ _
      | exact LeO.none _
      | refine LeO.ite ?_ ?_
      | refine LeO.bind ?_ (fun _ => ?_)
theorem heliastlaw12_heavy.mono : ∀ a0 k, LeO (heliastlaw12_heavy.f k a0) (heliastlaw12_heavy.f (k + 1) a0) := by
  intro a0 k
  have ih0 := heliastlaw12_heavy.mono_l k
  unfold heliastlaw12_heavy.f
  repeat' first
      | (with_reducible exact ih0 _ _ _)
      | (with_reducible exact LeO.refl _)
      | (with_reducible exact LeO.none _)
      | (with_reducible refine LeO.ite ?_ ?_)
      | (with_reducible refine LeO.bind ?_ (fun _ => ?_))
      | exact ih0 _ _ _
      | exact LeO.none _
      | refine LeO.ite ?_ ?_
      | refine LeO.bind ?_ (fun _ => ?_)
set_option maxHeartbeats 8000000 in
set_option maxRecDepth 100000 in
theorem heliastlaw12_heavy.calls (k : Nat) (A0 : Option Addr) (c0 : Nat) (l0 : List (List Int)) (r : Bool) (w : World) (hr0 : Kd.C (Kd.slice 3 (Kd.int .i64)) w A0 l0.length l0) (hc0 : l0.length ≤ c0) (h : heliastlaw12_heavy.f k l0 = some r) :
    Calls Try.prog 51 #[.slice A0 l0.length c0] w fun e w' => e = .returned (.bool r) ∧ Drawn0 w w' := by
  have HR0 := Aside0.mk hr0
  have HC0 := Aside0.mk hc0
  clear hr0 hc0
  have H : (heliastlaw12_heavy.l0 k l0 0 0) = some r := h
  clear h
  have H' := Aside0.mk H
  clear H
  go_enter Try.func51, Try.ntmps51
  go_wp2
  go_loopg [3, 4] k (fun kq v3 v4 w' => ∃ (x3_1 : Int) (x4_1 : Int), v3 = .int .i64 x3_1 ∧ v4 = .int .i64 x4_1 ∧ Aside0 (heliastlaw12_heavy.l0 kq l0 x3_1 x4_1 = some r) ∧ Aside0 (kq ≤ k) ∧ Drawn0 w w')
  case atStart => exact ⟨(0), (0), (by first | rfl | (simp; done) | (simp [*]; done)), (by first | rfl | (simp; done) | (simp [*]; done)), H', ⟨Nat.le_refl _⟩, by repeat (first | exact Drawn0.refl _ | apply Drawn0.step)⟩
  case round =>
    clear H'
    obtain ⟨x3_1, x4_1, rfl, rfl, HA, HK1, ⟨m1, rfl⟩⟩ := hrel
    cases gk with
    | zero => exact absurd HA.out (by simp [heliastlaw12_heavy.l0])
    | succ k1 =>
      have H := HA.out
      clear HA
      simp only [heliastlaw12_heavy.l0] at H
      by_cases c2 : x4_1 < (l0.length : Int)
      · rw [if_pos c2] at H
        have c2b0 : decide (x4_1 < (l0.length : Int)) = true := decide_eq_true c2
        clear c2
        by_cases c3 : 0 ≤ x4_1
        · rw [if_pos c3] at H
          have c3b0 : decide (0 ≤ x4_1) = true := decide_eq_true c3
          clear c3
          have H' := Aside0.mk H
          clear H
          have p149 : 0 ≤ (x4_1 : Int) := of_decide_eq_true (by first | (with_reducible assumption) | assumption)
          have q149 : x4_1 < (l0.length : Int) := of_decide_eq_true (by first | (with_reducible assumption) | assumption)
          obtain ⟨ad149, A149_0, c149_0, e149, hx149_0, hl149_0, hi149_0⟩ := at_L1 HR0.out x4_1 p149 q149
          cases e149
          have HR149_0 := Aside0.mk hi149_0
          have HC149_0 := Aside0.mk hl149_0
          clear hi149_0 hl149_0
          replace p149 := eq_true p149
          replace q149 := eq_true q149
          go_wp2
          go_roundg k1
          case measure => have := HK1.out; omega
          case rel => exact ⟨(wrap64 (x3_1 + (wrap64 (1 + ((rd_L1 l0 x4_1).length : Int))))), (wrap64 (x4_1 + 1)), (by first | rfl | (simp; done) | (simp [*]; done)), (by first | rfl | (simp; done) | (simp [*]; done)), H', ⟨by have := HK1.out; omega⟩, by repeat (first | exact Drawn0.refl _ | apply Drawn0.step)⟩
        · rw [if_neg c3] at H
          exact absurd H (by simp)
      · rw [if_neg c2] at H
        have c2b0 : decide (x4_1 < (l0.length : Int)) = false := decide_eq_false c2
        clear c2
        obtain rfl := Option.some.inj H
        go_wp2
        go_ret
        exact ⟨by first | rfl | (simp; done) | (simp [*]; done), by repeat (first | exact Drawn0.refl _ | apply Drawn0.step)⟩

end Go.Proofs.Ytmmalieacakcbaa.S

-- Written by heprint.py (this session's, over the kit's print.py): not trusted, Lean checks it.
import Derived.Test.YtmmalieacakcbaaHf0
import Derived.Test.YtmmalieacakcbaaHf3
import Derived.Test.YtmmalieacakcbaaHf4
import Derived.Test.YtmmalieacakcbaaHf5
import Derived.Test.YtmmalieacakcbaaHf6
namespace Go.Proofs.Ytmmalieacakcbaa.S
open Go.RowKit Go.Proofs.YtmmalieacakcbaaW.PrintWords Go.Proofs.YtmmalieacakcbaaW.PrintLast Go.Proofs.YtmmalieacakcbaaW.PrintMore
attribute [local go_sem] max2_int min2_int max_two min_two max_three min_three max_four min_four   -- for this text's walks alone
set_option linter.unusedVariables false
set_option linter.unusedSimpArgs false

/-! ### split_Chains: function 38 -/
-- GIVEN heliast/split.Chains making uses heliast/split.rising uses heliast/split.count[int] uses heliast/state.Places uses heliast/graph.Reach
open Go.Proofs.He
def chainRows (g : List (List Int)) (l : List (List S69)) : List (List Int) := l.map fun s => rchL g (placesL s)
def chainsL (g : List (List Int)) (l : List (List S69)) : List Int := riseL ((chainRows g l).flatten.filter fun x => decide (((chainRows g l).flatten.count x : Int) < (l.length : Int)))
theorem chains_eq {zs : List Int} {n : Int} {ys : List Int} (hy : ∀ z, z ∈ ys ↔ ∃ x ∈ zs, (@List.count _ instBEqOfDecidableEq x zs : Int) < n ∧ id x = z) : riseL ys = riseL (zs.filter fun x => decide ((zs.count x : Int) < n)) := by
  refine riseL_eq (fun z => ?_)
  rw [hy, List.mem_filter]
  constructor
  · rintro ⟨x, h1, h2, rfl⟩
    exact ⟨h1, by rw [decide_eq_true_iff]; exact h2⟩
  · rintro ⟨h1, h2⟩
    rw [decide_eq_true_iff] at h2
    exact ⟨z, h1, h2, rfl⟩
theorem chain_flat (g : List (List Int)) : ∀ (l : List (List S69)), (chainRows g l).flatten.length ≤ l.length * g.length
  | [] => by simp [chainRows]
  | s :: l => by
    have h1 := chain_flat g l
    have h2 := small_rch g (placesL s)
    unfold chainRows at *
    rw [List.map_cons, List.flatten_cons, List.length_append, List.length_cons, Nat.succ_mul]; omega
theorem rch_range {g : List (List Int)} {l : List Int} {x : Int} (h : x ∈ rchL g l) : 0 ≤ x ∧ x < g.length := by
  unfold rchL pickL at h
  obtain ⟨n, hn, rfl⟩ := List.mem_map.1 (List.mem_filter.1 h).1
  have := List.mem_range.1 hn
  show 0 ≤ (n : Int) ∧ (n : Int) < g.length
  omega
abbrev FewI (C : List (Int × Int)) (w : World) (b r base : Nat) (n : Int) (v : Value) (ys : List Int) (todo : List Int) : Prop := Few cntIK Try.underlying3 id C w b r base n v ys todo
set_option maxHeartbeats 8000000 in
set_option maxRecDepth 100000 in
theorem split_Chains.walk (A0 : Option Addr) (c0 : Nat) (g : List (List Int)) (A1 : Option Addr) (c1 : Nat) (l : List (List S69)) (w : World) (hr0 : Kd.C (Kd.slice 3 (Kd.int .i64)) w A0 g.length g) (hr1 : Kd.C (Kd.slice 69 k69) w A1 l.length l)
    (hlim : l.flatten.length < 3518437208883) (hg : g.length < 17592186044416) (hlg : l.length * g.length < 3518437208883) (hll : l.length < 3518437208883) :
    Calls Try.prog 38 #[.slice A0 g.length c0, .slice A1 l.length c1] w fun e w' => ∃ v, e = .returned v ∧ (Kd.int .i64).R 3 w' w.heap.size (fun _ => True) v (chainsL g l) ∧ Below w.heap.size w w' := by
  have hlen : l.length ≤ 9223372036854775807 := hr1.2.1
  have HR0 := Aside0.mk hr0
  have HR1 := Aside0.mk hr1
  have HLIM := Aside0.mk hlim
  have HLG := Aside0.mk hlg
  clear hr0 hr1 hlim hlg
  go_enter Try.func38, Try.ntmps38
  go_wp2
  go_loopw [5, 13] (fun v5 v13 wr => ∃ i : Nat, v13 = .int .i64 i ∧ i ≤ l.length ∧ Aside0 (Kd.R (Kd.slice 3 (Kd.int .i64)) 65 wr w.heap.size (fun _ => True) v5 (chainRows g (l.take i))) ∧ Aside0 (Below w.heap.size w wr)) (fun _ v _ => l.length - (intOf v).toNat)
  case atStart => exact ⟨0, rfl, Nat.zero_le _, ⟨Kd.R_nil _ _ _ _ _⟩, ⟨Below.refl _ _⟩⟩
  case round =>
    obtain ⟨i, rfl, hi, HR, HB⟩ := hrel
    by_cases hlt : i < l.length
    · obtain ⟨ad, Ar, cr, e, hrx, hrl, hrc⟩ := at_rows HR1.out (i : Int) (by omega) (by omega)
      cases e
      replace hrx := (HB.out.cell (World.block_lt_of_cell? w _ hrx)).trans hrx
      rw [Int.toNat_natCast] at hrx hrl hrc
      have hml := readTo_length (xs := l) i (l.getD i []).length
      have hns2 : l.getD i [] = l[i] := by simp [List.getD_eq_getElem?_getD, hlt]
      obtain ⟨ns, hns⟩ : ∃ ns, ns = l.getD i [] := ⟨_, rfl⟩
      rw [← hns] at hrx hrl hrc hml
      have hnl : ns.length < 3518437208883 := by have := HLIM.out; unfold readTo at hml; rw [← hns, List.take_length, List.length_append] at hml; omega
      have HX := Aside0.mk (show chainRows g (l.take (i + 1)) = chainRows g (l.take i) ++ [rchL g (placesL ns)] from by
        unfold chainRows
        rw [List.take_succ_eq_append_getElem hlt, List.map_append, hns, hns2]; rfl)
      have HP := Aside0.mk (state_Places.walk Ar cr ns _ (Kd.C_below hrc HB.out) (by omega))
      clear hrc hrl hml hns hns2
      go_wp2_with fail
      (with_reducible refine HP.out.mono ?_)
      rintro e w1 ⟨v1, rfl, hr1, hb1⟩
      have HB1 := Aside0.mk (below_then HB.out HB.out.size hb1)
      have HRA := Aside0.mk (Kd.R_below HR.out hb1)
      obtain ⟨A2, c2, rfl, hc2, hC2⟩ := Kd.R_reads hr1
      have HG := Aside0.mk (graph_Reach.walk A0 c0 g A2 c2 (placesL ns) w1 (Kd.C_below HR0.out HB1.out) hC2 hg)
      clear hr1 hb1 hc2 hC2
      go_wp2_with fail
      (with_reducible refine HG.out.mono ?_)
      rintro e w2 ⟨v2, rfl, hr2, hb2⟩
      have HB2 := Aside0.mk (below_then HB1.out HB1.out.size hb2)
      have HRB := Aside0.mk (Kd.R_below HRA.out hb2)
      have HR2 := Aside0.mk (Kd.R_mono (Kd.R_lower (Kd.R_bound hr2) HB1.out.size) (ok' := fun k => some k ≠ u5.ownBlock) (fun k hk e => by
        obtain ⟨inner, ho⟩ := Kd.R_own HRA.out
        have := own_lt ho k e.symm
        have := hk.2.1; omega))
      have HL := Aside0.mk (show ((chainRows g (l.take i)).length + 1) * 24 ≤ 140737488355328 from by unfold chainRows; rw [List.length_map, List.length_take]; omega)
      obtain ⟨A3, c3, hv3⟩ := Kd.R_slice hr2
      subst hv3
      clear hr2 hb2
      go_wp2_with (first | (at_builtin; refine Kd.R_append (Kd.slice 3 (Kd.int .i64)) (w0 := w) w.heap.size rfl _ _ 74 65 (.slice none 0 0) 24 rfl Try.underlying74 info65 rfl (by decide) (by omega) u5 (chainRows g (l.take i)) (rchL g (placesL ns)) [.slice A3 (rchL g (placesL ns)).length c3] (fun _ => True) (fun k => some k ≠ u5.ownBlock) rfl (by first | rfl | (go_simp; done) | (simp [World.alloc, Act.eval]; done)) ⟨_, rfl, HR2.out⟩ (fun _ hk => ⟨trivial, hk⟩) (fun _ _ => trivial) HRB.out HB2.out HB2.out.size HL.out ?_; intro v4 w4 hr4 hb4 hg4 hat4) | go_in)
      go_roundw
      case rel => exact ⟨i + 1, by go_num, by omega, ⟨by rw [HX.out]; exact hr4⟩, ⟨hb4⟩⟩
      case measure => simp [intOf]; omega
    · have hil : i = l.length := by omega
      have hr9 := HR.out
      rw [hil, List.take_length] at hr9
      obtain ⟨A5, c5, hv5, hc5, hC5⟩ := Kd.R_reads hr9
      subst hv5
      have hcn := chain_flat g l
      have hlg := HLG.out
      have HWF := Aside0.mk (show ∀ x ∈ (chainRows g l).flatten, (Lit.int .i64 x).wf = true from fun x hx => by
        obtain ⟨r, hr, hx⟩ := List.mem_flatten.1 hx
        unfold chainRows at hr
        obtain ⟨s, _, rfl⟩ := List.mem_map.1 hr
        have := rch_range hx
        exact WalkArith.wf_i64 (by omega))
      have hrl : (chainRows g l).length = l.length := by simp [chainRows]
      obtain ⟨rows, hrows⟩ : ∃ rows, rows = chainRows g l := ⟨_, rfl⟩
      rw [← hrows] at hC5 hc5 hcn HWF hrl
      have HROWS := Aside0.mk hrows
      have HCC := Aside0.mk (split_count_int.walk A5 c5 rows _ hC5 HWF.out (by omega))
      have HCN := Aside0.mk (show rows.flatten.length < 3518437208883 from by omega)
      clear hr9 hC5 hc5 hcn hrows HR hlg hrl
      rw [← HROWS.out]
      go_wp2_with fail
      (with_reducible refine HCC.out.mono ?_)
      rintro e w1 ⟨b, C, rfl, hb, hC, hb1⟩
      have HB1 := Aside0.mk (below_then HB.out HB.out.size hb1)
      have HC := Aside0.mk hC
      have hcl := hC.len
      have HCL := Aside0.mk (show C.length < 3518437208883 from by have := HCN.out; omega)
      clear hC hb1 hcl HCC
      go_wp2_with (first | (at_range; refine wpList_mrange rfl _ 118 rfl cntIK (intV Try.underlying3) 3 Try.underlying118 b C rfl HC.out.own ?_; intro w2 hi0 hg0 hs0) | go_in)
      go_frame
      generalize hrI : w1.heap.size = rI at hi0 ⊢
      have HBR := Aside0.mk (show w.heap.size ≤ rI from by rw [← hrI]; exact HB1.out.size)
      have H0 := Aside0.mk (show FewI C w2 b rI w.heap.size l.length (.slice none 0 0) [] (C.map (·.1)) from ⟨hi0, Kd.R_nil _ _ _ _ _, fun z => ⟨fun h => by simp at h, fun ⟨p, h1, h2, _⟩ => absurd (List.mem_map.2 ⟨p, h1, rfl⟩) h2⟩, by simp⟩)
      have HB := Aside0.mk (HB1.out.grown hg0 HB1.out.size (fun k e => by cases e))
      clear hrI hi0 hg0 hs0 HB1 hb
      go_loopw [8] (fun v wr => ∃ (ys : List Int) (todo : List Int), Aside0 (FewI C wr b rI w.heap.size l.length v ys todo) ∧ Aside0 (Below w.heap.size w wr)) (fun _ wr => wr.rangeLeft b rI)
      case atStart => exact ⟨[], _, H0, HB⟩
      case round =>
        clear H0 HB
        obtain ⟨ys, todo, HI, HB⟩ := hrel
        go_wp2_with (first | (at_next; refine wpList_mnext rfl _ rfl cntIK (intV Try.underlying3) b rI C rfl HI.out.it ?_ ?_) | go_in)
        · intro ht
          subst ht
          have HY := Aside0.mk (show riseL ys = chainsL g l from by have := chains_eq (HI.out.done HC.out); rw [this, HROWS.out]; rfl)
          have hyl : ys.length < 3518437208883 := by have := HI.out.len; have := HCL.out; simp at *; omega
          obtain ⟨Ay, cy, hv3, hyc, hry⟩ := Kd.R_reads HI.out.row
          subst hv3
          have hb9 := below_alloc (Below.refl wr.heap.size wr) (Obj.cells #[.slice Ay ys.length cy] 65)
          have HRS := Aside0.mk (split_rising.walk (some ⟨wr.heap.size, 0, none⟩) 1 [ys] _ (C_lit_rows (t := 65) [(Ay, cy, ys)] (heap_alloc_new wr (Obj.cells #[.slice Ay ys.length cy] 65)) (fun q hq => by rw [List.mem_singleton.1 hq]; exact ⟨hyc, Kd.C_below hry hb9⟩) (by simp)) (by simp; omega))
          have HB9 := Aside0.mk (below_then HB.out HB.out.size hb9)
          clear hry hyc hb9 hyl
          go_wp2_with (go_at_call 75; refine HRS.out.mono ?_; rintro e w9 ⟨v9, rfl, hr9, hb9⟩)
          go_ret
          refine ⟨_, rfl, ?_, below_then HB9.out HB9.out.size hb9⟩
          rw [← HY.out]
          have := Kd.R_lower hr9 HB9.out.size
          simpa using this
        · intro x y w4 hx hxM hi1 hlt1 hg1 hs1 hen
          have hen' : (Instr.entry (.pointer (some ⟨rI, 0, none⟩))).run Try.prog w4 = .ok (.tuple #[.int .i64 x, .int .i64 y]) w4 := hen
          clear hen
          have hrv : some rI ≠ u8.ownBlock := iter_ne_row HI.out.it HI.out.row
          have hbv : some b ≠ u8.ownBlock := own_ne_row HI.out.it.own HI.out.row
          have HBV := Aside0.mk hbv
          have HRV := Aside0.mk hrv
          have HR4 := Aside0.mk (Kd.R_grown1 HI.out.row rfl hg1 hrv)
          have HB4 := Aside0.mk (HB.out.grown hg1 HB.out.size (fun k e => by cases e; exact HBR.out))
          have HG1 := Aside0.mk hlt1
          have HI1 := Aside0.mk hi1
          have HX := Aside0.mk hx
          have HXM := Aside0.mk hxM
          have hl : (ys.length + 1) * 8 ≤ 140737488355328 := by have := HI.out.len; have := HCL.out; omega
          have HL := Aside0.mk hl
          clear hg1 hlt1 hi1 hx hxM hl hs1 hrv hbv
          by_cases hy : y < (l.length : Int)
          · go_wp2_with (first | (at_builtin; refine Kd.R_append (Kd.int .i64) (w0 := w) w.heap.size rfl _ _ 65 3 (.int .i64 0) 8 rfl Try.underlying65 info3 rfl (by decide) (by omega) u8 ys x [.int .i64 x] (fun _ => True) (fun _ => False) rfl (by first | rfl | (go_simp; done) | (simp [World.alloc, Act.eval]; done)) rfl (fun _ hk => hk.elim) (fun _ _ => trivial) HR4.out HB4.out HB4.out.size HL.out ?_; intro v2 w5 hr2 hb2 hg2 hat2) | go_in)
            go_roundw
            case rel => exact ⟨_, _, ⟨HI.out.yes HX.out HXM.out hy (HI1.out.grown hg2 HBV.out HRV.out) hr2⟩, ⟨hb2⟩⟩
            case measure => rw [HI1.out.left_grown hg2 HBV.out HRV.out]; exact HG1.out
          · go_wp2
            go_roundw
            case rel => exact ⟨_, _, ⟨HI.out.no HX.out HXM.out hy HI1.out HR4.out⟩, HB4⟩
            case measure => exact HG1.out
def SplitFits (g : List (List Int)) (l : List (List S69)) : Prop := l.flatten.length < 3518437208883 ∧ g.length < 17592186044416 ∧ l.length * g.length < 3518437208883 ∧ l.length < 3518437208883
instance (g : List (List Int)) (l : List (List S69)) : Decidable (SplitFits g l) := inferInstanceAs (Decidable (_ ∧ _ ∧ _ ∧ _))
def split_Chains.f (g : List (List Int)) (l : List (List S69)) : Option (List Int) := if SplitFits g l then some (chainsL g l) else none
theorem split_Chains.calls (A0 : Option Addr) (c0 : Nat) (l0 : List (List Int)) (A1 : Option Addr) (c1 : Nat) (l1 : List (List S69)) (r : List Int) (w : World) (hr0 : Kd.C (Kd.slice 3 (Kd.int .i64)) w A0 l0.length l0) (hc0 : l0.length ≤ c0) (hr1 : Kd.C (Kd.slice 69 k69) w A1 l1.length l1) (hc1 : l1.length ≤ c1) (h : split_Chains.f l0 l1 = some r) :
    Calls Try.prog 38 #[.slice A0 l0.length c0, .slice A1 l1.length c1] w fun e w' => ∃ v0_ : Value, e = .returned (v0_) ∧ (Kd.int .i64).R 3 w' w.heap.size (fun _ => True) v0_ r ∧ Below w.heap.size w w' := by
  unfold split_Chains.f at h
  split at h
  · rename_i hc
    obtain rfl := Option.some.inj h
    exact split_Chains.walk A0 c0 l0 A1 c1 l1 w hr0 hr1 hc.1 hc.2.1 hc.2.2.1 hc.2.2.2
  · cases h

/-! ### heliastref12_Set: function 41 -/
def heliastref12_Set.l0 : Nat → List (List Int) → List Int → List Int → Int → Option (List Int)
  | 0, _, _, _, _ => none
  | k + 1, x0, x1, x5, x6 => if x6 < (x0.length : Int) then ((heliastref12_Has.f k x1 x6).bind fun t169 => (if t169 = true then (if x5.length < 17592186044416 then (heliastref12_Set.l0 k x0 x1 (x5 ++ [x6]) (wrap64 (x6 + 1))) else (none)) else (heliastref12_Set.l0 k x0 x1 x5 (wrap64 (x6 + 1))))) else (some x5)
def heliastref12_Set.f (k : Nat) (l0 : List (List Int)) (l1 : List Int) : Option (List Int) := heliastref12_Set.l0 k l0 l1 ([] : List Int) 0
theorem heliastref12_Set.mono_l : ∀ k, (∀ y0 y1 y2 y3, LeO (heliastref12_Set.l0 k y0 y1 y2 y3) (heliastref12_Set.l0 (k + 1) y0 y1 y2 y3))
  | 0 => fun _ _ _ _ r h => by simp [heliastref12_Set.l0] at h
  | k + 1 => by
    have ih0 := heliastref12_Set.mono_l k
    · intro y0 y1 y2 y3
      unfold heliastref12_Set.l0
      repeat' first
      | (with_reducible exact ih0 _ _ _ _)
      | (with_reducible exact heliastref12_Has.mono _ _ _)
      | (with_reducible exact LeO.refl _)
      | (with_reducible exact LeO.none _)
      | (with_reducible refine LeO.ite ?_ ?_)
      | (with_reducible refine LeO.bind ?_ (fun _ => ?_))
      | exact ih0 _ _ _ _
      | exact heliastref12_Has.mono _ _ _
      | exact LeO.none _
      | refine LeO.ite ?_ ?_
      | refine LeO.bind ?_ (fun _ => ?_)
theorem heliastref12_Set.mono : ∀ a0 a1 k, LeO (heliastref12_Set.f k a0 a1) (heliastref12_Set.f (k + 1) a0 a1) := by
  intro a0 a1 k
  have ih0 := heliastref12_Set.mono_l k
  unfold heliastref12_Set.f
  repeat' first
      | (with_reducible exact ih0 _ _ _ _)
      | (with_reducible exact heliastref12_Has.mono _ _ _)
      | (with_reducible exact LeO.refl _)
      | (with_reducible exact LeO.none _)
      | (with_reducible refine LeO.ite ?_ ?_)
      | (with_reducible refine LeO.bind ?_ (fun _ => ?_))
      | exact ih0 _ _ _ _
      | exact heliastref12_Has.mono _ _ _
      | exact LeO.none _
      | refine LeO.ite ?_ ?_
      | refine LeO.bind ?_ (fun _ => ?_)
set_option maxHeartbeats 8000000 in
set_option maxRecDepth 100000 in
theorem heliastref12_Set.calls (k : Nat) (A0 : Option Addr) (c0 : Nat) (l0 : List (List Int)) (A1 : Option Addr) (c1 : Nat) (l1 : List Int) (r : List Int) (w : World) (hr0 : Kd.C (Kd.slice 3 (Kd.int .i64)) w A0 l0.length l0) (hc0 : l0.length ≤ c0) (hr1 : Kd.C (Kd.int .i64) w A1 l1.length l1) (hc1 : l1.length ≤ c1) (h : heliastref12_Set.f k l0 l1 = some r) :
    Calls Try.prog 41 #[.slice A0 l0.length c0, .slice A1 l1.length c1] w fun e w' => ∃ v0_ : Value, e = .returned (v0_) ∧ Kd.R (Kd.int .i64) 3 w' w.heap.size (fun _ => True) v0_ r ∧ Below w.heap.size w w' := by
  have HR0 := Aside0.mk hr0
  have HC0 := Aside0.mk hc0
  clear hr0 hc0
  have HR1 := Aside0.mk hr1
  have HC1 := Aside0.mk hc1
  clear hr1 hc1
  have HB := Aside0.mk (Below.refl w.heap.size w)
  have H : (heliastref12_Set.l0 k l0 l1 ([] : List Int) 0) = some r := h
  clear h
  have H' := Aside0.mk H
  clear H
  go_enter Try.func41, Try.ntmps41
  go_wp2
  go_loopg [5, 6] k (fun kq v5 v6 w' => ∃ (x5_1 : List Int) (x6_1 : Int), v6 = .int .i64 x6_1 ∧ Aside0 (heliastref12_Set.l0 kq l0 l1 x5_1 x6_1 = some r) ∧ Aside0 (kq ≤ k) ∧ Aside0 (Kd.R (Kd.int .i64) 3 w' w.heap.size (fun _ => True) v5 x5_1) ∧ Aside0 (Below w.heap.size w w'))
  case atStart => exact ⟨(([] : List Int)), (0), (by first | rfl | (simp; done) | (simp [*]; done)), H', ⟨Nat.le_refl _⟩, ⟨by first | exact Kd.R_nil _ _ _ _ _ | exact Kd.N_nil _ _ _ _ _ | exact Kd.V_nil _ _ _ _ _ | exact Kd.Q_nil _ _ _ _ _ | exact Kd.S_nil _ _ _ _ _⟩, ⟨by repeat (first | (with_reducible first | exact HB.out | apply below_alloc | apply pw_below_drewN | apply below_drew1) | exact HB.out)⟩⟩
  case round =>
    clear H'
    try clear c1
    try clear p2
    obtain ⟨x5_1, x6_1, rfl, HA, HK1, HO_5, HB⟩ := hrel
    cases gk with
    | zero => exact absurd HA.out (by simp [heliastref12_Set.l0])
    | succ k1 =>
      have H := HA.out
      clear HA
      simp only [heliastref12_Set.l0] at H
      by_cases c3 : x6_1 < (l0.length : Int)
      · rw [if_pos c3] at H
        have c3b0 : decide (x6_1 < (l0.length : Int)) = true := decide_eq_true c3
        clear c3
        replace H := Option.bind_eq_some_iff.mp H
        obtain ⟨t169, A40, H⟩ := H
        replace H : (if t169 = true then (if x5_1.length < 17592186044416 then (heliastref12_Set.l0 k1 l0 l1 (x5_1 ++ [x6_1]) (wrap64 (x6_1 + 1))) else (none)) else (heliastref12_Set.l0 k1 l0 l1 x5_1 (wrap64 (x6_1 + 1)))) = some r := H
        have A4 := Aside0.mk A40
        clear A40
        by_cases c5 : t169 = true
        · subst c5
          have H1 : (if x5_1.length < 17592186044416 then (heliastref12_Set.l0 k1 l0 l1 (x5_1 ++ [x6_1]) (wrap64 (x6_1 + 1))) else (none)) = some r := by rw [if_pos rfl] at H; exact H
          clear H
          have H := H1
          clear H1
          by_cases c6 : x5_1.length < 17592186044416
          · rw [if_pos c6] at H
            have LMc6 := Aside0.mk c6
            clear c6
            obtain ⟨y170, hy170⟩ : ∃ y_ : List Int, y_ = (x5_1 ++ [x6_1]) := ⟨_, rfl⟩
            replace H : (heliastref12_Set.l0 k1 l0 l1 y170 (wrap64 (x6_1 + 1))) = some r := by first | (rw [hy170]; with_reducible exact H) | (have H2_ := (Option.bind_some _ _).symm.trans H; rw [hy170]; with_reducible exact H2_) | (have H2_ := (Option.bind_some _ _).symm.trans H; with_reducible exact H2_) | with_reducible exact H | (rw [hy170]; exact H) | exact H
            have Ny170 := Aside0.mk hy170
            clear hy170
            have H' := Aside0.mk H
            clear H
            go_wp2_with (first | ((with_reducible refine gate_callee (f := 33) rfl ?_); refine goesL_ (some 15) rfl rfl Try.func33 (by kernel_rfl) rfl #[.slice A1 l1.length c1, .int .i64 x6_1] rfl (by (try simp only [List.map_toArray, List.map_cons, List.map_nil]); first | done | rfl | (simp only [List.length_drop, List.length_take]; rfl)) ?_; (with_reducible refine (heliastref12_Has.calls k1 _ _ l1 x6_1 true _ ?side1 ?side2 A4.out).mono ?_); (case side1 => repeat (first | exact (Kd.C_below HR1.out HB.out) | (with_reducible refine Kd.C_alloc ?_ _) | (with_reducible refine Kd.C_drewN ?_ _) | (with_reducible refine Kd.C_drew ?_))); (case side2 => exact HC1.out); rintro e w' ⟨rfl, ⟨nd, rfl⟩⟩; refine ⟨_, rfl, ?_⟩) | ((with_reducible refine gate_builtin (b := .append) (xs := #[.tmp 16, .tmp 18]) rfl ?_); at_builtin; refine Kd.R_append (Kd.int .i64) (w0 := w) w.heap.size rfl (.tmp 16) (.tmp 18) 65 3 (.int .i64 0) 8 rfl Try.underlying65 info3 rfl (by decide) (by omega) u5 x5_1 x6_1 [.int .i64 x6_1] (fun _ => True) (fun _ => False) rfl rfl ?aP (fun _ hk => hk.elim) ?aF ?aO ?aB ?aS ?aL ?_; (case aP => exact rfl); (case aB => exact (by repeat (first | (with_reducible first | exact HB.out | apply below_alloc | apply pw_below_drewN | apply below_drew1) | exact HB.out))); (case aF => exact (fun _ _ => trivial)); (case aO => exact (by (with_reducible repeat (first | apply Kd.R_alloc | apply Kd.R_drewN | apply Kd.R_drew)); exact HO_5.out)); (case aS => exact (below_size (by repeat (first | (with_reducible first | exact HB.out | apply below_alloc | apply pw_below_drewN | apply below_drew1) | exact HB.out)))); (case aL => have := LMc6.out; omega); intro v171 w7 ho hb hg hat; rw [← Ny170.out] at ho; have n0_ := Aside0.mk (hb); have n1_ := Aside0.mk (ho); clear HB; clear HO_5; have HB := n0_; have HO172 := n1_; clear n0_ n1_; clear ho hb hg hat))
            go_roundg k1
            case measure => have := HK1.out; omega
            case rel => exact ⟨(y170), (wrap64 (x6_1 + 1)), (by first | rfl | (simp; done) | (simp [*]; done)), H', ⟨by have := HK1.out; omega⟩, ⟨by (with_reducible repeat (first | apply Kd.R_alloc | apply Kd.R_drewN | apply Kd.R_drew)); exact HO172.out⟩, ⟨by repeat (first | (with_reducible first | exact HB.out | apply below_alloc | apply pw_below_drewN | apply below_drew1) | exact HB.out)⟩⟩
          · rw [if_neg c6] at H
            exact absurd H (by simp)
        · replace c5 := Bool.eq_false_iff.mpr c5
          subst c5
          have H1 : (heliastref12_Set.l0 k1 l0 l1 x5_1 (wrap64 (x6_1 + 1))) = some r := by rw [if_neg (show ¬ (false = true) by decide)] at H; exact H
          clear H
          have H := H1
          clear H1
          have H' := Aside0.mk H
          clear H
          go_wp2_with (first | ((with_reducible refine gate_callee (f := 33) rfl ?_); refine goesL_ (some 15) rfl rfl Try.func33 (by kernel_rfl) rfl #[.slice A1 l1.length c1, .int .i64 x6_1] rfl (by (try simp only [List.map_toArray, List.map_cons, List.map_nil]); first | done | rfl | (simp only [List.length_drop, List.length_take]; rfl)) ?_; (with_reducible refine (heliastref12_Has.calls k1 _ _ l1 x6_1 false _ ?side1 ?side2 A4.out).mono ?_); (case side1 => repeat (first | exact (Kd.C_below HR1.out HB.out) | (with_reducible refine Kd.C_alloc ?_ _) | (with_reducible refine Kd.C_drewN ?_ _) | (with_reducible refine Kd.C_drew ?_))); (case side2 => exact HC1.out); rintro e w' ⟨rfl, ⟨nd, rfl⟩⟩; refine ⟨_, rfl, ?_⟩))
          go_roundg k1
          case measure => have := HK1.out; omega
          case rel => exact ⟨(x5_1), (wrap64 (x6_1 + 1)), (by first | rfl | (simp; done) | (simp [*]; done)), H', ⟨by have := HK1.out; omega⟩, ⟨by (with_reducible repeat (first | apply Kd.R_alloc | apply Kd.R_drewN | apply Kd.R_drew)); exact HO_5.out⟩, ⟨by repeat (first | (with_reducible first | exact HB.out | apply below_alloc | apply pw_below_drewN | apply below_drew1) | exact HB.out)⟩⟩
      · rw [if_neg c3] at H
        have c3b0 : decide (x6_1 < (l0.length : Int)) = false := decide_eq_false c3
        clear c3
        obtain rfl := Option.some.inj H
        go_wp2
        go_ret
        exact ⟨_, by first | rfl | (simp [errW_none, errW_some] <;> rfl) | (simp [*, errW_none, errW_some] <;> rfl), by (with_reducible repeat (first | apply Kd.R_alloc | apply Kd.R_drewN | apply Kd.R_drew)); exact HO_5.out, by repeat (first | (with_reducible first | exact HB.out | apply below_alloc | apply pw_below_drewN | apply below_drew1) | exact HB.out)⟩

/-! ### heliastlaw16_SplitChains: function 8 -/
mutual
def heliastlaw16_SplitChains.l0 : Nat → List (List Int) → List (List (S69)) → List Int → Int → Option (Bool)
  | 0, _, _, _, _ => none
  | k + 1, x7, x8, x9, x10 => if x10 < (x7.length : Int) then (heliastlaw16_SplitChains.l1 k x7 x8 x9 x10 false false 0) else ((heliastlaw16_known.f).bind fun t182 => (if t182 = true then ((heliastref12_Set.f k x7 x9).bind fun t183 => ((heliastref12_Same.f k t183 x9).bind fun t186 => (some t186))) else (some false)))
def heliastlaw16_SplitChains.l1 : Nat → List (List Int) → List (List (S69)) → List Int → Int → Bool → Bool → Int → Option (Bool)
  | 0, _, _, _, _, _, _, _ => none
  | k + 1, x7, x8, x9, x10, x11, x12, x13 => if x13 < (x8.length : Int) then (if 0 ≤ x13 then ((state_Places.f (rd_L4 x8 x13)).bind fun t188 => ((graph_Reach.f x7 t188).bind fun t191 => ((heliastref12_Has.f k t191 x10).bind fun t194 => (if x11 = true then (if x12 = true then (heliastlaw16_SplitChains.l1 k x7 x8 x9 x10 true true (wrap64 (x13 + 1))) else (heliastlaw16_SplitChains.l1 k x7 x8 x9 x10 true (!t194) (wrap64 (x13 + 1)))) else (if x12 = true then (heliastlaw16_SplitChains.l1 k x7 x8 x9 x10 t194 true (wrap64 (x13 + 1))) else (heliastlaw16_SplitChains.l1 k x7 x8 x9 x10 t194 (!t194) (wrap64 (x13 + 1)))))))) else (none)) else ((heliastref12_Has.f k x9 x10).bind fun t195 => (if x11 = true then (if (t195 != x12) = true then (some false) else (heliastlaw16_SplitChains.l0 k x7 x8 x9 (wrap64 (x10 + 1)))) else (if (t195 != false) = true then (some false) else (heliastlaw16_SplitChains.l0 k x7 x8 x9 (wrap64 (x10 + 1))))))
end
def heliastlaw16_SplitChains.f (k : Nat) (l0 : List Int) (l1 : List Int) (l2 : List Int) : Option (Bool) := (heliastlaw12_Graph.f k l2).bind fun t173 => ((heliastlaw16_States.f k l0 l1 (t173.length : Int)).bind fun t176 => ((split_Chains.f t173 t176).bind fun t179 => (heliastlaw16_SplitChains.l0 k t173 t176 t179 0)))
theorem heliastlaw16_SplitChains.mono_l : ∀ k, (∀ y0 y1 y2 y3, LeO (heliastlaw16_SplitChains.l0 k y0 y1 y2 y3) (heliastlaw16_SplitChains.l0 (k + 1) y0 y1 y2 y3)) ∧ (∀ y0 y1 y2 y3 y4 y5 y6, LeO (heliastlaw16_SplitChains.l1 k y0 y1 y2 y3 y4 y5 y6) (heliastlaw16_SplitChains.l1 (k + 1) y0 y1 y2 y3 y4 y5 y6))
  | 0 => ⟨fun _ _ _ _ r h => by simp [heliastlaw16_SplitChains.l0] at h, fun _ _ _ _ _ _ _ r h => by simp [heliastlaw16_SplitChains.l1] at h⟩
  | k + 1 => by
    obtain ⟨ih0, ih1⟩ := heliastlaw16_SplitChains.mono_l k
    refine ⟨?_, ?_⟩
    · intro y0 y1 y2 y3
      unfold heliastlaw16_SplitChains.l0
      repeat' first
      | (with_reducible exact ih0 _ _ _ _)
      | (with_reducible exact ih1 _ _ _ _ _ _ _)
      | (with_reducible exact heliastlaw12_Graph.mono _ _)
      | (with_reducible exact heliastlaw16_States.mono _ _ _ _)
      | (with_reducible exact heliastref12_Has.mono _ _ _)
      | (with_reducible exact heliastref12_Same.mono _ _ _)
      | (with_reducible exact heliastref12_Set.mono _ _ _)
      | (with_reducible exact LeO.refl _)
      | (with_reducible exact LeO.none _)
      | (with_reducible refine LeO.ite ?_ ?_)
      | (with_reducible refine LeO.bind ?_ (fun _ => ?_))
      | exact ih0 _ _ _ _
      | exact ih1 _ _ _ _ _ _ _
      | exact heliastlaw12_Graph.mono _ _
      | exact heliastlaw16_States.mono _ _ _ _
      | exact heliastref12_Has.mono _ _ _
      | exact heliastref12_Same.mono _ _ _
      | exact heliastref12_Set.mono _ _ _
      | exact LeO.none _
      | refine LeO.ite ?_ ?_
      | refine LeO.bind ?_ (fun _ => ?_)
    · intro y0 y1 y2 y3 y4 y5 y6
      unfold heliastlaw16_SplitChains.l1
      repeat' first
      | (with_reducible exact ih0 _ _ _ _)
      | (with_reducible exact ih1 _ _ _ _ _ _ _)
      | (with_reducible exact heliastlaw12_Graph.mono _ _)
      | (with_reducible exact heliastlaw16_States.mono _ _ _ _)
      | (with_reducible exact heliastref12_Has.mono _ _ _)
      | (with_reducible exact heliastref12_Same.mono _ _ _)
      | (with_reducible exact heliastref12_Set.mono _ _ _)
      | (with_reducible exact LeO.refl _)
      | (with_reducible exact LeO.none _)
      | (with_reducible refine LeO.ite ?_ ?_)
      | (with_reducible refine LeO.bind ?_ (fun _ => ?_))
      | exact ih0 _ _ _ _
      | exact ih1 _ _ _ _ _ _ _
      | exact heliastlaw12_Graph.mono _ _
      | exact heliastlaw16_States.mono _ _ _ _
      | exact heliastref12_Has.mono _ _ _
      | exact heliastref12_Same.mono _ _ _
      | exact heliastref12_Set.mono _ _ _
      | exact LeO.none _
      | refine LeO.ite ?_ ?_
      | refine LeO.bind ?_ (fun _ => ?_)
theorem heliastlaw16_SplitChains.mono : ∀ a0 a1 a2 k, LeO (heliastlaw16_SplitChains.f k a0 a1 a2) (heliastlaw16_SplitChains.f (k + 1) a0 a1 a2) := by
  intro a0 a1 a2 k
  obtain ⟨ih0, ih1⟩ := heliastlaw16_SplitChains.mono_l k
  unfold heliastlaw16_SplitChains.f
  repeat' first
      | (with_reducible exact ih0 _ _ _ _)
      | (with_reducible exact ih1 _ _ _ _ _ _ _)
      | (with_reducible exact heliastlaw12_Graph.mono _ _)
      | (with_reducible exact heliastlaw16_States.mono _ _ _ _)
      | (with_reducible exact heliastref12_Has.mono _ _ _)
      | (with_reducible exact heliastref12_Same.mono _ _ _)
      | (with_reducible exact heliastref12_Set.mono _ _ _)
      | (with_reducible exact LeO.refl _)
      | (with_reducible exact LeO.none _)
      | (with_reducible refine LeO.ite ?_ ?_)
      | (with_reducible refine LeO.bind ?_ (fun _ => ?_))
      | exact ih0 _ _ _ _
      | exact ih1 _ _ _ _ _ _ _
      | exact heliastlaw12_Graph.mono _ _
      | exact heliastlaw16_States.mono _ _ _ _
      | exact heliastref12_Has.mono _ _ _
      | exact heliastref12_Same.mono _ _ _
      | exact heliastref12_Set.mono _ _ _
      | exact LeO.none _
      | refine LeO.ite ?_ ?_
      | refine LeO.bind ?_ (fun _ => ?_)
set_option maxHeartbeats 8000000 in
set_option maxRecDepth 100000 in
theorem heliastlaw16_SplitChains.calls (k : Nat) (A0 : Option Addr) (c0 : Nat) (l0 : List Int) (A1 : Option Addr) (c1 : Nat) (l1 : List Int) (A2 : Option Addr) (c2 : Nat) (l2 : List Int) (r : Bool) (w : World) (hr0 : Kd.C (Kd.int .u8) w A0 l0.length l0) (hc0 : l0.length ≤ c0) (hr1 : Kd.C (Kd.int .u8) w A1 l1.length l1) (hc1 : l1.length ≤ c1) (hr2 : Kd.C (Kd.int .u8) w A2 l2.length l2) (hc2 : l2.length ≤ c2) (h : heliastlaw16_SplitChains.f k l0 l1 l2 = some r) (hlaw : r = true) :
    Calls Try.prog 8 #[.slice A0 l0.length c0, .slice A1 l1.length c1, .slice A2 l2.length c2] w fun e w' => e = .returned (.bool r) ∧ Below w.heap.size w w' := by
  have HLAW := Aside0.mk hlaw
  clear hlaw
  have HR0 := Aside0.mk hr0
  have HC0 := Aside0.mk hc0
  clear hr0 hc0
  have HR1 := Aside0.mk hr1
  have HC1 := Aside0.mk hc1
  clear hr1 hc1
  have HR2 := Aside0.mk hr2
  have HC2 := Aside0.mk hc2
  clear hr2 hc2
  have HB := Aside0.mk (Below.refl w.heap.size w)
  have H : ((heliastlaw12_Graph.f k l2).bind fun t173 => ((heliastlaw16_States.f k l0 l1 (t173.length : Int)).bind fun t176 => ((split_Chains.f t173 t176).bind fun t179 => (heliastlaw16_SplitChains.l0 k t173 t176 t179 0)))) = some r := h
  clear h
  replace H := Option.bind_eq_some_iff.mp H
  obtain ⟨t173, A40, H⟩ := H
  replace H : ((heliastlaw16_States.f k l0 l1 (t173.length : Int)).bind fun t176 => ((split_Chains.f t173 t176).bind fun t179 => (heliastlaw16_SplitChains.l0 k t173 t176 t179 0))) = some r := H
  have A4 := Aside0.mk A40
  clear A40
  replace H := Option.bind_eq_some_iff.mp H
  obtain ⟨t176, A50, H⟩ := H
  replace H : ((split_Chains.f t173 t176).bind fun t179 => (heliastlaw16_SplitChains.l0 k t173 t176 t179 0)) = some r := H
  have A5 := Aside0.mk A50
  clear A50
  replace H := Option.bind_eq_some_iff.mp H
  obtain ⟨t179, A60, H⟩ := H
  replace H : (heliastlaw16_SplitChains.l0 k t173 t176 t179 0) = some r := H
  have A6 := Aside0.mk A60
  clear A60
  have H' := Aside0.mk H
  clear H
  go_enter Try.func8, Try.ntmps8
  go_wp2_with (first | ((with_reducible refine gate_callee (f := 37) rfl ?_); refine goesL_ (some 16) rfl rfl Try.func37 (by kernel_rfl) rfl #[.slice A2 l2.length c2] rfl (by (try simp only [List.map_toArray, List.map_cons, List.map_nil]); first | done | rfl | (simp only [List.length_drop, List.length_take]; rfl)) ?_; (with_reducible refine (heliastlaw12_Graph.calls k _ _ l2 t173 _ ?side1 ?side2 A4.out).mono ?_); (case side1 => repeat (first | exact HR2.out | (with_reducible refine Kd.C_alloc ?_ _) | (with_reducible refine Kd.C_drewN ?_ _) | (with_reducible refine Kd.C_drew ?_))); (case side2 => exact HC2.out); rintro e w7 ⟨v174, rfl, ho0, hb⟩; refine ⟨_, rfl, ?_⟩; have n0_ := Aside0.mk (Kd.N_lower (Kd.N_mono (ok' := fun k_ => True) (Kd.S_N (Kd.S_bound ho0)) (fun k_ hk_ => trivial)) (below_size (by repeat (first | (with_reducible first | exact HB.out | apply below_alloc | apply pw_below_drewN | apply below_drew1) | exact HB.out)))); have n1_ := Aside0.mk (below_step (by repeat (first | (with_reducible first | exact HB.out | apply below_alloc | apply pw_below_drewN | apply below_drew1) | exact HB.out)) hb); clear HB; have HO175 := n0_; have HB := n1_; clear n0_ n1_; (try clear hb); (try clear hb2); (try clear hk); (try clear hi); (try clear ho0); obtain ⟨Ao8, co8, eo8⟩ := Kd.N_slice HO175.out; subst eo8) | ((with_reducible refine gate_callee (f := 29) rfl ?_); refine goesL_ (some 21) rfl rfl Try.func29 (by kernel_rfl) rfl #[.slice A0 l0.length c0, .slice A1 l1.length c1, .int .i64 (t173.length : Int)] rfl (by (try simp only [List.map_toArray, List.map_cons, List.map_nil]); first | done | rfl | (simp only [List.length_drop, List.length_take]; rfl)) ?_; (with_reducible refine (heliastlaw16_States.calls k _ _ l0 _ _ l1 (t173.length : Int) t176 _ ?side1 ?side2 ?side3 ?side4 A5.out).mono ?_); (case side1 => repeat (first | exact (Kd.C_below HR0.out HB.out) | (with_reducible refine Kd.C_alloc ?_ _) | (with_reducible refine Kd.C_drewN ?_ _) | (with_reducible refine Kd.C_drew ?_))); (case side2 => exact HC0.out); (case side3 => repeat (first | exact (Kd.C_below HR1.out HB.out) | (with_reducible refine Kd.C_alloc ?_ _) | (with_reducible refine Kd.C_drewN ?_ _) | (with_reducible refine Kd.C_drew ?_))); (case side4 => exact HC1.out); rintro e w9 ⟨v177, rfl, ho0, hb⟩; refine ⟨_, rfl, ?_⟩; have n0_ := Aside0.mk (Kd.N_elder' (by (with_reducible repeat (first | apply Kd.N_alloc | apply Kd.N_drewN | apply Kd.N_drew)); exact HO175.out) (Kd.N_base ho0) hb); have n1_ := Aside0.mk (Kd.N_lower (Kd.N_mono (ok' := fun k_ => some k_ ≠ (.slice Ao8 t173.length co8 : Value).ownBlock) ho0 (fun k_ hk_ => (Kd.fresh' (Kd.N_lt (by (with_reducible repeat (first | apply Kd.N_alloc | apply Kd.N_drewN | apply Kd.N_drew)); exact HO175.out)) k_ hk_))) (below_size (by repeat (first | (with_reducible first | exact HB.out | apply below_alloc | apply pw_below_drewN | apply below_drew1) | exact HB.out)))); have n2_ := Aside0.mk (below_step (by repeat (first | (with_reducible first | exact HB.out | apply below_alloc | apply pw_below_drewN | apply below_drew1) | exact HB.out)) hb); clear HO175; clear HB; have HO175 := n0_; have HO178 := n1_; have HB := n2_; clear n0_ n1_ n2_; (try clear hb); (try clear hb2); (try clear hk); (try clear hi); (try clear ho0); obtain ⟨Ao10, co10, eo10⟩ := Kd.N_slice HO178.out; subst eo10) | ((with_reducible refine gate_callee (f := 38) rfl ?_); refine goesL_ (some 24) rfl rfl Try.func38 (by kernel_rfl) rfl #[.slice Ao8 t173.length co8, .slice Ao10 t176.length co10] rfl (by (try simp only [List.map_toArray, List.map_cons, List.map_nil]); first | done | rfl | (simp only [List.length_drop, List.length_take]; rfl)) ?_; (with_reducible refine (split_Chains.calls _ _ t173 _ _ t176 t179 _ ?side1 ?side2 ?side3 ?side4 A6.out).mono ?_); (case side1 => repeat (first | exact (Kd.N_reads' HO175.out).2.2 | (with_reducible refine Kd.C_alloc ?_ _) | (with_reducible refine Kd.C_drewN ?_ _) | (with_reducible refine Kd.C_drew ?_))); (case side2 => exact (Kd.N_reads' HO175.out).2.1); (case side3 => repeat (first | exact (Kd.N_reads' HO178.out).2.2 | (with_reducible refine Kd.C_alloc ?_ _) | (with_reducible refine Kd.C_drewN ?_ _) | (with_reducible refine Kd.C_drew ?_))); (case side4 => exact (Kd.N_reads' HO178.out).2.1); rintro e w11 ⟨v180, rfl, ho0, hb⟩; refine ⟨_, rfl, ?_⟩; have n0_ := Aside0.mk (Kd.N_elder' (by (with_reducible repeat (first | apply Kd.N_alloc | apply Kd.N_drewN | apply Kd.N_drew)); exact HO175.out) (Kd.R_base ho0) hb); have n1_ := Aside0.mk (Kd.N_elder' (by (with_reducible repeat (first | apply Kd.N_alloc | apply Kd.N_drewN | apply Kd.N_drew)); exact HO178.out) (Kd.R_base ho0) hb); have n2_ := Aside0.mk (Kd.R_lower ho0 (below_size (by repeat (first | (with_reducible first | exact HB.out | apply below_alloc | apply pw_below_drewN | apply below_drew1) | exact HB.out)))); have n3_ := Aside0.mk (below_step (by repeat (first | (with_reducible first | exact HB.out | apply below_alloc | apply pw_below_drewN | apply below_drew1) | exact HB.out)) hb); clear HO175; clear HO178; clear HB; have HO175 := n0_; have HO178 := n1_; have HO181 := n2_; have HB := n3_; clear n0_ n1_ n2_ n3_; (try clear hb); (try clear hb2); (try clear hk); (try clear hi); (try clear ho0)))
  go_loopg [10] k (fun kq v10 w' => ∃ (x10_1 : Int), v10 = .int .i64 x10_1 ∧ Aside0 (heliastlaw16_SplitChains.l0 kq t173 t176 t179 x10_1 = some r) ∧ Aside0 (kq ≤ k) ∧ Aside0 (Kd.N (Kd.slice 3 (Kd.int .i64)) 65 w' w.heap.size (fun k_ => some k_ ≠ ((.slice Ao10 t176.length co10) : Value).ownBlock ∧ some k_ ≠ (v180 : Value).ownBlock) (.slice Ao8 t173.length co8) t173) ∧ Aside0 (Kd.N (Kd.slice 69 k69) 63 w' w.heap.size (fun k_ => some k_ ≠ ((.slice Ao8 t173.length co8) : Value).ownBlock ∧ some k_ ≠ (v180 : Value).ownBlock) (.slice Ao10 t176.length co10) t176) ∧ Aside0 (Kd.R (Kd.int .i64) 3 w' w.heap.size (fun _ => True) v180 t179) ∧ Aside0 (Below w.heap.size w w'))
  case atStart => exact ⟨(0), (by first | rfl | (simp; done) | (simp [*]; done)), H', ⟨Nat.le_refl _⟩, ⟨by (with_reducible repeat (first | apply Kd.N_alloc | apply Kd.N_drewN | apply Kd.N_drew)); exact Kd.N_mono HO175.out (fun _ hk => ⟨hk.1.2, hk.2⟩)⟩, ⟨by (with_reducible repeat (first | apply Kd.N_alloc | apply Kd.N_drewN | apply Kd.N_drew)); exact HO178.out⟩, ⟨by (with_reducible repeat (first | apply Kd.R_alloc | apply Kd.R_drewN | apply Kd.R_drew)); exact HO181.out⟩, ⟨by repeat (first | (with_reducible first | exact HB.out | apply below_alloc | apply pw_below_drewN | apply below_drew1) | exact HB.out)⟩⟩
  case round =>
    clear H'
    try clear c1
    try clear c2
    try clear p2
    try clear c3
    try clear c8
    obtain ⟨x10_1, rfl, HA, HK1, HO_7, HO_8, HO_9, HB⟩ := hrel
    cases gk with
    | zero => exact absurd HA.out (by simp [heliastlaw16_SplitChains.l0])
    | succ k1 =>
      have H := HA.out
      clear HA
      simp only [heliastlaw16_SplitChains.l0] at H
      by_cases c12 : x10_1 < (t173.length : Int)
      · rw [if_pos c12] at H
        have c12b0 : decide (x10_1 < (t173.length : Int)) = true := decide_eq_true c12
        clear c12
        have H' := Aside0.mk H
        clear H
        go_wp2
        go_loopg [11, 12, 13] k1 (fun kq v11 v12 v13 w' => ∃ (x11_2 : Bool) (x12_2 : Bool) (x13_2 : Int), v11 = .bool x11_2 ∧ v12 = .bool x12_2 ∧ v13 = .int .i64 x13_2 ∧ Aside0 (heliastlaw16_SplitChains.l1 kq t173 t176 t179 x10_1 x11_2 x12_2 x13_2 = some r) ∧ Aside0 (kq ≤ k1) ∧ Aside0 (Kd.N (Kd.slice 3 (Kd.int .i64)) 65 w' w.heap.size (fun k_ => some k_ ≠ ((.slice Ao10 t176.length co10) : Value).ownBlock ∧ some k_ ≠ (v180 : Value).ownBlock) (.slice Ao8 t173.length co8) t173) ∧ Aside0 (Kd.N (Kd.slice 69 k69) 63 w' w.heap.size (fun k_ => some k_ ≠ ((.slice Ao8 t173.length co8) : Value).ownBlock ∧ some k_ ≠ (v180 : Value).ownBlock) (.slice Ao10 t176.length co10) t176) ∧ Aside0 (Kd.R (Kd.int .i64) 3 w' w.heap.size (fun _ => True) v180 t179) ∧ Aside0 (Below w.heap.size w w'))
        case atStart => exact ⟨(false), (false), (0), (by first | rfl | (simp; done) | (simp [*]; done)), (by first | rfl | (simp; done) | (simp [*]; done)), (by first | rfl | (simp; done) | (simp [*]; done)), H', ⟨Nat.le_refl _⟩, ⟨by (with_reducible repeat (first | apply Kd.N_alloc | apply Kd.N_drewN | apply Kd.N_drew)); exact HO_7.out⟩, ⟨by (with_reducible repeat (first | apply Kd.N_alloc | apply Kd.N_drewN | apply Kd.N_drew)); exact HO_8.out⟩, ⟨by (with_reducible repeat (first | apply Kd.R_alloc | apply Kd.R_drewN | apply Kd.R_drew)); exact HO_9.out⟩, ⟨by repeat (first | (with_reducible first | exact HB.out | apply below_alloc | apply pw_below_drewN | apply below_drew1) | exact HB.out)⟩⟩
        case round =>
          clear H'
          try clear c1
          try clear c2
          try clear p2
          try clear c3
          try clear c8
          try clear c12
          try clear c12b0
          try clear p2
          obtain ⟨x11_2, x12_2, x13_2, rfl, rfl, rfl, HA, HK2, HO_7, HO_8, HO_9, HB⟩ := hrel
          cases gk with
          | zero => exact absurd HA.out (by simp [heliastlaw16_SplitChains.l1])
          | succ k2 =>
            have H := HA.out
            clear HA
            simp only [heliastlaw16_SplitChains.l1] at H
            by_cases c13 : x13_2 < (t176.length : Int)
            · rw [if_pos c13] at H
              have c13b0 : decide (x13_2 < (t176.length : Int)) = true := decide_eq_true c13
              clear c13
              by_cases c14 : 0 ≤ x13_2
              · rw [if_pos c14] at H
                have c14b0 : decide (0 ≤ x13_2) = true := decide_eq_true c14
                clear c14
                replace H := Option.bind_eq_some_iff.mp H
                obtain ⟨t188, A150, H⟩ := H
                replace H : ((graph_Reach.f t173 t188).bind fun t191 => ((heliastref12_Has.f k2 t191 x10_1).bind fun t194 => (if x11_2 = true then (if x12_2 = true then (heliastlaw16_SplitChains.l1 k2 t173 t176 t179 x10_1 true true (wrap64 (x13_2 + 1))) else (heliastlaw16_SplitChains.l1 k2 t173 t176 t179 x10_1 true (!t194) (wrap64 (x13_2 + 1)))) else (if x12_2 = true then (heliastlaw16_SplitChains.l1 k2 t173 t176 t179 x10_1 t194 true (wrap64 (x13_2 + 1))) else (heliastlaw16_SplitChains.l1 k2 t173 t176 t179 x10_1 t194 (!t194) (wrap64 (x13_2 + 1))))))) = some r := H
                have A15 := Aside0.mk A150
                clear A150
                replace H := Option.bind_eq_some_iff.mp H
                obtain ⟨t191, A160, H⟩ := H
                replace H : ((heliastref12_Has.f k2 t191 x10_1).bind fun t194 => (if x11_2 = true then (if x12_2 = true then (heliastlaw16_SplitChains.l1 k2 t173 t176 t179 x10_1 true true (wrap64 (x13_2 + 1))) else (heliastlaw16_SplitChains.l1 k2 t173 t176 t179 x10_1 true (!t194) (wrap64 (x13_2 + 1)))) else (if x12_2 = true then (heliastlaw16_SplitChains.l1 k2 t173 t176 t179 x10_1 t194 true (wrap64 (x13_2 + 1))) else (heliastlaw16_SplitChains.l1 k2 t173 t176 t179 x10_1 t194 (!t194) (wrap64 (x13_2 + 1)))))) = some r := H
                have A16 := Aside0.mk A160
                clear A160
                replace H := Option.bind_eq_some_iff.mp H
                obtain ⟨t194, A170, H⟩ := H
                replace H : (if x11_2 = true then (if x12_2 = true then (heliastlaw16_SplitChains.l1 k2 t173 t176 t179 x10_1 true true (wrap64 (x13_2 + 1))) else (heliastlaw16_SplitChains.l1 k2 t173 t176 t179 x10_1 true (!t194) (wrap64 (x13_2 + 1)))) else (if x12_2 = true then (heliastlaw16_SplitChains.l1 k2 t173 t176 t179 x10_1 t194 true (wrap64 (x13_2 + 1))) else (heliastlaw16_SplitChains.l1 k2 t173 t176 t179 x10_1 t194 (!t194) (wrap64 (x13_2 + 1))))) = some r := H
                have A17 := Aside0.mk A170
                clear A170
                by_cases c18 : x11_2 = true
                · subst c18
                  have H1 : (if x12_2 = true then (heliastlaw16_SplitChains.l1 k2 t173 t176 t179 x10_1 true true (wrap64 (x13_2 + 1))) else (heliastlaw16_SplitChains.l1 k2 t173 t176 t179 x10_1 true (!t194) (wrap64 (x13_2 + 1)))) = some r := by rw [if_pos rfl] at H; exact H
                  clear H
                  have H := H1
                  clear H1
                  by_cases c19 : x12_2 = true
                  · subst c19
                    have H1 : (heliastlaw16_SplitChains.l1 k2 t173 t176 t179 x10_1 true true (wrap64 (x13_2 + 1))) = some r := by rw [if_pos rfl] at H; exact H
                    clear H
                    have H := H1
                    clear H1
                    have H' := Aside0.mk H
                    clear H
                    have p187 : 0 ≤ (x13_2 : Int) := of_decide_eq_true (by first | (with_reducible assumption) | assumption)
                    have q187 : x13_2 < (t176.length : Int) := of_decide_eq_true (by first | (with_reducible assumption) | assumption)
                    obtain ⟨ad187, A187_0, c187_0, e187, hx187_0, hl187_0, hi187_0⟩ := at_L4 (Kd.N_reads' HO_8.out).2.2 x13_2 p187 q187
                    cases e187
                    obtain ⟨ce187, hce187, hMe187, hcc187⟩ := Kd.N_get HO_8.out [] x13_2 p187 (by first | exact q187 | exact of_decide_eq_true (by first | (with_reducible assumption) | assumption) | (have e_ := (Kd.N_reads' HO_8.out).1; omega))
                    obtain ⟨ua187_0, uc187_0, rfl, ul187_0, ge187_0⟩ := Kd.FK_slice_open hMe187
                    have hv187_0 := hcc187 0 _ rfl
                    rw [Nat.add_zero, show ((Kd.slice 69 k69)).sz = 1 from rfl, Nat.mul_one] at hv187_0
                    replace hv187_0 := Option.some.inj (hv187_0.symm.trans hx187_0)
                    injection hv187_0 with hva_ hvn_ hvc_
                    rw [hva_] at ge187_0
                    rw [hvc_] at ul187_0
                    have HL187_0 := Aside0.mk (show Kd.V k69 69 _ w.heap.size _ _ (rd_L4 t176 x13_2) from Kd.V_mk ul187_0 ge187_0)
                    clear hva_ hvn_ hvc_ ge187_0 ul187_0
                    clear hcc187 hce187
                    have HR187_0 := Aside0.mk hi187_0
                    have HC187_0 := Aside0.mk hl187_0
                    clear hi187_0 hl187_0
                    replace p187 := eq_true p187
                    replace q187 := eq_true q187
                    go_wp2_with (first | ((with_reducible refine gate_callee (f := 34) rfl ?_); refine goesL_ (some 42) rfl rfl Try.func34 (by kernel_rfl) rfl #[.slice A187_0 (rd_L4 t176 x13_2).length c187_0] rfl (by (try simp only [List.map_toArray, List.map_cons, List.map_nil]); first | done | rfl | (simp only [List.length_drop, List.length_take]; rfl)) ?_; (with_reducible refine (state_Places.calls _ _ (rd_L4 t176 x13_2) t188 _ ?side1 ?side2 A15.out).mono ?_); (case side1 => repeat (first | exact (by repeat (first | (with_reducible exact HR187_0.out) | (with_reducible refine Kd.C_alloc ?_ _) | (with_reducible refine Kd.C_drewN ?_ _) | (with_reducible refine Kd.C_drew ?_) | exact HR187_0.out)) | (with_reducible refine Kd.C_alloc ?_ _) | (with_reducible refine Kd.C_drewN ?_ _) | (with_reducible refine Kd.C_drew ?_))); (case side2 => exact HC187_0.out); rintro e w20 ⟨v189, rfl, ho0, hb⟩; refine ⟨_, rfl, ?_⟩; have n0_ := Aside0.mk (Kd.N_elder' (by (with_reducible repeat (first | apply Kd.N_alloc | apply Kd.N_drewN | apply Kd.N_drew)); exact HO_7.out) (Kd.R_base ho0) hb); have n1_ := Aside0.mk (Kd.N_elder' (by (with_reducible repeat (first | apply Kd.N_alloc | apply Kd.N_drewN | apply Kd.N_drew)); exact HO_8.out) (Kd.R_base ho0) hb); have n2_ := Aside0.mk (Kd.R_elder' (by (with_reducible repeat (first | apply Kd.R_alloc | apply Kd.R_drewN | apply Kd.R_drew)); exact HO_9.out) (Kd.R_base ho0) hb); have n3_ := Aside0.mk (Kd.V_elder' (by (with_reducible repeat (first | apply Kd.V_alloc | apply Kd.V_drewN | apply Kd.V_drew)); exact HL187_0.out) (Kd.R_base ho0) hb); have n4_ := Aside0.mk (Kd.R_lower (Kd.R_new' ho0 (Kd.R_lt (by (with_reducible repeat (first | apply Kd.R_alloc | apply Kd.R_drewN | apply Kd.R_drew)); exact HO_9.out))) (below_size (by repeat (first | (with_reducible first | exact HB.out | apply below_alloc | apply pw_below_drewN | apply below_drew1) | exact HB.out)))); have n5_ := Aside0.mk (Kd.C_below (by repeat (first | (with_reducible exact HR187_0.out) | (with_reducible refine Kd.C_alloc ?_ _) | (with_reducible refine Kd.C_drewN ?_ _) | (with_reducible refine Kd.C_drew ?_) | exact HR187_0.out)) hb); have n6_ := Aside0.mk (below_step (by repeat (first | (with_reducible first | exact HB.out | apply below_alloc | apply pw_below_drewN | apply below_drew1) | exact HB.out)) hb); clear HO_7; clear HO_8; clear HO_9; clear HL187_0; clear HR187_0; clear HB; have HO_7 := n0_; have HO_8 := n1_; have HO_9 := n2_; have HL187_0 := n3_; have HO190 := n4_; have HR187_0 := n5_; have HB := n6_; clear n0_ n1_ n2_ n3_ n4_ n5_ n6_; (try clear hb); (try clear hb2); (try clear hk); (try clear hi); (try clear ho0); obtain ⟨Ao21, co21, eo21⟩ := Kd.R_slice HO190.out; subst eo21) | ((with_reducible refine gate_callee (f := 39) rfl ?_); refine goesL_ (some 43) rfl rfl Try.func39 (by kernel_rfl) rfl #[.slice Ao8 t173.length co8, .slice Ao21 t188.length co21] rfl (by (try simp only [List.map_toArray, List.map_cons, List.map_nil]); first | done | rfl | (simp only [List.length_drop, List.length_take]; rfl)) ?_; (with_reducible refine (graph_Reach.calls _ _ t173 _ _ t188 t191 _ ?side1 ?side2 ?side3 ?side4 A16.out).mono ?_); (case side1 => repeat (first | exact (Kd.N_reads' HO_7.out).2.2 | (with_reducible refine Kd.C_alloc ?_ _) | (with_reducible refine Kd.C_drewN ?_ _) | (with_reducible refine Kd.C_drew ?_))); (case side2 => exact (Kd.N_reads' HO_7.out).2.1); (case side3 => repeat (first | exact (Kd.R_reads' HO190.out).2.2 | (with_reducible refine Kd.C_alloc ?_ _) | (with_reducible refine Kd.C_drewN ?_ _) | (with_reducible refine Kd.C_drew ?_))); (case side4 => exact (Kd.R_reads' HO190.out).2.1); rintro e w22 ⟨v192, rfl, ho0, hb⟩; refine ⟨_, rfl, ?_⟩; have n0_ := Aside0.mk (Kd.N_elder' (by (with_reducible repeat (first | apply Kd.N_alloc | apply Kd.N_drewN | apply Kd.N_drew)); exact HO_7.out) (Kd.R_base ho0) hb); have n1_ := Aside0.mk (Kd.N_elder' (by (with_reducible repeat (first | apply Kd.N_alloc | apply Kd.N_drewN | apply Kd.N_drew)); exact HO_8.out) (Kd.R_base ho0) hb); have n2_ := Aside0.mk (Kd.R_elder' (by (with_reducible repeat (first | apply Kd.R_alloc | apply Kd.R_drewN | apply Kd.R_drew)); exact HO_9.out) (Kd.R_base ho0) hb); have n3_ := Aside0.mk (Kd.V_elder' (by (with_reducible repeat (first | apply Kd.V_alloc | apply Kd.V_drewN | apply Kd.V_drew)); exact HL187_0.out) (Kd.R_base ho0) hb); have n4_ := Aside0.mk (Kd.R_elder' (by (with_reducible repeat (first | apply Kd.R_alloc | apply Kd.R_drewN | apply Kd.R_drew)); exact HO190.out) (Kd.R_base ho0) hb); have n5_ := Aside0.mk (Kd.R_lower (Kd.R_new' (Kd.R_new' ho0 (Kd.R_lt (by (with_reducible repeat (first | apply Kd.R_alloc | apply Kd.R_drewN | apply Kd.R_drew)); exact HO_9.out))) (Kd.R_lt (by (with_reducible repeat (first | apply Kd.R_alloc | apply Kd.R_drewN | apply Kd.R_drew)); exact HO190.out))) (below_size (by repeat (first | (with_reducible first | exact HB.out | apply below_alloc | apply pw_below_drewN | apply below_drew1) | exact HB.out)))); have n6_ := Aside0.mk (Kd.C_below (by repeat (first | (with_reducible exact HR187_0.out) | (with_reducible refine Kd.C_alloc ?_ _) | (with_reducible refine Kd.C_drewN ?_ _) | (with_reducible refine Kd.C_drew ?_) | exact HR187_0.out)) hb); have n7_ := Aside0.mk (below_step (by repeat (first | (with_reducible first | exact HB.out | apply below_alloc | apply pw_below_drewN | apply below_drew1) | exact HB.out)) hb); clear HO_7; clear HO_8; clear HO_9; clear HL187_0; clear HO190; clear HR187_0; clear HB; have HO_7 := n0_; have HO_8 := n1_; have HO_9 := n2_; have HL187_0 := n3_; have HO190 := n4_; have HO193 := n5_; have HR187_0 := n6_; have HB := n7_; clear n0_ n1_ n2_ n3_ n4_ n5_ n6_ n7_; (try clear hb); (try clear hb2); (try clear hk); (try clear hi); (try clear ho0); obtain ⟨Ao23, co23, eo23⟩ := Kd.R_slice HO193.out; subst eo23) | ((with_reducible refine gate_callee (f := 33) rfl ?_); refine goesL_ (some 45) rfl rfl Try.func33 (by kernel_rfl) rfl #[.slice Ao23 t191.length co23, .int .i64 x10_1] rfl (by (try simp only [List.map_toArray, List.map_cons, List.map_nil]); first | done | rfl | (simp only [List.length_drop, List.length_take]; rfl)) ?_; (with_reducible refine (heliastref12_Has.calls k2 _ _ t191 x10_1 t194 _ ?side1 ?side2 A17.out).mono ?_); (case side1 => repeat (first | exact (Kd.R_reads' HO193.out).2.2 | (with_reducible refine Kd.C_alloc ?_ _) | (with_reducible refine Kd.C_drewN ?_ _) | (with_reducible refine Kd.C_drew ?_))); (case side2 => exact (Kd.R_reads' HO193.out).2.1); rintro e w' ⟨rfl, ⟨nd, rfl⟩⟩; refine ⟨_, rfl, ?_⟩))
                    go_roundg k2
                    case measure => have := HK1.out; have := HK2.out; omega
                    case rel => exact ⟨(true), (true), (wrap64 (x13_2 + 1)), (by first | rfl | (simp; done) | (simp [*]; done)), (by first | rfl | (simp; done) | (simp [*]; done)), (by first | rfl | (simp; done) | (simp [*]; done)), H', ⟨by have := HK1.out; have := HK2.out; omega⟩, ⟨by (with_reducible repeat (first | apply Kd.N_alloc | apply Kd.N_drewN | apply Kd.N_drew)); exact Kd.N_mono HO_7.out (fun _ hk => ⟨hk.1.1.1, hk.1.1.2⟩)⟩, ⟨by (with_reducible repeat (first | apply Kd.N_alloc | apply Kd.N_drewN | apply Kd.N_drew)); exact Kd.N_mono HO_8.out (fun _ hk => ⟨hk.1.1.1, hk.1.1.2⟩)⟩, ⟨by (with_reducible repeat (first | apply Kd.R_alloc | apply Kd.R_drewN | apply Kd.R_drew)); exact Kd.R_mono HO_9.out (fun _ hk => trivial)⟩, ⟨by repeat (first | (with_reducible first | exact HB.out | apply below_alloc | apply pw_below_drewN | apply below_drew1) | exact HB.out)⟩⟩
                  · replace c19 := Bool.eq_false_iff.mpr c19
                    subst c19
                    have H1 : (heliastlaw16_SplitChains.l1 k2 t173 t176 t179 x10_1 true (!t194) (wrap64 (x13_2 + 1))) = some r := by rw [if_neg (show ¬ (false = true) by decide)] at H; exact H
                    clear H
                    have H := H1
                    clear H1
                    have H' := Aside0.mk H
                    clear H
                    have p187 : 0 ≤ (x13_2 : Int) := of_decide_eq_true (by first | (with_reducible assumption) | assumption)
                    have q187 : x13_2 < (t176.length : Int) := of_decide_eq_true (by first | (with_reducible assumption) | assumption)
                    obtain ⟨ad187, A187_0, c187_0, e187, hx187_0, hl187_0, hi187_0⟩ := at_L4 (Kd.N_reads' HO_8.out).2.2 x13_2 p187 q187
                    cases e187
                    obtain ⟨ce187, hce187, hMe187, hcc187⟩ := Kd.N_get HO_8.out [] x13_2 p187 (by first | exact q187 | exact of_decide_eq_true (by first | (with_reducible assumption) | assumption) | (have e_ := (Kd.N_reads' HO_8.out).1; omega))
                    obtain ⟨ua187_0, uc187_0, rfl, ul187_0, ge187_0⟩ := Kd.FK_slice_open hMe187
                    have hv187_0 := hcc187 0 _ rfl
                    rw [Nat.add_zero, show ((Kd.slice 69 k69)).sz = 1 from rfl, Nat.mul_one] at hv187_0
                    replace hv187_0 := Option.some.inj (hv187_0.symm.trans hx187_0)
                    injection hv187_0 with hva_ hvn_ hvc_
                    rw [hva_] at ge187_0
                    rw [hvc_] at ul187_0
                    have HL187_0 := Aside0.mk (show Kd.V k69 69 _ w.heap.size _ _ (rd_L4 t176 x13_2) from Kd.V_mk ul187_0 ge187_0)
                    clear hva_ hvn_ hvc_ ge187_0 ul187_0
                    clear hcc187 hce187
                    have HR187_0 := Aside0.mk hi187_0
                    have HC187_0 := Aside0.mk hl187_0
                    clear hi187_0 hl187_0
                    replace p187 := eq_true p187
                    replace q187 := eq_true q187
                    go_wp2_with (first | ((with_reducible refine gate_callee (f := 34) rfl ?_); refine goesL_ (some 42) rfl rfl Try.func34 (by kernel_rfl) rfl #[.slice A187_0 (rd_L4 t176 x13_2).length c187_0] rfl (by (try simp only [List.map_toArray, List.map_cons, List.map_nil]); first | done | rfl | (simp only [List.length_drop, List.length_take]; rfl)) ?_; (with_reducible refine (state_Places.calls _ _ (rd_L4 t176 x13_2) t188 _ ?side1 ?side2 A15.out).mono ?_); (case side1 => repeat (first | exact (by repeat (first | (with_reducible exact HR187_0.out) | (with_reducible refine Kd.C_alloc ?_ _) | (with_reducible refine Kd.C_drewN ?_ _) | (with_reducible refine Kd.C_drew ?_) | exact HR187_0.out)) | (with_reducible refine Kd.C_alloc ?_ _) | (with_reducible refine Kd.C_drewN ?_ _) | (with_reducible refine Kd.C_drew ?_))); (case side2 => exact HC187_0.out); rintro e w24 ⟨v189, rfl, ho0, hb⟩; refine ⟨_, rfl, ?_⟩; have n0_ := Aside0.mk (Kd.N_elder' (by (with_reducible repeat (first | apply Kd.N_alloc | apply Kd.N_drewN | apply Kd.N_drew)); exact HO_7.out) (Kd.R_base ho0) hb); have n1_ := Aside0.mk (Kd.N_elder' (by (with_reducible repeat (first | apply Kd.N_alloc | apply Kd.N_drewN | apply Kd.N_drew)); exact HO_8.out) (Kd.R_base ho0) hb); have n2_ := Aside0.mk (Kd.R_elder' (by (with_reducible repeat (first | apply Kd.R_alloc | apply Kd.R_drewN | apply Kd.R_drew)); exact HO_9.out) (Kd.R_base ho0) hb); have n3_ := Aside0.mk (Kd.V_elder' (by (with_reducible repeat (first | apply Kd.V_alloc | apply Kd.V_drewN | apply Kd.V_drew)); exact HL187_0.out) (Kd.R_base ho0) hb); have n4_ := Aside0.mk (Kd.R_lower (Kd.R_new' ho0 (Kd.R_lt (by (with_reducible repeat (first | apply Kd.R_alloc | apply Kd.R_drewN | apply Kd.R_drew)); exact HO_9.out))) (below_size (by repeat (first | (with_reducible first | exact HB.out | apply below_alloc | apply pw_below_drewN | apply below_drew1) | exact HB.out)))); have n5_ := Aside0.mk (Kd.C_below (by repeat (first | (with_reducible exact HR187_0.out) | (with_reducible refine Kd.C_alloc ?_ _) | (with_reducible refine Kd.C_drewN ?_ _) | (with_reducible refine Kd.C_drew ?_) | exact HR187_0.out)) hb); have n6_ := Aside0.mk (below_step (by repeat (first | (with_reducible first | exact HB.out | apply below_alloc | apply pw_below_drewN | apply below_drew1) | exact HB.out)) hb); clear HO_7; clear HO_8; clear HO_9; clear HL187_0; clear HR187_0; clear HB; have HO_7 := n0_; have HO_8 := n1_; have HO_9 := n2_; have HL187_0 := n3_; have HO190 := n4_; have HR187_0 := n5_; have HB := n6_; clear n0_ n1_ n2_ n3_ n4_ n5_ n6_; (try clear hb); (try clear hb2); (try clear hk); (try clear hi); (try clear ho0); obtain ⟨Ao25, co25, eo25⟩ := Kd.R_slice HO190.out; subst eo25) | ((with_reducible refine gate_callee (f := 39) rfl ?_); refine goesL_ (some 43) rfl rfl Try.func39 (by kernel_rfl) rfl #[.slice Ao8 t173.length co8, .slice Ao25 t188.length co25] rfl (by (try simp only [List.map_toArray, List.map_cons, List.map_nil]); first | done | rfl | (simp only [List.length_drop, List.length_take]; rfl)) ?_; (with_reducible refine (graph_Reach.calls _ _ t173 _ _ t188 t191 _ ?side1 ?side2 ?side3 ?side4 A16.out).mono ?_); (case side1 => repeat (first | exact (Kd.N_reads' HO_7.out).2.2 | (with_reducible refine Kd.C_alloc ?_ _) | (with_reducible refine Kd.C_drewN ?_ _) | (with_reducible refine Kd.C_drew ?_))); (case side2 => exact (Kd.N_reads' HO_7.out).2.1); (case side3 => repeat (first | exact (Kd.R_reads' HO190.out).2.2 | (with_reducible refine Kd.C_alloc ?_ _) | (with_reducible refine Kd.C_drewN ?_ _) | (with_reducible refine Kd.C_drew ?_))); (case side4 => exact (Kd.R_reads' HO190.out).2.1); rintro e w26 ⟨v192, rfl, ho0, hb⟩; refine ⟨_, rfl, ?_⟩; have n0_ := Aside0.mk (Kd.N_elder' (by (with_reducible repeat (first | apply Kd.N_alloc | apply Kd.N_drewN | apply Kd.N_drew)); exact HO_7.out) (Kd.R_base ho0) hb); have n1_ := Aside0.mk (Kd.N_elder' (by (with_reducible repeat (first | apply Kd.N_alloc | apply Kd.N_drewN | apply Kd.N_drew)); exact HO_8.out) (Kd.R_base ho0) hb); have n2_ := Aside0.mk (Kd.R_elder' (by (with_reducible repeat (first | apply Kd.R_alloc | apply Kd.R_drewN | apply Kd.R_drew)); exact HO_9.out) (Kd.R_base ho0) hb); have n3_ := Aside0.mk (Kd.V_elder' (by (with_reducible repeat (first | apply Kd.V_alloc | apply Kd.V_drewN | apply Kd.V_drew)); exact HL187_0.out) (Kd.R_base ho0) hb); have n4_ := Aside0.mk (Kd.R_elder' (by (with_reducible repeat (first | apply Kd.R_alloc | apply Kd.R_drewN | apply Kd.R_drew)); exact HO190.out) (Kd.R_base ho0) hb); have n5_ := Aside0.mk (Kd.R_lower (Kd.R_new' (Kd.R_new' ho0 (Kd.R_lt (by (with_reducible repeat (first | apply Kd.R_alloc | apply Kd.R_drewN | apply Kd.R_drew)); exact HO_9.out))) (Kd.R_lt (by (with_reducible repeat (first | apply Kd.R_alloc | apply Kd.R_drewN | apply Kd.R_drew)); exact HO190.out))) (below_size (by repeat (first | (with_reducible first | exact HB.out | apply below_alloc | apply pw_below_drewN | apply below_drew1) | exact HB.out)))); have n6_ := Aside0.mk (Kd.C_below (by repeat (first | (with_reducible exact HR187_0.out) | (with_reducible refine Kd.C_alloc ?_ _) | (with_reducible refine Kd.C_drewN ?_ _) | (with_reducible refine Kd.C_drew ?_) | exact HR187_0.out)) hb); have n7_ := Aside0.mk (below_step (by repeat (first | (with_reducible first | exact HB.out | apply below_alloc | apply pw_below_drewN | apply below_drew1) | exact HB.out)) hb); clear HO_7; clear HO_8; clear HO_9; clear HL187_0; clear HO190; clear HR187_0; clear HB; have HO_7 := n0_; have HO_8 := n1_; have HO_9 := n2_; have HL187_0 := n3_; have HO190 := n4_; have HO193 := n5_; have HR187_0 := n6_; have HB := n7_; clear n0_ n1_ n2_ n3_ n4_ n5_ n6_ n7_; (try clear hb); (try clear hb2); (try clear hk); (try clear hi); (try clear ho0); obtain ⟨Ao27, co27, eo27⟩ := Kd.R_slice HO193.out; subst eo27) | ((with_reducible refine gate_callee (f := 33) rfl ?_); refine goesL_ (some 45) rfl rfl Try.func33 (by kernel_rfl) rfl #[.slice Ao27 t191.length co27, .int .i64 x10_1] rfl (by (try simp only [List.map_toArray, List.map_cons, List.map_nil]); first | done | rfl | (simp only [List.length_drop, List.length_take]; rfl)) ?_; (with_reducible refine (heliastref12_Has.calls k2 _ _ t191 x10_1 t194 _ ?side1 ?side2 A17.out).mono ?_); (case side1 => repeat (first | exact (Kd.R_reads' HO193.out).2.2 | (with_reducible refine Kd.C_alloc ?_ _) | (with_reducible refine Kd.C_drewN ?_ _) | (with_reducible refine Kd.C_drew ?_))); (case side2 => exact (Kd.R_reads' HO193.out).2.1); rintro e w' ⟨rfl, ⟨nd, rfl⟩⟩; refine ⟨_, rfl, ?_⟩))
                    go_roundg k2
                    case measure => have := HK1.out; have := HK2.out; omega
                    case rel => exact ⟨(true), (!t194), (wrap64 (x13_2 + 1)), (by first | rfl | (simp; done) | (simp [*]; done)), (by first | rfl | (simp; done) | (simp [*]; done)), (by first | rfl | (simp; done) | (simp [*]; done)), H', ⟨by have := HK1.out; have := HK2.out; omega⟩, ⟨by (with_reducible repeat (first | apply Kd.N_alloc | apply Kd.N_drewN | apply Kd.N_drew)); exact Kd.N_mono HO_7.out (fun _ hk => ⟨hk.1.1.1, hk.1.1.2⟩)⟩, ⟨by (with_reducible repeat (first | apply Kd.N_alloc | apply Kd.N_drewN | apply Kd.N_drew)); exact Kd.N_mono HO_8.out (fun _ hk => ⟨hk.1.1.1, hk.1.1.2⟩)⟩, ⟨by (with_reducible repeat (first | apply Kd.R_alloc | apply Kd.R_drewN | apply Kd.R_drew)); exact Kd.R_mono HO_9.out (fun _ hk => trivial)⟩, ⟨by repeat (first | (with_reducible first | exact HB.out | apply below_alloc | apply pw_below_drewN | apply below_drew1) | exact HB.out)⟩⟩
                · replace c18 := Bool.eq_false_iff.mpr c18
                  subst c18
                  have H1 : (if x12_2 = true then (heliastlaw16_SplitChains.l1 k2 t173 t176 t179 x10_1 t194 true (wrap64 (x13_2 + 1))) else (heliastlaw16_SplitChains.l1 k2 t173 t176 t179 x10_1 t194 (!t194) (wrap64 (x13_2 + 1)))) = some r := by rw [if_neg (show ¬ (false = true) by decide)] at H; exact H
                  clear H
                  have H := H1
                  clear H1
                  by_cases c28 : x12_2 = true
                  · subst c28
                    have H1 : (heliastlaw16_SplitChains.l1 k2 t173 t176 t179 x10_1 t194 true (wrap64 (x13_2 + 1))) = some r := by rw [if_pos rfl] at H; exact H
                    clear H
                    have H := H1
                    clear H1
                    have H' := Aside0.mk H
                    clear H
                    have p187 : 0 ≤ (x13_2 : Int) := of_decide_eq_true (by first | (with_reducible assumption) | assumption)
                    have q187 : x13_2 < (t176.length : Int) := of_decide_eq_true (by first | (with_reducible assumption) | assumption)
                    obtain ⟨ad187, A187_0, c187_0, e187, hx187_0, hl187_0, hi187_0⟩ := at_L4 (Kd.N_reads' HO_8.out).2.2 x13_2 p187 q187
                    cases e187
                    obtain ⟨ce187, hce187, hMe187, hcc187⟩ := Kd.N_get HO_8.out [] x13_2 p187 (by first | exact q187 | exact of_decide_eq_true (by first | (with_reducible assumption) | assumption) | (have e_ := (Kd.N_reads' HO_8.out).1; omega))
                    obtain ⟨ua187_0, uc187_0, rfl, ul187_0, ge187_0⟩ := Kd.FK_slice_open hMe187
                    have hv187_0 := hcc187 0 _ rfl
                    rw [Nat.add_zero, show ((Kd.slice 69 k69)).sz = 1 from rfl, Nat.mul_one] at hv187_0
                    replace hv187_0 := Option.some.inj (hv187_0.symm.trans hx187_0)
                    injection hv187_0 with hva_ hvn_ hvc_
                    rw [hva_] at ge187_0
                    rw [hvc_] at ul187_0
                    have HL187_0 := Aside0.mk (show Kd.V k69 69 _ w.heap.size _ _ (rd_L4 t176 x13_2) from Kd.V_mk ul187_0 ge187_0)
                    clear hva_ hvn_ hvc_ ge187_0 ul187_0
                    clear hcc187 hce187
                    have HR187_0 := Aside0.mk hi187_0
                    have HC187_0 := Aside0.mk hl187_0
                    clear hi187_0 hl187_0
                    replace p187 := eq_true p187
                    replace q187 := eq_true q187
                    go_wp2_with (first | ((with_reducible refine gate_callee (f := 34) rfl ?_); refine goesL_ (some 42) rfl rfl Try.func34 (by kernel_rfl) rfl #[.slice A187_0 (rd_L4 t176 x13_2).length c187_0] rfl (by (try simp only [List.map_toArray, List.map_cons, List.map_nil]); first | done | rfl | (simp only [List.length_drop, List.length_take]; rfl)) ?_; (with_reducible refine (state_Places.calls _ _ (rd_L4 t176 x13_2) t188 _ ?side1 ?side2 A15.out).mono ?_); (case side1 => repeat (first | exact (by repeat (first | (with_reducible exact HR187_0.out) | (with_reducible refine Kd.C_alloc ?_ _) | (with_reducible refine Kd.C_drewN ?_ _) | (with_reducible refine Kd.C_drew ?_) | exact HR187_0.out)) | (with_reducible refine Kd.C_alloc ?_ _) | (with_reducible refine Kd.C_drewN ?_ _) | (with_reducible refine Kd.C_drew ?_))); (case side2 => exact HC187_0.out); rintro e w29 ⟨v189, rfl, ho0, hb⟩; refine ⟨_, rfl, ?_⟩; have n0_ := Aside0.mk (Kd.N_elder' (by (with_reducible repeat (first | apply Kd.N_alloc | apply Kd.N_drewN | apply Kd.N_drew)); exact HO_7.out) (Kd.R_base ho0) hb); have n1_ := Aside0.mk (Kd.N_elder' (by (with_reducible repeat (first | apply Kd.N_alloc | apply Kd.N_drewN | apply Kd.N_drew)); exact HO_8.out) (Kd.R_base ho0) hb); have n2_ := Aside0.mk (Kd.R_elder' (by (with_reducible repeat (first | apply Kd.R_alloc | apply Kd.R_drewN | apply Kd.R_drew)); exact HO_9.out) (Kd.R_base ho0) hb); have n3_ := Aside0.mk (Kd.V_elder' (by (with_reducible repeat (first | apply Kd.V_alloc | apply Kd.V_drewN | apply Kd.V_drew)); exact HL187_0.out) (Kd.R_base ho0) hb); have n4_ := Aside0.mk (Kd.R_lower (Kd.R_new' ho0 (Kd.R_lt (by (with_reducible repeat (first | apply Kd.R_alloc | apply Kd.R_drewN | apply Kd.R_drew)); exact HO_9.out))) (below_size (by repeat (first | (with_reducible first | exact HB.out | apply below_alloc | apply pw_below_drewN | apply below_drew1) | exact HB.out)))); have n5_ := Aside0.mk (Kd.C_below (by repeat (first | (with_reducible exact HR187_0.out) | (with_reducible refine Kd.C_alloc ?_ _) | (with_reducible refine Kd.C_drewN ?_ _) | (with_reducible refine Kd.C_drew ?_) | exact HR187_0.out)) hb); have n6_ := Aside0.mk (below_step (by repeat (first | (with_reducible first | exact HB.out | apply below_alloc | apply pw_below_drewN | apply below_drew1) | exact HB.out)) hb); clear HO_7; clear HO_8; clear HO_9; clear HL187_0; clear HR187_0; clear HB; have HO_7 := n0_; have HO_8 := n1_; have HO_9 := n2_; have HL187_0 := n3_; have HO190 := n4_; have HR187_0 := n5_; have HB := n6_; clear n0_ n1_ n2_ n3_ n4_ n5_ n6_; (try clear hb); (try clear hb2); (try clear hk); (try clear hi); (try clear ho0); obtain ⟨Ao30, co30, eo30⟩ := Kd.R_slice HO190.out; subst eo30) | ((with_reducible refine gate_callee (f := 39) rfl ?_); refine goesL_ (some 43) rfl rfl Try.func39 (by kernel_rfl) rfl #[.slice Ao8 t173.length co8, .slice Ao30 t188.length co30] rfl (by (try simp only [List.map_toArray, List.map_cons, List.map_nil]); first | done | rfl | (simp only [List.length_drop, List.length_take]; rfl)) ?_; (with_reducible refine (graph_Reach.calls _ _ t173 _ _ t188 t191 _ ?side1 ?side2 ?side3 ?side4 A16.out).mono ?_); (case side1 => repeat (first | exact (Kd.N_reads' HO_7.out).2.2 | (with_reducible refine Kd.C_alloc ?_ _) | (with_reducible refine Kd.C_drewN ?_ _) | (with_reducible refine Kd.C_drew ?_))); (case side2 => exact (Kd.N_reads' HO_7.out).2.1); (case side3 => repeat (first | exact (Kd.R_reads' HO190.out).2.2 | (with_reducible refine Kd.C_alloc ?_ _) | (with_reducible refine Kd.C_drewN ?_ _) | (with_reducible refine Kd.C_drew ?_))); (case side4 => exact (Kd.R_reads' HO190.out).2.1); rintro e w31 ⟨v192, rfl, ho0, hb⟩; refine ⟨_, rfl, ?_⟩; have n0_ := Aside0.mk (Kd.N_elder' (by (with_reducible repeat (first | apply Kd.N_alloc | apply Kd.N_drewN | apply Kd.N_drew)); exact HO_7.out) (Kd.R_base ho0) hb); have n1_ := Aside0.mk (Kd.N_elder' (by (with_reducible repeat (first | apply Kd.N_alloc | apply Kd.N_drewN | apply Kd.N_drew)); exact HO_8.out) (Kd.R_base ho0) hb); have n2_ := Aside0.mk (Kd.R_elder' (by (with_reducible repeat (first | apply Kd.R_alloc | apply Kd.R_drewN | apply Kd.R_drew)); exact HO_9.out) (Kd.R_base ho0) hb); have n3_ := Aside0.mk (Kd.V_elder' (by (with_reducible repeat (first | apply Kd.V_alloc | apply Kd.V_drewN | apply Kd.V_drew)); exact HL187_0.out) (Kd.R_base ho0) hb); have n4_ := Aside0.mk (Kd.R_elder' (by (with_reducible repeat (first | apply Kd.R_alloc | apply Kd.R_drewN | apply Kd.R_drew)); exact HO190.out) (Kd.R_base ho0) hb); have n5_ := Aside0.mk (Kd.R_lower (Kd.R_new' (Kd.R_new' ho0 (Kd.R_lt (by (with_reducible repeat (first | apply Kd.R_alloc | apply Kd.R_drewN | apply Kd.R_drew)); exact HO_9.out))) (Kd.R_lt (by (with_reducible repeat (first | apply Kd.R_alloc | apply Kd.R_drewN | apply Kd.R_drew)); exact HO190.out))) (below_size (by repeat (first | (with_reducible first | exact HB.out | apply below_alloc | apply pw_below_drewN | apply below_drew1) | exact HB.out)))); have n6_ := Aside0.mk (Kd.C_below (by repeat (first | (with_reducible exact HR187_0.out) | (with_reducible refine Kd.C_alloc ?_ _) | (with_reducible refine Kd.C_drewN ?_ _) | (with_reducible refine Kd.C_drew ?_) | exact HR187_0.out)) hb); have n7_ := Aside0.mk (below_step (by repeat (first | (with_reducible first | exact HB.out | apply below_alloc | apply pw_below_drewN | apply below_drew1) | exact HB.out)) hb); clear HO_7; clear HO_8; clear HO_9; clear HL187_0; clear HO190; clear HR187_0; clear HB; have HO_7 := n0_; have HO_8 := n1_; have HO_9 := n2_; have HL187_0 := n3_; have HO190 := n4_; have HO193 := n5_; have HR187_0 := n6_; have HB := n7_; clear n0_ n1_ n2_ n3_ n4_ n5_ n6_ n7_; (try clear hb); (try clear hb2); (try clear hk); (try clear hi); (try clear ho0); obtain ⟨Ao32, co32, eo32⟩ := Kd.R_slice HO193.out; subst eo32) | ((with_reducible refine gate_callee (f := 33) rfl ?_); refine goesL_ (some 45) rfl rfl Try.func33 (by kernel_rfl) rfl #[.slice Ao32 t191.length co32, .int .i64 x10_1] rfl (by (try simp only [List.map_toArray, List.map_cons, List.map_nil]); first | done | rfl | (simp only [List.length_drop, List.length_take]; rfl)) ?_; (with_reducible refine (heliastref12_Has.calls k2 _ _ t191 x10_1 t194 _ ?side1 ?side2 A17.out).mono ?_); (case side1 => repeat (first | exact (Kd.R_reads' HO193.out).2.2 | (with_reducible refine Kd.C_alloc ?_ _) | (with_reducible refine Kd.C_drewN ?_ _) | (with_reducible refine Kd.C_drew ?_))); (case side2 => exact (Kd.R_reads' HO193.out).2.1); rintro e w' ⟨rfl, ⟨nd, rfl⟩⟩; refine ⟨_, rfl, ?_⟩))
                    go_roundg k2
                    case measure => have := HK1.out; have := HK2.out; omega
                    case rel => exact ⟨(t194), (true), (wrap64 (x13_2 + 1)), (by first | rfl | (simp; done) | (simp [*]; done)), (by first | rfl | (simp; done) | (simp [*]; done)), (by first | rfl | (simp; done) | (simp [*]; done)), H', ⟨by have := HK1.out; have := HK2.out; omega⟩, ⟨by (with_reducible repeat (first | apply Kd.N_alloc | apply Kd.N_drewN | apply Kd.N_drew)); exact Kd.N_mono HO_7.out (fun _ hk => ⟨hk.1.1.1, hk.1.1.2⟩)⟩, ⟨by (with_reducible repeat (first | apply Kd.N_alloc | apply Kd.N_drewN | apply Kd.N_drew)); exact Kd.N_mono HO_8.out (fun _ hk => ⟨hk.1.1.1, hk.1.1.2⟩)⟩, ⟨by (with_reducible repeat (first | apply Kd.R_alloc | apply Kd.R_drewN | apply Kd.R_drew)); exact Kd.R_mono HO_9.out (fun _ hk => trivial)⟩, ⟨by repeat (first | (with_reducible first | exact HB.out | apply below_alloc | apply pw_below_drewN | apply below_drew1) | exact HB.out)⟩⟩
                  · replace c28 := Bool.eq_false_iff.mpr c28
                    subst c28
                    have H1 : (heliastlaw16_SplitChains.l1 k2 t173 t176 t179 x10_1 t194 (!t194) (wrap64 (x13_2 + 1))) = some r := by rw [if_neg (show ¬ (false = true) by decide)] at H; exact H
                    clear H
                    have H := H1
                    clear H1
                    have H' := Aside0.mk H
                    clear H
                    have p187 : 0 ≤ (x13_2 : Int) := of_decide_eq_true (by first | (with_reducible assumption) | assumption)
                    have q187 : x13_2 < (t176.length : Int) := of_decide_eq_true (by first | (with_reducible assumption) | assumption)
                    obtain ⟨ad187, A187_0, c187_0, e187, hx187_0, hl187_0, hi187_0⟩ := at_L4 (Kd.N_reads' HO_8.out).2.2 x13_2 p187 q187
                    cases e187
                    obtain ⟨ce187, hce187, hMe187, hcc187⟩ := Kd.N_get HO_8.out [] x13_2 p187 (by first | exact q187 | exact of_decide_eq_true (by first | (with_reducible assumption) | assumption) | (have e_ := (Kd.N_reads' HO_8.out).1; omega))
                    obtain ⟨ua187_0, uc187_0, rfl, ul187_0, ge187_0⟩ := Kd.FK_slice_open hMe187
                    have hv187_0 := hcc187 0 _ rfl
                    rw [Nat.add_zero, show ((Kd.slice 69 k69)).sz = 1 from rfl, Nat.mul_one] at hv187_0
                    replace hv187_0 := Option.some.inj (hv187_0.symm.trans hx187_0)
                    injection hv187_0 with hva_ hvn_ hvc_
                    rw [hva_] at ge187_0
                    rw [hvc_] at ul187_0
                    have HL187_0 := Aside0.mk (show Kd.V k69 69 _ w.heap.size _ _ (rd_L4 t176 x13_2) from Kd.V_mk ul187_0 ge187_0)
                    clear hva_ hvn_ hvc_ ge187_0 ul187_0
                    clear hcc187 hce187
                    have HR187_0 := Aside0.mk hi187_0
                    have HC187_0 := Aside0.mk hl187_0
                    clear hi187_0 hl187_0
                    replace p187 := eq_true p187
                    replace q187 := eq_true q187
                    go_wp2_with (first | ((with_reducible refine gate_callee (f := 34) rfl ?_); refine goesL_ (some 42) rfl rfl Try.func34 (by kernel_rfl) rfl #[.slice A187_0 (rd_L4 t176 x13_2).length c187_0] rfl (by (try simp only [List.map_toArray, List.map_cons, List.map_nil]); first | done | rfl | (simp only [List.length_drop, List.length_take]; rfl)) ?_; (with_reducible refine (state_Places.calls _ _ (rd_L4 t176 x13_2) t188 _ ?side1 ?side2 A15.out).mono ?_); (case side1 => repeat (first | exact (by repeat (first | (with_reducible exact HR187_0.out) | (with_reducible refine Kd.C_alloc ?_ _) | (with_reducible refine Kd.C_drewN ?_ _) | (with_reducible refine Kd.C_drew ?_) | exact HR187_0.out)) | (with_reducible refine Kd.C_alloc ?_ _) | (with_reducible refine Kd.C_drewN ?_ _) | (with_reducible refine Kd.C_drew ?_))); (case side2 => exact HC187_0.out); rintro e w33 ⟨v189, rfl, ho0, hb⟩; refine ⟨_, rfl, ?_⟩; have n0_ := Aside0.mk (Kd.N_elder' (by (with_reducible repeat (first | apply Kd.N_alloc | apply Kd.N_drewN | apply Kd.N_drew)); exact HO_7.out) (Kd.R_base ho0) hb); have n1_ := Aside0.mk (Kd.N_elder' (by (with_reducible repeat (first | apply Kd.N_alloc | apply Kd.N_drewN | apply Kd.N_drew)); exact HO_8.out) (Kd.R_base ho0) hb); have n2_ := Aside0.mk (Kd.R_elder' (by (with_reducible repeat (first | apply Kd.R_alloc | apply Kd.R_drewN | apply Kd.R_drew)); exact HO_9.out) (Kd.R_base ho0) hb); have n3_ := Aside0.mk (Kd.V_elder' (by (with_reducible repeat (first | apply Kd.V_alloc | apply Kd.V_drewN | apply Kd.V_drew)); exact HL187_0.out) (Kd.R_base ho0) hb); have n4_ := Aside0.mk (Kd.R_lower (Kd.R_new' ho0 (Kd.R_lt (by (with_reducible repeat (first | apply Kd.R_alloc | apply Kd.R_drewN | apply Kd.R_drew)); exact HO_9.out))) (below_size (by repeat (first | (with_reducible first | exact HB.out | apply below_alloc | apply pw_below_drewN | apply below_drew1) | exact HB.out)))); have n5_ := Aside0.mk (Kd.C_below (by repeat (first | (with_reducible exact HR187_0.out) | (with_reducible refine Kd.C_alloc ?_ _) | (with_reducible refine Kd.C_drewN ?_ _) | (with_reducible refine Kd.C_drew ?_) | exact HR187_0.out)) hb); have n6_ := Aside0.mk (below_step (by repeat (first | (with_reducible first | exact HB.out | apply below_alloc | apply pw_below_drewN | apply below_drew1) | exact HB.out)) hb); clear HO_7; clear HO_8; clear HO_9; clear HL187_0; clear HR187_0; clear HB; have HO_7 := n0_; have HO_8 := n1_; have HO_9 := n2_; have HL187_0 := n3_; have HO190 := n4_; have HR187_0 := n5_; have HB := n6_; clear n0_ n1_ n2_ n3_ n4_ n5_ n6_; (try clear hb); (try clear hb2); (try clear hk); (try clear hi); (try clear ho0); obtain ⟨Ao34, co34, eo34⟩ := Kd.R_slice HO190.out; subst eo34) | ((with_reducible refine gate_callee (f := 39) rfl ?_); refine goesL_ (some 43) rfl rfl Try.func39 (by kernel_rfl) rfl #[.slice Ao8 t173.length co8, .slice Ao34 t188.length co34] rfl (by (try simp only [List.map_toArray, List.map_cons, List.map_nil]); first | done | rfl | (simp only [List.length_drop, List.length_take]; rfl)) ?_; (with_reducible refine (graph_Reach.calls _ _ t173 _ _ t188 t191 _ ?side1 ?side2 ?side3 ?side4 A16.out).mono ?_); (case side1 => repeat (first | exact (Kd.N_reads' HO_7.out).2.2 | (with_reducible refine Kd.C_alloc ?_ _) | (with_reducible refine Kd.C_drewN ?_ _) | (with_reducible refine Kd.C_drew ?_))); (case side2 => exact (Kd.N_reads' HO_7.out).2.1); (case side3 => repeat (first | exact (Kd.R_reads' HO190.out).2.2 | (with_reducible refine Kd.C_alloc ?_ _) | (with_reducible refine Kd.C_drewN ?_ _) | (with_reducible refine Kd.C_drew ?_))); (case side4 => exact (Kd.R_reads' HO190.out).2.1); rintro e w35 ⟨v192, rfl, ho0, hb⟩; refine ⟨_, rfl, ?_⟩; have n0_ := Aside0.mk (Kd.N_elder' (by (with_reducible repeat (first | apply Kd.N_alloc | apply Kd.N_drewN | apply Kd.N_drew)); exact HO_7.out) (Kd.R_base ho0) hb); have n1_ := Aside0.mk (Kd.N_elder' (by (with_reducible repeat (first | apply Kd.N_alloc | apply Kd.N_drewN | apply Kd.N_drew)); exact HO_8.out) (Kd.R_base ho0) hb); have n2_ := Aside0.mk (Kd.R_elder' (by (with_reducible repeat (first | apply Kd.R_alloc | apply Kd.R_drewN | apply Kd.R_drew)); exact HO_9.out) (Kd.R_base ho0) hb); have n3_ := Aside0.mk (Kd.V_elder' (by (with_reducible repeat (first | apply Kd.V_alloc | apply Kd.V_drewN | apply Kd.V_drew)); exact HL187_0.out) (Kd.R_base ho0) hb); have n4_ := Aside0.mk (Kd.R_elder' (by (with_reducible repeat (first | apply Kd.R_alloc | apply Kd.R_drewN | apply Kd.R_drew)); exact HO190.out) (Kd.R_base ho0) hb); have n5_ := Aside0.mk (Kd.R_lower (Kd.R_new' (Kd.R_new' ho0 (Kd.R_lt (by (with_reducible repeat (first | apply Kd.R_alloc | apply Kd.R_drewN | apply Kd.R_drew)); exact HO_9.out))) (Kd.R_lt (by (with_reducible repeat (first | apply Kd.R_alloc | apply Kd.R_drewN | apply Kd.R_drew)); exact HO190.out))) (below_size (by repeat (first | (with_reducible first | exact HB.out | apply below_alloc | apply pw_below_drewN | apply below_drew1) | exact HB.out)))); have n6_ := Aside0.mk (Kd.C_below (by repeat (first | (with_reducible exact HR187_0.out) | (with_reducible refine Kd.C_alloc ?_ _) | (with_reducible refine Kd.C_drewN ?_ _) | (with_reducible refine Kd.C_drew ?_) | exact HR187_0.out)) hb); have n7_ := Aside0.mk (below_step (by repeat (first | (with_reducible first | exact HB.out | apply below_alloc | apply pw_below_drewN | apply below_drew1) | exact HB.out)) hb); clear HO_7; clear HO_8; clear HO_9; clear HL187_0; clear HO190; clear HR187_0; clear HB; have HO_7 := n0_; have HO_8 := n1_; have HO_9 := n2_; have HL187_0 := n3_; have HO190 := n4_; have HO193 := n5_; have HR187_0 := n6_; have HB := n7_; clear n0_ n1_ n2_ n3_ n4_ n5_ n6_ n7_; (try clear hb); (try clear hb2); (try clear hk); (try clear hi); (try clear ho0); obtain ⟨Ao36, co36, eo36⟩ := Kd.R_slice HO193.out; subst eo36) | ((with_reducible refine gate_callee (f := 33) rfl ?_); refine goesL_ (some 45) rfl rfl Try.func33 (by kernel_rfl) rfl #[.slice Ao36 t191.length co36, .int .i64 x10_1] rfl (by (try simp only [List.map_toArray, List.map_cons, List.map_nil]); first | done | rfl | (simp only [List.length_drop, List.length_take]; rfl)) ?_; (with_reducible refine (heliastref12_Has.calls k2 _ _ t191 x10_1 t194 _ ?side1 ?side2 A17.out).mono ?_); (case side1 => repeat (first | exact (Kd.R_reads' HO193.out).2.2 | (with_reducible refine Kd.C_alloc ?_ _) | (with_reducible refine Kd.C_drewN ?_ _) | (with_reducible refine Kd.C_drew ?_))); (case side2 => exact (Kd.R_reads' HO193.out).2.1); rintro e w' ⟨rfl, ⟨nd, rfl⟩⟩; refine ⟨_, rfl, ?_⟩))
                    go_roundg k2
                    case measure => have := HK1.out; have := HK2.out; omega
                    case rel => exact ⟨(t194), (!t194), (wrap64 (x13_2 + 1)), (by first | rfl | (simp; done) | (simp [*]; done)), (by first | rfl | (simp; done) | (simp [*]; done)), (by first | rfl | (simp; done) | (simp [*]; done)), H', ⟨by have := HK1.out; have := HK2.out; omega⟩, ⟨by (with_reducible repeat (first | apply Kd.N_alloc | apply Kd.N_drewN | apply Kd.N_drew)); exact Kd.N_mono HO_7.out (fun _ hk => ⟨hk.1.1.1, hk.1.1.2⟩)⟩, ⟨by (with_reducible repeat (first | apply Kd.N_alloc | apply Kd.N_drewN | apply Kd.N_drew)); exact Kd.N_mono HO_8.out (fun _ hk => ⟨hk.1.1.1, hk.1.1.2⟩)⟩, ⟨by (with_reducible repeat (first | apply Kd.R_alloc | apply Kd.R_drewN | apply Kd.R_drew)); exact Kd.R_mono HO_9.out (fun _ hk => trivial)⟩, ⟨by repeat (first | (with_reducible first | exact HB.out | apply below_alloc | apply pw_below_drewN | apply below_drew1) | exact HB.out)⟩⟩
              · rw [if_neg c14] at H
                exact absurd H (by simp)
            · rw [if_neg c13] at H
              have c13b0 : decide (x13_2 < (t176.length : Int)) = false := decide_eq_false c13
              clear c13
              replace H := Option.bind_eq_some_iff.mp H
              obtain ⟨t195, A370, H⟩ := H
              replace H : (if x11_2 = true then (if (t195 != x12_2) = true then (some false) else (heliastlaw16_SplitChains.l0 k2 t173 t176 t179 (wrap64 (x10_1 + 1)))) else (if (t195 != false) = true then (some false) else (heliastlaw16_SplitChains.l0 k2 t173 t176 t179 (wrap64 (x10_1 + 1))))) = some r := H
              have A37 := Aside0.mk A370
              clear A370
              by_cases c38 : x11_2 = true
              · subst c38
                have H1 : (if (t195 != x12_2) = true then (some false) else (heliastlaw16_SplitChains.l0 k2 t173 t176 t179 (wrap64 (x10_1 + 1)))) = some r := by rw [if_pos rfl] at H; exact H
                clear H
                have H := H1
                clear H1
                by_cases c39 : (t195 != x12_2) = true
                · rw [if_pos c39] at H
                  have c39b0 : (t195 != x12_2) = true := c39
                  (try (have c39b1 : decide (t195 = x12_2) = false := by simpa using c39))
                  (try (have c39b2 : (t195 == x12_2) = false := by simpa using c39))
                  (try (have c39b3 : ¬ (t195 = x12_2) := by simpa using c39))
                  clear c39
                  exact absurd ((Option.some.inj H).trans HLAW.out) (by decide)
                · rw [if_neg c39] at H
                  have c39b0 : (t195 != x12_2) = false := by simpa using c39
                  (try (have c39b1 : decide (t195 = x12_2) = true := by simpa using c39))
                  (try (have c39b2 : (t195 == x12_2) = true := by simpa using c39))
                  clear c39
                  have H' := Aside0.mk H
                  clear H
                  obtain ⟨Ao40, co40, eo40⟩ := Kd.R_slice HO_9.out
                  subst eo40
                  go_wp2_with (first | ((with_reducible refine gate_callee (f := 33) rfl ?_); refine goesL_ (some 57) rfl rfl Try.func33 (by kernel_rfl) rfl #[.slice Ao40 t179.length co40, .int .i64 x10_1] rfl (by (try simp only [List.map_toArray, List.map_cons, List.map_nil]); first | done | rfl | (simp only [List.length_drop, List.length_take]; rfl)) ?_; (with_reducible refine (heliastref12_Has.calls k2 _ _ t179 x10_1 t195 _ ?side1 ?side2 A37.out).mono ?_); (case side1 => repeat (first | exact (Kd.R_reads' HO_9.out).2.2 | (with_reducible refine Kd.C_alloc ?_ _) | (with_reducible refine Kd.C_drewN ?_ _) | (with_reducible refine Kd.C_drew ?_))); (case side2 => exact (Kd.R_reads' HO_9.out).2.1); rintro e w' ⟨rfl, ⟨nd, rfl⟩⟩; refine ⟨_, rfl, ?_⟩))
                  go_roundg k2
                  case measure => have := HK1.out; have := HK2.out; omega
                  case rel => exact ⟨(wrap64 (x10_1 + 1)), (by first | rfl | (simp; done) | (simp [*]; done)), H', ⟨by have := HK1.out; have := HK2.out; omega⟩, ⟨by (with_reducible repeat (first | apply Kd.N_alloc | apply Kd.N_drewN | apply Kd.N_drew)); exact HO_7.out⟩, ⟨by (with_reducible repeat (first | apply Kd.N_alloc | apply Kd.N_drewN | apply Kd.N_drew)); exact HO_8.out⟩, ⟨by (with_reducible repeat (first | apply Kd.R_alloc | apply Kd.R_drewN | apply Kd.R_drew)); exact HO_9.out⟩, ⟨by repeat (first | (with_reducible first | exact HB.out | apply below_alloc | apply pw_below_drewN | apply below_drew1) | exact HB.out)⟩⟩
              · replace c38 := Bool.eq_false_iff.mpr c38
                subst c38
                have H1 : (if (t195 != false) = true then (some false) else (heliastlaw16_SplitChains.l0 k2 t173 t176 t179 (wrap64 (x10_1 + 1)))) = some r := by rw [if_neg (show ¬ (false = true) by decide)] at H; exact H
                clear H
                have H := H1
                clear H1
                by_cases c41 : (t195 != false) = true
                · rw [if_pos c41] at H
                  have c41b0 : (t195 != false) = true := c41
                  (try (have c41b1 : decide (t195 = false) = false := by simpa using c41))
                  (try (have c41b2 : (t195 == false) = false := by simpa using c41))
                  (try (have c41b3 : ¬ (t195 = false) := by simpa using c41))
                  clear c41
                  exact absurd ((Option.some.inj H).trans HLAW.out) (by decide)
                · rw [if_neg c41] at H
                  have c41b0 : (t195 != false) = false := by simpa using c41
                  (try (have c41b1 : decide (t195 = false) = true := by simpa using c41))
                  (try (have c41b2 : (t195 == false) = true := by simpa using c41))
                  clear c41
                  have H' := Aside0.mk H
                  clear H
                  obtain ⟨Ao42, co42, eo42⟩ := Kd.R_slice HO_9.out
                  subst eo42
                  go_wp2_with (first | ((with_reducible refine gate_callee (f := 33) rfl ?_); refine goesL_ (some 57) rfl rfl Try.func33 (by kernel_rfl) rfl #[.slice Ao42 t179.length co42, .int .i64 x10_1] rfl (by (try simp only [List.map_toArray, List.map_cons, List.map_nil]); first | done | rfl | (simp only [List.length_drop, List.length_take]; rfl)) ?_; (with_reducible refine (heliastref12_Has.calls k2 _ _ t179 x10_1 t195 _ ?side1 ?side2 A37.out).mono ?_); (case side1 => repeat (first | exact (Kd.R_reads' HO_9.out).2.2 | (with_reducible refine Kd.C_alloc ?_ _) | (with_reducible refine Kd.C_drewN ?_ _) | (with_reducible refine Kd.C_drew ?_))); (case side2 => exact (Kd.R_reads' HO_9.out).2.1); rintro e w' ⟨rfl, ⟨nd, rfl⟩⟩; refine ⟨_, rfl, ?_⟩))
                  go_roundg k2
                  case measure => have := HK1.out; have := HK2.out; omega
                  case rel => exact ⟨(wrap64 (x10_1 + 1)), (by first | rfl | (simp; done) | (simp [*]; done)), H', ⟨by have := HK1.out; have := HK2.out; omega⟩, ⟨by (with_reducible repeat (first | apply Kd.N_alloc | apply Kd.N_drewN | apply Kd.N_drew)); exact HO_7.out⟩, ⟨by (with_reducible repeat (first | apply Kd.N_alloc | apply Kd.N_drewN | apply Kd.N_drew)); exact HO_8.out⟩, ⟨by (with_reducible repeat (first | apply Kd.R_alloc | apply Kd.R_drewN | apply Kd.R_drew)); exact HO_9.out⟩, ⟨by repeat (first | (with_reducible first | exact HB.out | apply below_alloc | apply pw_below_drewN | apply below_drew1) | exact HB.out)⟩⟩
      · rw [if_neg c12] at H
        have c12b0 : decide (x10_1 < (t173.length : Int)) = false := decide_eq_false c12
        clear c12
        replace H := Option.bind_eq_some_iff.mp H
        obtain ⟨t182, A430, H⟩ := H
        replace H : (if t182 = true then ((heliastref12_Set.f k1 t173 t179).bind fun t183 => ((heliastref12_Same.f k1 t183 t179).bind fun t186 => (some t186))) else (some false)) = some r := H
        have A43 := Aside0.mk A430
        clear A430
        by_cases c44 : t182 = true
        · subst c44
          have H1 : ((heliastref12_Set.f k1 t173 t179).bind fun t183 => ((heliastref12_Same.f k1 t183 t179).bind fun t186 => (some t186))) = some r := by rw [if_pos rfl] at H; exact H
          clear H
          have H := H1
          clear H1
          replace H := Option.bind_eq_some_iff.mp H
          obtain ⟨t183, A450, H⟩ := H
          replace H : ((heliastref12_Same.f k1 t183 t179).bind fun t186 => (some t186)) = some r := H
          have A45 := Aside0.mk A450
          clear A450
          replace H := Option.bind_eq_some_iff.mp H
          obtain ⟨t186, A460, H⟩ := H
          replace H : (some t186) = some r := H
          have A46 := Aside0.mk A460
          clear A460
          obtain rfl := Option.some.inj H
          go_wp2_with (first | ((with_reducible refine gate_callee (f := 35) rfl ?_); refine goesL_ (some 63) rfl rfl Try.func35 (by kernel_rfl) rfl #[] rfl (by (try simp only [List.map_toArray, List.map_cons, List.map_nil]); first | done | rfl | (simp only [List.length_drop, List.length_take]; rfl)) ?_; (with_reducible refine (heliastlaw16_known.calls  true _ A43.out).mono ?_); rintro e w47 ⟨rfl, hb⟩; refine ⟨_, rfl, ?_⟩; have n0_ := Aside0.mk (Kd.N_below (by (with_reducible repeat (first | apply Kd.N_alloc | apply Kd.N_drewN | apply Kd.N_drew)); exact HO_7.out) hb); have n1_ := Aside0.mk (Kd.N_below (by (with_reducible repeat (first | apply Kd.N_alloc | apply Kd.N_drewN | apply Kd.N_drew)); exact HO_8.out) hb); have n2_ := Aside0.mk (Kd.R_below (by (with_reducible repeat (first | apply Kd.R_alloc | apply Kd.R_drewN | apply Kd.R_drew)); exact HO_9.out) hb); have n3_ := Aside0.mk (below_step (by repeat (first | (with_reducible first | exact HB.out | apply below_alloc | apply pw_below_drewN | apply below_drew1) | exact HB.out)) hb); clear HO_7; clear HO_8; clear HO_9; clear HB; have HO_7 := n0_; have HO_8 := n1_; have HO_9 := n2_; have HB := n3_; clear n0_ n1_ n2_ n3_; (try clear hb); (try clear hb2); (try clear hk); (try clear hi); obtain ⟨Ao48, co48, eo48⟩ := Kd.R_slice HO_9.out; subst eo48) | (go_at_call 41; (with_reducible refine (heliastref12_Set.calls k1 _ _ t173 _ _ t179 t183 _ ?side1 ?side2 ?side3 ?side4 A45.out).mono ?_); (case side1 => repeat (first | exact (Kd.N_reads' HO_7.out).2.2 | (with_reducible refine Kd.C_alloc ?_ _) | (with_reducible refine Kd.C_drewN ?_ _) | (with_reducible refine Kd.C_drew ?_))); (case side2 => exact (Kd.N_reads' HO_7.out).2.1); (case side3 => repeat (first | exact (Kd.R_reads' HO_9.out).2.2 | (with_reducible refine Kd.C_alloc ?_ _) | (with_reducible refine Kd.C_drewN ?_ _) | (with_reducible refine Kd.C_drew ?_))); (case side4 => exact (Kd.R_reads' HO_9.out).2.1); rintro e w49 ⟨v184, rfl, ho0, hb⟩; have n0_ := Aside0.mk (Kd.N_elder' (by (with_reducible repeat (first | apply Kd.N_alloc | apply Kd.N_drewN | apply Kd.N_drew)); exact HO_7.out) (Kd.R_base ho0) hb); have n1_ := Aside0.mk (Kd.N_elder' (by (with_reducible repeat (first | apply Kd.N_alloc | apply Kd.N_drewN | apply Kd.N_drew)); exact HO_8.out) (Kd.R_base ho0) hb); have n2_ := Aside0.mk (Kd.R_elder' (by (with_reducible repeat (first | apply Kd.R_alloc | apply Kd.R_drewN | apply Kd.R_drew)); exact HO_9.out) (Kd.R_base ho0) hb); have n3_ := Aside0.mk (Kd.R_lower (Kd.R_new' ho0 (Kd.R_lt (by (with_reducible repeat (first | apply Kd.R_alloc | apply Kd.R_drewN | apply Kd.R_drew)); exact HO_9.out))) (below_size (by repeat (first | (with_reducible first | exact HB.out | apply below_alloc | apply pw_below_drewN | apply below_drew1) | exact HB.out)))); have n4_ := Aside0.mk (below_step (by repeat (first | (with_reducible first | exact HB.out | apply below_alloc | apply pw_below_drewN | apply below_drew1) | exact HB.out)) hb); clear HO_7; clear HO_8; clear HO_9; clear HB; have HO_7 := n0_; have HO_8 := n1_; have HO_9 := n2_; have HO185 := n3_; have HB := n4_; clear n0_ n1_ n2_ n3_ n4_; (try clear hb); (try clear hb2); (try clear hk); (try clear hi); (try clear ho0); obtain ⟨Ao50, co50, eo50⟩ := Kd.R_slice HO185.out; subst eo50) | (go_at_call 40; (with_reducible refine (heliastref12_Same.calls k1 _ _ t183 _ _ t179 t186 _ ?side1 ?side2 ?side3 ?side4 A46.out).mono ?_); (case side1 => repeat (first | exact (Kd.R_reads' HO185.out).2.2 | (with_reducible refine Kd.C_alloc ?_ _) | (with_reducible refine Kd.C_drewN ?_ _) | (with_reducible refine Kd.C_drew ?_))); (case side2 => exact (Kd.R_reads' HO185.out).2.1); (case side3 => repeat (first | exact (Kd.R_reads' HO_9.out).2.2 | (with_reducible refine Kd.C_alloc ?_ _) | (with_reducible refine Kd.C_drewN ?_ _) | (with_reducible refine Kd.C_drew ?_))); (case side4 => exact (Kd.R_reads' HO_9.out).2.1); rintro e w' ⟨rfl, ⟨nd, rfl⟩⟩))
          go_ret
          exact ⟨by first | rfl | (simp [errW_none, errW_some] <;> rfl) | (simp [*, errW_none, errW_some] <;> rfl), by repeat (first | (with_reducible first | exact HB.out | apply below_alloc | apply pw_below_drewN | apply below_drew1) | exact HB.out)⟩
        · replace c44 := Bool.eq_false_iff.mpr c44
          subst c44
          have H1 : (some false) = some r := by rw [if_neg (show ¬ (false = true) by decide)] at H; exact H
          clear H
          have H := H1
          clear H1
          exact absurd ((Option.some.inj H).trans HLAW.out) (by decide)

/-- THE ONE PURE STATEMENT of heliastlaw16_SplitChains: yours. -/
def heliastlaw16_SplitChains.Pure : Prop := ∀ (l0 : List Int) (l1 : List Int) (l2 : List Int), l0.length ≤ maxLen → l0.length * 1 ≤ 140737488351232 → (∀ x ∈ l0, (Lit.int .u8 x).wf = true) → l1.length ≤ maxLen → l1.length * 1 ≤ 140737488351232 → (∀ x ∈ l1, (Lit.int .u8 x).wf = true) → l2.length ≤ maxLen → l2.length * 1 ≤ 140737488351232 → (∀ x ∈ l2, (Lit.int .u8 x).wf = true) → ∃ k, heliastlaw16_SplitChains.f k l0 l1 l2 = some true
theorem heliastlaw16_SplitChains.walk (P : heliastlaw16_SplitChains.Pure) (a0 : Option Addr) (len0 cap0 : Nat) (z0 : List Int) (a1 : Option Addr) (len1 cap1 : Nat) (z1 : List Int) (a2 : Option Addr) (len2 cap2 : Nat) (z2 : List Int) (w : World) (w0 : (a0 = none ∧ len0 = 0 ∧ cap0 = 0 ∧ z0 = []) ∨ ∃ x, a0 = some x ∧ len0 ≤ cap0 ∧ cap0 ≤ maxLen ∧ z0.length = cap0 ∧ (∀ i, i < z0.length → w.cell? (x.add i) = some (.int .u8 (z0.getD i 0))) ∧ ∀ n ∈ z0, (Lit.int .u8 n).wf = true) (y0 : len0 * 1 ≤ 140737488351232) (w1 : (a1 = none ∧ len1 = 0 ∧ cap1 = 0 ∧ z1 = []) ∨ ∃ x, a1 = some x ∧ len1 ≤ cap1 ∧ cap1 ≤ maxLen ∧ z1.length = cap1 ∧ (∀ i, i < z1.length → w.cell? (x.add i) = some (.int .u8 (z1.getD i 0))) ∧ ∀ n ∈ z1, (Lit.int .u8 n).wf = true) (y1 : len1 * 1 ≤ 140737488351232) (w2 : (a2 = none ∧ len2 = 0 ∧ cap2 = 0 ∧ z2 = []) ∨ ∃ x, a2 = some x ∧ len2 ≤ cap2 ∧ cap2 ≤ maxLen ∧ z2.length = cap2 ∧ (∀ i, i < z2.length → w.cell? (x.add i) = some (.int .u8 (z2.getD i 0))) ∧ ∀ n ∈ z2, (Lit.int .u8 n).wf = true) (y2 : len2 * 1 ≤ 140737488351232) :
    Calls Try.prog 8 #[.slice a0 len0 cap0, .slice a1 len1 cap1, .slice a2 len2 cap2] w fun e w' => e = .returned (.bool true) ∧ Below w.heap.size w w' := by
  obtain ⟨l0, rfl, hr0, hm0, hw0, hc0⟩ := ReadsInt.ofRowC w0
  obtain ⟨l1, rfl, hr1, hm1, hw1, hc1⟩ := ReadsInt.ofRowC w1
  obtain ⟨l2, rfl, hr2, hm2, hw2, hc2⟩ := ReadsInt.ofRowC w2
  obtain ⟨k, h⟩ := P l0 l1 l2 hm0 y0 hw0 hm1 y1 hw1 hm2 y2 hw2
  refine (heliastlaw16_SplitChains.calls k _ _ l0 _ _ l1 _ _ l2 true w (Kd.C_of_reads (d := (0 : Int)) (h1 := fun _ => rfl) hr0) hc0 (Kd.C_of_reads (d := (0 : Int)) (h1 := fun _ => rfl) hr1) hc1 (Kd.C_of_reads (d := (0 : Int)) (h1 := fun _ => rfl) hr2) hc2 h rfl).mono ?_
  rintro e w' ⟨rfl, hd⟩
  exact ⟨rfl, hd⟩

end Go.Proofs.Ytmmalieacakcbaa.S

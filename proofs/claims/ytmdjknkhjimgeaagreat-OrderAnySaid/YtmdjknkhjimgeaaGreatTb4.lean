/- Parts of the walk and of the plain law, joined for this claim alone by a program of this session. -/
import Derived.Sort.LoopGhostIn
import Derived.Test.YtmdjknkhjimgeaaGreatTb1
import Derived.Test.YtmdjknkhjimgeaaGreatTb0
import Derived.Test.YtmdjknkhjimgeaaGreatTb2
import Derived.Test.YtmdjknkhjimgeaaGreatTb3
section
namespace Go.Proofs.YtmdjknkhjimgeaaGreat.S
open Go.RowKit Go.Proofs.YtmdjknkhjimgeaaGreatW.PrintWords Go.Proofs.YtmdjknkhjimgeaaGreatW.PrintLast Go.Proofs.YtmdjknkhjimgeaaGreatW.PrintMore
attribute [local go_sem] max2_int min2_int max_two min_two max_three min_three max_four min_four
set_option linter.unusedVariables false
set_option linter.unusedSimpArgs false
open Go.Proofs.He
abbrev SE := S50
abbrev rdE (l : List SE) (i : Int) : SE := rd_T50 l i
def slotIs (l : List SE) (kind : ByteArray) (k : Int) : Bool := if 0 ≤ k then (if k < (l.length : Int) then (if (rdE l k).f3 = true then (if (rdE l k).f1 = kind then decide ((rdE l k).f2 = ⟨#[]⟩) else false) else false) else false) else false
def byF (l : List SE) (g : List (List Int)) (n : Int) (kind : ByteArray) : Int := if n < 0 ∨ n ≥ (l.length : Int) ∨ n ≥ (g.length : Int) then -1 else ((g.getD n.toNat []).find? (slotIs l kind)).getD (-1)
theorem byF_hit {l : List SE} {g : List (List Int)} {n : Int} {kind : ByteArray} (h : ¬ (n < 0 ∨ n ≥ (l.length : Int) ∨ n ≥ (g.length : Int))) {j : Nat} {x : Int} (hj : (g.getD n.toNat [])[j]? = some x) (hx : slotIs l kind x = true) (hn : ∀ (i : Nat) (y : Int), i < j → (g.getD n.toNat [])[i]? = some y → slotIs l kind y = false) : byF l g n kind = x := by
  unfold byF
  rw [if_neg h]
  obtain ⟨hl, e⟩ := List.getElem?_eq_some_iff.1 hj
  have : (g.getD n.toNat []).find? (slotIs l kind) = some x := by
    rw [List.find?_eq_some_iff_getElem]
    exact ⟨hx, j, hl, e, fun i hi => by rw [hn i _ hi (List.getElem?_eq_getElem (by omega))]; rfl⟩
  rw [this]; rfl
theorem byF_miss {l : List SE} {g : List (List Int)} {n : Int} {kind : ByteArray} (h : ¬ (n < 0 ∨ n ≥ (l.length : Int) ∨ n ≥ (g.length : Int))) (hn : ∀ (i : Nat) (y : Int), (g.getD n.toNat [])[i]? = some y → slotIs l kind y = false) : byF l g n kind = -1 := by
  unfold byF
  rw [if_neg h]
  have : (g.getD n.toNat []).find? (slotIs l kind) = none := by
    rw [List.find?_eq_none]
    intro x hx
    obtain ⟨i, hi⟩ := List.mem_iff_getElem?.1 hx
    rw [hn i x hi]; simp
  rw [this]; rfl
theorem byF_spec {l : List SE} {g : List (List Int)} {n : Int} {kind : ByteArray} : byF l g n kind = -1 ∨ (0 ≤ n ∧ n < l.length ∧ n < g.length ∧ byF l g n kind ∈ g.getD n.toNat [] ∧ slotIs l kind (byF l g n kind) = true) := by
  unfold byF
  split
  · exact .inl rfl
  · rename_i h
    cases e : (g.getD n.toNat []).find? (slotIs l kind) with
    | none => exact .inl rfl
    | some x => exact .inr ⟨by omega, by omega, by omega, List.mem_of_find?_eq_some e, List.find?_some e⟩
theorem slotIs_bd {l : List SE} {kind : ByteArray} {k : Int} (h : slotIs l kind k = true) : 0 ≤ k ∧ k < (l.length : Int) ∧ (rdE l k).f3 = true ∧ (rdE l k).f1 = kind ∧ (rdE l k).f2 = ⟨#[]⟩ := by
  unfold slotIs at h
  split at h
  · split at h
    · split at h
      · split at h
        · exact ⟨by assumption, by assumption, by assumption, by assumption, of_decide_eq_true h⟩
        · cases h
      · cases h
    · cases h
  · cases h
set_option maxHeartbeats 4000000 in
set_option maxRecDepth 100000 in
theorem order_By.walk (A0 : Option Addr) (c0 : Nat) (l : List SE) (A1 : Option Addr) (c1 : Nat) (g : List (List Int)) (n : Int) (kind : ByteArray) (w : World) (hr0 : Kd.C k50 w A0 l.length l) (hr1 : Kd.C (Kd.slice 3 (Kd.int .i64)) w A1 g.length g) :
    Calls Tryz.prog 36 #[.slice A0 l.length c0, .slice A1 g.length c1, .int .i64 n, .string kind] w fun e w' => e = .returned (.int .i64 (byF l g n kind)) ∧ w' = w := by
  have HR0 := Aside0.mk hr0
  have HR1 := Aside0.mk hr1
  have hl0 : l.length ≤ 9223372036854775807 := hr0.2.1
  have hl1 : g.length ≤ 9223372036854775807 := hr1.2.1
  clear hr0 hr1
  by_cases hc : n < 0 ∨ n ≥ (l.length : Int) ∨ n ≥ (g.length : Int)
  · have HV : Aside0 (byF l g n kind = -1) := ⟨by unfold byF; rw [if_pos hc]⟩
    by_cases h0 : n < 0
    · clear hc
      go_enter Tryz.func36, Tryz.ntmps36
      go_wp2
      go_ret
      exact ⟨by rw [HV.out]; rfl, rfl⟩
    · have hm : (if (g.length : Int) < (l.length : Int) then (g.length : Int) else (l.length : Int)) ≤ n := by split <;> omega
      by_cases hgl : (g.length : Int) < (l.length : Int)
      all_goals
        clear hc
        go_enter Tryz.func36, Tryz.ntmps36
        go_wp2
        go_ret
        exact ⟨by rw [HV.out]; rfl, rfl⟩
  · have h0 : ¬ n < 0 := by omega
    have hm : ¬ (if (g.length : Int) < (l.length : Int) then (g.length : Int) else (l.length : Int)) ≤ n := by split <;> omega
    have h0' : 0 ≤ n := by omega
    have hng : n < (g.length : Int) := by omega
    obtain ⟨adg, A2, c2, e, hgx, hgl, hgc⟩ := at_rows HR1.out n h0' hng
    cases e
    obtain ⟨row, hrow⟩ : ∃ row, row = g.getD n.toNat [] := ⟨_, rfl⟩
    rw [← hrow] at hgx hgl hgc
    have HROW := Aside0.mk hrow
    have HGC := Aside0.mk hgc
    have hrl : row.length ≤ 9223372036854775807 := hgc.2.1
    have HC := Aside0.mk hc
    clear hc hrow hgc
    by_cases hgl : (g.length : Int) < (l.length : Int)
    all_goals
      go_enter Tryz.func36, Tryz.ntmps36
      go_wp2
      go_loopg [10, 27] row.length (fun gg v10 v27 wr => ∃ j : Nat, j ≤ row.length ∧ row.length - j ≤ gg ∧ v27 = .int .i64 (j : Int) ∧ wr = w ∧ Aside0 (∀ (i : Nat) (y : Int), i < j → row[i]? = some y → slotIs l kind y = false))
      case atStart => exact ⟨0, Nat.zero_le _, by omega, rfl, rfl, ⟨fun i y hi => absurd hi (Nat.not_lt_zero _)⟩⟩
      case round =>
        obtain ⟨j, hj, hg, rfl, rfl, HN⟩ := hrel
        by_cases hlt : j < row.length
        · have hltz : (j : Int) < (row.length : Int) := by omega
          obtain ⟨ad2, e, hx⟩ := C_num HGC.out hlt
          cases e
          obtain ⟨x, hxe⟩ : ∃ x, x = row[j] := ⟨_, rfl⟩
          rw [← hxe] at hx
          have HX : Aside0 (row[j]? = some x) := ⟨by rw [hxe]; exact List.getElem?_eq_getElem hlt⟩
          clear hxe
          by_cases hs : slotIs l kind x = true
          · have HV : Aside0 (byF l g n kind = x) := ⟨byF_hit HC.out (by rw [← HROW.out]; exact HX.out) hs (by rw [← HROW.out]; exact HN.out)⟩
            obtain ⟨q0, q1, q2, q3, q4⟩ := slotIs_bd hs
            obtain ⟨ad3, A6, c6, A7, c7, A13, c13, A14, c14, e, hx0, hx1, hx2, hx3, _⟩ := at_T50 HR0.out x q0 q1
            cases e
            rw [show (rd_T50 l x).f1 = kind from q3] at hx1
            rw [show (rd_T50 l x).f2 = ⟨#[]⟩ from q4] at hx2
            rw [show (rd_T50 l x).f3 = true from q2] at hx3
            clear q2 q3 q4 hx0
            go_wp2
            go_ret
            exact ⟨by rw [HV.out]; rfl, rfl⟩
          · have hs' := Bool.eq_false_iff.2 hs
            have HN2 : Aside0 (∀ (i : Nat) (y : Int), i < j + 1 → row[i]? = some y → slotIs l kind y = false) := ⟨fun i y hi hy => by
              by_cases e : i = j
              · subst e; rw [HX.out] at hy; cases hy; exact hs'
              · exact HN.out i y (by omega) hy⟩
            have hcase : (¬ 0 ≤ x) ∨ (0 ≤ x ∧ ¬ x < (l.length : Int)) ∨ (0 ≤ x ∧ x < (l.length : Int)) := by omega
            unfold slotIs at hs'
            clear hs HN
            rcases hcase with q0 | ⟨q0, q1⟩ | ⟨q0, q1⟩
            · clear hs'
              go_wp2
              go_roundg (row.length - (j + 1))
              case measure => omega
              case rel => exact ⟨j + 1, by omega, by omega, by go_num, rfl, HN2⟩
            · clear hs'
              go_wp2
              go_roundg (row.length - (j + 1))
              case measure => omega
              case rel => exact ⟨j + 1, by omega, by omega, by go_num, rfl, HN2⟩
            · rw [if_pos q0, if_pos q1] at hs'
              obtain ⟨ad3, A6, c6, A7, c7, A13, c13, A14, c14, e, hx0, hx1, hx2, hx3, _⟩ := at_T50 HR0.out x q0 q1
              cases e
              clear hx0
              obtain ⟨ev, hev⟩ : ∃ ev, ev = rd_T50 l x := ⟨_, rfl⟩
              rw [show rdE l x = rd_T50 l x from rfl, ← hev] at hs'
              rw [← hev] at hx1 hx2 hx3
              clear hev
              by_cases q2 : ev.f3 = true
              · rw [if_pos q2] at hs'
                rw [q2] at hx3
                by_cases q3 : ev.f1 = kind
                · rw [if_pos q3] at hs'
                  rw [q3] at hx1
                  have q4 : ev.f2 ≠ ⟨#[]⟩ := of_decide_eq_false hs'
                  have q4b : (ev.f2.toList == (⟨#[]⟩ : ByteArray).toList) = false := beq_eq_false_iff_ne.mpr (fun e => q4 (ba_ext e))
                  have q4c : ev.f2.toList ≠ [] := fun e => q4 (ba_ext (e.trans (by rw [Lib.toList_data])))
                  have q4d : ev.f2.toList.isEmpty = false := by rw [List.isEmpty_eq_false_iff]; exact q4c
                  clear q2 q3 hs' q4
                  go_wp2
                  go_roundg (row.length - (j + 1))
                  case measure => omega
                  case rel => exact ⟨j + 1, by omega, by omega, by go_num, rfl, HN2⟩
                · have q3b : (ev.f1.toList == kind.toList) = false := beq_eq_false_iff_ne.mpr (fun e => q3 (ba_ext e))
                  clear q2 hs' q3
                  go_wp2
                  go_roundg (row.length - (j + 1))
                  case measure => omega
                  case rel => exact ⟨j + 1, by omega, by omega, by go_num, rfl, HN2⟩
              · have q2' := Bool.eq_false_iff.2 q2
                rw [q2'] at hx3
                clear q2 hs' q2'
                go_wp2
                go_roundg (row.length - (j + 1))
                case measure => omega
                case rel => exact ⟨j + 1, by omega, by omega, by go_num, rfl, HN2⟩
        · have hltz : ¬ (j : Int) < (row.length : Int) := by omega
          have HV : Aside0 (byF l g n kind = -1) := ⟨byF_miss HC.out (by rw [← HROW.out]; exact fun i y hi => HN.out i y (by have := (List.getElem?_eq_some_iff.1 hi).1; omega) hi)⟩
          go_wp2
          go_ret
          exact ⟨by rw [HV.out]; rfl, rfl⟩
def order_By.f (l : List SE) (g : List (List Int)) (n : Int) (kind : ByteArray) : Option Int := some (byF l g n kind)
theorem order_By.calls (A0 : Option Addr) (c0 : Nat) (l0 : List SE) (A1 : Option Addr) (c1 : Nat) (l1 : List (List Int)) (a2 : Int) (a3 : ByteArray) (r : Int) (w : World) (hr0 : Kd.C k50 w A0 l0.length l0) (hc0 : l0.length ≤ c0) (hr1 : Kd.C (Kd.slice 3 (Kd.int .i64)) w A1 l1.length l1) (hc1 : l1.length ≤ c1) (h : order_By.f l0 l1 a2 a3 = some r) :
    Calls Tryz.prog 36 #[.slice A0 l0.length c0, .slice A1 l1.length c1, .int .i64 a2, .string a3] w fun e w' => e = .returned (.int .i64 r) ∧ Below w.heap.size w w' := by
  obtain rfl := Option.some.inj h
  exact (order_By.walk A0 c0 l0 A1 c1 l1 a2 a3 w hr0 hr1).mono fun e w' ⟨he, hw⟩ => ⟨he, hw ▸ Below.refl _ _⟩
open Go.Proofs.He Go.Shelf
attribute [local go_sem] Oper.semAt_some
def pwB : ByteArray := ⟨#[109, 46, 114, 111, 111, 109, 46, 112, 111, 119, 101, 114, 95, 108, 101, 118, 101, 108, 115]⟩
def mlF (l : List SE) (g : List (List Int)) : Nat → Int → List Int
  | 0, _ => []
  | k + 1, n => if 0 ≤ n ∧ n < (l.length : Int) then n :: (if byF l g n pwB ≥ n then [] else mlF l g k (byF l g n pwB)) else []
def mainF (l : List SE) (g : List (List Int)) (n : Int) : List Int := mlF l g (n.toNat + 1) n
theorem mlF_neg (l : List SE) (g : List (List Int)) (k : Nat) (n : Int) (h : n < 0) : mlF l g k n = [] := by
  cases k with
  | zero => rfl
  | succ k => rw [mlF, if_neg (by omega)]
theorem mlF_same (l : List SE) (g : List (List Int)) : ∀ (k k' : Nat) (n : Int), n.toNat + 1 ≤ k → n.toNat + 1 ≤ k' → mlF l g k n = mlF l g k' n := by
  intro k
  induction k with
  | zero => intro k' n h; omega
  | succ k ih =>
    intro k' n h h'
    cases k' with
    | zero => omega
    | succ k' =>
      rw [mlF, mlF]
      split
      · rename_i hc
        congr 1
        split
        · rfl
        · rename_i hx
          by_cases hb : byF l g n pwB < 0
          · rw [mlF_neg _ _ _ _ hb, mlF_neg _ _ _ _ hb]
          · exact ih _ _ (by omega) (by omega)
      · rfl
theorem mainF_out (l : List SE) (g : List (List Int)) (n : Int) (h : ¬ (0 ≤ n ∧ n < (l.length : Int))) : mainF l g n = [] := by
  unfold mainF; rw [mlF, if_neg h]
theorem mainF_last (l : List SE) (g : List (List Int)) (n : Int) (h : 0 ≤ n ∧ n < (l.length : Int)) (hb : byF l g n pwB ≥ n) : mainF l g n = [n] := by
  unfold mainF; rw [mlF, if_pos h, if_pos hb]
theorem mainF_step (l : List SE) (g : List (List Int)) (n : Int) (h : 0 ≤ n ∧ n < (l.length : Int)) (hb : ¬ byF l g n pwB ≥ n) : mainF l g n = n :: mainF l g (byF l g n pwB) := by
  unfold mainF
  rw [mlF, if_pos h, if_neg hb]
  by_cases h0 : byF l g n pwB < 0
  · rw [mlF_neg _ _ _ _ h0, mlF_neg _ _ _ _ h0]
  · rw [mlF_same l g n.toNat ((byF l g n pwB).toNat + 1) _ (by omega) (Nat.le_refl _)]
theorem mainF_len (l : List SE) (g : List (List Int)) : ∀ (k : Nat) (n : Int), n.toNat ≤ k → (mainF l g n).length ≤ n.toNat + 1 := by
  intro k
  induction k with
  | zero =>
    intro n h
    by_cases hc : 0 ≤ n ∧ n < (l.length : Int)
    · by_cases hb : byF l g n pwB ≥ n
      · rw [mainF_last l g n hc hb]; simp
      · rw [mainF_step l g n hc hb, mainF_out l g _ (by omega)]; simp
    · rw [mainF_out l g n hc]; simp
  | succ k ih =>
    intro n h
    by_cases hc : 0 ≤ n ∧ n < (l.length : Int)
    · by_cases hb : byF l g n pwB ≥ n
      · rw [mainF_last l g n hc hb]; simp
      · rw [mainF_step l g n hc hb]
        by_cases h0 : byF l g n pwB < 0
        · rw [mainF_out l g _ (by omega)]; simp
        · have := ih (byF l g n pwB) (by omega)
          simp only [List.length_cons]; omega
    · rw [mainF_out l g n hc]; simp
theorem mainF_le (l : List SE) (g : List (List Int)) (n : Int) : (mainF l g n).length ≤ l.length := by
  by_cases hc : 0 ≤ n ∧ n < (l.length : Int)
  · have := mainF_len l g n.toNat n (Nat.le_refl _); omega
  · rw [mainF_out l g n hc]; simp
structure BackAt (w0 : World) (A0 : Option Addr) (c0 : Nat) (l : List SE) (A1 : Option Addr) (c1 : Nat) (g : List (List Int)) (Bn Bl Bg : Nat) (n : Int) (W : World) : Prop where
  bn : Boxed W Bn 3 (.int .i64 n)
  bl : Boxed W Bl 23 (.slice A0 l.length c0)
  bg : Boxed W Bg 24 (.slice A1 g.length c1)
  hr0 : Kd.C k50 W A0 l.length l
  hr1 : Kd.C (Kd.slice 3 (Kd.int .i64)) W A1 g.length g
  below : Below w0.heap.size w0 W
theorem BackAt.mk' {w0 W : World} {A0 : Option Addr} {c0 : Nat} {l : List SE} {A1 : Option Addr} {c1 : Nat} {g : List (List Int)} {Bn Bl Bg : Nat} {n : Int} (hr0 : Kd.C k50 w0 A0 l.length l) (hr1 : Kd.C (Kd.slice 3 (Kd.int .i64)) w0 A1 g.length g)
    (hb : Below w0.heap.size w0 W) (h1 : Boxed W Bn 3 (.int .i64 n)) (h2 : Boxed W Bl 23 (.slice A0 l.length c0)) (h3 : Boxed W Bg 24 (.slice A1 g.length c1)) : BackAt w0 A0 c0 l A1 c1 g Bn Bl Bg n W :=
  ⟨h1, h2, h3, Kd.C_below hr0 hb, Kd.C_below hr1 hb, hb⟩
set_option maxHeartbeats 4000000 in
set_option maxRecDepth 100000 in
theorem back_1.cell {w0 w : World} {A0 : Option Addr} {c0 : Nat} {l : List SE} {A1 : Option Addr} {c1 : Nat} {g : List (List Int)} {Bn Bl Bg : Nat} {n0 : Int} (hr0 : Kd.C k50 w0 A0 l.length l) (hr1 : Kd.C (Kd.slice 3 (Kd.int .i64)) w0 A1 g.length g)
    (hat : BackAt w0 A0 c0 l A1 c1 g Bn Bl Bg n0 w) (hn0 : w0.heap.size ≤ Bn) (hne1 : Bl ≠ Bn) (hne2 : Bg ≠ Bn) :
    SeqCell Fence.wide 3 Tryz.prog 82 #[.pointer (some ⟨Bn, 0, none⟩), .pointer (some ⟨Bl, 0, none⟩), .pointer (some ⟨Bg, 0, none⟩)] Bn w.heap.size (mainF l g n0) w := by
  intro lq J Jx W hW hcell hY hJ0
  have hat2 : BackAt w0 A0 c0 l A1 c1 g Bn Bl Bg n0 W := BackAt.mk' hr0 hr1 (hat.below.trans (hW.mono hat.below.size)) ((hW.block _ hat.bn.lt).trans hat.bn) ((hW.block _ hat.bl.lt).trans hat.bl) ((hW.block _ hat.bg.lt).trans hat.bg)
  have hl0 : l.length ≤ 9223372036854775807 := hr0.2.1
  have HR0 := Aside0.mk hr0
  have HR1 := Aside0.mk hr1
  have HAT := Aside0.mk hat
  have HY := Aside0.mk hY
  have HJ := Aside0.mk hJ0
  have HAT2 := Aside0.mk hat2
  have HC := Aside0.mk hcell
  clear hr0 hr1 hat hY hJ0 hat2 hcell hW
  refine callsIn_of_wp Tryz.func82 rfl trivial ?_ rfl
  simp only [Tryz.ntmps82, List.size_toArray, List.length_cons, List.length_nil, Nat.reduceAdd, Nat.reduceSub, Array.replicate_succ, Array.replicate_zero, List.push_toArray, List.append_toArray, List.nil_append, List.cons_append]
  gi_wp2
  gi_loopg [5] ((n0 + 1).toNat) (fun gg _ wr => ∃ (n : Int) (pre : List Int), (n + 1).toNat ≤ gg ∧ Aside0 (BackAt w0 A0 c0 l A1 c1 g Bn Bl Bg n wr) ∧ Aside0 (pre ++ mainF l g n = mainF l g n0) ∧ Aside0 (J pre wr))
  case atStart => exact ⟨n0, [], Nat.le_refl _, HAT2, ⟨rfl⟩, HJ⟩
  case round =>
    obtain ⟨n, pre, hgg, HB, HP, HJ1⟩ := hrel
    have hc1 := HB.out.bn.cell
    have hc2 := HB.out.bl.cell
    have hc3 := HB.out.bg.cell
    have hcase : (¬ 0 ≤ n) ∨ (0 ≤ n ∧ ¬ n < (l.length : Int)) ∨ (0 ≤ n ∧ n < (l.length : Int)) := by omega
    rcases hcase with h0 | ⟨h0, h1⟩ | ⟨h0, h1⟩
    · have HE : Aside0 (pre = mainF l g n0) := ⟨by rw [← HP.out, mainF_out l g n (by omega), List.append_nil]⟩
      gi_wp2
      refine ⟨fun _ h => (by cases h), ?_⟩
      gi_wp2
      go_end0
      exact ⟨⟨_, rfl⟩, .inl (HE.out ▸ HJ1.out)⟩
    · have HE : Aside0 (pre = mainF l g n0) := ⟨by rw [← HP.out, mainF_out l g n (by omega), List.append_nil]⟩
      gi_wp2
      refine ⟨fun _ h => (by cases h), ?_⟩
      gi_wp2
      go_end0
      exact ⟨⟨_, rfl⟩, .inl (HE.out ▸ HJ1.out)⟩
    · have hcons : ∃ t, mainF l g n = n :: t := by
        by_cases hb : byF l g n pwB ≥ n
        · exact ⟨_, mainF_last l g n ⟨h0, h1⟩ hb⟩
        · exact ⟨_, mainF_step l g n ⟨h0, h1⟩ hb⟩
      have hpre : pre ++ [n] <+: mainF l g n0 := by
        obtain ⟨t, ht⟩ := hcons
        exact ⟨t, by rw [← HP.out, ht]; simp⟩
      have HPRE := Aside0.mk hpre
      obtain ⟨fn, tmps, assign, body, hy, hR⟩ := HY.out pre n wr HJ1.out hpre
      clear hcons hpre
      gi_wp2
      refine hR.mono ?_
      rintro e W3 (⟨rfl, hJ3, hk3⟩ | ⟨rfl, hJx3⟩)
      · have hat3 : BackAt w0 A0 c0 l A1 c1 g Bn Bl Bg n W3 := BackAt.mk' HR0.out HR1.out (HB.out.below.trans (hk3.mono (Nat.le_trans HAT.out.below.size (Nat.le_refl _)))) ((hk3.block _ HAT.out.bn.lt).trans HB.out.bn) ((hk3.block _ HAT.out.bl.lt).trans HB.out.bl) ((hk3.block _ HAT.out.bg.lt).trans HB.out.bg)
        have HAT3 := Aside0.mk hat3
        have HJ3 := Aside0.mk hJ3
        have hd1 := hat3.bn.cell
        have hd2 := hat3.bl.cell
        have hd3 := hat3.bg.cell
        have hf1 := hat3.bn.frozen
        have HBY := Aside0.mk (callsIn_wide (n := 2) |>.2 (order_By.walk A0 c0 l A1 c1 g n pwB W3 hat3.hr0 hat3.hr1))
        clear hat3 hJ3 hk3 hR hy hc1 hc2 hc3
        by_cases hb : byF l g n pwB ≥ n
        · have HE : Aside0 (pre ++ [n] = mainF l g n0) := ⟨by rw [← HP.out, mainF_last l g n ⟨h0, h1⟩ hb]⟩
          gi_wp2_with (refine ⟨trivial, ?_⟩; gi_at_call 36; refine HBY.out.mono ?_; rintro e w4 ⟨rfl, rfl⟩)
          refine bodyPost_ret (results_none rfl _ _ _) rfl ?_
          exact ⟨⟨_, rfl⟩, .inl (HE.out ▸ HJ3.out)⟩
        · have HE : Aside0 ((pre ++ [n]) ++ mainF l g (byF l g n pwB) = mainF l g n0) := ⟨by rw [← HP.out, mainF_step l g n ⟨h0, h1⟩ hb]; simp⟩
          have hlt : byF l g n pwB < n := by omega
          obtain ⟨x, hx⟩ : ∃ x, x = byF l g n pwB := ⟨_, rfl⟩
          rw [← hx] at hlt HE HBY hb
          have HJ4 := Aside0.mk (HC.out (pre ++ [n]) W3 (.int .i64 x) HJ3.out)
          have hat4 : BackAt w0 A0 c0 l A1 c1 g Bn Bl Bg x (W3.setCell ⟨Bn, 0, none⟩ (.int .i64 x)) := BackAt.mk' HR0.out HR1.out (HAT3.out.below.setCell (p := ⟨Bn, 0, none⟩) hn0 _) (Boxed.set _ HAT3.out.bn) ((Below.heap_setCell W3 ⟨Bn, 0, none⟩ _ _ hne1).trans HAT3.out.bl) ((Below.heap_setCell W3 ⟨Bn, 0, none⟩ _ _ hne2).trans HAT3.out.bg)
          have HAT4 := Aside0.mk hat4
          clear hat4 hx
          gi_wp2_with (refine ⟨trivial, ?_⟩; gi_at_call 36; refine HBY.out.mono ?_; rintro e w4 ⟨rfl, rfl⟩)
          gi_roundg ((x + 1).toNat)
          case measure => omega
          case rel => exact ⟨x, pre ++ [n], Nat.le_refl _, HAT4, HE, HJ4⟩
      · gi_wp2
        go_end0
        exact ⟨⟨_, rfl⟩, .inr ⟨pre ++ [n], HPRE.out, hJx3⟩⟩
theorem infoI : (Tryz.prog.info? 3).map (fun i => (i.zero, i.size, i.bytes)) = some (some (.int .i64 0), 1, 8) := by kernel_rfl
theorem SeqCell.later {F : Fence} {n : Nat} {P : Program} {gf : Nat} {lb : Array Value} {Bn B0 : Nat} {xs : List Int} {w w1 : World} (h : SeqCell F n P gf lb Bn B0 xs w) (hb : Below w.heap.size w w1) : SeqCell F n P gf lb Bn B0 xs w1 :=
  fun l J Jx W hW => h l J Jx W (hb.trans (hW.mono hb.size))
set_option maxHeartbeats 4000000 in
set_option maxRecDepth 100000 in
theorem appendSeq_cell {w0 w : World} {gf : Nat} {lb : Array Value} {Bn : Nat} {xs : List Int} (eg : ∀ args w, (callFunc gf args).run Tryz.prog w = .ok (.enter gf args) w) (hb : Below w0.heap.size w0 w) (hBn0 : w0.heap.size ≤ Bn) (hBn : Bn < w.heap.size)
    (hseq : SeqCell Fence.wide 3 Tryz.prog gf lb Bn w.heap.size xs w) (hlen : xs.length ≤ 9223372036854775807) (hbytes : xs.length * 8 ≤ 140737488355328) :
    Calls Tryz.prog 83 #[.slice none 0 0, .func (.func gf) #[] lb] w fun e W' => ∃ v, e = .returned v ∧ W'.ownsRow w.heap.size 3 1 v xs.length (xs.map (Value.int .i64)) ∧ Below w0.heap.size w0 W' := by
  refine (callsIn_wide (n := 4)).1 ?_
  obtain ⟨i0, hi, hz0, hz1, hz2⟩ := info_parts infoI
  refine callsIn_of_wp_marks Tryz.func83 rfl trivial ?_ rfl
  simp only [Tryz.ntmps83, List.size_toArray, List.length_cons, List.length_nil, Nat.reduceAdd, Nat.reduceSub, Array.replicate_succ, Array.replicate_zero, List.push_toArray, List.append_toArray, List.nil_append, List.cons_append]
  gi_wp2
  have bO := Boxed.new w 27 (.slice none 0 0)
  have hB1 : Below w.heap.size w (w.alloc (.cells #[.slice none 0 0] 27)) := (Below.refl _ w).alloc (Nat.le_refl _) _
  have hle := hb.size
  refine rangeFunc_cell (Bn := Bn) (B0 := w.heap.size) (xs := xs) rfl (by decide) (gf := gf) (lb := lb) rfl trivial eg (by simp) (by simp; omega) (SeqCell.later hseq hB1) rfl
    (fun pre W => (∃ v, Boxed W w.heap.size 27 v ∧ W.ownsRow w.heap.size 3 1 v pre.length (pre.map (Value.int .i64)) ∧ True) ∧ Below w0.heap.size w0 W) (fun _ _ => False)
    (OwnFrom.and (Own.from (holdsRow_own w.heap.size w.heap.size 27 3 1 (fun pre : List Int => pre.length) (fun pre => pre.map (Value.int .i64)) (fun _ _ => True)) _) (ownFrom_below (Nat.le_refl _) (by simp; omega)))
    (fun _ _ _ _ h _ _ => h) ?cell
    ⟨⟨_, bO, World.ownsRow_nil _ _ _ _, trivial⟩, hb.trans (hB1.mono hle)⟩
    (fun x => { tmps := #[.slice none 0 0, .func (.func gf) #[] lb, .pointer (some ⟨w.heap.size, 0, none⟩), undef, .slice none 0 0, .int .i64 x, .func (.func gf) #[] lb, .int .i64 x, undef, undef, undef, undef, undef], defers := [] }) ?assign ?body ?done ?stop
  case cell =>
    rintro pre A v ⟨⟨v1, hv, hr, _⟩, hB⟩
    refine ⟨⟨v1, (Below.heap_setCell A ⟨Bn, 0, none⟩ v _ (show w.heap.size ≠ Bn by omega)).trans hv, own_move hr (fun k hk => Below.heap_setCell A ⟨Bn, 0, none⟩ v _ (show k ≠ Bn by have := own_base hr k hk; omega)), trivial⟩, hB.setCell (p := ⟨Bn, 0, none⟩) hBn0 _⟩
  case assign =>
    intro l x W K hK
    gi_wp2
    exact hK
  case body =>
    rintro l pre x W ⟨⟨v, hv, hrow, _⟩, hB⟩ hlt
    have hc := hv.cell
    have hpl : pre.length + 1 ≤ xs.length := by
      have := hlt.length_le; simpa using this
    gi_wp2_with (gi_at_builtin; refine wpListIn_append_own _ rfl _ _ 27 rfl w.heap.size 3 i0 (.int .i64 0) 1 8 Tryz.underlying27 hi hz0 hz1 hz2 rfl (by decide) _ _ _ rfl (hrow.alloc _) ⟨W.heap.size, 0, none⟩ 1 1 [.int .i64 x] rfl rfl (cell_one_new _ _ _) (by simp [Value.oneCell']) (by unfold maxLen; omega) (by omega) (by have := hB.size; have := hv.lt; simp; omega) ?_; intro v' w1 hown' hgrow _; obtain ⟨g', cap', rfl⟩ := ownsRow_succ hown'; obtain ⟨hv1, hv2, hr2, hk2, hb2⟩ := hv.appended (by decide) hrow (Nat.le_of_lt hv.lt) (Nat.le_refl _) hown' hgrow; have hc1 := hv1.cell; have hf1 := hv1.frozen)
    exact ⟨hk2.from _, hb2, ⟨_, hv2, by simpa using hr2, trivial⟩, hB.trans (hb2.mono (by omega))⟩
  case done =>
    rintro D W hD ⟨⟨v, hv, hrow, _⟩, hB⟩ hK
    have hc := hv.cell
    gi_wp2
    refine ⟨by simp, .inl ⟨_, _, rfl, run_takeDeferred hK, ?_⟩⟩
    exact ⟨_, results_tmp rfl _ _ _, v, rfl, ownsRow_putObj hrow _ hK rfl, hB.trans (belowK_b (w := w0) (n₀ := w0.heap.size) (Nat.le_refl _) W D _ _ (by simp at hD; omega) hK rfl rfl)⟩
  case stop =>
    rintro D pre W _ _ h _
    exact h.elim
set_option maxHeartbeats 4000000 in
set_option maxRecDepth 100000 in
theorem collect_cell {w0 w : World} {gf : Nat} {lb : Array Value} {Bn : Nat} {xs : List Int} (eg : ∀ args w, (callFunc gf args).run Tryz.prog w = .ok (.enter gf args) w) (hb : Below w0.heap.size w0 w) (hBn0 : w0.heap.size ≤ Bn) (hBn : Bn < w.heap.size)
    (hseq : SeqCell Fence.wide 3 Tryz.prog gf lb Bn w.heap.size xs w) (hlen : xs.length ≤ 9223372036854775807) (hbytes : xs.length * 8 ≤ 140737488355328) :
    Calls Tryz.prog 42 #[.func (.func gf) #[] lb] w fun e W' => ∃ v, e = .returned v ∧ W'.ownsRow w.heap.size 3 1 v xs.length (xs.map (Value.int .i64)) ∧ Below w0.heap.size w0 W' := by
  have HA := Aside0.mk (appendSeq_cell eg hb hBn0 hBn hseq hlen hbytes)
  clear hseq hb
  go_enter Tryz.func42, Tryz.ntmps42
  go_wp2_with (go_at_call 83; refine HA.out.mono ?_; rintro e w1 ⟨v, rfl, hr, hb1⟩)
  go_ret
  exact ⟨v, rfl, hr, hb1⟩
def backW (w : World) (A0 : Option Addr) (c0 n0 : Nat) (A1 : Option Addr) (c1 n1 : Nat) (n : Int) : World := ((w.alloc (.cells #[.slice A0 n0 c0] 23)).alloc (.cells #[.slice A1 n1 c1] 24)).alloc (.cells #[.int .i64 n] 3)
set_option maxHeartbeats 4000000 in
set_option maxRecDepth 100000 in
theorem back.walk (A0 : Option Addr) (c0 n0 : Nat) (A1 : Option Addr) (c1 n1 : Nat) (n : Int) (w : World) :
    Calls Tryz.prog 40 #[.slice A0 n0 c0, .slice A1 n1 c1, .int .i64 n] w fun e w' => e = .returned (.func (.func 82) #[] #[.pointer (some ⟨w.heap.size + 2, 0, none⟩), .pointer (some ⟨w.heap.size, 0, none⟩), .pointer (some ⟨w.heap.size + 1, 0, none⟩)]) ∧ w' = backW w A0 c0 n0 A1 c1 n1 n := by
  have hmf : ∀ (fn : Fn) (first cap : Array Value) (w : World), (Instr.makeFunc fn first cap).run Tryz.prog w = .ok (.func fn first cap) w := fun _ _ _ _ => rfl
  go_enter Tryz.func40, Tryz.ntmps40
  go_wp2
  go_ret
  exact ⟨rfl, rfl⟩
theorem backW_at {w : World} {A0 : Option Addr} {c0 : Nat} {l : List SE} {A1 : Option Addr} {c1 : Nat} {g : List (List Int)} (n : Int) (hr0 : Kd.C k50 w A0 l.length l) (hr1 : Kd.C (Kd.slice 3 (Kd.int .i64)) w A1 g.length g) :
    BackAt w A0 c0 l A1 c1 g (w.heap.size + 2) w.heap.size (w.heap.size + 1) n (backW w A0 c0 l.length A1 c1 g.length n) := by
  have b1 := Boxed.new w 23 (.slice A0 l.length c0)
  have b2 := Boxed.new (w.alloc (.cells #[.slice A0 l.length c0] 23)) 24 (.slice A1 g.length c1)
  have b3 := Boxed.new ((w.alloc (.cells #[.slice A0 l.length c0] 23)).alloc (.cells #[.slice A1 g.length c1] 24)) 3 (.int .i64 n)
  rw [World.size_alloc] at b2
  rw [World.size_alloc, World.size_alloc] at b3
  exact BackAt.mk' hr0 hr1 ((((Below.refl _ _).alloc (Nat.le_refl _) _).alloc (by simp) _).alloc (by simp; omega) _) b3 ((b1.alloc _).alloc _) (b2.alloc _)
theorem backW_size (w : World) (A0 : Option Addr) (c0 n0 : Nat) (A1 : Option Addr) (c1 n1 : Nat) (n : Int) : (backW w A0 c0 n0 A1 c1 n1 n).heap.size = w.heap.size + 3 := by unfold backW; simp
set_option maxHeartbeats 4000000 in
set_option maxRecDepth 100000 in
theorem order_Mainline.walk (A0 : Option Addr) (c0 : Nat) (l : List SE) (A1 : Option Addr) (c1 : Nat) (g : List (List Int)) (n : Int) (w : World) (hr0 : Kd.C k50 w A0 l.length l) (hr1 : Kd.C (Kd.slice 3 (Kd.int .i64)) w A1 g.length g) (hl : l.length ≤ 100000) :
    Calls Tryz.prog 21 #[.slice A0 l.length c0, .slice A1 g.length c1, .int .i64 n] w fun e w' => ∃ v, e = .returned v ∧ (Kd.int .i64).R 3 w' w.heap.size (fun _ => True) v (mainF l g n) ∧ Below w.heap.size w w' := by
  have hat := backW_at (c0 := c0) (c1 := c1) n hr0 hr1
  have hbd := hat.below
  have hs := backW_size w A0 c0 l.length A1 c1 g.length n
  have hm := mainF_le l g n
  have HC := Aside0.mk (collect_cell (lb := #[.pointer (some ⟨w.heap.size + 2, 0, none⟩), .pointer (some ⟨w.heap.size, 0, none⟩), .pointer (some ⟨w.heap.size + 1, 0, none⟩)]) (enters_of Tryz.func82 (by kernel_rfl) rfl) hbd (Bn := w.heap.size + 2) (by omega) (by rw [hs]; omega) (back_1.cell hr0 hr1 hat (by omega) (by omega) (by omega)) (by omega) (by omega))
  have HBK := Aside0.mk (back.walk A0 c0 l.length A1 c1 g.length n w)
  have HS := Aside0.mk hs
  obtain ⟨xs, hxs⟩ : ∃ xs, xs = mainF l g n := ⟨_, rfl⟩
  rw [← hxs] at HC
  have HX := Aside0.mk hxs
  clear hat hbd hs hr0 hr1 hm hxs
  go_enter Tryz.func21, Tryz.ntmps21
  go_wp2_with (go_at_call 40; refine HBK.out.mono ?_; rintro e w1 ⟨rfl, rfl⟩)
  refine HC.out.mono ?_
  rintro e w2 ⟨v, rfl, hr, hb2⟩
  go_wp2
  go_ret
  refine ⟨v, rfl, ?_, hb2⟩
  rw [← HX.out]
  exact Kd.R_lower (scalar_put hr (fun _ _ => trivial)) (by rw [HS.out]; omega)
def slices_Index_string_string.l0 : Nat → List ByteArray → ByteArray → Int → Int → Option (Int)
  | 0, _, _, _, _ => none
  | k + 1, x0, x1, x7, x8 => if x8 < x7 then (if 0 ≤ x8 then (if x8 < (x0.length : Int) then (if x1.toList = (rdOf ByteArray.empty x0 x8).toList then (some x8) else (slices_Index_string_string.l0 k x0 x1 x7 (wrap64 (x8 + 1)))) else (none)) else (none)) else (some (-1))
def slices_Index_string_string.f (k : Nat) (l0 : List ByteArray) (a1 : ByteArray) : Option (Int) := slices_Index_string_string.l0 k l0 a1 (l0.length : Int) 0
set_option maxHeartbeats 8000000 in
set_option maxRecDepth 100000 in
theorem slices_Index_string_string.calls (k : Nat) (A0 : Option Addr) (c0 : Nat) (l0 : List ByteArray) (a1 : ByteArray) (r : Int) (w : World) (hr0 : Kd.C Kd.string w A0 l0.length l0) (hc0 : l0.length ≤ c0) (h : slices_Index_string_string.f k l0 a1 = some r) :
    Calls Tryz.prog 86 #[.slice A0 l0.length c0, .string a1] w fun e w' => e = .returned (.int .i64 r) ∧ Drawn0 w w' := by
  have HR0 := Aside0.mk hr0
  have HC0 := Aside0.mk hc0
  clear hr0 hc0
  have H : (slices_Index_string_string.l0 k l0 a1 (l0.length : Int) 0) = some r := h
  clear h
  have H' := Aside0.mk H
  clear H
  go_enter Tryz.func86, Tryz.ntmps86
  go_wp2
  go_loopg [8] k (fun kq v8 w' => ∃ (x8_1 : Int), v8 = .int .i64 x8_1 ∧ Aside0 (slices_Index_string_string.l0 kq l0 a1 (l0.length : Int) x8_1 = some r) ∧ Aside0 (kq ≤ k) ∧ Drawn0 w w')
  case atStart => exact ⟨(0), (by first | rfl | (simp; done) | (simp [*]; done)), H', ⟨Nat.le_refl _⟩, by repeat (first | exact Drawn0.refl _ | apply Drawn0.step)⟩
  case round =>
    clear H'
    try clear p2
    obtain ⟨x8_1, rfl, HA, HK1, ⟨m1, rfl⟩⟩ := hrel
    cases gk with
    | zero => exact absurd HA.out (by simp [slices_Index_string_string.l0])
    | succ k1 =>
      have H := HA.out
      clear HA
      simp only [slices_Index_string_string.l0] at H
      by_cases c3 : x8_1 < (l0.length : Int)
      · rw [if_pos c3] at H
        have c3b0 : decide (x8_1 < (l0.length : Int)) = true := decide_eq_true c3
        clear c3
        by_cases c4 : 0 ≤ x8_1
        · rw [if_pos c4] at H
          have c4b0 : decide (0 ≤ x8_1) = true := decide_eq_true c4
          clear c4
          by_cases c5 : x8_1 < (l0.length : Int)
          · rw [if_pos c5] at H
            have c5b0 : decide (x8_1 < (l0.length : Int)) = true := decide_eq_true c5
            clear c5
            by_cases c6 : a1.toList = (rdOf ByteArray.empty l0 x8_1).toList
            · rw [if_pos c6] at H
              have c6b0 : (a1.toList == (rdOf ByteArray.empty l0 x8_1).toList) = true := beq_iff_eq.mpr c6
              have c6b1 : (a1.toList != (rdOf ByteArray.empty l0 x8_1).toList) = false := bne_eq_false_iff_eq.mpr c6
              clear c6
              obtain rfl := Option.some.inj H
              have p182 : 0 ≤ (x8_1 : Int) := of_decide_eq_true (by first | (with_reducible assumption) | assumption)
              have q182 : x8_1 < (l0.length : Int) := of_decide_eq_true (by first | (with_reducible assumption) | assumption)
              obtain ⟨ad182, e182, hx182_0⟩ := Kd.at_string HR0.out x8_1 p182 q182
              cases e182
              replace p182 := eq_true p182
              replace q182 := eq_true q182
              go_wp2
              go_ret
              exact ⟨by first | rfl | (simp; done) | (simp [*]; done), by repeat (first | exact Drawn0.refl _ | apply Drawn0.step)⟩
            · rw [if_neg c6] at H
              have c6b0 : (a1.toList == (rdOf ByteArray.empty l0 x8_1).toList) = false := beq_eq_false_iff_ne.mpr c6
              have c6b1 : (a1.toList != (rdOf ByteArray.empty l0 x8_1).toList) = true := bne_iff_ne.mpr c6
              have H' := Aside0.mk H
              clear H
              have p182 : 0 ≤ (x8_1 : Int) := of_decide_eq_true (by first | (with_reducible assumption) | assumption)
              have q182 : x8_1 < (l0.length : Int) := of_decide_eq_true (by first | (with_reducible assumption) | assumption)
              obtain ⟨ad182, e182, hx182_0⟩ := Kd.at_string HR0.out x8_1 p182 q182
              cases e182
              replace p182 := eq_true p182
              replace q182 := eq_true q182
              go_wp2
              go_roundg k1
              case measure => have := HK1.out; omega
              case rel => exact ⟨(wrap64 (x8_1 + 1)), (by first | rfl | (simp; done) | (simp [*]; done)), H', ⟨by have := HK1.out; omega⟩, by repeat (first | exact Drawn0.refl _ | apply Drawn0.step)⟩
          · rw [if_neg c5] at H
            exact absurd H (by simp)
        · rw [if_neg c4] at H
          exact absurd H (by simp)
      · rw [if_neg c3] at H
        have c3b0 : decide (x8_1 < (l0.length : Int)) = false := decide_eq_false c3
        clear c3
        obtain rfl := Option.some.inj H
        go_wp2
        go_ret
        exact ⟨by first | rfl | (simp; done) | (simp [*]; done), by repeat (first | exact Drawn0.refl _ | apply Drawn0.step)⟩
def value_place.f (k : Nat) (a0_0 : Int) (a0_1 : Int) (a0_2 : ByteArray) (l0_3 : List ByteArray) (l0_4 : List (S48)) (a1 : ByteArray) : Option (Int) := if a0_0 = 5 then ((slices_Index_string_string.f k l0_3 a1).bind fun t184 => (if t184 < (l0_4.length : Int) then (some t184) else (some (-1)))) else (some (-1))
set_option maxHeartbeats 8000000 in
set_option maxRecDepth 100000 in
theorem value_place.calls (k : Nat) (a0_0 : Int) (a0_1 : Int) (a0_2 : ByteArray) (A0_3 : Option Addr) (c0_3 : Nat) (l0_3 : List ByteArray) (A0_4 : Option Addr) (c0_4 : Nat) (l0_4 : List (S48)) (a1 : ByteArray) (r : Int) (w : World) (hr0_3 : Kd.C Kd.string w A0_3 l0_3.length l0_3) (hc0_3 : l0_3.length ≤ c0_3) (hr0_4 : Kd.C k48 w A0_4 l0_4.length l0_4) (hc0_4 : l0_4.length ≤ c0_4) (h : value_place.f k a0_0 a0_1 a0_2 l0_3 l0_4 a1 = some r) :
    Calls Tryz.prog 84 #[.agg #[.int .i64 a0_0, .int .i64 a0_1, .string a0_2, .slice A0_3 l0_3.length c0_3, .slice A0_4 l0_4.length c0_4], .string a1] w fun e w' => e = .returned (.int .i64 r) ∧ Below w.heap.size w w' := by
  have hu48 := Tryz.underlying48
  have HR0_3 := Aside0.mk hr0_3
  have HC0_3 := Aside0.mk hc0_3
  clear hr0_3 hc0_3
  have HR0_4 := Aside0.mk hr0_4
  have HC0_4 := Aside0.mk hc0_4
  clear hr0_4 hc0_4
  have HB := Aside0.mk (Below.refl w.heap.size w)
  have H : (if a0_0 = 5 then ((slices_Index_string_string.f k l0_3 a1).bind fun t184 => (if t184 < (l0_4.length : Int) then (some t184) else (some (-1)))) else (some (-1))) = some r := h
  clear h
  by_cases c3 : a0_0 = 5
  · rw [if_pos c3] at H
    have c3b0 : (a0_0 == 5) = true := beq_iff_eq.mpr c3
    have c3b1 : (a0_0 != 5) = false := bne_eq_false_iff_eq.mpr c3
    clear c3
    replace H := Option.bind_eq_some_iff.mp H
    obtain ⟨t184, A40, H⟩ := H
    replace H : (if t184 < (l0_4.length : Int) then (some t184) else (some (-1))) = some r := H
    have A4 := Aside0.mk A40
    clear A40
    by_cases c5 : t184 < (l0_4.length : Int)
    · rw [if_pos c5] at H
      have c5b0 : decide (t184 < (l0_4.length : Int)) = true := decide_eq_true c5
      clear c5
      obtain rfl := Option.some.inj H
      go_enter Tryz.func84, Tryz.ntmps84
      go_wp2_with (first | ((with_reducible refine gate_dst (N := 2) rfl ?_); refine box_event ?hg (N := 2) ?hd (cs := #[.int .i64 a0_0, .int .i64 a0_1, .string a0_2, .slice A0_3 l0_3.length c0_3, .slice A0_4 l0_4.length c0_4]) (t := 48) ?hr ?_; (case hd => rfl); (case hg => rfl); (case hr => first | (go_simp; done) | (go_simp; rfl)); intro gb183 hg w6 hbox hb; have n0_ := Aside0.mk (below_step (by repeat (first | (with_reducible first | exact HB.out | apply below_alloc | apply pw_below_drewN | apply below_drew1) | exact HB.out)) hb); have n1_ := Aside0.mk (hbox); have n2_ := Aside0.mk ((by rw [hg]; exact (below_size (by repeat (first | (with_reducible first | exact HB.out | apply below_alloc | apply pw_below_drewN | apply below_drew1) | exact HB.out))) : w.heap.size ≤ gb183)); have n3_ := Aside0.mk ((by rw [hg]; exact (below_size (by repeat (first | (with_reducible first | exact HB.out | apply below_alloc | apply pw_below_drewN | apply below_drew1) | exact HB.out))) : w.heap.size ≤ gb183)); clear HB; have HB := n0_; have BK183 := n1_; have GW183 := n2_; have GE183 := n3_; clear n0_ n1_ n2_ n3_; clear hb hbox hg; have hcz7_0 : w6.cell? ⟨gb183, 0, none⟩ = some (.int .i64 a0_0) := (blk_cell BK183.out 0).trans rfl; have hcz7_1 : w6.cell? ⟨gb183, 1, none⟩ = some (.int .i64 a0_1) := (blk_cell BK183.out 1).trans rfl; have hcz7_2 : w6.cell? ⟨gb183, 2, none⟩ = some (.string a0_2) := (blk_cell BK183.out 2).trans rfl; have hcz7_3 : w6.cell? ⟨gb183, 3, none⟩ = some (.slice A0_3 l0_3.length c0_3) := (blk_cell BK183.out 3).trans rfl; have hcz7_4 : w6.cell? ⟨gb183, 4, none⟩ = some (.slice A0_4 l0_4.length c0_4) := (blk_cell BK183.out 4).trans rfl; have hfz7_0 := blk_frozen BK183.out 0; have hfz7_1 := blk_frozen BK183.out 1; have hfz7_2 := blk_frozen BK183.out 2; have hfz7_3 := blk_frozen BK183.out 3; have hfz7_4 := blk_frozen BK183.out 4) | ((with_reducible refine gate_callee (f := 86) rfl ?_); refine goesL_ (some 12) rfl rfl Tryz.func86 (by kernel_rfl) rfl #[.slice A0_3 l0_3.length c0_3, .string a1] rfl (by (try simp only [List.map_toArray, List.map_cons, List.map_nil]); first | done | rfl | (simp only [List.length_drop, List.length_take]; rfl)) ?_; (with_reducible refine (slices_Index_string_string.calls k _ _ l0_3 a1 t184 _ ?side1 ?side2 A4.out).mono ?_); (case side1 => repeat (first | exact (Kd.C_below HR0_3.out HB.out) | (with_reducible refine Kd.C_alloc ?_ _) | (with_reducible refine Kd.C_drewN ?_ _) | (with_reducible refine Kd.C_drew ?_))); (case side2 => exact HC0_3.out); rintro e w' ⟨rfl, ⟨nd, rfl⟩⟩; refine ⟨_, rfl, ?_⟩))
      go_ret
      exact ⟨by first | rfl | (simp [errW_none, errW_some] <;> rfl) | (simp [*, errW_none, errW_some] <;> rfl), by repeat (first | (with_reducible first | exact HB.out | apply below_alloc | apply pw_below_drewN | apply below_drew1 | refine below_set ?_ GE183.out) | exact HB.out)⟩
    · rw [if_neg c5] at H
      have c5b0 : decide (t184 < (l0_4.length : Int)) = false := decide_eq_false c5
      clear c5
      obtain rfl := Option.some.inj H
      go_enter Tryz.func84, Tryz.ntmps84
      go_wp2_with (first | ((with_reducible refine gate_dst (N := 2) rfl ?_); refine box_event ?hg (N := 2) ?hd (cs := #[.int .i64 a0_0, .int .i64 a0_1, .string a0_2, .slice A0_3 l0_3.length c0_3, .slice A0_4 l0_4.length c0_4]) (t := 48) ?hr ?_; (case hd => rfl); (case hg => rfl); (case hr => first | (go_simp; done) | (go_simp; rfl)); intro gb183 hg w8 hbox hb; have n0_ := Aside0.mk (below_step (by repeat (first | (with_reducible first | exact HB.out | apply below_alloc | apply pw_below_drewN | apply below_drew1) | exact HB.out)) hb); have n1_ := Aside0.mk (hbox); have n2_ := Aside0.mk ((by rw [hg]; exact (below_size (by repeat (first | (with_reducible first | exact HB.out | apply below_alloc | apply pw_below_drewN | apply below_drew1) | exact HB.out))) : w.heap.size ≤ gb183)); have n3_ := Aside0.mk ((by rw [hg]; exact (below_size (by repeat (first | (with_reducible first | exact HB.out | apply below_alloc | apply pw_below_drewN | apply below_drew1) | exact HB.out))) : w.heap.size ≤ gb183)); clear HB; have HB := n0_; have BK183 := n1_; have GW183 := n2_; have GE183 := n3_; clear n0_ n1_ n2_ n3_; clear hb hbox hg; have hcz9_0 : w8.cell? ⟨gb183, 0, none⟩ = some (.int .i64 a0_0) := (blk_cell BK183.out 0).trans rfl; have hcz9_1 : w8.cell? ⟨gb183, 1, none⟩ = some (.int .i64 a0_1) := (blk_cell BK183.out 1).trans rfl; have hcz9_2 : w8.cell? ⟨gb183, 2, none⟩ = some (.string a0_2) := (blk_cell BK183.out 2).trans rfl; have hcz9_3 : w8.cell? ⟨gb183, 3, none⟩ = some (.slice A0_3 l0_3.length c0_3) := (blk_cell BK183.out 3).trans rfl; have hcz9_4 : w8.cell? ⟨gb183, 4, none⟩ = some (.slice A0_4 l0_4.length c0_4) := (blk_cell BK183.out 4).trans rfl; have hfz9_0 := blk_frozen BK183.out 0; have hfz9_1 := blk_frozen BK183.out 1; have hfz9_2 := blk_frozen BK183.out 2; have hfz9_3 := blk_frozen BK183.out 3; have hfz9_4 := blk_frozen BK183.out 4) | ((with_reducible refine gate_callee (f := 86) rfl ?_); refine goesL_ (some 12) rfl rfl Tryz.func86 (by kernel_rfl) rfl #[.slice A0_3 l0_3.length c0_3, .string a1] rfl (by (try simp only [List.map_toArray, List.map_cons, List.map_nil]); first | done | rfl | (simp only [List.length_drop, List.length_take]; rfl)) ?_; (with_reducible refine (slices_Index_string_string.calls k _ _ l0_3 a1 t184 _ ?side1 ?side2 A4.out).mono ?_); (case side1 => repeat (first | exact (Kd.C_below HR0_3.out HB.out) | (with_reducible refine Kd.C_alloc ?_ _) | (with_reducible refine Kd.C_drewN ?_ _) | (with_reducible refine Kd.C_drew ?_))); (case side2 => exact HC0_3.out); rintro e w' ⟨rfl, ⟨nd, rfl⟩⟩; refine ⟨_, rfl, ?_⟩))
      go_ret
      exact ⟨by first | rfl | (simp [errW_none, errW_some] <;> rfl) | (simp [*, errW_none, errW_some] <;> rfl), by repeat (first | (with_reducible first | exact HB.out | apply below_alloc | apply pw_below_drewN | apply below_drew1 | refine below_set ?_ GE183.out) | exact HB.out)⟩
  · rw [if_neg c3] at H
    have c3b0 : (a0_0 == 5) = false := beq_eq_false_iff_ne.mpr c3
    have c3b1 : (a0_0 != 5) = true := bne_iff_ne.mpr c3
    obtain rfl := Option.some.inj H
    go_enter Tryz.func84, Tryz.ntmps84
    go_wp2_with (first | ((with_reducible refine gate_dst (N := 2) rfl ?_); refine box_event ?hg (N := 2) ?hd (cs := #[.int .i64 a0_0, .int .i64 a0_1, .string a0_2, .slice A0_3 l0_3.length c0_3, .slice A0_4 l0_4.length c0_4]) (t := 48) ?hr ?_; (case hd => rfl); (case hg => rfl); (case hr => first | (go_simp; done) | (go_simp; rfl)); intro gb183 hg w10 hbox hb; have n0_ := Aside0.mk (below_step (by repeat (first | (with_reducible first | exact HB.out | apply below_alloc | apply pw_below_drewN | apply below_drew1) | exact HB.out)) hb); have n1_ := Aside0.mk (hbox); have n2_ := Aside0.mk ((by rw [hg]; exact (below_size (by repeat (first | (with_reducible first | exact HB.out | apply below_alloc | apply pw_below_drewN | apply below_drew1) | exact HB.out))) : w.heap.size ≤ gb183)); have n3_ := Aside0.mk ((by rw [hg]; exact (below_size (by repeat (first | (with_reducible first | exact HB.out | apply below_alloc | apply pw_below_drewN | apply below_drew1) | exact HB.out))) : w.heap.size ≤ gb183)); clear HB; have HB := n0_; have BK183 := n1_; have GW183 := n2_; have GE183 := n3_; clear n0_ n1_ n2_ n3_; clear hb hbox hg; have hcz11_0 : w10.cell? ⟨gb183, 0, none⟩ = some (.int .i64 a0_0) := (blk_cell BK183.out 0).trans rfl; have hcz11_1 : w10.cell? ⟨gb183, 1, none⟩ = some (.int .i64 a0_1) := (blk_cell BK183.out 1).trans rfl; have hcz11_2 : w10.cell? ⟨gb183, 2, none⟩ = some (.string a0_2) := (blk_cell BK183.out 2).trans rfl; have hcz11_3 : w10.cell? ⟨gb183, 3, none⟩ = some (.slice A0_3 l0_3.length c0_3) := (blk_cell BK183.out 3).trans rfl; have hcz11_4 : w10.cell? ⟨gb183, 4, none⟩ = some (.slice A0_4 l0_4.length c0_4) := (blk_cell BK183.out 4).trans rfl; have hfz11_0 := blk_frozen BK183.out 0; have hfz11_1 := blk_frozen BK183.out 1; have hfz11_2 := blk_frozen BK183.out 2; have hfz11_3 := blk_frozen BK183.out 3; have hfz11_4 := blk_frozen BK183.out 4))
    go_ret
    exact ⟨by first | rfl | (simp [errW_none, errW_some] <;> rfl) | (simp [*, errW_none, errW_some] <;> rfl), by repeat (first | (with_reducible first | exact HB.out | apply below_alloc | apply pw_below_drewN | apply below_drew1 | refine below_set ?_ GE183.out) | exact HB.out)⟩
open Go.Proofs.He
abbrev SVa := S48
abbrev kSVa := k48
def Dm : Nat → SVa → Prop
  | 0, v => v.f3.length ≤ 1000000 ∧ v.f4 = []
  | d + 1, v => v.f3.length ≤ 1000000 ∧ v.f4.length ≤ 1000000 ∧ ∀ y ∈ v.f4, Dm d y
theorem Dm.keys {d : Nat} {v : SVa} (h : Dm d v) : v.f3.length ≤ 1000000 := by cases d <;> exact h.1
theorem Dm.list {d : Nat} {v : SVa} (h : Dm d v) : v.f4.length ≤ 1000000 := by
  cases d with
  | zero => rw [h.2]; exact Nat.zero_le _
  | succ d => exact h.2.1
set_option maxHeartbeats 2000000 in
set_option maxRecDepth 100000 in
theorem cloneS.walk (A0 : Option Addr) (c0 : Nat) (l0 : List ByteArray) (w : World) (hr0 : Kd.C Kd.string w A0 l0.length l0) (hlim : l0.length ≤ 1000000) :
    Calls Tryz.prog 106 #[.slice A0 l0.length c0] w fun e w' => ∃ v, e = .returned v ∧ Kd.R Kd.string 9 w' w.heap.size (fun _ => True) v l0 ∧ Below w.heap.size w w' := by
  have hnil : ∀ (w : World) (a : Option Addr) (n c : Nat), Sem.run Tryz.prog (binOp .eql 45 (.slice a n c) (.slice none 0 0)) w = .ok (.bool a.isNone) w := fun w a n c => Lib.run_eql_slice_nil w 45 9 a n c 0 0 Tryz.underlying45
  cases A0 with
  | none =>
    have h0 : l0 = [] := by
      rcases Nat.eq_zero_or_pos l0.length with h | h
      · exact List.eq_nil_of_length_eq_zero h
      · obtain ⟨_, h, _⟩ := hr0.2.2 h; cases h
    subst h0
    go_enter Tryz.func106, Tryz.ntmps106
    go_wp2
    go_ret
    exact ⟨_, rfl, Kd.R_nil _ _ _ _ _, Below.refl _ _⟩
  | some ad =>
    have HB := Aside0.mk ((Below.refl w.heap.size w).alloc (Nat.le_refl _) (Obj.cells #[] 9))
    have HO := Aside0.mk (show Kd.R Kd.string 9 (w.alloc (.cells #[] 9)) w.heap.size (fun _ => True) (.slice (some ⟨w.heap.size, 0, none⟩) 0 0) [] from
      Flat.put (flatScalar _ _) ⟨rfl, .inr ⟨w.heap.size, 0, #[], rfl, Nat.le_refl _, heap_alloc_new w _, Nat.le_refl _, by decide, rfl, rfl⟩⟩ (fun _ _ => trivial))
    have HR := Aside0.mk (Kd.C_below hr0 HB.out)
    clear hr0
    go_enter Tryz.func106, Tryz.ntmps106
    go_wp2_with (at_builtin; refine Kd.R_append_rows Kd.string (w0 := w) w.heap.size rfl (.tmp 5) (.tmp 6) 45 9 (.string ⟨#[]⟩) 16 rfl Tryz.underlying45 (by kernel_rfl) rfl (by decide) (by decide) (.slice (some ⟨w.heap.size, 0, none⟩) 0 0) ([] : List ByteArray) l0 (some ad) l0.length c0 (fun _ => True) (fun _ => False) rfl rfl HO.out HR.out (fun x cs h => h) (fun _ h => h.elim) (fun _ _ => trivial) HB.out (by simp) (by simp; omega) ?_; intro v1 w1 hr1 hb1 _ _)
    go_ret
    exact ⟨_, rfl, by simpa using hr1, hb1⟩
abbrev vAgg2 (v : SVa) (A3 : Option Addr) (c3 : Nat) (A4 : Option Addr) (c4 : Nat) : Value := .agg #[.int .i64 v.f0, .int .i64 v.f1, .string v.f2, .slice A3 v.f3.length c3, .slice A4 v.f4.length c4]
def CopyOf (v : SVa) : Prop := ∀ (A3 : Option Addr) (c3 : Nat) (A4 : Option Addr) (c4 : Nat) (w : World), v.f3.length ≤ c3 → Kd.C Kd.string w A3 v.f3.length v.f3 → v.f4.length ≤ c4 → kSVa.C w A4 v.f4.length v.f4 →
    Calls Tryz.prog 85 #[vAgg2 v A3 c3 A4 c4] w fun e w' => ∃ v3 v4, e = .returned (.agg #[.int .i64 v.f0, .int .i64 v.f1, .string v.f2, v3, v4]) ∧ Kd.R Kd.string 9 w' w.heap.size (fun _ => True) v3 v.f3 ∧ kSVa.R 48 w' w.heap.size (fun k => some k ≠ v3.ownBlock) v4 v.f4 ∧ Below w.heap.size w w'
set_option maxHeartbeats 2000000 in
set_option maxRecDepth 100000 in
theorem each.walk (A0 : Option Addr) (c0 : Nat) (l : List SVa) (w : World) (hr0 : kSVa.C w A0 l.length l) (hc0 : l.length ≤ c0) (hlim : l.length ≤ 1000000) (hcp : ∀ x ∈ l, CopyOf x) :
    Calls Tryz.prog 107 #[.slice A0 l.length c0, .func (.func 85) #[] #[]] w fun e w' => ∃ v, e = .returned v ∧ kSVa.R 48 w' w.heap.size (fun _ => True) v l ∧ Below w.heap.size w w' := by
  have hu32 := Tryz.underlying48
  have HR := Aside0.mk hr0
  have HCP := Aside0.mk hcp
  have HB0 := Aside0.mk (Below.refl w.heap.size w)
  clear hr0 hcp
  go_enter Tryz.func107, Tryz.ntmps107
  go_wp2
  go_loopg [5, 10] l.length (fun gg v5 v10 wr => ∃ i : Nat, i ≤ l.length ∧ l.length - i ≤ gg ∧ v10 = .int .i64 (i : Int) ∧ Aside0 (kSVa.R 48 wr w.heap.size (fun _ => True) v5 (l.take i)) ∧ Aside0 (Below w.heap.size w wr))
  case atStart => exact ⟨0, Nat.zero_le _, by omega, rfl, ⟨by rw [List.take_zero]; exact Kd.R_nil _ _ _ _ _⟩, HB0⟩
  case round =>
    obtain ⟨i, hi, hgg, rfl, HV, HB⟩ := hrel
    by_cases hlt : i < l.length
    · have hltz : (i : Int) < (l.length : Int) := by omega
      obtain ⟨ad, A3, c3, A4, c4, e, x0, x1, x2, x3, x4, h3, g3, h4, g4⟩ := at_T48 HR.out (i : Int) (by omega) (by omega)
      subst e
      obtain ⟨x, hx⟩ : ∃ x, x = rd_T48 l (i : Int) := ⟨_, rfl⟩
      rw [← hx] at x0 x1 x2 x3 x4 h3 g3 h4 g4
      have hxl : l[i]? = some x := by rw [hx]; show l[i]? = some (l.getD _ _); rw [Int.toNat_natCast, List.getD_eq_getElem?_getD, List.getElem?_eq_getElem hlt]; rfl
      have HXL := Aside0.mk hxl
      have hcx := HCP.out x (List.mem_of_getElem? hxl)
      simp only [Int.toNat_natCast] at x0 x1 x2 x3 x4
      replace x0 := pw_cell_below HB.out x0
      replace x1 := pw_cell_below HB.out x1
      replace x2 := pw_cell_below HB.out x2
      replace x3 := pw_cell_below HB.out x3
      replace x4 := pw_cell_below HB.out x4
      have HCX := Aside0.mk (fun (W : World) (hb : Below w.heap.size w W) => hcx A3 c3 A4 c4 W h3 (Kd.C_below g3 hb) h4 (Kd.C_below g4 hb))
      clear hx hxl hcx h3 g3 h4 g4
      go_upto_region 5 with fail
      generalize hw2 : wr.alloc _ = W2
      have hb2 : Below wr.heap.size wr W2 := by rw [← hw2]; exact (Below.refl _ _).alloc (Nat.le_refl _) _
      have hx2 : W2.heap[wr.heap.size]? = some (.cells #[.int .i64 x.f0, .int .i64 x.f1, .string x.f2, .slice A3 x.f3.length c3, .slice A4 x.f4.length c4] 48 (0, 0)) := by rw [← hw2]; exact heap_alloc_new wr _
      clear hw2 x0 x1 x2 x3 x4
      have x0 := blk_cell hx2 0
      have x1 := blk_cell hx2 1
      have x2 := blk_cell hx2 2
      have x3 := blk_cell hx2 3
      have x4 := blk_cell hx2 4
      have HB2 := Aside0.mk hb2
      have HBW := Aside0.mk (below_then HB.out HB.out.size hb2)
      clear hb2 hx2
      go_wp2_with (first
        | (go_at_call 85; refine (HCX.out _ HBW.out).mono ?_; rintro e w1 ⟨v3, v4, rfl, hr3, hr4, hb1⟩; have HR3 := Aside0.mk hr3; have HR4 := Aside0.mk hr4; have HB1 := Aside0.mk hb1; clear hr3 hr4 hb1)
        | (at_builtin; refine Kd.R_append kSVa (w0 := w) (W := w1) w.heap.size rfl (.tmp 14) (.tmp 18) 46 48 (.agg #[(.int .i64 0), (.int .i64 0), (.string ⟨#[]⟩), (.slice none 0 0), (.slice none 0 0)]) 80 rfl Tryz.underlying46 (by kernel_rfl) rfl (by decide) (by decide) u5 (l.take i) x [.int .i64 x.f0, .int .i64 x.f1, .string x.f2, v3, v4] (fun _ => True) (fun k => W2.heap.size ≤ k) rfl rfl (k48_mkM w1 w.heap.size (fun k => W2.heap.size ≤ k) x (Kd.R_lower (Kd.R_mono (Kd.R_bound HR3.out) (fun k hk => hk.2.1)) HBW.out.size) (Kd.R_lower (Kd.R_mono (Kd.R_bound HR4.out) (fun k hk => hk.2.1)) HBW.out.size)) (fun k hk => ⟨trivial, fun e => by have h5 := Kd.R_lt HV.out k e.symm; have := HB2.out.size; have h6 : W2.heap.size ≤ k := hk; omega⟩) (fun _ _ => trivial) (Kd.R_below (Kd.R_below HV.out HB2.out) HB1.out) (below_then HBW.out HBW.out.size HB1.out) (Nat.le_trans HBW.out.size HB1.out.size) (by rw [List.length_take]; omega) ?_; intro v5 w5 hr5 hb5 _ _; replace hr5 := Aside0.mk hr5; replace hb5 := Aside0.mk hb5))
      go_roundg (l.length - (i + 1))
      case measure => omega
      case rel => exact ⟨i + 1, by omega, by omega, by go_num, ⟨by rw [List.take_add_one, HXL.out]; exact hr5.out⟩, hb5⟩
    · have hltz : ¬ (i : Int) < (l.length : Int) := by omega
      have HE : Aside0 (l.take i = l) := ⟨by rw [List.take_of_length_le (by omega)]⟩
      go_wp2
      go_ret
      exact ⟨_, rfl, by rw [HE.out] at HV; exact HV.out, HB.out⟩
theorem vcCells {W : World} {b : Nat} {a0 a1 a2 a3 a4 : Value} {t : TypeId} (h : W.heap[b]? = some (.cells #[a0, a1, a2, a3, a4] t (0, 0))) : W.cell? ⟨b, 0, none⟩ = some a0 ∧ W.cell? ⟨b, 1, none⟩ = some a1 ∧ W.cell? ⟨b, 2, none⟩ = some a2 ∧ W.cell? ⟨b, 3, none⟩ = some a3 ∧ W.cell? ⟨b, 4, none⟩ = some a4 :=
  ⟨blk_cell h 0, blk_cell h 1, blk_cell h 2, blk_cell h 3, blk_cell h 4⟩
theorem vcFree {W : World} {b : Nat} {a0 a1 a2 a3 a4 : Value} {t : TypeId} (h : W.heap[b]? = some (.cells #[a0, a1, a2, a3, a4] t (0, 0))) : W.frozen? ⟨b, 0, none⟩ = false ∧ W.frozen? ⟨b, 1, none⟩ = false ∧ W.frozen? ⟨b, 2, none⟩ = false ∧ W.frozen? ⟨b, 3, none⟩ = false ∧ W.frozen? ⟨b, 4, none⟩ = false :=
  ⟨blk_frozen h 0, blk_frozen h 1, blk_frozen h 2, blk_frozen h 3, blk_frozen h 4⟩
def vcFive (W : World) (b : Nat) (b0 b1 b2 b3 b4 : Value) : World := ((((W.setCell ⟨b, 0, none⟩ b0).setCell ⟨b, 1, none⟩ b1).setCell ⟨b, 2, none⟩ b2).setCell ⟨b, 3, none⟩ b3).setCell ⟨b, 4, none⟩ b4
theorem vcFive_put {W : World} {b : Nat} {a0 a1 a2 a3 a4 b0 b1 b2 b3 b4 : Value} {t : TypeId} (h : W.heap[b]? = some (.cells #[a0, a1, a2, a3, a4] t (0, 0))) : (vcFive W b b0 b1 b2 b3 b4).heap[b]? = some (.cells #[b0, b1, b2, b3, b4] t (0, 0)) :=
  blk_put (blk_put (blk_put (blk_put (blk_put h 0 b0 rfl) 1 b1 rfl) 2 b2 rfl) 3 b3 rfl) 4 b4 rfl
theorem vcFive_far {W : World} {b : Nat} {b0 b1 b2 b3 b4 : Value} {k : Nat} (h : k ≠ b) : (vcFive W b b0 b1 b2 b3 b4).heap[k]? = W.heap[k]? :=
  (Below.heap_setCell _ ⟨b, 4, none⟩ b4 k h).trans ((Below.heap_setCell _ ⟨b, 3, none⟩ b3 k h).trans ((Below.heap_setCell _ ⟨b, 2, none⟩ b2 k h).trans ((Below.heap_setCell _ ⟨b, 1, none⟩ b1 k h).trans (Below.heap_setCell _ ⟨b, 0, none⟩ b0 k h))))
theorem vcFive_below {B : Nat} {w W : World} {b : Nat} {b0 b1 b2 b3 b4 : Value} (hB : B ≤ b) (h : Below B w W) : Below B w (vcFive W b b0 b1 b2 b3 b4) :=
  ((((h.setCell (p := ⟨b, 0, none⟩) hB b0).setCell (p := ⟨b, 1, none⟩) hB b1).setCell (p := ⟨b, 2, none⟩) hB b2).setCell (p := ⟨b, 3, none⟩) hB b3).setCell (p := ⟨b, 4, none⟩) hB b4
set_option maxHeartbeats 2000000 in
set_option maxRecDepth 100000 in
theorem copy_one (v : SVa) (h3 : v.f3.length ≤ 1000000) (h4 : v.f4.length ≤ 1000000) (hcp : ∀ y ∈ v.f4, CopyOf y) : CopyOf v := by
  intro A3 c3 A4 c4 w l3 g3 l4 g4
  have hu32 := Tryz.underlying48
  have HCL := Aside0.mk (fun (W : World) (hb : Below w.heap.size w W) => cloneS.walk A3 c3 v.f3 W (Kd.C_below g3 hb) h3)
  have HEA := Aside0.mk (fun (W : World) (hb : Below w.heap.size w W) => each.walk A4 c4 v.f4 W (Kd.C_below g4 hb) l4 h4 hcp)
  clear h3 h4 hcp l3 g3 l4 g4
  go_enter Tryz.func85, Tryz.ntmps85
  go_upto_region 1 with fail
  generalize hw2 : World.alloc (World.alloc w _) _ = W2
  have hb2 : Below w.heap.size w W2 := by rw [← hw2]; exact ((Below.refl _ _).alloc (Nat.le_refl _) _).alloc (by simp) _
  have hx2 : W2.heap[w.heap.size]? = some (.cells #[.int .i64 v.f0, .int .i64 v.f1, .string v.f2, .slice A3 v.f3.length c3, .slice A4 v.f4.length c4] 48 (0, 0)) := by rw [← hw2]; exact (heap_alloc_old _ _ (by simp)).trans (heap_alloc_new w _)
  have hy2 : W2.heap[w.heap.size + 1]? = some (.cells #[.int .i64 0, .int .i64 0, .string ⟨#[]⟩, .slice none 0 0, .slice none 0 0] 48 (0, 0)) := by
    rw [← hw2]
    have := heap_alloc_new (w.alloc (Obj.cells #[.int .i64 v.f0, .int .i64 v.f1, .string v.f2, .slice A3 v.f3.length c3, .slice A4 v.f4.length c4] 48)) (Obj.cells #[.int .i64 0, .int .i64 0, .string ⟨#[]⟩, .slice none 0 0, .slice none 0 0] 48)
    rwa [World.size_alloc] at this
  clear hw2
  obtain ⟨x0, x1, x2, x3, x4⟩ := vcCells hx2
  have HB2 := Aside0.mk hb2
  have HX2 := Aside0.mk hx2
  have HY2 := Aside0.mk hy2
  clear hb2 hx2 hy2
  go_upto_region 2 with (go_at_call 106; refine (HCL.out _ HB2.out).mono ?_; rintro e w1 ⟨v3, rfl, hr3, hb1⟩; obtain ⟨B3, d3, rfl⟩ := Kd.R_slice hr3; have HR3 := Aside0.mk hr3; have HB1 := Aside0.mk hb1; have HX1 := Aside0.mk ((hb1.block _ (blk_lt HX2.out)).trans HX2.out); have HY1 := Aside0.mk ((hb1.block _ (blk_lt HY2.out)).trans HY2.out); clear hr3 hb1 x0 x1 x2 x3 x4; obtain ⟨x0, x1, x2, x3, x4⟩ := vcCells HX1.out; obtain ⟨f0, f1, f2, f3, f4⟩ := vcFree HX1.out)
  generalize hw3 : World.setCell _ _ _ = W3
  have hs2 : w.heap.size + 1 < W2.heap.size := blk_lt HY2.out
  have HX3 : Aside0 (W3.heap[w.heap.size]? = some (.cells #[.int .i64 v.f0, .int .i64 v.f1, .string v.f2, (.slice B3 v.f3.length d3), .slice A4 v.f4.length c4] 48 (0, 0))) := ⟨by rw [← hw3]; exact blk_put HX1.out 3 (.slice B3 v.f3.length d3) rfl⟩
  have HY3 : Aside0 (W3.heap[w.heap.size + 1]? = some (.cells #[.int .i64 0, .int .i64 0, .string ⟨#[]⟩, .slice none 0 0, .slice none 0 0] 48 (0, 0))) := ⟨by rw [← hw3]; exact (Below.heap_setCell _ _ _ _ (show w.heap.size + 1 ≠ w.heap.size by omega)).trans HY1.out⟩
  have HB3 : Aside0 (Below w.heap.size w W3) := ⟨by rw [← hw3]; exact (below_then HB2.out HB2.out.size HB1.out).setCell (p := ⟨w.heap.size, 3, none⟩) (Nat.le_refl _) _⟩
  have HR33 : Aside0 (Kd.R Kd.string 9 W3 W2.heap.size (fun k => W2.heap.size ≤ k) (.slice B3 v.f3.length d3) v.f3) := ⟨by rw [← hw3]; exact Kd.R_far (Kd.R_mono (Kd.R_bound HR3.out) (fun k hk => hk.2.1)) (fun k hk => show k ≠ w.heap.size by have h5 : W2.heap.size ≤ k := hk; omega) _⟩
  have hs3 : W2.heap.size ≤ W3.heap.size := by rw [← hw3]; simp [World.setCell]; exact HB1.out.size
  clear hw3 x0 x1 x2 x3 x4 f0 f1 f2 f3 f4 HX1 HY1 HX2 HY2 HR3
  obtain ⟨x0, x1, x2, x3, x4⟩ := vcCells HX3.out
  go_upto_region 3 with (go_at_call 107; refine (HEA.out _ HB3.out).mono ?_; rintro e w4 ⟨v4, rfl, hr4, hb4⟩; obtain ⟨B4, d4, rfl⟩ := Kd.R_slice hr4; have HR4 := Aside0.mk hr4; have HB4 := Aside0.mk hb4; have HX4 := Aside0.mk ((hb4.block _ (blk_lt HX3.out)).trans HX3.out); have HY4 := Aside0.mk ((hb4.block _ (blk_lt HY3.out)).trans HY3.out); clear hr4 hb4 x0 x1 x2 x3 x4; obtain ⟨x0, x1, x2, x3, x4⟩ := vcCells HX4.out; obtain ⟨f0, f1, f2, f3, f4⟩ := vcFree HX4.out)
  generalize hw5 : World.setCell _ _ _ = W5
  have HX5 : Aside0 (W5.heap[w.heap.size]? = some (.cells #[.int .i64 v.f0, .int .i64 v.f1, .string v.f2, (.slice B3 v.f3.length d3), (.slice B4 v.f4.length d4)] 48 (0, 0))) := ⟨by rw [← hw5]; exact blk_put HX4.out 4 (.slice B4 v.f4.length d4) rfl⟩
  have HY5 : Aside0 (W5.heap[w.heap.size + 1]? = some (.cells #[.int .i64 0, .int .i64 0, .string ⟨#[]⟩, .slice none 0 0, .slice none 0 0] 48 (0, 0))) := ⟨by rw [← hw5]; exact (Below.heap_setCell _ _ _ _ (show w.heap.size + 1 ≠ w.heap.size by omega)).trans HY4.out⟩
  have HB5 : Aside0 (Below w.heap.size w W5) := ⟨by rw [← hw5]; exact (below_then HB3.out HB3.out.size HB4.out).setCell (p := ⟨w.heap.size, 4, none⟩) (Nat.le_refl _) _⟩
  have HR35 : Aside0 (Kd.R Kd.string 9 W5 W2.heap.size (fun k => W2.heap.size ≤ k ∧ k < W3.heap.size) (.slice B3 v.f3.length d3) v.f3) := ⟨by rw [← hw5]; exact Kd.R_mono (Kd.R_far (Kd.R_below (Kd.R_bound HR33.out) HB4.out) (fun k hk => show k ≠ w.heap.size by have h5 : W2.heap.size ≤ k := hk.1; omega) _) (fun k hk => ⟨hk.1, hk.2.2.1⟩)⟩
  have HR45 : Aside0 (kSVa.R 48 W5 W3.heap.size (fun k => W3.heap.size ≤ k) (.slice B4 v.f4.length d4) v.f4) := ⟨by rw [← hw5]; exact Kd.R_far (Kd.R_mono (Kd.R_bound HR4.out) (fun k hk => hk.2.1)) (fun k hk => show k ≠ w.heap.size by have h5 : W3.heap.size ≤ k := hk; omega) _⟩
  clear hw5 x0 x1 x2 x3 x4 f0 f1 f2 f3 f4 HX4 HY4 HX3 HY3 HR4 HR33
  obtain ⟨x0, x1, x2, x3, x4⟩ := vcCells HX5.out
  obtain ⟨z0, z1, z2, z3, z4⟩ := vcCells HY5.out
  obtain ⟨f0, f1, f2, f3, f4⟩ := vcFree HY5.out
  go_wp2
  refine bodyPost_ret (results_cell_row rfl _ _ (w.heap.size + 1) 48 _ (0, 0) _ rfl (vcFive_put HY5.out) Tryz.underlying48 rfl (by kernel_rfl)) rfl ?_
  refine ⟨_, _, rfl, ?_, ?_, vcFive_below (Nat.le_succ _) HB5.out⟩
  · exact Kd.R_mono (Kd.R_lower (Kd.R_step HR35.out (fun k hk _ => vcFive_far (by have h5 : W2.heap.size ≤ k := hk.1; omega))) HB2.out.size) (fun _ _ => trivial)
  · exact Kd.R_mono (Kd.R_lower (Kd.R_step HR45.out (fun k hk _ => vcFive_far (by have h5 : W3.heap.size ≤ k := hk; omega))) HB3.out.size) (fun k hk e => by have h5 := (HR35.out.1 k e.symm).2; have h6 : W3.heap.size ≤ k := hk; omega)
theorem copy_all : ∀ (d : Nat) (v : SVa), Dm d v → CopyOf v := by
  intro d
  induction d with
  | zero => intro v h; exact copy_one v h.keys h.list (fun y hy => by rw [h.2] at hy; cases hy)
  | succ d ih => intro v h; exact copy_one v h.keys h.list (fun y hy => ih y (h.2.2 y hy))
def dmB : Nat → SVa → Bool
  | 0, v => decide (v.f3.length ≤ 1000000) && v.f4.isEmpty
  | d + 1, v => decide (v.f3.length ≤ 1000000) && (decide (v.f4.length ≤ 1000000) && v.f4.all (dmB d))
theorem dmB_dm : ∀ (d : Nat) (v : SVa), dmB d v = true → Dm d v
  | 0, v, h => by
    simp only [dmB, Bool.and_eq_true, decide_eq_true_eq, List.isEmpty_iff] at h
    exact h
  | d + 1, v, h => by
    simp only [dmB, Bool.and_eq_true, decide_eq_true_eq, List.all_eq_true] at h
    exact ⟨h.1, h.2.1, fun y hy => dmB_dm d y (h.2.2 y hy)⟩
theorem dm_dmB : ∀ (d : Nat) (v : SVa), Dm d v → dmB d v = true
  | 0, v, h => by
    simp only [dmB, Bool.and_eq_true, decide_eq_true_eq, List.isEmpty_iff]
    exact h
  | d + 1, v, h => by
    simp only [dmB, Bool.and_eq_true, decide_eq_true_eq, List.all_eq_true]
    exact ⟨h.1, h.2.1, fun y hy => dm_dmB d y (h.2.2 y hy)⟩
theorem Dm.up : ∀ (d : Nat) (v : SVa), Dm d v → Dm (d + 1) v
  | 0, v, h => ⟨h.1, by rw [h.2]; exact Nat.zero_le _, fun y hy => by rw [h.2] at hy; cases hy⟩
  | d + 1, v, h => ⟨h.1, h.2.1, fun y hy => Dm.up d y (h.2.2 y hy)⟩
theorem Dm.le {d d' : Nat} {v : SVa} (h : Dm d v) (hd : d ≤ d') : Dm d' v := by
  induction hd with
  | refl => exact h
  | step _ ih => exact Dm.up _ _ ih
def value_Copy.f (a0_0 : Int) (a0_1 : Int) (a0_2 : ByteArray) (l0_3 : List ByteArray) (l0_4 : List SVa) : Option (Int × Int × ByteArray × List ByteArray × (List SVa)) := if dmB 300 (⟨a0_0, a0_1, a0_2, l0_3, l0_4⟩ : SVa) = true then some (a0_0, a0_1, a0_2, l0_3, l0_4) else none
theorem value_Copy.calls (a0_0 : Int) (a0_1 : Int) (a0_2 : ByteArray) (A0_3 : Option Addr) (c0_3 : Nat) (l0_3 : List ByteArray) (A0_4 : Option Addr) (c0_4 : Nat) (l0_4 : List SVa) (r0 : Int) (r1 : Int) (r2 : ByteArray) (r3 : List ByteArray) (r4 : List SVa) (w : World) (hr0_3 : Kd.C Kd.string w A0_3 l0_3.length l0_3) (hc0_3 : l0_3.length ≤ c0_3) (hr0_4 : Kd.C k48 w A0_4 l0_4.length l0_4) (hc0_4 : l0_4.length ≤ c0_4) (h : value_Copy.f a0_0 a0_1 a0_2 l0_3 l0_4 = some (r0, r1, r2, r3, r4)) :
    Calls Tryz.prog 85 #[.agg #[.int .i64 a0_0, .int .i64 a0_1, .string a0_2, .slice A0_3 l0_3.length c0_3, .slice A0_4 l0_4.length c0_4]] w fun e w' => ∃ v3_ v4_ : Value, e = .returned (.agg #[.int .i64 r0, .int .i64 r1, .string r2, v3_, v4_]) ∧ Kd.R Kd.string 9 w' w.heap.size (fun _ => True) v3_ r3 ∧ Kd.R k48 48 w' w.heap.size (fun k_ => some k_ ≠ (v3_ : Value).ownBlock) v4_ r4 ∧ Below w.heap.size w w' := by
  unfold value_Copy.f at h
  split at h
  · rename_i hd
    cases h
    exact copy_all 300 _ (dmB_dm 300 _ hd) A0_3 c0_3 A0_4 c0_4 w hc0_3 hr0_3 hc0_4 hr0_4
  · cases h
end Go.Proofs.YtmdjknkhjimgeaaGreat.S
end
section
namespace Go.Proofs.YtmdjknkhjimgeaaGreat.S
open Go.RowKit Go.Proofs.YtmdjknkhjimgeaaGreatW.PrintWords Go.Proofs.YtmdjknkhjimgeaaGreatW.PrintLast Go.Proofs.YtmdjknkhjimgeaaGreatW.PrintMore
attribute [local go_sem] max2_int min2_int max_two min_two max_three min_three max_four min_four
set_option linter.unusedVariables false
set_option linter.unusedSimpArgs false
def value_Get.f (k : Nat) (a0_0 : Int) (a0_1 : Int) (a0_2 : ByteArray) (l0_3 : List ByteArray) (l0_4 : List (S48)) (a1 : ByteArray) : Option (Int × Int × ByteArray × List ByteArray × (List (S48)) × Bool) := (value_place.f k a0_0 a0_1 a0_2 l0_3 l0_4 a1).bind fun t187 => (if t187 < 0 then (some (0, 0, (⟨#[]⟩ : ByteArray), ([] : List ByteArray), ([] : List (S48)), false)) else (if 0 ≤ t187 then (if t187 < (l0_4.length : Int) then ((value_Copy.f ((rd_T48 l0_4 t187).f0) ((rd_T48 l0_4 t187).f1) ((rd_T48 l0_4 t187).f2) ((rd_T48 l0_4 t187).f3) ((rd_T48 l0_4 t187).f4)).bind fun bt189 => (some (bt189.1, bt189.2.1, bt189.2.2.1, bt189.2.2.2.1, bt189.2.2.2.2, true))) else (none)) else (none)))
set_option maxHeartbeats 8000000 in
set_option maxRecDepth 100000 in
theorem value_Get.calls (k : Nat) (a0_0 : Int) (a0_1 : Int) (a0_2 : ByteArray) (A0_3 : Option Addr) (c0_3 : Nat) (l0_3 : List ByteArray) (A0_4 : Option Addr) (c0_4 : Nat) (l0_4 : List (S48)) (a1 : ByteArray) (r1 : Int) (r2 : Int) (r3 : ByteArray) (r4 : List ByteArray) (r5 : List (S48)) (r6 : Bool) (w : World) (hr0_3 : Kd.C Kd.string w A0_3 l0_3.length l0_3) (hc0_3 : l0_3.length ≤ c0_3) (hr0_4 : Kd.C k48 w A0_4 l0_4.length l0_4) (hc0_4 : l0_4.length ≤ c0_4) (h : value_Get.f k a0_0 a0_1 a0_2 l0_3 l0_4 a1 = some (r1, r2, r3, r4, r5, r6)) :
    Calls Tryz.prog 44 #[.agg #[.int .i64 a0_0, .int .i64 a0_1, .string a0_2, .slice A0_3 l0_3.length c0_3, .slice A0_4 l0_4.length c0_4], .string a1] w fun e w' => ∃ v3_ v4_ : Value, e = .returned (.tuple #[.agg #[.int .i64 r1, .int .i64 r2, .string r3, v3_, v4_], .bool r6]) ∧ Kd.R Kd.string 9 w' w.heap.size (fun _ => True) v3_ r4 ∧ Kd.R k48 48 w' w.heap.size (fun k_ => some k_ ≠ (v3_ : Value).ownBlock) v4_ r5 ∧ Below w.heap.size w w' := by
  have hu48 := Tryz.underlying48
  have HR0_3 := Aside0.mk hr0_3
  have HC0_3 := Aside0.mk hc0_3
  clear hr0_3 hc0_3
  have HR0_4 := Aside0.mk hr0_4
  have HC0_4 := Aside0.mk hc0_4
  clear hr0_4 hc0_4
  have HB := Aside0.mk (Below.refl w.heap.size w)
  have H : ((value_place.f k a0_0 a0_1 a0_2 l0_3 l0_4 a1).bind fun t187 => (if t187 < 0 then (some (0, 0, (⟨#[]⟩ : ByteArray), ([] : List ByteArray), ([] : List (S48)), false)) else (if 0 ≤ t187 then (if t187 < (l0_4.length : Int) then ((value_Copy.f ((rd_T48 l0_4 t187).f0) ((rd_T48 l0_4 t187).f1) ((rd_T48 l0_4 t187).f2) ((rd_T48 l0_4 t187).f3) ((rd_T48 l0_4 t187).f4)).bind fun bt189 => (some (bt189.1, bt189.2.1, bt189.2.2.1, bt189.2.2.2.1, bt189.2.2.2.2, true))) else (none)) else (none)))) = some (r1, r2, r3, r4, r5, r6) := h
  clear h
  replace H := Option.bind_eq_some_iff.mp H
  obtain ⟨t187, A30, H⟩ := H
  replace H : (if t187 < 0 then (some (0, 0, (⟨#[]⟩ : ByteArray), ([] : List ByteArray), ([] : List (S48)), false)) else (if 0 ≤ t187 then (if t187 < (l0_4.length : Int) then ((value_Copy.f ((rd_T48 l0_4 t187).f0) ((rd_T48 l0_4 t187).f1) ((rd_T48 l0_4 t187).f2) ((rd_T48 l0_4 t187).f3) ((rd_T48 l0_4 t187).f4)).bind fun bt189 => (some (bt189.1, bt189.2.1, bt189.2.2.1, bt189.2.2.2.1, bt189.2.2.2.2, true))) else (none)) else (none))) = some (r1, r2, r3, r4, r5, r6) := H
  have A3 := Aside0.mk A30
  clear A30
  by_cases c4 : t187 < 0
  · rw [if_pos c4] at H
    have c4b0 : decide (t187 < 0) = true := decide_eq_true c4
    clear c4
    simp only [Option.some.injEq, Prod.mk.injEq] at H
    obtain ⟨rfl, rfl, rfl, rfl, rfl, rfl⟩ := H
    go_enter Tryz.func44, Tryz.ntmps44
    go_wp2_with (first | ((with_reducible refine gate_dst (N := 2) rfl ?_); refine box_event ?hg (N := 2) ?hd (cs := #[.int .i64 a0_0, .int .i64 a0_1, .string a0_2, .slice A0_3 l0_3.length c0_3, .slice A0_4 l0_4.length c0_4]) (t := 48) ?hr ?_; (case hd => rfl); (case hg => rfl); (case hr => first | (go_simp; done) | (go_simp; rfl)); intro gb185 hg w5 hbox hb; have n0_ := Aside0.mk (below_step (by repeat (first | (with_reducible first | exact HB.out | apply below_alloc | apply pw_below_drewN | apply below_drew1) | exact HB.out)) hb); have n1_ := Aside0.mk (hbox); have n2_ := Aside0.mk ((by rw [hg]; exact (below_size (by repeat (first | (with_reducible first | exact HB.out | apply below_alloc | apply pw_below_drewN | apply below_drew1) | exact HB.out))) : w.heap.size ≤ gb185)); have n3_ := Aside0.mk ((by rw [hg]; exact (below_size (by repeat (first | (with_reducible first | exact HB.out | apply below_alloc | apply pw_below_drewN | apply below_drew1) | exact HB.out))) : w.heap.size ≤ gb185)); clear HB; have HB := n0_; have BK185 := n1_; have GW185 := n2_; have GE185 := n3_; clear n0_ n1_ n2_ n3_; clear hb hbox hg) | ((with_reducible refine gate_dst (N := 4) rfl ?_); refine box_event ?hg (N := 4) ?hd (cs := #[.int .i64 0, .int .i64 0, .string (⟨#[]⟩ : ByteArray), .slice none 0 0, .slice none 0 0]) (t := 48) ?hr ?_; (case hd => rfl); (case hg => rfl); (case hr => first | (go_simp; done) | (go_simp; rfl)); intro gb186 hg w6 hbox hb; have n0_ := Aside0.mk (blk_below (g := gb185) (o := .cells #[.int .i64 a0_0, .int .i64 a0_1, .string a0_2, .slice A0_3 l0_3.length c0_3, .slice A0_4 l0_4.length c0_4] 48 (0, 0)) (by (with_reducible repeat (first | refine blk_drewN ?_ _ | refine blk_drew ?_ | refine blk_alloc ?_ _)); exact BK185.out) hb); have n1_ := Aside0.mk (below_step (by repeat (first | (with_reducible first | exact HB.out | apply below_alloc | apply pw_below_drewN | apply below_drew1 | refine below_set ?_ GE185.out) | exact HB.out)) hb); have n2_ := Aside0.mk (hbox); have n3_ := Aside0.mk ((by rw [hg]; exact (below_size (by repeat (first | (with_reducible first | exact HB.out | apply below_alloc | apply pw_below_drewN | apply below_drew1 | refine below_set ?_ GE185.out) | exact HB.out))) : w.heap.size ≤ gb186)); have n4_ := Aside0.mk ((by rw [hg]; exact (below_size (by repeat (first | (with_reducible first | exact HB.out | apply below_alloc | apply pw_below_drewN | apply below_drew1 | refine below_set ?_ GE185.out) | exact HB.out))) : w.heap.size ≤ gb186)); have n5_ := Aside0.mk ((by rw [hg]; exact Nat.ne_of_lt (blk_lt (g := gb185) (o := .cells #[.int .i64 a0_0, .int .i64 a0_1, .string a0_2, .slice A0_3 l0_3.length c0_3, .slice A0_4 l0_4.length c0_4] 48 (0, 0)) (by (with_reducible repeat (first | refine blk_drewN ?_ _ | refine blk_drew ?_ | refine blk_alloc ?_ _)); exact BK185.out)) : gb185 ≠ gb186)); have n6_ := Aside0.mk ((by rw [hg]; exact Nat.ne_of_gt (blk_lt (g := gb185) (o := .cells #[.int .i64 a0_0, .int .i64 a0_1, .string a0_2, .slice A0_3 l0_3.length c0_3, .slice A0_4 l0_4.length c0_4] 48 (0, 0)) (by (with_reducible repeat (first | refine blk_drewN ?_ _ | refine blk_drew ?_ | refine blk_alloc ?_ _)); exact BK185.out)) : gb186 ≠ gb185)); clear BK185; clear HB; have BK185 := n0_; have HB := n1_; have BK186 := n2_; have GW186 := n3_; have GE186 := n4_; have NB185_186 := n5_; have NB186_185 := n6_; clear n0_ n1_ n2_ n3_ n4_ n5_ n6_; clear hb hbox hg; have hnb7 := NB185_186.out; have hnc7 := NB186_185.out; have hcz8_0 : w6.cell? ⟨gb185, 0, none⟩ = some (.int .i64 a0_0) := (blk_cell BK185.out 0).trans rfl; have hcz8_1 : w6.cell? ⟨gb185, 1, none⟩ = some (.int .i64 a0_1) := (blk_cell BK185.out 1).trans rfl; have hcz8_2 : w6.cell? ⟨gb185, 2, none⟩ = some (.string a0_2) := (blk_cell BK185.out 2).trans rfl; have hcz8_3 : w6.cell? ⟨gb185, 3, none⟩ = some (.slice A0_3 l0_3.length c0_3) := (blk_cell BK185.out 3).trans rfl; have hcz8_4 : w6.cell? ⟨gb185, 4, none⟩ = some (.slice A0_4 l0_4.length c0_4) := (blk_cell BK185.out 4).trans rfl; have hfz8_0 := blk_frozen BK185.out 0; have hfz8_1 := blk_frozen BK185.out 1; have hfz8_2 := blk_frozen BK185.out 2; have hfz8_3 := blk_frozen BK185.out 3; have hfz8_4 := blk_frozen BK185.out 4) | ((with_reducible refine gate_callee (f := 84) rfl ?_); refine goesL_ (some 9) rfl rfl Tryz.func84 (by kernel_rfl) rfl #[.agg #[.int .i64 a0_0, .int .i64 a0_1, .string a0_2, .slice A0_3 l0_3.length c0_3, .slice A0_4 l0_4.length c0_4], .string a1] rfl (by (try simp only [List.map_toArray, List.map_cons, List.map_nil]); first | done | rfl | (simp only [List.length_drop, List.length_take]; rfl)) ?_; (with_reducible refine (value_place.calls k a0_0 a0_1 a0_2 _ _ l0_3 _ _ l0_4 a1 t187 _ ?side1 ?side2 ?side3 ?side4 A3.out).mono ?_); (case side1 => repeat (first | exact (Kd.C_below HR0_3.out HB.out) | (with_reducible refine Kd.C_alloc ?_ _) | (with_reducible refine Kd.C_drewN ?_ _) | (with_reducible refine Kd.C_drew ?_))); (case side2 => exact HC0_3.out); (case side3 => repeat (first | exact (Kd.C_below HR0_4.out HB.out) | (with_reducible refine Kd.C_alloc ?_ _) | (with_reducible refine Kd.C_drewN ?_ _) | (with_reducible refine Kd.C_drew ?_))); (case side4 => exact HC0_4.out); rintro e w9 ⟨rfl, hb⟩; refine ⟨_, rfl, ?_⟩; have n0_ := Aside0.mk (blk_below (g := gb185) (o := .cells #[.int .i64 a0_0, .int .i64 a0_1, .string a0_2, .slice A0_3 l0_3.length c0_3, .slice A0_4 l0_4.length c0_4] 48 (0, 0)) (by (with_reducible repeat (first | refine blk_drewN ?_ _ | refine blk_drew ?_ | refine blk_alloc ?_ _)); exact BK185.out) hb); have n1_ := Aside0.mk (blk_below (g := gb186) (o := .cells #[.int .i64 0, .int .i64 0, .string (⟨#[]⟩ : ByteArray), .slice none 0 0, .slice none 0 0] 48 (0, 0)) (by (with_reducible repeat (first | refine blk_drewN ?_ _ | refine blk_drew ?_ | refine blk_alloc ?_ _)); exact BK186.out) hb); have n2_ := Aside0.mk (below_step (by repeat (first | (with_reducible first | exact HB.out | apply below_alloc | apply pw_below_drewN | apply below_drew1 | refine below_set ?_ GE185.out | refine below_set ?_ GE186.out) | exact HB.out)) hb); clear BK185; clear BK186; clear HB; have BK185 := n0_; have BK186 := n1_; have HB := n2_; clear n0_ n1_ n2_; (try clear hb); (try clear hb2); (try clear hk); (try clear hi); have hcz10_0 : w9.cell? ⟨gb186, 0, none⟩ = some (.int .i64 0) := (blk_cell BK186.out 0).trans rfl; have hcz10_1 : w9.cell? ⟨gb186, 1, none⟩ = some (.int .i64 0) := (blk_cell BK186.out 1).trans rfl; have hcz10_2 : w9.cell? ⟨gb186, 2, none⟩ = some (.string (⟨#[]⟩ : ByteArray)) := (blk_cell BK186.out 2).trans rfl; have hcz10_3 : w9.cell? ⟨gb186, 3, none⟩ = some (.slice none 0 0) := (blk_cell BK186.out 3).trans rfl; have hcz10_4 : w9.cell? ⟨gb186, 4, none⟩ = some (.slice none 0 0) := (blk_cell BK186.out 4).trans rfl; have hfz10_0 := blk_frozen BK186.out 0; have hfz10_1 := blk_frozen BK186.out 1; have hfz10_2 := blk_frozen BK186.out 2; have hfz10_3 := blk_frozen BK186.out 3; have hfz10_4 := blk_frozen BK186.out 4))
    refine bodyPost_ret (results_ct rfl _ _ gb186 48 #[.int .i64 0, .int .i64 0, .string (⟨#[]⟩ : ByteArray), .slice none 0 0, .slice none 0 0] (0, 0) _ rfl (by (with_reducible repeat (first | refine blk_drewN ?_ _ | refine blk_drew ?_ | refine blk_alloc ?_ _)); refine blk_put (cs := #[.int .i64 0, .int .i64 0, .string (⟨#[]⟩ : ByteArray), .slice none 0 0, .slice none 0 0]) ?_ 4 _ rfl; (with_reducible repeat (first | refine blk_drewN ?_ _ | refine blk_drew ?_ | refine blk_alloc ?_ _)); refine blk_put (cs := #[.int .i64 0, .int .i64 0, .string (⟨#[]⟩ : ByteArray), .slice none 0 0, .slice none 0 0]) ?_ 3 _ rfl; (with_reducible repeat (first | refine blk_drewN ?_ _ | refine blk_drew ?_ | refine blk_alloc ?_ _)); refine blk_put (cs := #[.int .i64 0, .int .i64 0, .string (⟨#[]⟩ : ByteArray), .slice none 0 0, .slice none 0 0]) ?_ 2 _ rfl; (with_reducible repeat (first | refine blk_drewN ?_ _ | refine blk_drew ?_ | refine blk_alloc ?_ _)); refine blk_put (cs := #[.int .i64 0, .int .i64 0, .string (⟨#[]⟩ : ByteArray), .slice none 0 0, .slice none 0 0]) ?_ 1 _ rfl; (with_reducible repeat (first | refine blk_drewN ?_ _ | refine blk_drew ?_ | refine blk_alloc ?_ _)); refine blk_put (cs := #[.int .i64 0, .int .i64 0, .string (⟨#[]⟩ : ByteArray), .slice none 0 0, .slice none 0 0]) ?_ 0 _ rfl; (with_reducible repeat (first | refine blk_drewN ?_ _ | refine blk_drew ?_ | refine blk_alloc ?_ _)); exact BK186.out) Tryz.underlying48 rfl (by kernel_rfl)) rfl ?_
    exact ⟨_, _, by first | rfl | (simp [errW_none, errW_some] <;> rfl) | (simp [*, errW_none, errW_some] <;> rfl), by first | exact Kd.R_nil _ _ _ _ _ | exact Kd.N_nil _ _ _ _ _ | exact Kd.V_nil _ _ _ _ _ | exact Kd.Q_nil _ _ _ _ _ | exact Kd.S_nil _ _ _ _ _, by first | exact Kd.R_nil _ _ _ _ _ | exact Kd.N_nil _ _ _ _ _ | exact Kd.V_nil _ _ _ _ _ | exact Kd.Q_nil _ _ _ _ _ | exact Kd.S_nil _ _ _ _ _, by repeat (first | (with_reducible first | exact HB.out | apply below_alloc | apply pw_below_drewN | apply below_drew1 | refine below_set ?_ GE185.out | refine below_set ?_ GE186.out) | exact HB.out)⟩
  · rw [if_neg c4] at H
    have c4b0 : decide (t187 < 0) = false := decide_eq_false c4
    clear c4
    by_cases c11 : 0 ≤ t187
    · rw [if_pos c11] at H
      have c11b0 : decide (0 ≤ t187) = true := decide_eq_true c11
      clear c11
      by_cases c12 : t187 < (l0_4.length : Int)
      · rw [if_pos c12] at H
        have c12b0 : decide (t187 < (l0_4.length : Int)) = true := decide_eq_true c12
        clear c12
        replace H := Option.bind_eq_some_iff.mp H
        obtain ⟨⟨t189, t190, t191, t192, t195⟩, A130, H⟩ := H
        replace H : (some (t189, t190, t191, t192, t195, true)) = some (r1, r2, r3, r4, r5, r6) := H
        have A13 := Aside0.mk A130
        clear A130
        simp only [Option.some.injEq, Prod.mk.injEq] at H
        obtain ⟨rfl, rfl, rfl, rfl, rfl, rfl⟩ := H
        go_enter Tryz.func44, Tryz.ntmps44
        go_wp2_with (first | ((with_reducible refine gate_dst (N := 2) rfl ?_); refine box_event ?hg (N := 2) ?hd (cs := #[.int .i64 a0_0, .int .i64 a0_1, .string a0_2, .slice A0_3 l0_3.length c0_3, .slice A0_4 l0_4.length c0_4]) (t := 48) ?hr ?_; (case hd => rfl); (case hg => rfl); (case hr => first | (go_simp; done) | (go_simp; rfl)); intro gb185 hg w14 hbox hb; have n0_ := Aside0.mk (below_step (by repeat (first | (with_reducible first | exact HB.out | apply below_alloc | apply pw_below_drewN | apply below_drew1) | exact HB.out)) hb); have n1_ := Aside0.mk (hbox); have n2_ := Aside0.mk ((by rw [hg]; exact (below_size (by repeat (first | (with_reducible first | exact HB.out | apply below_alloc | apply pw_below_drewN | apply below_drew1) | exact HB.out))) : w.heap.size ≤ gb185)); have n3_ := Aside0.mk ((by rw [hg]; exact (below_size (by repeat (first | (with_reducible first | exact HB.out | apply below_alloc | apply pw_below_drewN | apply below_drew1) | exact HB.out))) : w.heap.size ≤ gb185)); clear HB; have HB := n0_; have BK185 := n1_; have GW185 := n2_; have GE185 := n3_; clear n0_ n1_ n2_ n3_; clear hb hbox hg) | ((with_reducible refine gate_dst (N := 4) rfl ?_); refine box_event ?hg (N := 4) ?hd (cs := #[.int .i64 0, .int .i64 0, .string (⟨#[]⟩ : ByteArray), .slice none 0 0, .slice none 0 0]) (t := 48) ?hr ?_; (case hd => rfl); (case hg => rfl); (case hr => first | (go_simp; done) | (go_simp; rfl)); intro gb186 hg w15 hbox hb; have n0_ := Aside0.mk (blk_below (g := gb185) (o := .cells #[.int .i64 a0_0, .int .i64 a0_1, .string a0_2, .slice A0_3 l0_3.length c0_3, .slice A0_4 l0_4.length c0_4] 48 (0, 0)) (by (with_reducible repeat (first | refine blk_drewN ?_ _ | refine blk_drew ?_ | refine blk_alloc ?_ _)); exact BK185.out) hb); have n1_ := Aside0.mk (below_step (by repeat (first | (with_reducible first | exact HB.out | apply below_alloc | apply pw_below_drewN | apply below_drew1 | refine below_set ?_ GE185.out) | exact HB.out)) hb); have n2_ := Aside0.mk (hbox); have n3_ := Aside0.mk ((by rw [hg]; exact (below_size (by repeat (first | (with_reducible first | exact HB.out | apply below_alloc | apply pw_below_drewN | apply below_drew1 | refine below_set ?_ GE185.out) | exact HB.out))) : w.heap.size ≤ gb186)); have n4_ := Aside0.mk ((by rw [hg]; exact (below_size (by repeat (first | (with_reducible first | exact HB.out | apply below_alloc | apply pw_below_drewN | apply below_drew1 | refine below_set ?_ GE185.out) | exact HB.out))) : w.heap.size ≤ gb186)); have n5_ := Aside0.mk ((by rw [hg]; exact Nat.ne_of_lt (blk_lt (g := gb185) (o := .cells #[.int .i64 a0_0, .int .i64 a0_1, .string a0_2, .slice A0_3 l0_3.length c0_3, .slice A0_4 l0_4.length c0_4] 48 (0, 0)) (by (with_reducible repeat (first | refine blk_drewN ?_ _ | refine blk_drew ?_ | refine blk_alloc ?_ _)); exact BK185.out)) : gb185 ≠ gb186)); have n6_ := Aside0.mk ((by rw [hg]; exact Nat.ne_of_gt (blk_lt (g := gb185) (o := .cells #[.int .i64 a0_0, .int .i64 a0_1, .string a0_2, .slice A0_3 l0_3.length c0_3, .slice A0_4 l0_4.length c0_4] 48 (0, 0)) (by (with_reducible repeat (first | refine blk_drewN ?_ _ | refine blk_drew ?_ | refine blk_alloc ?_ _)); exact BK185.out)) : gb186 ≠ gb185)); clear BK185; clear HB; have BK185 := n0_; have HB := n1_; have BK186 := n2_; have GW186 := n3_; have GE186 := n4_; have NB185_186 := n5_; have NB186_185 := n6_; clear n0_ n1_ n2_ n3_ n4_ n5_ n6_; clear hb hbox hg; have hnb16 := NB185_186.out; have hnc16 := NB186_185.out; have hcz17_0 : w15.cell? ⟨gb185, 0, none⟩ = some (.int .i64 a0_0) := (blk_cell BK185.out 0).trans rfl; have hcz17_1 : w15.cell? ⟨gb185, 1, none⟩ = some (.int .i64 a0_1) := (blk_cell BK185.out 1).trans rfl; have hcz17_2 : w15.cell? ⟨gb185, 2, none⟩ = some (.string a0_2) := (blk_cell BK185.out 2).trans rfl; have hcz17_3 : w15.cell? ⟨gb185, 3, none⟩ = some (.slice A0_3 l0_3.length c0_3) := (blk_cell BK185.out 3).trans rfl; have hcz17_4 : w15.cell? ⟨gb185, 4, none⟩ = some (.slice A0_4 l0_4.length c0_4) := (blk_cell BK185.out 4).trans rfl; have hfz17_0 := blk_frozen BK185.out 0; have hfz17_1 := blk_frozen BK185.out 1; have hfz17_2 := blk_frozen BK185.out 2; have hfz17_3 := blk_frozen BK185.out 3; have hfz17_4 := blk_frozen BK185.out 4) | ((with_reducible refine gate_callee (f := 84) rfl ?_); refine goesL_ (some 9) rfl rfl Tryz.func84 (by kernel_rfl) rfl #[.agg #[.int .i64 a0_0, .int .i64 a0_1, .string a0_2, .slice A0_3 l0_3.length c0_3, .slice A0_4 l0_4.length c0_4], .string a1] rfl (by (try simp only [List.map_toArray, List.map_cons, List.map_nil]); first | done | rfl | (simp only [List.length_drop, List.length_take]; rfl)) ?_; (with_reducible refine (value_place.calls k a0_0 a0_1 a0_2 _ _ l0_3 _ _ l0_4 a1 t187 _ ?side1 ?side2 ?side3 ?side4 A3.out).mono ?_); (case side1 => repeat (first | exact (Kd.C_below HR0_3.out HB.out) | (with_reducible refine Kd.C_alloc ?_ _) | (with_reducible refine Kd.C_drewN ?_ _) | (with_reducible refine Kd.C_drew ?_))); (case side2 => exact HC0_3.out); (case side3 => repeat (first | exact (Kd.C_below HR0_4.out HB.out) | (with_reducible refine Kd.C_alloc ?_ _) | (with_reducible refine Kd.C_drewN ?_ _) | (with_reducible refine Kd.C_drew ?_))); (case side4 => exact HC0_4.out); rintro e w18 ⟨rfl, hb⟩; refine ⟨_, rfl, ?_⟩; have n0_ := Aside0.mk (blk_below (g := gb185) (o := .cells #[.int .i64 a0_0, .int .i64 a0_1, .string a0_2, .slice A0_3 l0_3.length c0_3, .slice A0_4 l0_4.length c0_4] 48 (0, 0)) (by (with_reducible repeat (first | refine blk_drewN ?_ _ | refine blk_drew ?_ | refine blk_alloc ?_ _)); exact BK185.out) hb); have n1_ := Aside0.mk (blk_below (g := gb186) (o := .cells #[.int .i64 0, .int .i64 0, .string (⟨#[]⟩ : ByteArray), .slice none 0 0, .slice none 0 0] 48 (0, 0)) (by (with_reducible repeat (first | refine blk_drewN ?_ _ | refine blk_drew ?_ | refine blk_alloc ?_ _)); exact BK186.out) hb); have n2_ := Aside0.mk (below_step (by repeat (first | (with_reducible first | exact HB.out | apply below_alloc | apply pw_below_drewN | apply below_drew1 | refine below_set ?_ GE185.out | refine below_set ?_ GE186.out) | exact HB.out)) hb); clear BK185; clear BK186; clear HB; have BK185 := n0_; have BK186 := n1_; have HB := n2_; clear n0_ n1_ n2_; (try clear hb); (try clear hb2); (try clear hk); (try clear hi); have hcz19_0 : w18.cell? ⟨gb185, 0, none⟩ = some (.int .i64 a0_0) := (blk_cell BK185.out 0).trans rfl; have hcz19_1 : w18.cell? ⟨gb185, 1, none⟩ = some (.int .i64 a0_1) := (blk_cell BK185.out 1).trans rfl; have hcz19_2 : w18.cell? ⟨gb185, 2, none⟩ = some (.string a0_2) := (blk_cell BK185.out 2).trans rfl; have hcz19_3 : w18.cell? ⟨gb185, 3, none⟩ = some (.slice A0_3 l0_3.length c0_3) := (blk_cell BK185.out 3).trans rfl; have hcz19_4 : w18.cell? ⟨gb185, 4, none⟩ = some (.slice A0_4 l0_4.length c0_4) := (blk_cell BK185.out 4).trans rfl; have hfz19_0 := blk_frozen BK185.out 0; have hfz19_1 := blk_frozen BK185.out 1; have hfz19_2 := blk_frozen BK185.out 2; have hfz19_3 := blk_frozen BK185.out 3; have hfz19_4 := blk_frozen BK185.out 4; have p188 : 0 ≤ (t187 : Int) := of_decide_eq_true (by first | (with_reducible assumption) | assumption); have q188 : t187 < (l0_4.length : Int) := of_decide_eq_true (by first | (with_reducible assumption) | assumption); obtain ⟨ad188, A188_3, c188_3, A188_4, c188_4, e188, hx188_0, hx188_1, hx188_2, hx188_3, hx188_4, hl188_3, hi188_3, hl188_4, hi188_4⟩ := at_T48 HR0_4.out t187 p188 q188; cases e188; replace hx188_0 := (HB.out.cell (World.block_lt_of_cell? w _ hx188_0)).trans hx188_0; replace hx188_1 := (HB.out.cell (World.block_lt_of_cell? w _ hx188_1)).trans hx188_1; replace hx188_2 := (HB.out.cell (World.block_lt_of_cell? w _ hx188_2)).trans hx188_2; replace hx188_3 := (HB.out.cell (World.block_lt_of_cell? w _ hx188_3)).trans hx188_3; replace hx188_4 := (HB.out.cell (World.block_lt_of_cell? w _ hx188_4)).trans hx188_4; have HR188_3 := Aside0.mk hi188_3; have HC188_3 := Aside0.mk hl188_3; clear hi188_3 hl188_3; have HR188_4 := Aside0.mk hi188_4; have HC188_4 := Aside0.mk hl188_4; clear hi188_4 hl188_4; replace p188 := eq_true p188; replace q188 := eq_true q188) | ((with_reducible refine gate_callee (f := 85) rfl ?_); refine goesL_ (some 18) rfl rfl Tryz.func85 (by kernel_rfl) rfl #[.agg #[.int .i64 ((rd_T48 l0_4 t187).f0), .int .i64 ((rd_T48 l0_4 t187).f1), .string ((rd_T48 l0_4 t187).f2), .slice A188_3 ((rd_T48 l0_4 t187).f3).length c188_3, .slice A188_4 ((rd_T48 l0_4 t187).f4).length c188_4]] rfl (by (try simp only [List.map_toArray, List.map_cons, List.map_nil]); first | done | rfl | (simp only [List.length_drop, List.length_take]; rfl)) ?_; (with_reducible refine (value_Copy.calls ((rd_T48 l0_4 t187).f0) ((rd_T48 l0_4 t187).f1) ((rd_T48 l0_4 t187).f2) _ _ ((rd_T48 l0_4 t187).f3) _ _ ((rd_T48 l0_4 t187).f4) t189 t190 t191 t192 t195 _ ?side1 ?side2 ?side3 ?side4 A13.out).mono ?_); (case side1 => repeat (first | exact (Kd.C_below HR188_3.out HB.out) | (with_reducible refine Kd.C_alloc ?_ _) | (with_reducible refine Kd.C_drewN ?_ _) | (with_reducible refine Kd.C_drew ?_))); (case side2 => exact HC188_3.out); (case side3 => repeat (first | exact (Kd.C_below HR188_4.out HB.out) | (with_reducible refine Kd.C_alloc ?_ _) | (with_reducible refine Kd.C_drewN ?_ _) | (with_reducible refine Kd.C_drew ?_))); (case side4 => exact HC188_4.out); rintro e w20 ⟨v193, v196, rfl, ho0, ho1, hb⟩; refine ⟨_, rfl, ?_⟩; have n0_ := Aside0.mk (Kd.R_lower ho0 (below_size (by repeat (first | (with_reducible first | exact HB.out | apply below_alloc | apply pw_below_drewN | apply below_drew1 | refine below_set ?_ GE185.out | refine below_set ?_ GE186.out) | exact HB.out)))); have n1_ := Aside0.mk (Kd.R_lower (Kd.R_newB (Kd.R_newB ho1 (g := gb185) (o := .cells #[.int .i64 a0_0, .int .i64 a0_1, .string a0_2, .slice A0_3 l0_3.length c0_3, .slice (some ad188) l0_4.length c0_4] 48 (0, 0)) (by (with_reducible repeat (first | refine blk_drewN ?_ _ | refine blk_drew ?_ | refine blk_alloc ?_ _)); exact BK185.out)) (g := gb186) (o := .cells #[.int .i64 0, .int .i64 0, .string (⟨#[]⟩ : ByteArray), .slice none 0 0, .slice none 0 0] 48 (0, 0)) (by (with_reducible repeat (first | refine blk_drewN ?_ _ | refine blk_drew ?_ | refine blk_alloc ?_ _)); exact BK186.out)) (below_size (by repeat (first | (with_reducible first | exact HB.out | apply below_alloc | apply pw_below_drewN | apply below_drew1 | refine below_set ?_ GE185.out | refine below_set ?_ GE186.out) | exact HB.out)))); have n2_ := Aside0.mk (blk_below (g := gb185) (o := .cells #[.int .i64 a0_0, .int .i64 a0_1, .string a0_2, .slice A0_3 l0_3.length c0_3, .slice (some ad188) l0_4.length c0_4] 48 (0, 0)) (by (with_reducible repeat (first | refine blk_drewN ?_ _ | refine blk_drew ?_ | refine blk_alloc ?_ _)); exact BK185.out) hb); have n3_ := Aside0.mk (blk_below (g := gb186) (o := .cells #[.int .i64 0, .int .i64 0, .string (⟨#[]⟩ : ByteArray), .slice none 0 0, .slice none 0 0] 48 (0, 0)) (by (with_reducible repeat (first | refine blk_drewN ?_ _ | refine blk_drew ?_ | refine blk_alloc ?_ _)); exact BK186.out) hb); have n4_ := Aside0.mk (below_step (by repeat (first | (with_reducible first | exact HB.out | apply below_alloc | apply pw_below_drewN | apply below_drew1 | refine below_set ?_ GE185.out | refine below_set ?_ GE186.out) | exact HB.out)) hb); clear BK185; clear BK186; clear HB; have HO194 := n0_; have HO197 := n1_; have BK185 := n2_; have BK186 := n3_; have HB := n4_; clear n0_ n1_ n2_ n3_ n4_; (try clear hb); (try clear hb2); (try clear hk); (try clear hi); (try clear ho0); (try clear ho1); have hcz21_0 : w20.cell? ⟨gb186, 0, none⟩ = some (.int .i64 0) := (blk_cell BK186.out 0).trans rfl; have hcz21_1 : w20.cell? ⟨gb186, 1, none⟩ = some (.int .i64 0) := (blk_cell BK186.out 1).trans rfl; have hcz21_2 : w20.cell? ⟨gb186, 2, none⟩ = some (.string (⟨#[]⟩ : ByteArray)) := (blk_cell BK186.out 2).trans rfl; have hcz21_3 : w20.cell? ⟨gb186, 3, none⟩ = some (.slice none 0 0) := (blk_cell BK186.out 3).trans rfl; have hcz21_4 : w20.cell? ⟨gb186, 4, none⟩ = some (.slice none 0 0) := (blk_cell BK186.out 4).trans rfl; have hfz21_0 := blk_frozen BK186.out 0; have hfz21_1 := blk_frozen BK186.out 1; have hfz21_2 := blk_frozen BK186.out 2; have hfz21_3 := blk_frozen BK186.out 3; have hfz21_4 := blk_frozen BK186.out 4; obtain ⟨Ao22, co22, eo22⟩ := Kd.R_slice HO194.out; subst eo22; obtain ⟨Ao23, co23, eo23⟩ := Kd.R_slice HO197.out; subst eo23))
        refine bodyPost_ret (results_ct rfl _ _ gb186 48 #[.int .i64 t189, .int .i64 t190, .string t191, .slice Ao22 t192.length co22, .slice Ao23 t195.length co23] (0, 0) _ rfl (by (with_reducible repeat (first | refine blk_drewN ?_ _ | refine blk_drew ?_ | refine blk_alloc ?_ _)); refine blk_put (cs := #[.int .i64 t189, .int .i64 t190, .string t191, .slice Ao22 t192.length co22, .slice none 0 0]) ?_ 4 _ rfl; (with_reducible repeat (first | refine blk_drewN ?_ _ | refine blk_drew ?_ | refine blk_alloc ?_ _)); refine blk_put (cs := #[.int .i64 t189, .int .i64 t190, .string t191, .slice none 0 0, .slice none 0 0]) ?_ 3 _ rfl; (with_reducible repeat (first | refine blk_drewN ?_ _ | refine blk_drew ?_ | refine blk_alloc ?_ _)); refine blk_put (cs := #[.int .i64 t189, .int .i64 t190, .string (⟨#[]⟩ : ByteArray), .slice none 0 0, .slice none 0 0]) ?_ 2 _ rfl; (with_reducible repeat (first | refine blk_drewN ?_ _ | refine blk_drew ?_ | refine blk_alloc ?_ _)); refine blk_put (cs := #[.int .i64 t189, .int .i64 0, .string (⟨#[]⟩ : ByteArray), .slice none 0 0, .slice none 0 0]) ?_ 1 _ rfl; (with_reducible repeat (first | refine blk_drewN ?_ _ | refine blk_drew ?_ | refine blk_alloc ?_ _)); refine blk_put (cs := #[.int .i64 0, .int .i64 0, .string (⟨#[]⟩ : ByteArray), .slice none 0 0, .slice none 0 0]) ?_ 0 _ rfl; (with_reducible repeat (first | refine blk_drewN ?_ _ | refine blk_drew ?_ | refine blk_alloc ?_ _)); exact BK186.out) Tryz.underlying48 rfl (by kernel_rfl)) rfl ?_
        exact ⟨_, _, by first | rfl | (simp [errW_none, errW_some] <;> rfl) | (simp [*, errW_none, errW_some] <;> rfl), by (with_reducible repeat (first | apply Kd.R_alloc | apply Kd.R_drewN | apply Kd.R_drew)); exact Kd.R_mono (Kd.R_far (p := ⟨gb186, 4, none⟩) (Kd.R_far (p := ⟨gb186, 3, none⟩) (Kd.R_far (p := ⟨gb186, 2, none⟩) (Kd.R_far (p := ⟨gb186, 1, none⟩) (Kd.R_far (p := ⟨gb186, 0, none⟩) (Kd.R_types HO194.out BK186.out (by decide)) (fun _ hk => hk.2) (.int .i64 t189)) (fun _ hk => hk.2) (.int .i64 t190)) (fun _ hk => hk.2) (.string t191)) (fun _ hk => hk.2) (.slice Ao22 t192.length co22)) (fun _ hk => hk.2) (.slice Ao23 t195.length co23)) (fun _ hk => trivial), by (with_reducible repeat (first | apply Kd.R_alloc | apply Kd.R_drewN | apply Kd.R_drew)); exact Kd.R_mono (Kd.R_far (p := ⟨gb186, 4, none⟩) (Kd.R_far (p := ⟨gb186, 3, none⟩) (Kd.R_far (p := ⟨gb186, 2, none⟩) (Kd.R_far (p := ⟨gb186, 1, none⟩) (Kd.R_far (p := ⟨gb186, 0, none⟩) (Kd.R_mono HO197.out (fun k_ hk => (⟨hk, hk.2⟩ : _ ∧ k_ ≠ gb186))) (fun _ hk => hk.2) (.int .i64 t189)) (fun _ hk => hk.2) (.int .i64 t190)) (fun _ hk => hk.2) (.string t191)) (fun _ hk => hk.2) (.slice Ao22 t192.length co22)) (fun _ hk => hk.2) (.slice Ao23 t195.length co23)) (fun _ hk => hk.1.1.1), by repeat (first | (with_reducible first | exact HB.out | apply below_alloc | apply pw_below_drewN | apply below_drew1 | refine below_set ?_ GE185.out | refine below_set ?_ GE186.out) | exact HB.out)⟩
      · rw [if_neg c12] at H
        exact absurd H (by simp)
    · rw [if_neg c11] at H
      exact absurd H (by simp)
open Go.Proofs.He
set_option maxHeartbeats 2000000 in
theorem Power.no (a0 a2 a4 a5 a6 a7 a8 a9 a10 a11 a12 a13 a14 : Value) (t : ByteArray) (w : World) : Calls Tryz.prog 23 #[.agg #[a0, .string t, a2, .bool false, a4, a5, a6, a7, a8, a9, a10, a11, a12, a13, a14]] w fun e w' => e = .returned (.bool false) ∧ Below w.heap.size w w' := by
  have hu34 := Tryz.underlying50
  have hu32 := Tryz.underlying48
  go_enter Tryz.func23, Tryz.ntmps23
  go_wp2
  go_ret
  exact ⟨rfl, by repeat (first | exact Below.refl _ _ | apply below_alloc | apply below_drew1 | apply pw_below_drewN)⟩
set_option maxHeartbeats 2000000 in
theorem Power.lv (a0 a2 a4 a5 a6 a7 a8 a9 a10 a11 a12 a13 a14 : Value) (t : ByteArray) (w : World) (ht : t.toList = ([109, 46, 114, 111, 111, 109, 46, 112, 111, 119, 101, 114, 95, 108, 101, 118, 101, 108, 115] : List UInt8)) : Calls Tryz.prog 23 #[.agg #[a0, .string t, a2, .bool true, a4, a5, a6, a7, a8, a9, a10, a11, a12, a13, a14]] w fun e w' => e = .returned (.bool true) ∧ Below w.heap.size w w' := by
  have hu34 := Tryz.underlying50
  have hu32 := Tryz.underlying48
  go_enter Tryz.func23, Tryz.ntmps23
  go_wp2
  go_ret
  exact ⟨rfl, by repeat (first | exact Below.refl _ _ | apply below_alloc | apply below_drew1 | apply pw_below_drewN)⟩
set_option maxHeartbeats 2000000 in
theorem Power.jr (a0 a2 a4 a5 a6 a7 a8 a9 a10 a11 a12 a13 a14 : Value) (t : ByteArray) (w : World) (ht : t.toList = ([109, 46, 114, 111, 111, 109, 46, 106, 111, 105, 110, 95, 114, 117, 108, 101, 115] : List UInt8)) : Calls Tryz.prog 23 #[.agg #[a0, .string t, a2, .bool true, a4, a5, a6, a7, a8, a9, a10, a11, a12, a13, a14]] w fun e w' => e = .returned (.bool true) ∧ Below w.heap.size w w' := by
  have hu34 := Tryz.underlying50
  have hu32 := Tryz.underlying48
  have hn : (t.toList == ([109, 46, 114, 111, 111, 109, 46, 112, 111, 119, 101, 114, 95, 108, 101, 118, 101, 108, 115] : List UInt8)) = false := by rw [ht]; decide
  go_enter Tryz.func23, Tryz.ntmps23
  go_wp2
  go_ret
  exact ⟨rfl, by repeat (first | exact Below.refl _ _ | apply below_alloc | apply below_drew1 | apply pw_below_drewN)⟩
abbrev SVl := S48
def zVl : SVl := ⟨0, 0, ⟨#[]⟩, [], []⟩
theorem dmZ (d : Nat) : Dm d zVl := Dm.le (d := 0) ⟨Nat.zero_le _, rfl⟩ (Nat.zero_le _)
theorem place2_ev (v : SVl) (key : ByteArray) (hn : v.f3.length ≤ 1000000) : ∃ r : Int, Ev (fun k => heliastref02_place.f k v.f0 v.f1 v.f2 v.f3 v.f4 key) r ∧ Ev (fun k => value_place.f k v.f0 v.f1 v.f2 v.f3 v.f4 key) r ∧ (r = -1 ∨ (0 ≤ r ∧ r < v.f4.length)) := by
  have h : ∀ (d : Nat) (i : Nat), v.f3.length - i = d → ∃ r t : Int, Ev (fun k => heliastref02_place.l0 k key (i : Int) v.f0 v.f1 v.f2 v.f3 v.f4) r ∧ Ev (fun k => slices_Index_string_string.l0 k v.f3 key (v.f3.length : Int) (i : Int)) t ∧ r = (if t < (v.f4.length : Int) then t else -1) ∧ (t = -1 ∨ 0 ≤ t) := by
    intro d
    induction d with
    | zero =>
      intro i hd
      refine ⟨-1, -1, Ev.step (f := fun _ => some (-1)) (fun k => ?_) (Ev.now _), Ev.step (f := fun _ => some (-1)) (fun k => ?_) (Ev.now _), by rw [if_pos (by omega)], .inl rfl⟩
      · show heliastref02_place.l0 (k + 1) key i _ _ _ _ _ = _
        rw [heliastref02_place.l0, if_neg (by omega)]
      · show slices_Index_string_string.l0 (k + 1) _ _ _ _ = _
        rw [slices_Index_string_string.l0, if_neg (by omega)]
    | succ d ih =>
      intro i hd
      by_cases e : (rdOf ByteArray.empty v.f3 i).toList = key.toList
      · refine ⟨if (i : Int) < (v.f4.length : Int) then (i : Int) else -1, i, Ev.step (f := fun _ => some (if (i : Int) < (v.f4.length : Int) then (i : Int) else -1)) (fun k => ?_) (Ev.now _), Ev.step (f := fun _ => some (i : Int)) (fun k => ?_) (Ev.now _), rfl, .inr (by omega)⟩
        · show heliastref02_place.l0 (k + 1) key i _ _ _ _ _ = _
          rw [heliastref02_place.l0, if_pos (by omega), if_pos (by omega), if_pos e]
          by_cases h2 : (i : Int) ≥ (v.f4.length : Int)
          · rw [if_pos h2, if_neg (by omega)]
          · rw [if_neg h2, if_pos (by omega)]
        · show slices_Index_string_string.l0 (k + 1) _ _ _ _ = _
          rw [slices_Index_string_string.l0, if_pos (by omega), if_pos (by omega), if_pos (by omega), if_pos e.symm]
      · obtain ⟨r, t, hr, ht, hq⟩ := ih (i + 1) (by omega)
        refine ⟨r, t, Ev.step (fun k => ?_) hr, Ev.step (fun k => ?_) ht, hq⟩
        · show heliastref02_place.l0 (k + 1) key i _ _ _ _ _ = _
          rw [heliastref02_place.l0, if_pos (by omega), if_pos (by omega), if_neg e, show wrap64 ((i : Int) + 1) = ((i + 1 : Nat) : Int) by unfold wrap64; omega]
        · show slices_Index_string_string.l0 (k + 1) _ _ _ _ = _
          rw [slices_Index_string_string.l0, if_pos (by omega), if_pos (by omega), if_pos (by omega), if_neg (fun e2 => e e2.symm), show wrap64 ((i : Int) + 1) = ((i + 1 : Nat) : Int) by unfold wrap64; omega]
  by_cases h5 : v.f0 = 5
  · obtain ⟨r, t, hr, ht, hq, h0⟩ := h _ 0 rfl
    refine ⟨r, Ev.congr (fun k => ?_) hr, Ev.congr (fun k => ?_) (Ev.bind ht (f := fun _ t => if t < (v.f4.length : Int) then some t else some (-1)) (Ev.congr (f := fun _ => some r) (fun k => ?_) (Ev.now _))), ?_⟩
    · show heliastref02_place.f k _ _ _ _ _ _ = _
      rw [heliastref02_place.f, if_pos h5]; rfl
    · show value_place.f k _ _ _ _ _ _ = _
      rw [value_place.f, if_pos h5]; rfl
    · show (if t < (v.f4.length : Int) then some t else some (-1)) = some r
      rw [hq]; split <;> rfl
    · rw [hq]
      split
      · rcases h0 with h0 | h0
        · exact .inl h0
        · exact .inr ⟨h0, by omega⟩
      · exact .inl rfl
  · refine ⟨-1, Ev.congr (f := fun _ => some (-1)) (fun k => ?_) (Ev.now _), Ev.congr (f := fun _ => some (-1)) (fun k => ?_) (Ev.now _), .inl rfl⟩
    · show heliastref02_place.f k _ _ _ _ _ _ = _
      rw [heliastref02_place.f, if_neg h5]
    · show value_place.f k _ _ _ _ _ _ = _
      rw [value_place.f, if_neg h5]
theorem get2_ev (v : SVl) (key : ByteArray) {d : Nat} (hd : Dm d v) (hd3 : d ≤ 300) : ∃ (x : SVl) (b : Bool), Ev (fun k => heliastref02_Get.f k v.f0 v.f1 v.f2 v.f3 v.f4 key) (x.f0, x.f1, x.f2, x.f3, x.f4, b) ∧ Ev (fun k => value_Get.f k v.f0 v.f1 v.f2 v.f3 v.f4 key) (x.f0, x.f1, x.f2, x.f3, x.f4, b) ∧ Dm d x := by
  obtain ⟨p, hp, hp2, hq⟩ := place2_ev v key hd.keys
  by_cases h0 : p < 0
  · refine ⟨zVl, false, Ev.congr (fun k => rfl) (Ev.bind hp (Ev.congr (f := fun _ => some (0, 0, (⟨#[]⟩ : ByteArray), ([] : List ByteArray), ([] : List SVl), false)) (fun k => ?_) (Ev.now _))), Ev.congr (fun k => rfl) (Ev.bind hp2 (Ev.congr (f := fun _ => some (0, 0, (⟨#[]⟩ : ByteArray), ([] : List ByteArray), ([] : List SVl), false)) (fun k => ?_) (Ev.now _))), dmZ d⟩
    · rw [if_pos h0]
    · rw [if_pos h0]
  · have hb : 0 ≤ p ∧ p < v.f4.length := by omega
    have hm : rd_T48 v.f4 p ∈ v.f4 := by
      show v.f4.getD p.toNat _ ∈ v.f4
      rw [List.getD_eq_getElem?_getD, List.getElem?_eq_getElem (by omega)]
      exact List.getElem_mem _
    have hdx : Dm d (rd_T48 v.f4 p) := by
      cases d with
      | zero => rw [hd.2] at hm; cases hm
      | succ d => exact Dm.up _ _ (hd.2.2 _ hm)
    obtain ⟨x, hx⟩ : ∃ x, x = rd_T48 v.f4 p := ⟨_, rfl⟩
    rw [← hx] at hdx
    refine ⟨x, true, Ev.congr (fun k => rfl) (Ev.bind hp (Ev.congr (f := fun _ => some (x.f0, x.f1, x.f2, x.f3, x.f4, true)) (fun k => ?_) (Ev.now _))), Ev.congr (fun k => rfl) (Ev.bind hp2 (Ev.congr (f := fun _ => some (x.f0, x.f1, x.f2, x.f3, x.f4, true)) (fun k => ?_) (Ev.now _))), hdx⟩
    · rw [if_neg h0, if_pos hb.1, if_pos hb.2, hx]
    · rw [if_neg h0, if_pos hb.1, if_pos hb.2, ← hx]
      show (value_Copy.f x.f0 x.f1 x.f2 x.f3 x.f4).bind _ = _
      have e : dmB 300 (⟨x.f0, x.f1, x.f2, x.f3, x.f4⟩ : SVl) = true := dm_dmB 300 x (hdx.le hd3)
      rw [value_Copy.f, if_pos e]; rfl
theorem containsS.walk (s : ByteArray) : ∃ b : Bool, ∀ (W : World) (g : Nat), W.heap[g]? = some (.cells #[.string ⟨#[98, 97, 110]⟩, .string ⟨#[108, 101, 97, 118, 101]⟩] 9 (0, 0)) → Calls Tryz.prog 45 #[.slice (some ⟨g, 0, none⟩) 2 2, .string s] W fun e w' => e = .returned (.bool b) ∧ Below W.heap.size W w' := by
  obtain ⟨r, hr⟩ : ∃ r : Int, Ev (fun k => slices_Index_string_string.f k [⟨#[98, 97, 110]⟩, ⟨#[108, 101, 97, 118, 101]⟩] s) r := by
    have h : ∀ (d i : Nat), 2 - i = d → ∃ r : Int, Ev (fun k => slices_Index_string_string.l0 k [⟨#[98, 97, 110]⟩, ⟨#[108, 101, 97, 118, 101]⟩] s 2 (i : Int)) r := by
      intro d
      induction d with
      | zero =>
        intro i hd
        exact ⟨-1, Ev.step (f := fun _ => some (-1)) (fun k => by show slices_Index_string_string.l0 (k + 1) _ _ _ _ = _; rw [slices_Index_string_string.l0, if_neg (by omega)]) (Ev.now _)⟩
      | succ d ih =>
        intro i hd
        by_cases e : s.toList = (rdOf ByteArray.empty [⟨#[98, 97, 110]⟩, ⟨#[108, 101, 97, 118, 101]⟩] (i : Int)).toList
        · exact ⟨i, Ev.step (f := fun _ => some (i : Int)) (fun k => by show slices_Index_string_string.l0 (k + 1) _ _ _ _ = _; rw [slices_Index_string_string.l0, if_pos (by omega), if_pos (by omega), if_pos (by show (i : Int) < 2; omega), if_pos e]) (Ev.now _)⟩
        · obtain ⟨r, hr⟩ := ih (i + 1) (by omega)
          exact ⟨r, Ev.step (fun k => by show slices_Index_string_string.l0 (k + 1) _ _ _ _ = _; rw [slices_Index_string_string.l0, if_pos (by omega), if_pos (by omega), if_pos (by show (i : Int) < 2; omega), if_neg e, show wrap64 ((i : Int) + 1) = ((i + 1 : Nat) : Int) by unfold wrap64; omega]) hr⟩
    exact h _ 0 rfl
  obtain ⟨kr, hkr⟩ := hr.rounds
  refine ⟨decide (0 ≤ r), fun W g hg => ?_⟩
  have HI := Aside0.mk (slices_Index_string_string.calls kr (some ⟨g, 0, none⟩) 2 [⟨#[98, 97, 110]⟩, ⟨#[108, 101, 97, 118, 101]⟩] s r W (Flat.C_mk (flatScalar _ _) (by show (2 : Nat) ≤ _; decide) (fun j u hj => by rw [add_plain, blk_cell hg]; simpa using hj)) (Nat.le_refl _) hkr)
  clear hkr hg
  go_enter Tryz.func45, Tryz.ntmps45
  go_wp2_with (go_at_call 86; refine HI.out.mono ?_; rintro e w1 ⟨rfl, hb⟩; replace hb := Aside0.mk hb)
  go_ret
  exact ⟨rfl, hb.out.below⟩
theorem hcs0 {s : ByteArray} {b : Bool} (W : World) (h : ∀ (W : World) (g : Nat), W.heap[g]? = some (.cells #[.string ⟨#[98, 97, 110]⟩, .string ⟨#[108, 101, 97, 118, 101]⟩] 9 (0, 0)) → Calls Tryz.prog 45 #[.slice (some ⟨g, 0, none⟩) 2 2, .string s] W fun e w' => e = .returned (.bool b) ∧ Below W.heap.size W w') : Calls Tryz.prog 45 #[.slice (some ⟨W.heap.size, 0, none⟩) 2 2, .string s] (W.alloc (.cells #[.string ⟨#[98, 97, 110]⟩, .string ⟨#[108, 101, 97, 118, 101]⟩] 9)) fun e w' => e = .returned (.bool b) ∧ Below (W.alloc (.cells #[.string ⟨#[98, 97, 110]⟩, .string ⟨#[108, 101, 97, 118, 101]⟩] 9)).heap.size (W.alloc (.cells #[.string ⟨#[98, 97, 110]⟩, .string ⟨#[108, 101, 97, 118, 101]⟩] 9)) w' := h _ _ (heap_alloc_new W _)
def PowOf (x : SEv) (b : Bool) : Prop := ∀ (A6 : Option Addr) (c6 : Nat) (A7 : Option Addr) (c7 : Nat) (A13 : Option Addr) (c13 : Nat) (A14 : Option Addr) (c14 : Nat) (W : World), Kd.C Kd.string W A13 x.f10.f3.length x.f10.f3 → x.f10.f3.length ≤ c13 → Kd.C k48 W A14 x.f10.f4.length x.f10.f4 → x.f10.f4.length ≤ c14 →
    Calls Tryz.prog 23 #[.agg #[.string x.f0, .string x.f1, .string x.f2, .bool x.f3, .string x.f4, .string x.f5, .slice A6 x.f6.length c6, .slice A7 x.f7.length c7, .int .i64 x.f8, .int .i64 x.f9, .int .i64 x.f10.f0, .int .i64 x.f10.f1, .string x.f10.f2, .slice A13 x.f10.f3.length c13, .slice A14 x.f10.f4.length c14]] W fun e w' => e = .returned (.bool b) ∧ Below W.heap.size W w'
set_option maxHeartbeats 2000000 in
set_option maxRecDepth 100000 in
theorem Power.any (x : SEv) {d : Nat} (hd : Dm d x.f10) (hd3 : d ≤ 300) : ∃ b : Bool, PowOf x b := by
  have hu34 := Tryz.underlying50
  have hu32 := Tryz.underlying48
  obtain ⟨y, yb, -, hget, -⟩ := get2_ev x.f10 ⟨#[109, 101, 109, 98, 101, 114, 115, 104, 105, 112]⟩ hd hd3
  obtain ⟨kg, hkg⟩ := hget.rounds
  obtain ⟨cb, hcs⟩ := containsS.walk y.f2
  by_cases h3 : x.f3 = true
  case neg =>
    refine ⟨false, fun A6 c6 A7 c7 A13 c13 A14 c14 W _ _ _ _ => ?_⟩
    rw [Bool.eq_false_iff.2 h3]
    exact Power.no _ _ _ _ _ _ _ _ _ _ _ _ _ _ W
  case pos =>
  by_cases h1 : x.f1.toList = ([109, 46, 114, 111, 111, 109, 46, 112, 111, 119, 101, 114, 95, 108, 101, 118, 101, 108, 115] : List UInt8)
  · refine ⟨true, fun A6 c6 A7 c7 A13 c13 A14 c14 W _ _ _ _ => ?_⟩
    rw [h3]
    exact Power.lv _ _ _ _ _ _ _ _ _ _ _ _ _ _ W h1
  by_cases h2 : x.f1.toList = ([109, 46, 114, 111, 111, 109, 46, 106, 111, 105, 110, 95, 114, 117, 108, 101, 115] : List UInt8)
  · refine ⟨true, fun A6 c6 A7 c7 A13 c13 A14 c14 W _ _ _ _ => ?_⟩
    rw [h3]
    exact Power.jr _ _ _ _ _ _ _ _ _ _ _ _ _ _ W h2
  obtain ⟨ty, hty⟩ : ∃ ty, ty = x.f1 := ⟨_, rfl⟩
  obtain ⟨ky, hky⟩ : ∃ ky, ky = x.f2 := ⟨_, rfl⟩
  obtain ⟨sn, hsn⟩ : ∃ sn, sn = x.f4 := ⟨_, rfl⟩
  have h1b : (ty.toList == ([109, 46, 114, 111, 111, 109, 46, 112, 111, 119, 101, 114, 95, 108, 101, 118, 101, 108, 115] : List UInt8)) = false := by rw [hty]; exact beq_eq_false_iff_ne.2 h1
  have h2b : (ty.toList == ([109, 46, 114, 111, 111, 109, 46, 106, 111, 105, 110, 95, 114, 117, 108, 101, 115] : List UInt8)) = false := by rw [hty]; exact beq_eq_false_iff_ne.2 h2
  clear h1 h2
  by_cases h5 : ty.toList = ([109, 46, 114, 111, 111, 109, 46, 109, 101, 109, 98, 101, 114] : List UInt8)
  case neg =>
    have h5b : (ty.toList == ([109, 46, 114, 111, 111, 109, 46, 109, 101, 109, 98, 101, 114] : List UInt8)) = false := beq_eq_false_iff_ne.2 h5
    refine ⟨false, fun A6 c6 A7 c7 A13 c13 A14 c14 W _ _ _ _ => ?_⟩
    rw [h3, ← hty]
    clear hty hky hsn h3 h5 hcs hkg hget
    go_enter Tryz.func23, Tryz.ntmps23
    go_wp2
    go_ret
    exact ⟨rfl, by repeat (first | exact Below.refl _ _ | apply below_alloc | apply below_drew1 | apply pw_below_drewN)⟩
  case pos =>
  have h5b : (ty.toList == ([109, 46, 114, 111, 111, 109, 46, 109, 101, 109, 98, 101, 114] : List UInt8)) = true := beq_iff_eq.2 h5
  by_cases h6 : ky = sn
  · have h6b : (ky.toList == sn.toList) = true := by rw [h6]; simp
    refine ⟨false, fun A6 c6 A7 c7 A13 c13 A14 c14 W _ _ _ _ => ?_⟩
    rw [h3, ← hty, ← hky, ← hsn]
    clear hty hky hsn h3 h5 h6 hcs hkg hget
    go_enter Tryz.func23, Tryz.ntmps23
    go_wp2
    go_ret
    exact ⟨rfl, by repeat (first | exact Below.refl _ _ | apply below_alloc | apply below_drew1 | apply pw_below_drewN)⟩
  have h6b : (ky.toList == sn.toList) = false := beq_eq_false_iff_ne.2 (fun e => h6 (ba_ext e))
  obtain ⟨rb, hrb⟩ : ∃ rb, rb = (if y.f0 = 3 then cb else false) := ⟨_, rfl⟩
  have HRB := Aside0.mk hrb
  clear hrb
  refine ⟨rb, fun A6 c6 A7 c7 A13 c13 A14 c14 W g13 l13 g14 l14 => ?_⟩
  rw [h3, ← hty, ← hky, ← hsn]
  have HGT := Aside0.mk (fun (W' : World) (hb : Below W.heap.size W W') => value_Get.calls kg x.f10.f0 x.f10.f1 x.f10.f2 A13 c13 x.f10.f3 A14 c14 x.f10.f4 ⟨#[109, 101, 109, 98, 101, 114, 115, 104, 105, 112]⟩ y.f0 y.f1 y.f2 y.f3 y.f4 yb W' (Kd.C_below g13 hb) l13 (Kd.C_below g14 hb) l14 hkg)
  have HCS := Aside0.mk hcs
  clear hty hky hsn h3 h5 h6 hcs hkg hget g13 l13 g14 l14
  go_enter Tryz.func23, Tryz.ntmps23
  go_upto_region 7 with fail
  generalize hw1 : W.alloc _ = W1
  have hb1 : Below W.heap.size W W1 := by rw [← hw1]; exact (Below.refl _ _).alloc (Nat.le_refl _) _
  have hx1 : W1.heap[W.heap.size]? = some (.cells #[.string x.f0, .string ty, .string ky, .bool true, .string sn, .string x.f5, .slice A6 x.f6.length c6, .slice A7 x.f7.length c7, .int .i64 x.f8, .int .i64 x.f9, .int .i64 x.f10.f0, .int .i64 x.f10.f1, .string x.f10.f2, .slice A13 x.f10.f3.length c13, .slice A14 x.f10.f4.length c14] 50 (0, 0)) := by rw [← hw1]; exact heap_alloc_new W _
  have x10 := blk_cell hx1 10
  have x11 := blk_cell hx1 11
  have x12 := blk_cell hx1 12
  have x13 := blk_cell hx1 13
  have x14 := blk_cell hx1 14
  have HB1 := Aside0.mk hb1
  clear hw1 hx1 hb1
  go_upto_region 8 with (go_at_call 44; refine (HGT.out _ HB1.out).mono ?_; rintro e W2 ⟨v3, v4, rfl, hr3, hr4, hb2⟩; obtain ⟨B3, d3, rfl⟩ := Kd.R_slice hr3; obtain ⟨B4, d4, rfl⟩ := Kd.R_slice hr4; have HB2 := Aside0.mk (below_then HB1.out HB1.out.size hb2); clear hr3 hr4 hb2)
  generalize hw3 : W2.alloc _ = W3
  have hb3 : Below W.heap.size W W3 := by rw [← hw3]; exact HB2.out.alloc HB2.out.size _
  have hx3 : W3.heap[W2.heap.size]? = some (.cells #[.int .i64 y.f0, .int .i64 y.f1, .string y.f2, .slice B3 y.f3.length d3, .slice B4 y.f4.length d4] 48 (0, 0)) := by rw [← hw3]; exact heap_alloc_new W2 _
  have HB3 := Aside0.mk hb3
  have HX3 := Aside0.mk hx3
  have z0 := blk_cell hx3 0
  have z2 : ∀ o, (W3.alloc o).cell? ⟨W2.heap.size, 2, none⟩ = some (.string y.f2) := fun o => blk_cell (blk_alloc HX3.out o) 2
  clear hw3 hx3 hb3 x10 x11 x12 x13 x14 HGT
  by_cases hk : y.f0 = 3
  · have hkb : (y.f0 == 3) = true := beq_iff_eq.2 hk
    have HK := Aside0.mk hk
    have HKL := Aside0.mk (hcs0 W3 HCS.out)
    clear hk
    go_wp2_with (go_at_call 45; refine HKL.out.mono ?_; rintro e W4 ⟨rfl, hb4⟩; have HB4 := Aside0.mk (below_then (HB3.out.alloc HB3.out.size (Obj.cells #[.string ⟨#[98, 97, 110]⟩, .string ⟨#[108, 101, 97, 118, 101]⟩] 9)) (HB3.out.alloc HB3.out.size (Obj.cells #[.string ⟨#[98, 97, 110]⟩, .string ⟨#[108, 101, 97, 118, 101]⟩] 9)).size hb4))
    go_ret
    exact ⟨by rw [HRB.out, if_pos HK.out]; rfl, HB4.out⟩
  · have hkb : (y.f0 == 3) = false := beq_eq_false_iff_ne.2 hk
    have HK := Aside0.mk hk
    clear hk
    go_wp2
    go_ret
    exact ⟨by rw [HRB.out, if_neg HK.out]; rfl, by first | exact HB3.out | exact below_drew1 HB3.out⟩
def heliastref12_Same.l0 : Nat → List Int → List Int → Int → Option (Bool)
  | 0, _, _, _ => none
  | k + 1, x0, x1, x5 => if x5 < (x0.length : Int) then (if 0 ≤ x5 then (if x5 < (x1.length : Int) then (if (rd x0 x5) = (rd x1 x5) then (heliastref12_Same.l0 k x0 x1 (wrap64 (x5 + 1))) else (some false)) else (none)) else (none)) else (some true)
def heliastref12_Same.f (k : Nat) (l0 : List Int) (l1 : List Int) : Option (Bool) := if (l0.length : Int) = (l1.length : Int) then (heliastref12_Same.l0 k l0 l1 0) else (some false)
set_option maxHeartbeats 8000000 in
set_option maxRecDepth 100000 in
theorem heliastref12_Same.calls (k : Nat) (A0 : Option Addr) (c0 : Nat) (l0 : List Int) (A1 : Option Addr) (c1 : Nat) (l1 : List Int) (r : Bool) (w : World) (hr0 : Kd.C (Kd.int .i64) w A0 l0.length l0) (hc0 : l0.length ≤ c0) (hr1 : Kd.C (Kd.int .i64) w A1 l1.length l1) (hc1 : l1.length ≤ c1) (h : heliastref12_Same.f k l0 l1 = some r) :
    Calls Tryz.prog 19 #[.slice A0 l0.length c0, .slice A1 l1.length c1] w fun e w' => e = .returned (.bool r) ∧ Drawn0 w w' := by
  have HR0 := Aside0.mk hr0
  have HC0 := Aside0.mk hc0
  clear hr0 hc0
  have HR1 := Aside0.mk hr1
  have HC1 := Aside0.mk hc1
  clear hr1 hc1
  have H : (if (l0.length : Int) = (l1.length : Int) then (heliastref12_Same.l0 k l0 l1 0) else (some false)) = some r := h
  clear h
  by_cases c3 : (l0.length : Int) = (l1.length : Int)
  · rw [if_pos c3] at H
    have c3b0 : ((l0.length : Int) == (l1.length : Int)) = true := beq_iff_eq.mpr c3
    have c3b1 : ((l0.length : Int) != (l1.length : Int)) = false := bne_eq_false_iff_eq.mpr c3
    have c3b2 : (l0.length == l1.length) = true := by first | simpa using c3 | (simp at c3 ⊢; omega)
    clear c3
    have H' := Aside0.mk H
    clear H
    go_enter Tryz.func19, Tryz.ntmps19
    go_wp2
    repeat (go_quiet (fail); try go_wp2)
    go_loopg [5] k (fun kq v5 w' => ∃ (x5_1 : Int), v5 = .int .i64 x5_1 ∧ Aside0 (heliastref12_Same.l0 kq l0 l1 x5_1 = some r) ∧ Aside0 (kq ≤ k) ∧ Drawn0 w w')
    case atStart => exact ⟨(0), (by first | rfl | (simp; done) | (simp [*]; done)), H', ⟨Nat.le_refl _⟩, by repeat (first | exact Drawn0.refl _ | apply Drawn0.step)⟩
    case round =>
      clear H'
      try clear c1
      try clear p2
      try clear c3
      try clear c3b0
      try clear c3b1
      try clear c3b2
      obtain ⟨x5_1, rfl, HA, HK1, ⟨m1, rfl⟩⟩ := hrel
      cases gk with
      | zero => exact absurd HA.out (by simp [heliastref12_Same.l0])
      | succ k1 =>
        have H := HA.out
        clear HA
        simp only [heliastref12_Same.l0] at H
        by_cases c4 : x5_1 < (l0.length : Int)
        · rw [if_pos c4] at H
          have c4b0 : decide (x5_1 < (l0.length : Int)) = true := decide_eq_true c4
          clear c4
          by_cases c5 : 0 ≤ x5_1
          · rw [if_pos c5] at H
            have c5b0 : decide (0 ≤ x5_1) = true := decide_eq_true c5
            clear c5
            by_cases c6 : x5_1 < (l1.length : Int)
            · rw [if_pos c6] at H
              have c6b0 : decide (x5_1 < (l1.length : Int)) = true := decide_eq_true c6
              clear c6
              by_cases c7 : (rd l0 x5_1) = (rd l1 x5_1)
              · rw [if_pos c7] at H
                have c7b0 : ((rd l0 x5_1) == (rd l1 x5_1)) = true := beq_iff_eq.mpr c7
                have c7b1 : ((rd l0 x5_1) != (rd l1 x5_1)) = false := bne_eq_false_iff_eq.mpr c7
                clear c7
                have H' := Aside0.mk H
                clear H
                have p199 : 0 ≤ (x5_1 : Int) := of_decide_eq_true (by first | (with_reducible assumption) | assumption)
                have q199 : x5_1 < (l0.length : Int) := of_decide_eq_true (by first | (with_reducible assumption) | assumption)
                obtain ⟨ad199, e199, hx199_0⟩ := Kd.at_int HR0.out x5_1 p199 q199
                cases e199
                replace p199 := eq_true p199
                replace q199 := eq_true q199
                have p200 : 0 ≤ (x5_1 : Int) := of_decide_eq_true (by first | (with_reducible assumption) | assumption)
                have q200 : x5_1 < (l1.length : Int) := of_decide_eq_true (by first | (with_reducible assumption) | assumption)
                obtain ⟨ad200, e200, hx200_0⟩ := Kd.at_int HR1.out x5_1 p200 q200
                cases e200
                replace p200 := eq_true p200
                replace q200 := eq_true q200
                go_wp2
                repeat (go_quiet (fail); try go_wp2)
                go_roundg k1
                case measure => have := HK1.out; omega
                case rel => exact ⟨(wrap64 (x5_1 + 1)), (by first | rfl | (simp; done) | (simp [*]; done)), H', ⟨by have := HK1.out; omega⟩, by repeat (first | exact Drawn0.refl _ | apply Drawn0.step)⟩
              · rw [if_neg c7] at H
                have c7b0 : ((rd l0 x5_1) == (rd l1 x5_1)) = false := beq_eq_false_iff_ne.mpr c7
                have c7b1 : ((rd l0 x5_1) != (rd l1 x5_1)) = true := bne_iff_ne.mpr c7
                obtain rfl := Option.some.inj H
                have p199 : 0 ≤ (x5_1 : Int) := of_decide_eq_true (by first | (with_reducible assumption) | assumption)
                have q199 : x5_1 < (l0.length : Int) := of_decide_eq_true (by first | (with_reducible assumption) | assumption)
                obtain ⟨ad199, e199, hx199_0⟩ := Kd.at_int HR0.out x5_1 p199 q199
                cases e199
                replace p199 := eq_true p199
                replace q199 := eq_true q199
                have p200 : 0 ≤ (x5_1 : Int) := of_decide_eq_true (by first | (with_reducible assumption) | assumption)
                have q200 : x5_1 < (l1.length : Int) := of_decide_eq_true (by first | (with_reducible assumption) | assumption)
                obtain ⟨ad200, e200, hx200_0⟩ := Kd.at_int HR1.out x5_1 p200 q200
                cases e200
                replace p200 := eq_true p200
                replace q200 := eq_true q200
                go_wp2
                repeat (go_quiet (fail); try go_wp2)
                go_ret
                exact ⟨by first | rfl | (simp; done) | (simp [*]; done), by repeat (first | exact Drawn0.refl _ | apply Drawn0.step)⟩
            · rw [if_neg c6] at H
              exact absurd H (by simp)
          · rw [if_neg c5] at H
            exact absurd H (by simp)
        · rw [if_neg c4] at H
          have c4b0 : decide (x5_1 < (l0.length : Int)) = false := decide_eq_false c4
          clear c4
          obtain rfl := Option.some.inj H
          go_wp2
          repeat (go_quiet (fail); try go_wp2)
          go_ret
          exact ⟨by first | rfl | (simp; done) | (simp [*]; done), by repeat (first | exact Drawn0.refl _ | apply Drawn0.step)⟩
  · rw [if_neg c3] at H
    have c3b0 : ((l0.length : Int) == (l1.length : Int)) = false := beq_eq_false_iff_ne.mpr c3
    have c3b1 : ((l0.length : Int) != (l1.length : Int)) = true := bne_iff_ne.mpr c3
    have c3b2 : (l0.length == l1.length) = false := by first | simpa using c3 | (simp at c3 ⊢; omega)
    obtain rfl := Option.some.inj H
    go_enter Tryz.func19, Tryz.ntmps19
    go_wp2
    repeat (go_quiet (fail); try go_wp2)
    go_ret
    exact ⟨by first | rfl | (simp; done) | (simp [*]; done), by repeat (first | exact Drawn0.refl _ | apply Drawn0.step)⟩
open Go.Proofs.He
def kev17 (ty : ByteArray) (is : Bool) : SEv := ⟨⟨#[]⟩, ty, ⟨#[]⟩, is, ⟨#[]⟩, ⟨#[]⟩, [], [], 0, 0, ⟨0, 0, ⟨#[]⟩, [], []⟩⟩
theorem kev17_fk (W : World) (ty : ByteArray) (is : Bool) : Kd.FK kE W (fun _ => False) (kev17 ty is) [.string ⟨#[]⟩, .string ty, .string ⟨#[]⟩, .bool is, .string ⟨#[]⟩, .string ⟨#[]⟩, .slice none 0 0, .slice none 0 0, .int .i64 0, .int .i64 0, .int .i64 0, .int .i64 0, .string ⟨#[]⟩, .slice none 0 0, .slice none 0 0] :=
  (EF_body (W := W) (ok := fun _ => False) (VF_plain W (fun _ => False) 0 0 ⟨#[]⟩) ty ⟨#[]⟩ ⟨#[]⟩ ⟨#[]⟩ is 0).fk
def kn17l : List SEv := [kev17 ⟨#[109, 46, 114, 111, 111, 109, 46, 112, 111, 119, 101, 114, 95, 108, 101, 118, 101, 108, 115]⟩ true, kev17 ⟨#[116]⟩ false, kev17 ⟨#[109, 46, 114, 111, 111, 109, 46, 112, 111, 119, 101, 114, 95, 108, 101, 118, 101, 108, 115]⟩ true, kev17 ⟨#[109, 46, 114, 111, 111, 109, 46, 112, 111, 119, 101, 114, 95, 108, 101, 118, 101, 108, 115]⟩ true]
def kn17g : List (List Int) := [[], [], [0], [2]]
theorem kn17_main : mainF kn17l kn17g 3 = [3, 2, 0] := by decide +kernel
theorem kn17_by3 : byF kn17l kn17g 3 ⟨#[109, 46, 114, 111, 111, 109, 46, 112, 111, 119, 101, 114, 95, 108, 101, 118, 101, 108, 115]⟩ = 2 := by decide +kernel
theorem kn17_by9 : byF kn17l kn17g 9 ⟨#[109, 46, 114, 111, 111, 109, 46, 112, 111, 119, 101, 114, 95, 108, 101, 118, 101, 108, 115]⟩ = -1 := by decide +kernel
theorem kn17_same : heliastref12_Same.f 9 [3, 2, 0] [3, 2, 0] = some true := by decide +kernel
def kn17W (w : World) : World := (((w.alloc (Obj.cells #[.string ⟨#[]⟩, .string ⟨#[109, 46, 114, 111, 111, 109, 46, 112, 111, 119, 101, 114, 95, 108, 101, 118, 101, 108, 115]⟩, .string ⟨#[]⟩, .bool true, .string ⟨#[]⟩, .string ⟨#[]⟩, .slice none 0 0, .slice none 0 0, .int .i64 0, .int .i64 0, .int .i64 0, .int .i64 0, .string ⟨#[]⟩, .slice none 0 0, .slice none 0 0, .string ⟨#[]⟩, .string ⟨#[116]⟩, .string ⟨#[]⟩, .bool false, .string ⟨#[]⟩, .string ⟨#[]⟩, .slice none 0 0, .slice none 0 0, .int .i64 0, .int .i64 0, .int .i64 0, .int .i64 0, .string ⟨#[]⟩, .slice none 0 0, .slice none 0 0, .string ⟨#[]⟩, .string ⟨#[109, 46, 114, 111, 111, 109, 46, 112, 111, 119, 101, 114, 95, 108, 101, 118, 101, 108, 115]⟩, .string ⟨#[]⟩, .bool true, .string ⟨#[]⟩, .string ⟨#[]⟩, .slice none 0 0, .slice none 0 0, .int .i64 0, .int .i64 0, .int .i64 0, .int .i64 0, .string ⟨#[]⟩, .slice none 0 0, .slice none 0 0, .string ⟨#[]⟩, .string ⟨#[109, 46, 114, 111, 111, 109, 46, 112, 111, 119, 101, 114, 95, 108, 101, 118, 101, 108, 115]⟩, .string ⟨#[]⟩, .bool true, .string ⟨#[]⟩, .string ⟨#[]⟩, .slice none 0 0, .slice none 0 0, .int .i64 0, .int .i64 0, .int .i64 0, .int .i64 0, .string ⟨#[]⟩, .slice none 0 0, .slice none 0 0] 50)).alloc (Obj.cells #[.int .i64 0] 3)).alloc (Obj.cells #[.int .i64 2] 3)).alloc (Obj.cells #[.slice none 0 0, .slice none 0 0, .slice (some ⟨w.heap.size + 1, 0, none⟩) 1 1, .slice (some ⟨w.heap.size + 1 + 1, 0, none⟩) 1 1] 27)
theorem kn17_l (w : World) : Kd.C kE (kn17W w) (some ⟨w.heap.size, 0, none⟩) 4 kn17l := by
  have h := N_litd (d := kE) (e := 50) (W := w) (base := 0) (ok := fun _ => True) (Reps.front (kev17_fk w ⟨#[109, 46, 114, 111, 111, 109, 46, 112, 111, 119, 101, 114, 95, 108, 101, 118, 101, 108, 115]⟩ true) rfl (Reps.front (kev17_fk w ⟨#[116]⟩ false) rfl (Reps.front (kev17_fk w ⟨#[109, 46, 114, 111, 111, 109, 46, 112, 111, 119, 101, 114, 95, 108, 101, 118, 101, 108, 115]⟩ true) rfl (Reps.front (kev17_fk w ⟨#[109, 46, 114, 111, 111, 109, 46, 112, 111, 119, 101, 114, 95, 108, 101, 118, 101, 108, 115]⟩ true) rfl (Reps.none _ _) rfl) rfl) rfl) rfl) (fun _ h => h.elim) trivial (Nat.zero_le _) (by show (4 : Nat) ≤ _; decide)
  exact Kd.C_below (Kd.N_reads' h).2.2 (by unfold kn17W; repeat (first | exact Below.refl _ _ | apply below_alloc))
theorem kn17_g (w : World) : Kd.C kG (kn17W w) (some ⟨w.heap.size + 1 + 1 + 1, 0, none⟩) 4 kn17g := by
  have h1 : (kn17W w).heap[w.heap.size + 1]? = some (Obj.cells #[.int .i64 0] 3) := by
    exact (heap_alloc_old _ _ (by simp <;> omega)).trans ((heap_alloc_old _ _ (by simp)).trans (by have := heap_alloc_new (w.alloc (Obj.cells #[.string ⟨#[]⟩, .string ⟨#[109, 46, 114, 111, 111, 109, 46, 112, 111, 119, 101, 114, 95, 108, 101, 118, 101, 108, 115]⟩, .string ⟨#[]⟩, .bool true, .string ⟨#[]⟩, .string ⟨#[]⟩, .slice none 0 0, .slice none 0 0, .int .i64 0, .int .i64 0, .int .i64 0, .int .i64 0, .string ⟨#[]⟩, .slice none 0 0, .slice none 0 0, .string ⟨#[]⟩, .string ⟨#[116]⟩, .string ⟨#[]⟩, .bool false, .string ⟨#[]⟩, .string ⟨#[]⟩, .slice none 0 0, .slice none 0 0, .int .i64 0, .int .i64 0, .int .i64 0, .int .i64 0, .string ⟨#[]⟩, .slice none 0 0, .slice none 0 0, .string ⟨#[]⟩, .string ⟨#[109, 46, 114, 111, 111, 109, 46, 112, 111, 119, 101, 114, 95, 108, 101, 118, 101, 108, 115]⟩, .string ⟨#[]⟩, .bool true, .string ⟨#[]⟩, .string ⟨#[]⟩, .slice none 0 0, .slice none 0 0, .int .i64 0, .int .i64 0, .int .i64 0, .int .i64 0, .string ⟨#[]⟩, .slice none 0 0, .slice none 0 0, .string ⟨#[]⟩, .string ⟨#[109, 46, 114, 111, 111, 109, 46, 112, 111, 119, 101, 114, 95, 108, 101, 118, 101, 108, 115]⟩, .string ⟨#[]⟩, .bool true, .string ⟨#[]⟩, .string ⟨#[]⟩, .slice none 0 0, .slice none 0 0, .int .i64 0, .int .i64 0, .int .i64 0, .int .i64 0, .string ⟨#[]⟩, .slice none 0 0, .slice none 0 0] 50)) (Obj.cells #[.int .i64 0] 3); rwa [World.size_alloc] at this))
  have h2 : (kn17W w).heap[w.heap.size + 1 + 1]? = some (Obj.cells #[.int .i64 2] 3) := by
    exact (heap_alloc_old _ _ (by simp)).trans (by have := heap_alloc_new ((w.alloc (Obj.cells #[.string ⟨#[]⟩, .string ⟨#[109, 46, 114, 111, 111, 109, 46, 112, 111, 119, 101, 114, 95, 108, 101, 118, 101, 108, 115]⟩, .string ⟨#[]⟩, .bool true, .string ⟨#[]⟩, .string ⟨#[]⟩, .slice none 0 0, .slice none 0 0, .int .i64 0, .int .i64 0, .int .i64 0, .int .i64 0, .string ⟨#[]⟩, .slice none 0 0, .slice none 0 0, .string ⟨#[]⟩, .string ⟨#[116]⟩, .string ⟨#[]⟩, .bool false, .string ⟨#[]⟩, .string ⟨#[]⟩, .slice none 0 0, .slice none 0 0, .int .i64 0, .int .i64 0, .int .i64 0, .int .i64 0, .string ⟨#[]⟩, .slice none 0 0, .slice none 0 0, .string ⟨#[]⟩, .string ⟨#[109, 46, 114, 111, 111, 109, 46, 112, 111, 119, 101, 114, 95, 108, 101, 118, 101, 108, 115]⟩, .string ⟨#[]⟩, .bool true, .string ⟨#[]⟩, .string ⟨#[]⟩, .slice none 0 0, .slice none 0 0, .int .i64 0, .int .i64 0, .int .i64 0, .int .i64 0, .string ⟨#[]⟩, .slice none 0 0, .slice none 0 0, .string ⟨#[]⟩, .string ⟨#[109, 46, 114, 111, 111, 109, 46, 112, 111, 119, 101, 114, 95, 108, 101, 118, 101, 108, 115]⟩, .string ⟨#[]⟩, .bool true, .string ⟨#[]⟩, .string ⟨#[]⟩, .slice none 0 0, .slice none 0 0, .int .i64 0, .int .i64 0, .int .i64 0, .int .i64 0, .string ⟨#[]⟩, .slice none 0 0, .slice none 0 0] 50)).alloc (Obj.cells #[.int .i64 0] 3)) (Obj.cells #[.int .i64 2] 3); rwa [World.size_alloc, World.size_alloc] at this)
  have h3 : (kn17W w).heap[w.heap.size + 1 + 1 + 1]? = some (Obj.cells #[.slice none 0 0, .slice none 0 0, .slice (some ⟨w.heap.size + 1, 0, none⟩) 1 1, .slice (some ⟨w.heap.size + 1 + 1, 0, none⟩) 1 1] 27) := by
    have := heap_alloc_new (((w.alloc (Obj.cells #[.string ⟨#[]⟩, .string ⟨#[109, 46, 114, 111, 111, 109, 46, 112, 111, 119, 101, 114, 95, 108, 101, 118, 101, 108, 115]⟩, .string ⟨#[]⟩, .bool true, .string ⟨#[]⟩, .string ⟨#[]⟩, .slice none 0 0, .slice none 0 0, .int .i64 0, .int .i64 0, .int .i64 0, .int .i64 0, .string ⟨#[]⟩, .slice none 0 0, .slice none 0 0, .string ⟨#[]⟩, .string ⟨#[116]⟩, .string ⟨#[]⟩, .bool false, .string ⟨#[]⟩, .string ⟨#[]⟩, .slice none 0 0, .slice none 0 0, .int .i64 0, .int .i64 0, .int .i64 0, .int .i64 0, .string ⟨#[]⟩, .slice none 0 0, .slice none 0 0, .string ⟨#[]⟩, .string ⟨#[109, 46, 114, 111, 111, 109, 46, 112, 111, 119, 101, 114, 95, 108, 101, 118, 101, 108, 115]⟩, .string ⟨#[]⟩, .bool true, .string ⟨#[]⟩, .string ⟨#[]⟩, .slice none 0 0, .slice none 0 0, .int .i64 0, .int .i64 0, .int .i64 0, .int .i64 0, .string ⟨#[]⟩, .slice none 0 0, .slice none 0 0, .string ⟨#[]⟩, .string ⟨#[109, 46, 114, 111, 111, 109, 46, 112, 111, 119, 101, 114, 95, 108, 101, 118, 101, 108, 115]⟩, .string ⟨#[]⟩, .bool true, .string ⟨#[]⟩, .string ⟨#[]⟩, .slice none 0 0, .slice none 0 0, .int .i64 0, .int .i64 0, .int .i64 0, .int .i64 0, .string ⟨#[]⟩, .slice none 0 0, .slice none 0 0] 50)).alloc (Obj.cells #[.int .i64 0] 3)).alloc (Obj.cells #[.int .i64 2] 3)) (Obj.cells #[.slice none 0 0, .slice none 0 0, .slice (some ⟨w.heap.size + 1, 0, none⟩) 1 1, .slice (some ⟨w.heap.size + 1 + 1, 0, none⟩) 1 1] 27)
    rwa [World.size_alloc, World.size_alloc, World.size_alloc] at this
  refine C_lit_rows (t := 27) [(none, 0, []), (none, 0, []), (some ⟨w.heap.size + 1, 0, none⟩, 1, [0]), (some ⟨w.heap.size + 1 + 1, 0, none⟩, 1, [2])] h3 (fun q hq => ?_) (by simp)
  rcases List.mem_cons.1 hq with rfl | hq
  · exact ⟨Nat.le_refl _, Kd.C_nil _ _⟩
  rcases List.mem_cons.1 hq with rfl | hq
  · exact ⟨Nat.le_refl _, Kd.C_nil _ _⟩
  rcases List.mem_cons.1 hq with rfl | hq
  · exact ⟨Nat.le_refl _, Flat.C_mk (flatScalar _ _) (by show (1 : Nat) ≤ _; decide) (fun j u hj => by rw [add_plain, blk_cell h1]; simpa using hj)⟩
  · rw [List.mem_singleton.1 hq]; exact ⟨Nat.le_refl _, Flat.C_mk (flatScalar _ _) (by show (1 : Nat) ≤ _; decide) (fun j u hj => by rw [add_plain, blk_cell h2]; simpa using hj)⟩
theorem kn17_b (w : World) : Below w.heap.size w (kn17W w) := by unfold kn17W; repeat (first | exact Below.refl _ _ | apply below_alloc)
theorem kn17_c (w : World) : (kn17W w).heap[w.heap.size]? = some (Obj.cells #[.string ⟨#[]⟩, .string ⟨#[109, 46, 114, 111, 111, 109, 46, 112, 111, 119, 101, 114, 95, 108, 101, 118, 101, 108, 115]⟩, .string ⟨#[]⟩, .bool true, .string ⟨#[]⟩, .string ⟨#[]⟩, .slice none 0 0, .slice none 0 0, .int .i64 0, .int .i64 0, .int .i64 0, .int .i64 0, .string ⟨#[]⟩, .slice none 0 0, .slice none 0 0, .string ⟨#[]⟩, .string ⟨#[116]⟩, .string ⟨#[]⟩, .bool false, .string ⟨#[]⟩, .string ⟨#[]⟩, .slice none 0 0, .slice none 0 0, .int .i64 0, .int .i64 0, .int .i64 0, .int .i64 0, .string ⟨#[]⟩, .slice none 0 0, .slice none 0 0, .string ⟨#[]⟩, .string ⟨#[109, 46, 114, 111, 111, 109, 46, 112, 111, 119, 101, 114, 95, 108, 101, 118, 101, 108, 115]⟩, .string ⟨#[]⟩, .bool true, .string ⟨#[]⟩, .string ⟨#[]⟩, .slice none 0 0, .slice none 0 0, .int .i64 0, .int .i64 0, .int .i64 0, .int .i64 0, .string ⟨#[]⟩, .slice none 0 0, .slice none 0 0, .string ⟨#[]⟩, .string ⟨#[109, 46, 114, 111, 111, 109, 46, 112, 111, 119, 101, 114, 95, 108, 101, 118, 101, 108, 115]⟩, .string ⟨#[]⟩, .bool true, .string ⟨#[]⟩, .string ⟨#[]⟩, .slice none 0 0, .slice none 0 0, .int .i64 0, .int .i64 0, .int .i64 0, .int .i64 0, .string ⟨#[]⟩, .slice none 0 0, .slice none 0 0] 50) := by
  exact (heap_alloc_old _ _ (by simp <;> omega)).trans ((heap_alloc_old _ _ (by simp <;> omega)).trans ((heap_alloc_old _ _ (by simp)).trans (heap_alloc_new w _)))
theorem kn17_x {W : World} {g : Nat} (h : W.heap[g]? = some (Obj.cells #[.string ⟨#[]⟩, .string ⟨#[109, 46, 114, 111, 111, 109, 46, 112, 111, 119, 101, 114, 95, 108, 101, 118, 101, 108, 115]⟩, .string ⟨#[]⟩, .bool true, .string ⟨#[]⟩, .string ⟨#[]⟩, .slice none 0 0, .slice none 0 0, .int .i64 0, .int .i64 0, .int .i64 0, .int .i64 0, .string ⟨#[]⟩, .slice none 0 0, .slice none 0 0, .string ⟨#[]⟩, .string ⟨#[116]⟩, .string ⟨#[]⟩, .bool false, .string ⟨#[]⟩, .string ⟨#[]⟩, .slice none 0 0, .slice none 0 0, .int .i64 0, .int .i64 0, .int .i64 0, .int .i64 0, .string ⟨#[]⟩, .slice none 0 0, .slice none 0 0, .string ⟨#[]⟩, .string ⟨#[109, 46, 114, 111, 111, 109, 46, 112, 111, 119, 101, 114, 95, 108, 101, 118, 101, 108, 115]⟩, .string ⟨#[]⟩, .bool true, .string ⟨#[]⟩, .string ⟨#[]⟩, .slice none 0 0, .slice none 0 0, .int .i64 0, .int .i64 0, .int .i64 0, .int .i64 0, .string ⟨#[]⟩, .slice none 0 0, .slice none 0 0, .string ⟨#[]⟩, .string ⟨#[109, 46, 114, 111, 111, 109, 46, 112, 111, 119, 101, 114, 95, 108, 101, 118, 101, 108, 115]⟩, .string ⟨#[]⟩, .bool true, .string ⟨#[]⟩, .string ⟨#[]⟩, .slice none 0 0, .slice none 0 0, .int .i64 0, .int .i64 0, .int .i64 0, .int .i64 0, .string ⟨#[]⟩, .slice none 0 0, .slice none 0 0] 50)) : W.cell? ⟨g, 0, none⟩ = some (.string ⟨#[]⟩) ∧ W.cell? ⟨g, 1, none⟩ = some (.string ⟨#[109, 46, 114, 111, 111, 109, 46, 112, 111, 119, 101, 114, 95, 108, 101, 118, 101, 108, 115]⟩) ∧ W.cell? ⟨g, 2, none⟩ = some (.string ⟨#[]⟩) ∧ W.cell? ⟨g, 3, none⟩ = some (.bool true) ∧ W.cell? ⟨g, 4, none⟩ = some (.string ⟨#[]⟩) ∧ W.cell? ⟨g, 5, none⟩ = some (.string ⟨#[]⟩) ∧ W.cell? ⟨g, 6, none⟩ = some (.slice none 0 0) ∧ W.cell? ⟨g, 7, none⟩ = some (.slice none 0 0) ∧ W.cell? ⟨g, 8, none⟩ = some (.int .i64 0) ∧ W.cell? ⟨g, 9, none⟩ = some (.int .i64 0) ∧ W.cell? ⟨g, 10, none⟩ = some (.int .i64 0) ∧ W.cell? ⟨g, 11, none⟩ = some (.int .i64 0) ∧ W.cell? ⟨g, 12, none⟩ = some (.string ⟨#[]⟩) ∧ W.cell? ⟨g, 13, none⟩ = some (.slice none 0 0) ∧ W.cell? ⟨g, 14, none⟩ = some (.slice none 0 0) ∧ W.cell? ⟨g, 15, none⟩ = some (.string ⟨#[]⟩) ∧ W.cell? ⟨g, 16, none⟩ = some (.string ⟨#[116]⟩) ∧ W.cell? ⟨g, 17, none⟩ = some (.string ⟨#[]⟩) ∧ W.cell? ⟨g, 18, none⟩ = some (.bool false) ∧ W.cell? ⟨g, 19, none⟩ = some (.string ⟨#[]⟩) ∧ W.cell? ⟨g, 20, none⟩ = some (.string ⟨#[]⟩) ∧ W.cell? ⟨g, 21, none⟩ = some (.slice none 0 0) ∧ W.cell? ⟨g, 22, none⟩ = some (.slice none 0 0) ∧ W.cell? ⟨g, 23, none⟩ = some (.int .i64 0) ∧ W.cell? ⟨g, 24, none⟩ = some (.int .i64 0) ∧ W.cell? ⟨g, 25, none⟩ = some (.int .i64 0) ∧ W.cell? ⟨g, 26, none⟩ = some (.int .i64 0) ∧ W.cell? ⟨g, 27, none⟩ = some (.string ⟨#[]⟩) ∧ W.cell? ⟨g, 28, none⟩ = some (.slice none 0 0) ∧ W.cell? ⟨g, 29, none⟩ = some (.slice none 0 0) := ⟨blk_cell h 0, blk_cell h 1, blk_cell h 2, blk_cell h 3, blk_cell h 4, blk_cell h 5, blk_cell h 6, blk_cell h 7, blk_cell h 8, blk_cell h 9, blk_cell h 10, blk_cell h 11, blk_cell h 12, blk_cell h 13, blk_cell h 14, blk_cell h 15, blk_cell h 16, blk_cell h 17, blk_cell h 18, blk_cell h 19, blk_cell h 20, blk_cell h 21, blk_cell h 22, blk_cell h 23, blk_cell h 24, blk_cell h 25, blk_cell h 26, blk_cell h 27, blk_cell h 28, blk_cell h 29⟩
set_option maxHeartbeats 2000000 in
set_option maxRecDepth 100000 in
theorem law17_known.walk (w : World) : Calls Tryz.prog 16 #[] w fun e w' => e = .returned (.bool true) ∧ Below w.heap.size w w' := by
  have hu34 := Tryz.underlying50
  have hl := kn17_l w
  have hg := kn17_g w
  obtain ⟨W3, hW3⟩ : ∃ W3, W3 = kn17W w := ⟨_, rfl⟩
  have hc := kn17_c w
  have hb := kn17_b w
  rw [← hW3] at hl hg hc hb
  have HB := Aside0.mk hb
  have HML : Aside0 (∀ W, Below W3.heap.size W3 W → Calls Tryz.prog 21 #[.slice (some ⟨w.heap.size, 0, none⟩) 4 4, .slice (some ⟨w.heap.size + 1 + 1 + 1, 0, none⟩) 4 4, .int .i64 3] W fun e w' => ∃ (A : Option Addr) (c : Nat), e = .returned (.slice A 3 c) ∧ 3 ≤ c ∧ (Kd.int .i64).C w' A 3 [3, 2, 0] ∧ Below W.heap.size W w') := ⟨fun W hW => (order_Mainline.walk _ 4 kn17l _ 4 kn17g 3 W (Kd.C_below hl hW) (Kd.C_below hg hW) (by decide)).mono (by
    rintro e w' ⟨v, rfl, hr, hb⟩
    rw [kn17_main] at hr
    obtain ⟨A, c, rfl, h1, h2⟩ := Kd.R_reads hr
    exact ⟨A, c, rfl, h1, h2, hb⟩)⟩
  have HSM : Aside0 (∀ (W : World) (A : Option Addr) (c b : Nat), (Kd.int .i64).C W A 3 [3, 2, 0] → 3 ≤ c → W.heap[b]? = some (Obj.cells #[.int .i64 3, .int .i64 2, .int .i64 0] 3) → Calls Tryz.prog 19 #[.slice A 3 c, .slice (some ⟨b, 0, none⟩) 3 3] W fun e w' => e = .returned (.bool true) ∧ Below W.heap.size W w') := ⟨fun W A c b hA hc hg => (heliastref12_Same.calls 9 A c [3, 2, 0] _ 3 [3, 2, 0] true _ hA hc (Flat.C_mk (flatScalar _ _) (by decide) (fun j u hj => by
    rw [add_plain, blk_cell hg]
    simpa using hj)) (by decide) kn17_same).mono (fun e w' h => ⟨h.1, h.2.below⟩)⟩
  have HP0 : Aside0 (∀ W : World, Calls Tryz.prog 23 #[.agg #[.string ⟨#[]⟩, .string ⟨#[109, 46, 114, 111, 111, 109, 46, 112, 111, 119, 101, 114, 95, 108, 101, 118, 101, 108, 115]⟩, .string ⟨#[]⟩, .bool true, .string ⟨#[]⟩, .string ⟨#[]⟩, .slice none 0 0, .slice none 0 0, .int .i64 0, .int .i64 0, .int .i64 0, .int .i64 0, .string ⟨#[]⟩, .slice none 0 0, .slice none 0 0]] W fun e w' => e = .returned (.bool true) ∧ Below W.heap.size W w') := ⟨fun W => Power.lv _ _ _ _ _ _ _ _ _ _ _ _ _ _ W (by decide +kernel)⟩
  have HP1 : Aside0 (∀ W : World, Calls Tryz.prog 23 #[.agg #[.string ⟨#[]⟩, .string ⟨#[116]⟩, .string ⟨#[]⟩, .bool false, .string ⟨#[]⟩, .string ⟨#[]⟩, .slice none 0 0, .slice none 0 0, .int .i64 0, .int .i64 0, .int .i64 0, .int .i64 0, .string ⟨#[]⟩, .slice none 0 0, .slice none 0 0]] W fun e w' => e = .returned (.bool false) ∧ Below W.heap.size W w') := ⟨fun W => Power.no _ _ _ _ _ _ _ _ _ _ _ _ _ _ W⟩
  have HB3 : Aside0 (∀ W, Below W3.heap.size W3 W → Calls Tryz.prog 36 #[.slice (some ⟨w.heap.size, 0, none⟩) 4 4, .slice (some ⟨w.heap.size + 1 + 1 + 1, 0, none⟩) 4 4, .int .i64 3, .string ⟨#[109, 46, 114, 111, 111, 109, 46, 112, 111, 119, 101, 114, 95, 108, 101, 118, 101, 108, 115]⟩] W fun e w' => e = .returned (.int .i64 2) ∧ Below W.heap.size W w') := ⟨fun W hW => (order_By.walk _ 4 kn17l _ 4 kn17g 3 ⟨#[109, 46, 114, 111, 111, 109, 46, 112, 111, 119, 101, 114, 95, 108, 101, 118, 101, 108, 115]⟩ W (Kd.C_below hl hW) (Kd.C_below hg hW)).mono (by rintro e w' ⟨rfl, rfl⟩; rw [kn17_by3]; exact ⟨rfl, Below.refl _ _⟩)⟩
  have HB9 : Aside0 (∀ W, Below W3.heap.size W3 W → Calls Tryz.prog 36 #[.slice (some ⟨w.heap.size, 0, none⟩) 4 4, .slice (some ⟨w.heap.size + 1 + 1 + 1, 0, none⟩) 4 4, .int .i64 9, .string ⟨#[109, 46, 114, 111, 111, 109, 46, 112, 111, 119, 101, 114, 95, 108, 101, 118, 101, 108, 115]⟩] W fun e w' => e = .returned (.int .i64 (-1)) ∧ Below W.heap.size W w') := ⟨fun W hW => (order_By.walk _ 4 kn17l _ 4 kn17g 9 ⟨#[109, 46, 114, 111, 111, 109, 46, 112, 111, 119, 101, 114, 95, 108, 101, 118, 101, 108, 115]⟩ W (Kd.C_below hl hW) (Kd.C_below hg hW)).mono (by rintro e w' ⟨rfl, rfl⟩; rw [kn17_by9]; exact ⟨rfl, Below.refl _ _⟩)⟩
  have HC := Aside0.mk hc
  have HSZ := Aside0.mk (blk_lt hc)
  have HW3 := Aside0.mk hW3
  clear hl hg hb hc hW3
  go_enter Tryz.func16, Tryz.ntmps16
  go_upto_region 3 with fail
  change Code.wp _ _ _ _ (kn17W w)
  rw [← HW3.out]
  go_wp2_with (first
    | (go_at_call 21; refine (HML.out _ (Below.refl _ _)).mono ?_; rintro e W4 ⟨A4, c4, rfl, hc4, hC4, hb4⟩; have HC4 := Aside0.mk hC4; have HCC4 := Aside0.mk hc4; have HB4 := Aside0.mk hb4; clear hb4 hC4 hc4)
    | (go_at_call 19; refine (HSM.out _ A4 c4 W4.heap.size (Kd.C_below HC4.out (below_alloc (Below.refl _ _) _)) HCC4.out (heap_alloc_new W4 _)).mono ?_; rintro e W6 ⟨rfl, hb6⟩; have HB5 := Aside0.mk (HB4.out.alloc HB4.out.size (Obj.cells #[.int .i64 3, .int .i64 2, .int .i64 0] 3)); have HB6 := Aside0.mk (below_then HB5.out HB5.out.size hb6); clear hb6; obtain ⟨x0, x1, x2, x3, x4, x5, x6, x7, x8, x9, x10, x11, x12, x13, x14, x15, x16, x17, x18, x19, x20, x21, x22, x23, x24, x25, x26, x27, x28, x29⟩ := kn17_x (((HB6.out).block _ HSZ.out).trans HC.out))
    | (go_at_call 23; (with_reducible refine (HP0.out _).mono ?_); rintro e W7 ⟨rfl, hb7⟩; clear x0 x1 x2 x3 x4 x5 x6 x7 x8 x9 x10 x11 x12 x13 x14 x15 x16 x17 x18 x19 x20 x21 x22 x23 x24 x25 x26 x27 x28 x29; have HB7 := Aside0.mk (below_then HB6.out HB6.out.size hb7); clear hb7; obtain ⟨x0, x1, x2, x3, x4, x5, x6, x7, x8, x9, x10, x11, x12, x13, x14, x15, x16, x17, x18, x19, x20, x21, x22, x23, x24, x25, x26, x27, x28, x29⟩ := kn17_x (((HB7.out).block _ HSZ.out).trans HC.out))
    | (go_at_call 23; (with_reducible refine (HP1.out _).mono ?_); rintro e W8 ⟨rfl, hb8⟩; have HB8 := Aside0.mk (below_then HB7.out HB7.out.size hb8); clear hb8; clear x0 x1 x2 x3 x4 x5 x6 x7 x8 x9 x10 x11 x12 x13 x14 x15 x16 x17 x18 x19 x20 x21 x22 x23 x24 x25 x26 x27 x28 x29)
    | (go_at_call 36; (with_reducible refine (HB3.out _ HB8.out).mono ?_); rintro e W9 ⟨rfl, hb9⟩; have HB9x := Aside0.mk (below_then HB8.out HB8.out.size hb9); clear hb9)
    | (go_at_call 36; (with_reducible refine (HB9.out _ HB9x.out).mono ?_); rintro e W10 ⟨rfl, hb10⟩; have HB10 := Aside0.mk (below_then HB9x.out HB9x.out.size hb10); clear hb10))
  go_ret
  exact ⟨rfl, below_then HB.out HB.out.size HB10.out⟩
open Go.Proofs.He
set_option maxHeartbeats 4000000 in
set_option maxRecDepth 100000 in
theorem slices_IndexFunc_int.calls (g : FuncId) (pre cb : Array Value) (eg : ∀ args w, (callFunc g args).run Tryz.prog w = .ok (.enter g args) w) (p : Int → Bool) (A0 : Option Addr) (c0 : Nat) (l0 : List Int) (w : World) (hr0 : Kd.C (Kd.int .i64) w A0 l0.length l0)
    (hp : ∀ x W, x ∈ l0 → Below w.heap.size w W → Calls Tryz.prog g (pre ++ #[.int .i64 x] ++ cb) W fun e W' => e = .returned (.bool (p x)) ∧ Below w.heap.size w W') :
    Calls Tryz.prog 93 #[.slice A0 l0.length c0, .func (.func g) pre cb] w fun e w' => e = .returned (.int .i64 (idxOf p l0)) ∧ Below w.heap.size w w' := by
  have HR0 := Aside0.mk hr0
  have HP := Aside0.mk hp
  have hlen : l0.length ≤ 9223372036854775807 := hr0.2.1
  clear hr0 hp
  go_enter Tryz.func93, Tryz.ntmps93
  go_wp2
  go_loopg [5, 8] l0.length (fun gg _ v8 wr => ∃ k : Nat, k ≤ l0.length ∧ l0.length - k ≤ gg ∧ v8 = .int .i64 k ∧ Aside0 (∀ j, j < k → ∀ x, l0[j]? = some x → p x = false) ∧ Aside0 (Below w.heap.size w wr))
  case atStart => exact ⟨0, Nat.zero_le _, by omega, rfl, ⟨fun j hj => absurd hj (Nat.not_lt_zero _)⟩, ⟨Below.refl _ _⟩⟩
  case round =>
    obtain ⟨k, hk, hg, rfl, HN, HB⟩ := hrel
    by_cases hlt : k < l0.length
    · obtain ⟨ad, e, hx0⟩ := Kd.at_int HR0.out (k : Int) (by omega) (by omega)
      cases e
      replace hx0 := (HB.out.cell (World.block_lt_of_cell? w _ hx0)).trans hx0
      rw [Int.toNat_natCast] at hx0
      have hltz : (k : Int) < (l0.length : Int) := by omega
      have hrd : rd l0 k = l0[k] := by simp [rd, hlt]
      have hcall := HP.out (rd l0 k) wr (by rw [hrd]; exact List.getElem_mem hlt) HB.out
      have HRD := Aside0.mk hrd
      clear hrd
      cases hq : p (rd l0 k) with
      | true =>
        rw [hq] at hcall
        go_wp2_with (go_at_fn g; refine hcall.mono ?_; rintro e w' ⟨rfl, hb'⟩)
        go_ret
        exact ⟨by rw [idxOf_hit hlt HN.out (by rw [← HRD.out]; exact hq)]; rfl, hb'⟩
      | false =>
        rw [hq] at hcall
        go_wp2_with (go_at_fn g; refine hcall.mono ?_; rintro e w' ⟨rfl, hb'⟩)
        go_roundg (l0.length - (k + 1))
        case measure => omega
        case rel =>
          refine ⟨k + 1, by omega, by omega, by go_num, ⟨fun j hj x hx => ?_⟩, ⟨hb'⟩⟩
          by_cases e : j = k
          · subst e
            rw [List.getElem?_eq_getElem hlt] at hx
            cases hx
            rw [← HRD.out]; exact hq
          · exact HN.out j (by omega) x hx
    · have hltz : ¬ (k : Int) < (l0.length : Int) := by omega
      have : k = l0.length := by omega
      subst this
      go_wp2
      go_ret
      exact ⟨by rw [idxOf_miss HN.out]; rfl, HB.out⟩
theorem idxOf_cases {α : Type} (p : α → Bool) (l : List α) : (idxOf p l = -1 ∧ ∀ x ∈ l, p x = false) ∨ ∃ k, ∃ h : k < l.length, idxOf p l = (k : Int) ∧ p l[k] = true ∧ ∀ j, (hj : j < k) → p (l[j]'(by omega)) = false := by
  unfold idxOf
  cases hf : l.findIdx? p with
  | none => exact .inl ⟨rfl, fun x hx => by rw [List.findIdx?_eq_none_iff] at hf; exact hf x hx⟩
  | some i =>
    obtain ⟨hi, h1, h2⟩ := List.findIdx?_eq_some_iff_getElem.1 hf
    exact .inr ⟨i, hi, rfl, h1, fun j hj => by simpa using h2 j hj⟩
set_option maxHeartbeats 4000000 in
set_option maxRecDepth 100000 in
theorem slices_DeleteFunc_int.calls (g : FuncId) (pre cb : Array Value) (eg : ∀ args w, (callFunc g args).run Tryz.prog w = .ok (.enter g args) w) (p : Int → Bool) {base : Nat} {ok : Nat → Prop} {v : Value} {xs : List Int} {w : World} (h : (Kd.int .i64).R 3 w base ok v xs)
    (hp : ∀ x W, x ∈ xs → w.grownBy W v.ownBlock → Calls Tryz.prog g (pre ++ #[.int .i64 x] ++ cb) W fun e W' => e = .returned (.bool (p x)) ∧ W.grownBy W' none) :
    Calls Tryz.prog 53 #[v, .func (.func g) pre cb] w fun e w' => ∃ v', e = .returned v' ∧ (Kd.int .i64).R 3 w' base ok v' (xs.filter fun x => !p x) ∧ w.grownBy w' v.ownBlock := by
  obtain ⟨ho, hok⟩ := scalar_own h
  obtain ⟨A, c, rfl⟩ := Kd.R_slice h
  have hC := (Kd.R_reads' h).2.2
  have hIF := slices_IndexFunc_int.calls g pre cb eg p A c xs w hC (fun x W hx hb => (hp x W hx ⟨hb.os, hb.tape, hb.output, hb.size, fun k hk _ => hb.block k hk⟩).mono (fun e W' ⟨he, hb'⟩ => ⟨he, hb.grown hb' hb.size (fun k e => by cases e)⟩))
  have hlen : xs.length ≤ 9223372036854775807 := hC.2.1
  rcases idxOf_cases p xs with ⟨e1, hall⟩ | ⟨k0, hk0, e1, ht, hall⟩
  · rw [e1] at hIF
    have HF := Aside0.mk (show (xs.filter fun x => !p x) = xs from List.filter_eq_self.2 (fun x hx => by rw [hall x hx]; rfl))
    have HI := Aside0.mk hIF
    have HR := Aside0.mk h
    clear hIF h ho hok hC hp hall
    go_enter Tryz.func53, Tryz.ntmps53
    go_wp2_with (go_at_call 93; refine HI.out.mono ?_; rintro e w' ⟨rfl, hb⟩)
    go_ret
    rw [HF.out]
    exact ⟨_, rfl, Kd.R_below HR.out hb, ⟨hb.os, hb.tape, hb.output, hb.size, fun k hk _ => hb.block k hk⟩⟩
  · rw [e1] at hIF
    obtain ⟨g0, cap, e2, hbase⟩ := row_form h (by omega)
    cases e2
    obtain ⟨hrow, _⟩ := RowAt.of ho
    obtain ⟨kp, HK⟩ : ∃ kp : Nat → Bool, Aside0 (kp = fun j => !p xs.toArray[j]!) := ⟨_, ⟨rfl⟩⟩
    have tl : ∀ j, (hj : j < xs.length) → xs.toArray[j]! = xs[j] := fun j hj => by rw [getElem!_pos xs.toArray j (by simpa using hj)]; simp
    have hfil : (xs.filter fun x => !p x) = Go.Lib.keptUpTo kp xs.toArray xs.length := by rw [HK.out]; exact (drop_kept (kp := fun x => !p x)).symm
    rw [hfil]
    have hkeep : ∀ j, j < k0 → kp j = true := fun j hj => by rw [HK.out]; show (!p xs.toArray[j]!) = true; rw [tl j (by omega), hall j hj]; rfl
    have hdrop : kp k0 = false := by rw [HK.out]; show (!p xs.toArray[k0]!) = false; rw [tl k0 hk0, ht]; rfl
    have hne1 : ((k0 : Int) == -1) = false := beq_eq_false_iff_ne.2 (by omega)
    have HP := Aside0.mk hp
    have HI := Aside0.mk hIF
    have HROW := Aside0.mk hrow
    have HST := Aside0.mk (Go.Lib.KeptInv.start (d := xs.toArray) hkeep hdrop)
    have TL := Aside0.mk tl
    have HOK := Aside0.mk (hok g0 rfl)
    have HB0 := Aside0.mk hbase
    clear hIF h ho hok hC hp hall hrow hkeep hdrop hfil ht tl e1 hbase
    go_enter Tryz.func53, Tryz.ntmps53
    go_wp2_with (go_at_call 93; refine HI.out.mono ?_; rintro e w1 ⟨rfl, hb⟩)
    have HG1 := Aside0.mk (show w.grownBy w1 (some g0) from ⟨hb.os, hb.tape, hb.output, hb.size, fun k hk _ => hb.block k hk⟩)
    have HR1 := Aside0.mk (HROW.out.grown ⟨hb.os, hb.tape, hb.output, hb.size, fun k hk _ => hb.block k hk⟩)
    clear hb
    go_loopg [5, 6, 7] xs.length (fun gg s5 s6 _ wr => ∃ (i j : Nat) (dk : Array Int), s5 = .int .i64 i ∧ s6 = .int .i64 j ∧ j ≤ xs.length ∧ xs.length - j ≤ gg ∧ Aside0 (Go.Lib.KeptInv kp xs.toArray j i dk) ∧ Aside0 (w.grownBy wr (some g0)) ∧ Aside0 (RowAt wr 3 g0 xs.length c (dk.toList.map (Value.int .i64))))
    case atStart => exact ⟨k0, k0 + 1, xs.toArray, rfl, by go_num, by omega, by omega, HST, HG1, by simpa using HR1⟩
    case round =>
      clear HR1 HG1
      obtain ⟨i, j, dk, rfl, rfl, hjd, hgg, I2, HG, HR⟩ := hrel
      have hij := I2.out.lt
      have hds : dk.size = xs.length := by have := I2.out.size; simpa using this
      by_cases hlt : j < xs.length
      · have hltz : (j : Int) < (xs.length : Int) := by omega
        have hj1 : dk[j]! = xs[j] := by rw [I2.out.high j (by omega), TL.out j hlt]
        obtain ⟨cj, _⟩ := HR.out.at j hlt (.int .i64 xs[j]) (by rw [List.getElem?_map, Array.getElem?_toList, Array.getElem?_eq_getElem (by omega), ← hj1, getElem!_pos dk j (by omega)]; rfl)
        obtain ⟨ci, fi⟩ := HR.out.at i (by omega) (.int .i64 dk[i]!) (by rw [List.getElem?_map, Array.getElem?_toList, Array.getElem?_eq_getElem (by omega), getElem!_pos dk i (by omega)]; rfl)
        have hcall := HP.out xs[j] wr (List.getElem_mem hlt) HG.out
        have hkj : kp j = !p xs[j] := by rw [HK.out]; show (!p xs.toArray[j]!) = _; rw [TL.out j hlt]
        have hdj : xs.toArray[j]! = xs[j] := TL.out j hlt
        generalize xs[j] = u at cj hcall hkj hdj
        generalize dk[i]! = old at ci
        have HKJ := Aside0.mk hkj
        have HDJ := Aside0.mk hdj
        clear hkj hdj hj1
        cases hq : p u with
        | false =>
          rw [hq] at hcall
          go_wp2_with (go_at_fn g; refine hcall.mono ?_; rintro e w2 ⟨rfl, hb2⟩; have HR2 := Aside0.mk (HR.out.grown hb2); obtain ⟨ci2, fi2⟩ := HR2.out.at i (by omega) (.int .i64 dk[i]!) (by rw [List.getElem?_map, Array.getElem?_toList, Array.getElem?_eq_getElem (by omega), getElem!_pos dk i (by omega)]; rfl); have HG2 := Aside0.mk (HG.out.trans (grown_none hb2 (some g0))); clear hb2 ci fi cj)
          go_roundg (xs.length - (j + 1))
          case measure => omega
          case rel =>
            refine ⟨i + 1, j + 1, dk.setIfInBounds i u, by go_num, by go_num, by omega, Nat.le_refl _, ⟨?_⟩, ⟨?_⟩, ⟨?_⟩⟩
            · have := I2.out.keep (by simpa using hlt) (by rw [HKJ.out, hq]; rfl)
              rwa [HDJ.out] at this
            · exact HG2.out.trans (grown_setCell _ _ _)
            · rw [Array.toList_setIfInBounds, List.map_set]; exact HR2.out.set i (by omega) _
        | true =>
          rw [hq] at hcall
          go_wp2_with (go_at_fn g; refine hcall.mono ?_; rintro e w2 ⟨rfl, hb2⟩; have HR2 := Aside0.mk (HR.out.grown hb2); have HG2 := Aside0.mk (HG.out.trans (grown_none hb2 (some g0))); clear hb2 ci fi cj)
          go_roundg (xs.length - (j + 1))
          case measure => omega
          case rel => exact ⟨i, j + 1, dk, rfl, by go_num, by omega, Nat.le_refl _, ⟨I2.out.skip (by rw [HKJ.out, hq]; rfl)⟩, HG2, HR2⟩
      · obtain rfl : j = xs.length := by omega
        have hltz : ¬ (xs.length : Int) < (xs.length : Int) := by omega
        have hcap : xs.length ≤ c := by obtain ⟨_, _, h, _⟩ := HR.out; exact h
        have hcl : ∀ ty, (Builtin.clear_ #[27] ty #[.slice (some ⟨g0, i, none⟩) (xs.length - i) (c - i)]).run Tryz.prog wr = .ok (.tuple #[]) (wr.setCells g0 i (List.replicate (xs.length - i) (.int .i64 0))) :=
          fun ty => Go.Lib.run_clear_slice wr 27 3 ty (.int .i64 0) Tryz.underlying27 (fun _ => by kernel_rfl) rfl rfl g0 i _ _ (by omega)
            (fun t ht => by rw [(HR.out.at (i + t) (by omega) (.int .i64 dk[i + t]!) (by rw [List.getElem?_map, Array.getElem?_toList, Array.getElem?_eq_getElem (by omega), getElem!_pos dk (i + t) (by omega)]; rfl)).1]; rfl)
            (fun t ht => (HR.out.at (i + t) (by omega) (.int .i64 dk[i + t]!) (by rw [List.getElem?_map, Array.getElem?_toList, Array.getElem?_eq_getElem (by omega), getElem!_pos dk (i + t) (by omega)]; rfl)).2)
        go_wp2
        go_ret
        have hI := I2.out
        have hl : (Go.Lib.keptUpTo kp xs.toArray xs.length).length = i := hI.len
        have htk : dk.toList.take i = Go.Lib.keptUpTo kp xs.toArray xs.length := by
          apply List.ext_getElem?
          intro t
          rw [List.getElem?_take]
          split
          · rename_i htt
            rw [hI.low t htt, Array.getElem?_toList, Array.getElem?_eq_getElem (by omega), getElem!_pos dk t (by omega)]
          · rw [List.getElem?_eq_none]; omega
        refine ⟨_, rfl, ?_, HG.out.trans (grown_setCells _ _ _ _)⟩
        refine scalar_put ?_ (fun k hk => by cases hk; exact HOK.out)
        have := (HR.out.strike i (by omega) (List.replicate (xs.length - i) (.int .i64 0)) (by simp)).put HB0.out
        rw [← List.map_take, htk] at this
        rw [hl]; exact this
open Go.Proofs.He
theorem sort_int.walk {base : Nat} {ok : Nat → Prop} {v : Value} {xs : List Int} {w : World} (h : (Kd.int .i64).R 3 w base ok v xs) (hsz : xs.length < 4611686018427387904) :
    Calls Tryz.prog 66 #[v] w fun e' w' => e' = .returned (.tuple #[]) ∧ (Kd.int .i64).R 3 w' base ok v (xs.mergeSort fun x y => decide (x ≤ y)) ∧ w.grownBy w' v.ownBlock :=
  sort_row (srt := fun xs => xs.mergeSort fun x y => decide (x ≤ y)) (fun l => List.length_mergeSort l) (by simp) (fun p cap w => Any.slices_Sort_int_none Tryz.laysSort p cap w) (fun blk off cap zs w h1 h2 h3 => Any.slices_Sort_int Tryz.laysSort blk off cap zs w h1 h2 h3) h hsz
open Go.Proofs.He
theorem slices_Compact_int.walk {e base : Nat} {ok : Nat → Prop} {v : Value} {xs : List Int} {w : World} (h : (Kd.int .i64).R e w base ok v xs) :
    Calls Tryz.prog 67 #[v] w fun e' w' => ∃ v', e' = .returned v' ∧ (Kd.int .i64).R e w' base ok v' (Lib.compact xs) ∧ w.grownBy w' v.ownBlock :=
  compact_row (fun a cap w => Any.slices_Compact_int_empty Tryz.laysCompact a cap w) (fun blk off cap zs w h1 h2 h3 => Any.slices_Compact_int Tryz.laysCompact blk off cap zs w h1 h2 h3) h
open Go.Proofs.He
set_option maxHeartbeats 2000000 in
set_option maxRecDepth 100000 in
theorem cloneI.walk (A0 : Option Addr) (c0 : Nat) (l0 : List Int) (w : World) (hr0 : Kd.C (Kd.int .i64) w A0 l0.length l0) (hlim : l0.length ≤ 1000000) :
    Calls Tryz.prog 54 #[.slice A0 l0.length c0] w fun e w' => ∃ v, e = .returned v ∧ Kd.R (Kd.int .i64) 3 w' w.heap.size (fun _ => True) v l0 ∧ Below w.heap.size w w' := by
  have hnil : ∀ (w : World) (a : Option Addr) (n c : Nat), Sem.run Tryz.prog (binOp .eql 27 (.slice a n c) (.slice none 0 0)) w = .ok (.bool a.isNone) w := fun w a n c => Lib.run_eql_slice_nil w 27 3 a n c 0 0 Tryz.underlying27
  cases A0 with
  | none =>
    have h0 : l0 = [] := by
      rcases Nat.eq_zero_or_pos l0.length with h | h
      · exact List.eq_nil_of_length_eq_zero h
      · obtain ⟨_, h, _⟩ := hr0.2.2 h; cases h
    subst h0
    go_enter Tryz.func54, Tryz.ntmps54
    go_wp2
    go_ret
    exact ⟨_, rfl, Kd.R_nil _ _ _ _ _, Below.refl _ _⟩
  | some ad =>
    have HB := Aside0.mk ((Below.refl w.heap.size w).alloc (Nat.le_refl _) (Obj.cells #[] 3))
    have HO := Aside0.mk (show Kd.R (Kd.int .i64) 3 (w.alloc (.cells #[] 3)) w.heap.size (fun _ => True) (.slice (some ⟨w.heap.size, 0, none⟩) 0 0) [] from
      Flat.put (flatScalar _ _) ⟨rfl, .inr ⟨w.heap.size, 0, #[], rfl, Nat.le_refl _, heap_alloc_new w _, Nat.le_refl _, by decide, rfl, rfl⟩⟩ (fun _ _ => trivial))
    have HR := Aside0.mk (Kd.C_below hr0 HB.out)
    clear hr0
    go_enter Tryz.func54, Tryz.ntmps54
    go_wp2_with (at_builtin; refine Kd.R_append_rows (Kd.int .i64) (w0 := w) w.heap.size rfl (.tmp 5) (.tmp 6) 27 3 (.int .i64 0) 8 rfl Tryz.underlying27 (by kernel_rfl) rfl (by decide) (by decide) (.slice (some ⟨w.heap.size, 0, none⟩) 0 0) ([] : List Int) l0 (some ad) l0.length c0 (fun _ => True) (fun _ => False) rfl rfl HO.out HR.out (fun x cs h => h) (fun _ h => h.elim) (fun _ _ => trivial) HB.out (by simp) (by simp; omega) ?_; intro v1 w1 hr1 hb1 _ _)
    go_ret
    exact ⟨_, rfl, by simpa using hr1, hb1⟩
def outP (n : Nat) (x : Int) : Bool := decide (x < 0) || decide ((n : Int) ≤ x)
def placesL (n : Nat) (some_ : List Int) : List Int := Lib.compact ((some_.filter fun x => !outP n x).mergeSort fun x y => decide (x ≤ y))
set_option maxHeartbeats 2000000 in
set_option maxRecDepth 100000 in
theorem places_1.walk (AL : Option Addr) (n c : Nat) (b : Nat) (x : Int) (w : World) (hb : w.cell? ⟨b, 0, none⟩ = some (.slice AL n c)) :
    Calls Tryz.prog 65 #[.int .i64 x, .pointer (some ⟨b, 0, none⟩)] w fun e w' => e = .returned (.bool (outP n x)) ∧ w' = w := by
  by_cases h0 : x < 0
  · have hv : outP n x = true := by unfold outP; simp [h0]
    rw [hv]
    go_enter Tryz.func65, Tryz.ntmps65
    go_wp2
    go_ret
    exact ⟨rfl, rfl⟩
  · by_cases h1 : (n : Int) ≤ x
    · have hv : outP n x = true := by unfold outP; simp [h0, h1]
      rw [hv]
      go_enter Tryz.func65, Tryz.ntmps65
      go_wp2
      go_ret
      exact ⟨rfl, rfl⟩
    · have hv : outP n x = false := by unfold outP; simp [h0, h1]
      rw [hv]
      go_enter Tryz.func65, Tryz.ntmps65
      go_wp2
      go_ret
      exact ⟨rfl, rfl⟩
theorem grown_below {B : Nat} {w W W1 : World} {ok : Nat → Prop} {v : Value} {xs : List Int} (hb : Below B w W) (hB : B ≤ W.heap.size) (hr : (Kd.int .i64).R 3 W B ok v xs) (hg : W.grownBy W1 v.ownBlock) : Below B w W1 :=
  (Go.Proofs.He.Kept.of_grown (F := fun q => some q = v.ownBlock) hg (fun q h => h.symm)).below hb hB (fun q _ h => Kd.R_base hr q h.symm)
set_option maxHeartbeats 2000000 in
set_option maxRecDepth 100000 in
theorem places.walk (AL : Option Addr) (n c : Nat) (A1 : Option Addr) (c1 : Nat) (xs : List Int) (w : World) (hr0 : Kd.C (Kd.int .i64) w A1 xs.length xs) (hlim : xs.length ≤ 1000000) :
    Calls Tryz.prog 31 #[.slice AL n c, .slice A1 xs.length c1] w fun e w' => ∃ v, e = .returned v ∧ Kd.R (Kd.int .i64) 3 w' w.heap.size (fun _ => True) v (placesL n xs) ∧ Below w.heap.size w w' := by
  have hmf : ∀ (fn : Fn) (first cap : Array Value) (w : World), (Instr.makeFunc fn first cap).run Tryz.prog w = .ok (.func fn first cap) w := fun _ _ _ _ => rfl
  have HCL := Aside0.mk (fun (W : World) (hb : Below w.heap.size w W) => cloneI.walk A1 c1 xs W (Kd.C_below hr0 hb) hlim)
  have hfl : (xs.filter fun x => !outP n x).length < 4611686018427387904 := by have := List.length_filter_le (fun x => !outP n x) xs; omega
  have HFL := Aside0.mk hfl
  clear hr0 hfl
  go_enter Tryz.func31, Tryz.ntmps31
  go_upto_region 1 with fail
  generalize hw1 : w.alloc _ = W1
  have hb1 : Below w.heap.size w W1 := by rw [← hw1]; exact (Below.refl _ _).alloc (Nat.le_refl _) _
  have hx1 : W1.heap[w.heap.size]? = some (.cells #[.slice AL n c] 23 (0, 0)) := by rw [← hw1]; exact heap_alloc_new w _
  have HB1 := Aside0.mk hb1
  have HX1 := Aside0.mk hx1
  clear hw1 hb1 hx1
  go_upto_region 2 with (go_at_call 54; refine (HCL.out _ HB1.out).mono ?_; rintro e w2 ⟨v2, rfl, hr2, hb2⟩; obtain ⟨A2, c2, rfl⟩ := Kd.R_slice hr2; have HB2 := Aside0.mk (below_then HB1.out HB1.out.size hb2); have HX2 := Aside0.mk ((hb2.block _ (blk_lt HX1.out)).trans HX1.out); have HR2 := Aside0.mk (Kd.R_mono (Kd.R_bound hr2) (ok' := fun k => W1.heap.size ≤ k) (fun k hk => hk.2.1)); have HS2 := Aside0.mk hb2.size; clear hr2 hb2)
  have hdf := slices_DeleteFunc_int.calls 65 #[] #[.pointer (some ⟨w.heap.size, 0, none⟩)] (enters_of Tryz.func65 (by kernel_rfl) rfl) (outP n) HR2.out (fun x W _ hg => by
    have h4 : W.cell? ⟨w.heap.size, 0, none⟩ = some (.slice AL n c) := hg.cell (blk_cell HX2.out 0) (fun e => by have h5 : W1.heap.size ≤ w.heap.size := HR2.out.1 _ e.symm; have h6 := blk_lt HX1.out; omega)
    exact (places_1.walk AL n c w.heap.size x W h4).mono (fun e w' h => ⟨h.1, h.2 ▸ World.grownBy.refl _ _⟩))
  refine hdf.mono ?_
  rintro e w3 ⟨v3, rfl, hr3, hg3⟩
  have HB3 := Aside0.mk (grown_below HB2.out HB2.out.size (Kd.R_lower HR2.out HB1.out.size) hg3)
  obtain ⟨ys, hys⟩ : ∃ ys, ys = xs.filter fun x => !outP n x := ⟨_, rfl⟩
  rw [← hys] at hr3 HFL
  obtain ⟨A3, c3, rfl⟩ := Kd.R_slice hr3
  have HR3 := Aside0.mk (Kd.R_mono (Kd.R_lower hr3 HB1.out.size) (ok' := fun _ => True) (fun _ _ => trivial))
  have HYS := Aside0.mk hys
  clear hys hdf hr3 hg3
  go_wp2_with (first
    | (go_at_call 66; refine (sort_int.walk HR3.out HFL.out).mono ?_; rintro e w4 ⟨rfl, hr4, hg4⟩; have HB4 := Aside0.mk (grown_below HB3.out HB3.out.size HR3.out hg4); have HR4 := Aside0.mk hr4; clear hr4 hg4)
    | (go_at_call 67; refine (slices_Compact_int.walk HR4.out).mono ?_; rintro e w5 ⟨v5, rfl, hr5, hg5⟩; have HB5 := Aside0.mk (grown_below HB4.out HB4.out.size HR4.out hg5); have HR5 := Aside0.mk hr5; clear hr5 hg5; obtain ⟨A5, c5, rfl⟩ := Kd.R_slice HR5.out))
  go_ret
  refine ⟨_, rfl, ?_, HB5.out⟩
  unfold placesL
  rw [← HYS.out]
  exact HR5.out
end Go.Proofs.YtmdjknkhjimgeaaGreat.S
end

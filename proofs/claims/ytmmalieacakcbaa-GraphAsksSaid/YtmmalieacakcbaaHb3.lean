-- Written by heprint.py (this session's, over the kit's print.py): not trusted, Lean checks it.
import Derived.Test.YtmmalieacakcbaaHb0
import Derived.Test.YtmmalieacakcbaaHb2
namespace Go.Proofs.Ytmmalieacakcbaa.S
open Go.RowKit Go.Proofs.YtmmalieacakcbaaW.PrintWords Go.Proofs.YtmmalieacakcbaaW.PrintLast Go.Proofs.YtmmalieacakcbaaW.PrintMore
attribute [local go_sem] max2_int min2_int max_two min_two max_three min_three max_four min_four   -- for this text's walks alone
set_option linter.unusedVariables false
set_option linter.unusedSimpArgs false

/-! ### graph_Order: function 92 -/
-- GIVEN heliast/graph.Order making uses heliast/graph.Reach
open Go.Proofs.He
def orL (l : List Int) : Int := (l.find? (fun x => decide (x ≠ 0))).getD 0
theorem orL_hit {l : List Int} {j : Nat} (hj : j < l.length) (h : ∀ i, i < j → rd l i = 0) (hx : rd l j ≠ 0) : orL l = rd l j := by
  have e : rd l j = l[j] := by simp [rd, hj]
  unfold orL
  have : l.find? (fun x => decide (x ≠ 0)) = some l[j] := by
    rw [List.find?_eq_some_iff_getElem]
    refine ⟨by rw [← e]; simpa using hx, j, hj, rfl, fun i hi => ?_⟩
    have := h i hi
    have e2 : rd l i = l[i] := by simp [rd, show i < l.length by omega]
    rw [e2] at this
    simp [this]
  rw [this, e]; rfl
theorem orL_miss {l : List Int} (h : ∀ i, i < l.length → rd l i = 0) : orL l = 0 := by
  unfold orL
  have : l.find? (fun x => decide (x ≠ 0)) = none := by
    rw [List.find?_eq_none]
    intro x hx
    obtain ⟨i, hi, rfl⟩ := List.getElem_of_mem hx
    have := h i hi
    have e2 : rd l i = l[i] := by simp [rd, hi]
    rw [e2] at this
    simp [this]
  rw [this]; rfl
set_option maxHeartbeats 2000000 in
theorem cmp_Or.walk (A : Option Addr) (c : Nat) (l : List Int) (w : World) (hr : Kd.C (Kd.int .i64) w A l.length l) :
    Calls Try.prog 111 #[.slice A l.length c] w fun e w' => e = .returned (.int .i64 (orL l)) ∧ w' = w := by
  have hlen : l.length ≤ 9223372036854775807 := hr.2.1
  have HR := Aside0.mk hr
  clear hr
  go_enter Try.func111, Try.ntmps111
  go_wp2
  go_loop [8] (fun v => ∃ j : Nat, v = .int .i64 j ∧ j ≤ l.length ∧ Aside0 (∀ i, i < j → rd l i = 0)) (fun v => l.length - (intOf v).toNat)
  case atStart => exact ⟨0, rfl, Nat.zero_le _, ⟨fun i hi => absurd hi (Nat.not_lt_zero _)⟩⟩
  case round =>
    obtain ⟨j, rfl, hj, HN⟩ := hrel
    by_cases hlt : j < l.length
    · obtain ⟨ad, e, hx⟩ := Kd.at_int HR.out (j : Int) (by omega) (by omega)
      cases e
      obtain ⟨x, hxd⟩ : ∃ x, x = rd l j := ⟨_, rfl⟩
      rw [← hxd, Int.toNat_natCast] at hx
      have HX := Aside0.mk hxd
      clear hxd
      by_cases h0 : x = 0
      · have HZ := Aside0.mk h0
        subst h0
        go_wp2
        go_round
        case rel => exact ⟨j + 1, by go_num, by omega, ⟨fun i hi => by
          by_cases e : i = j
          · rw [e, ← HX.out]
          · exact HN.out i (by omega)⟩⟩
        case measure => simp [intOf]; omega
      · have hb1 : (x != 0) = true := bne_iff_ne.mpr h0
        have hb2 : (x == 0) = false := beq_eq_false_iff_ne.mpr h0
        have HZ := Aside0.mk h0
        clear h0
        go_wp2
        go_ret
        exact ⟨by rw [orL_hit hlt HN.out (by rw [← HX.out]; exact HZ.out), ← HX.out]; rfl, rfl⟩
    · have hjl : j = l.length := by omega
      go_wp2
      go_ret
      exact ⟨by rw [orL_miss (fun i hi => HN.out i (by omega))]; rfl, rfl⟩
theorem or2.walk (a b : Int) (W : World) : Calls Try.prog 111 #[.slice (some ⟨W.heap.size, 0, none⟩) 2 2] (W.alloc (.cells #[.int .i64 a, .int .i64 b] 3)).drew fun e w' => e = .returned (.int .i64 (orL [a, b])) ∧ w' = (W.alloc (.cells #[.int .i64 a, .int .i64 b] 3)).drew := by
  refine cmp_Or.walk (some ⟨W.heap.size, 0, none⟩) 2 [a, b] _ (Flat.C_mk (flatScalar (Value.int .i64) (fun _ => rfl)) (by simp) (fun j u hj => ?_))
  have hb : (W.alloc (Obj.cells #[.int .i64 a, .int .i64 b] 3)).drew.heap[W.heap.size]? = _ := heap_alloc_new W (Obj.cells #[.int .i64 a, .int .i64 b] 3)
  have hj' : ([Value.int .i64 a, Value.int .i64 b])[j]? = some u := hj
  have hadd : (⟨W.heap.size, 0, none⟩ : Addr).add j = ⟨W.heap.size, 0 + j, none⟩ := by unfold Addr.add; split <;> simp_all
  rw [hadd]
  have : (#[Value.int .i64 a, Value.int .i64 b] : Array Value)[0 + j]? = some u := by rw [Nat.zero_add]; simpa using hj'
  unfold World.cell?
  rw [hb]
  exact this
set_option maxHeartbeats 2000000 in
theorem order_at.walk (B0 : Nat) (A2 : Option Addr) (c2 : Nat) (rank : List Int) (n : Nat) (w : World) (hb : w.cell? ⟨B0, 0, none⟩ = some (.slice A2 rank.length c2)) (hr : Kd.C (Kd.int .i64) w A2 rank.length rank) :
    Calls Try.prog 117 #[.int .i64 n, .pointer (some ⟨B0, 0, none⟩)] w fun e w' => e = .returned (.int .i64 (rankAt rank n)) ∧ w' = w := by
  have hlen : rank.length ≤ 9223372036854775807 := hr.2.1
  have HR := Aside0.mk hr
  clear hr
  by_cases hlt : n < rank.length
  · obtain ⟨ad, e, hx⟩ := Kd.at_int HR.out (n : Int) (by omega) (by omega)
    cases e
    have HX := Aside0.mk (show rankAt rank n = rd rank n by unfold rankAt rd; rw [if_neg (by omega)])
    obtain ⟨x, hxd⟩ : ∃ x, x = rd rank n := ⟨_, rfl⟩
    rw [← hxd, Int.toNat_natCast] at hx
    have HD := Aside0.mk hxd
    clear hxd
    go_enter Try.func117, Try.ntmps117
    go_wp2
    go_ret
    exact ⟨by rw [HX.out, ← HD.out]; rfl, rfl⟩
  · have HX := Aside0.mk (show rankAt rank n = 0 by unfold rankAt; rw [if_pos (by omega)])
    go_enter Try.func117, Try.ntmps117
    go_wp2
    go_ret
    exact ⟨by rw [HX.out]; rfl, rfl⟩
def cmpN (rank : List Int) (x y : Nat) : Int := orL [Lib.compareInt (rankAt rank x) (rankAt rank y), Lib.compareInt x y]
set_option maxHeartbeats 4000000 in
set_option maxRecDepth 100000 in
theorem order_cmp.walk (B0 B1 : Nat) (A2 : Option Addr) (c2 : Nat) (rank : List Int) (x y : Nat) (w : World) (hf : w.cell? ⟨B1, 0, none⟩ = some (.func (.func 117) #[] #[.pointer (some ⟨B0, 0, none⟩)])) (hb : w.cell? ⟨B0, 0, none⟩ = some (.slice A2 rank.length c2)) (hr : Kd.C (Kd.int .i64) w A2 rank.length rank) :
    Calls Try.prog 119 #[.int .i64 x, .int .i64 y, .pointer (some ⟨B1, 0, none⟩)] w fun e w' => e = .returned (.int .i64 (cmpN rank x y)) ∧ ∃ q os', w' = Go.Sort.grow (w.drewN q) os' := by
  have HR := Aside0.mk hr
  have HB := Aside0.mk hb
  have lb0 := World.block_lt_of_cell? w _ hb
  have lb1 := World.block_lt_of_cell? w _ hf
  clear hr
  go_enter Try.func119, Try.ntmps119
  go_wp2
  go_region_held3 (fun w' => w'.cell? ⟨B1, 0, none⟩ = some (.func (.func 117) #[] #[.pointer (some ⟨B0, 0, none⟩)]) ∧ w'.cell? ⟨B0, 0, none⟩ = some (.slice A2 rank.length c2)) (go_keep)
    ((first | (go_at_call 117; refine (order_at.walk B0 A2 c2 rank _ _ (by exact HB.out) (Kd.C_below HR.out (below_drew1 (Below.refl _ _)))).mono ?_; rintro e w' ⟨rfl, rfl⟩) | (go_at_call 120; refine (Any.cmp_Compare_int Try.laysCompare _ _ _).mono ?_; rintro e w' ⟨rfl, rfl⟩) | (go_at_call 111; refine (or2.walk _ _ _).mono ?_; rintro e w' ⟨rfl, rfl⟩)))
  go_wp2
  go_ret
  exact ⟨rfl, 1, #[.cells #[.int .i64 (Lib.compareInt (rankAt rank x) (rankAt rank y)), .int .i64 (Lib.compareInt x y)] 3], by rw [Go.Sort.alloc_eq_grow, Go.Sort.drew_grow]; rfl⟩
section
open Go.Sort
theorem cmpN_neg {rank : List Int} {x y : Nat} : cmpN rank x y < 0 ↔ lessN rank x y = true := by
  unfold cmpN orL lessN Lib.compareInt
  by_cases h1 : rankAt rank x < rankAt rank y
  · simp [h1]
  · by_cases h2 : rankAt rank x > rankAt rank y
    · have : ¬ rankAt rank ↑x = rankAt rank ↑y := by omega
      simp [h1, h2, this]
    · have e : rankAt rank ↑x = rankAt rank ↑y := by omega
      by_cases h3 : (x : Int) < y
      · simp [e, h3]
      · by_cases h4 : (x : Int) > y
        · simp [e, h3, h4]
        · simp [e, h3, h4]
theorem pickBy_least (rank : List Int) (d : Array Nat) : ∀ n, n < d.size → ∃ i, i ≤ n ∧ Lib.pickBy (fun x m => decide (cmpN rank x m < 0)) d n = d[i]! ∧ ∀ j, j ≤ n → lessN rank (d[j]! : Nat) (d[i]! : Nat) = false
  | 0, h => ⟨0, Nat.le_refl _, rfl, fun j hj => by
    obtain rfl : j = 0 := Nat.le_zero.1 hj
    exact lessN_irrefl _ _⟩
  | n + 1, h => by
    obtain ⟨i, hi, e, hm⟩ := pickBy_least rank d n (by omega)
    simp only [Lib.pickBy]
    rw [e]
    by_cases hc : cmpN rank d[n + 1]! d[i]! < 0
    · rw [if_pos (by simpa using hc)]
      have hl := cmpN_neg.1 hc
      refine ⟨n + 1, Nat.le_refl _, rfl, fun j hj => ?_⟩
      by_cases ej : j = n + 1
      · rw [ej]; exact lessN_irrefl _ _
      · cases hb : lessN rank (d[j]! : Nat) (d[n + 1]! : Nat) with
        | false => rfl
        | true => have := hm j (by omega); rw [lessN_trans hb hl] at this; cases this
    · rw [if_neg (by simpa using hc)]
      refine ⟨i, by omega, rfl, fun j hj => ?_⟩
      by_cases ej : j = n + 1
      · rw [ej]
        cases hb : lessN rank (d[n + 1]! : Nat) (d[i]! : Nat) with
        | false => rfl
        | true => exact absurd (cmpN_neg.2 hb) hc
      · exact hm j (by omega)
abbrev encN (n : Nat) : Value := .int .i64 n
theorem min_ready.walk (B0 B1 : Nat) (A2 : Option Addr) (c2 : Nat) (rank : List Int) (w0 w : World) (base : Nat) (ok : Nat → Prop) (v : Value) (xs : List Int) (hR : (Kd.int .i64).R 3 w base ok v xs) (hx0 : xs ≠ []) (hnn : ∀ x ∈ xs, 0 ≤ x) (hsz : xs.length < 4611686018427387904)
    (hf : w.cell? ⟨B1, 0, none⟩ = some (.func (.func 117) #[] #[.pointer (some ⟨B0, 0, none⟩)])) (hb : w.cell? ⟨B0, 0, none⟩ = some (.slice A2 rank.length c2)) (hB0 : B0 < base) (hB1 : B1 < base) (hr : Kd.C (Kd.int .i64) w0 A2 rank.length rank) (hbel : Below w0.heap.size w0 w) (hbase : w0.heap.size ≤ base) :
    Calls Try.prog 118 #[v, .func (.func 119) #[] #[.pointer (some ⟨B1, 0, none⟩)]] w fun e w' => ∃ n, e = .returned (.int .i64 n) ∧ n ∈ xs ∧ (∀ x ∈ xs, lessN rank x n = false) ∧ w.grownBy w' v.ownBlock := by
  obtain ⟨ho, hok⟩ := scalar_own hR
  have ho' := ho
  rcases ho.2 with ⟨_, h0⟩ | ⟨g, cap, cur, rfl, hg, _⟩
  · exact absurd (List.eq_nil_of_length_eq_zero h0) hx0
  obtain ⟨xn, hxn⟩ : ∃ xn : List Nat, xs = xn.map (fun (n : Nat) => (n : Int)) := ⟨xs.map Int.toNat, by
    rw [List.map_map]
    conv => lhs; rw [← List.map_id xs]
    refine List.map_congr_left (fun x hx => ?_)
    have := hnn x hx
    show x = ((x.toNat : Nat) : Int); omega⟩
  have hcells : xs.map (Value.int .i64) = xn.map encN := by rw [hxn, List.map_map]; rfl
  rw [hcells] at ho'
  obtain ⟨a1, a2, a3, a4⟩ := holds_of_row ho'
  have hlen : xs.length = xn.length := by rw [hxn, List.length_map]
  have hsize : xn.toArray.size = xs.length := by simp [hlen]
  have hcmp : CmpLays1 Try.prog 119 #[.pointer (some ⟨B1, 0, none⟩)] encN (cmpN rank) g 0 xn.toArray.size w := by
    intro m os dk hs x y
    obtain ⟨dl, rfl⟩ : ∃ dl : List Nat, dk = dl.toArray := ⟨dk.toList, by simp⟩
    have hgr : w.grownBy (sortWorld encN w g 0 m dl.toArray os) (some g) := grown_put m os dl
    exact order_cmp.walk B0 B1 A2 c2 rank x y _ (cell_by hgr hf (fun e => by injection e with e; simp only at e; omega)) (cell_by hgr hb (fun e => by injection e with e; simp only at e; omega)) (Kd.C_below hr (hbel.grown hgr hbel.size (fun k e => by cases e; omega)))
  have hcon := Any.slices_MinFunc Try.laysMin encN (fun _ => rfl) (cmpN rank) 119 #[.pointer (some ⟨B1, 0, none⟩)] g 0 cap xn.toArray w (enters_of Try.func119 (by kernel_rfl) rfl) hcmp a1 a2 (by rw [hsize]; exact hsz) (by rw [hsize]; exact List.length_pos_iff.2 hx0)
  rw [hsize] at hcon
  refine Calls.mono hcon ?_
  rintro e w' ⟨rfl, m, os, rfl⟩
  have hpos : 0 < xs.length := List.length_pos_iff.2 hx0
  obtain ⟨i, hi, ei, hm⟩ := pickBy_least rank xn.toArray (xs.length - 1) (by rw [hsize]; omega)
  have hget : ∀ j, (hj : j < xs.length) → ((xn.toArray[j]! : Nat) : Int) = xs[j] := fun j hj => by
    have hj' : j < xn.length := by omega
    rw [getElem!_pos xn.toArray j (by simpa using hj')]
    simp [hxn]
  rw [ei]
  refine ⟨xs[i]'(by omega), by rw [← hget i (by omega)], List.getElem_mem _, fun x hx => ?_, grown_put m os xn⟩
  obtain ⟨j, hj, rfl⟩ := List.getElem_of_mem hx
  rw [← hget i (by omega), ← hget j hj]
  exact hm j (by omega)
end
abbrev OwnWait (w : World) (b : Nat) (M : List (Int × Nat)) : Prop := Own setK mapV w b M
structure WaitInv (w : World) (base Bw : Nat) (Wt : List (Int × Nat)) (S : Int → Int → Prop) : Prop where
  own : OwnWait w Bw Wt
  sets : ∀ p ∈ Wt, ∃ P, OwnSet w p.2 P ∧ ∀ k, k ∈ P.map (·.1) ↔ S p.1 k
  apart : (Wt.map (·.2)).Nodup
  off : ∀ p ∈ Wt, p.2 ≠ Bw ∧ base ≤ p.2
section
variable {w w' : World} {base Bw : Nat} {Wt : List (Int × Nat)} {S S' : Int → Int → Prop}
theorem WaitInv.grown {row : Option Nat} (h : WaitInv w base Bw Wt S) (hg : w.grownBy w' row) (h1 : some Bw ≠ row) (h2 : ∀ p ∈ Wt, some p.2 ≠ row) : WaitInv w' base Bw Wt S :=
  ⟨h.own.grown hg h1, fun p hp => let ⟨P, a, b⟩ := h.sets p hp; ⟨P, a.grown hg (h2 p hp), b⟩, h.apart, h.off⟩
theorem WaitInv.below (h : WaitInv w base Bw Wt S) (hb : Below w.heap.size w w') : WaitInv w' base Bw Wt S :=
  ⟨h.own.below hb, fun p hp => let ⟨P, a, b⟩ := h.sets p hp; ⟨P, a.below hb, b⟩, h.apart, h.off⟩
theorem WaitInv.congr (h : WaitInv w base Bw Wt S) (hS : ∀ p ∈ Wt, ∀ k, S p.1 k ↔ S' p.1 k) : WaitInv w base Bw Wt S' :=
  ⟨h.own, fun p hp => let ⟨P, a, b⟩ := h.sets p hp; ⟨P, a, fun k => (b k).trans (hS p hp k)⟩, h.apart, h.off⟩
theorem WaitInv.iter_off {k : TypeId} {α β : Type} [DecidableEq α] {κ : KK Try.prog k α} {ν : VK β} {b r : Nat} {M : List (α × β)} {todo : List α} (h : WaitInv w base Bw Wt S) (hi : Iter κ ν w b r M todo) : some Bw ≠ some r ∧ ∀ p ∈ Wt, some p.2 ≠ some r :=
  ⟨fun e => h.own.ne_iter hi (Option.some.inj e), fun p hp e => let ⟨P, a, _⟩ := h.sets p hp; a.ne_iter hi (Option.some.inj e)⟩
theorem WaitInv.row_off {γ : Type} {d : Kd γ} {e b : Nat} {ok : Nat → Prop} {v : Value} {xs : List γ} (h : WaitInv w base Bw Wt S) (hr : d.R e w b ok v xs) : some Bw ≠ v.ownBlock ∧ ∀ p ∈ Wt, some p.2 ≠ v.ownBlock :=
  ⟨own_ne_row h.own hr, fun p hp => let ⟨P, a, _⟩ := h.sets p hp; own_ne_row a hr⟩
theorem delM_not {β : Type} {M : List (Int × β)} {x : Int} (h : x ∉ M.map (·.1)) : delM M x = M :=
  List.filter_eq_self.2 (fun p hp => by simp; rintro rfl; exact h (List.mem_map.2 ⟨p, hp, rfl⟩))
theorem WaitInv.put (h : WaitInv w base Bw Wt S) {x : Int} {bp : Nat} {P : List (Int × Unit)} (hx : x ∉ Wt.map (·.1)) (hP : OwnSet w bp P) (hS : ∀ k, k ∈ P.map (·.1) ↔ S x k) (hbp : ∀ p ∈ Wt, p.2 ≠ bp) (hB : bp ≠ Bw) (hbase : base ≤ bp)
    (ho : OwnWait w' Bw (putM Wt x bp)) (hg : w.grownBy w' (some Bw)) : WaitInv w' base Bw (putM Wt x bp) S where
  own := ho
  sets p hp := by
    unfold putM at hp; rw [delM_not hx] at hp
    rcases List.mem_cons.1 hp with rfl | hp
    · exact ⟨P, hP.grown hg (fun e => hB (Option.some.inj e)), hS⟩
    · obtain ⟨P', a, b⟩ := h.sets p hp
      exact ⟨P', a.grown hg (fun e => (h.off p hp).1 (Option.some.inj e)), b⟩
  apart := by
    unfold putM; rw [delM_not hx]
    refine List.nodup_cons.2 ⟨fun h' => ?_, h.apart⟩
    obtain ⟨p, hp, e⟩ := List.mem_map.1 h'
    exact hbp p hp e
  off p hp := by
    unfold putM at hp; rw [delM_not hx] at hp
    rcases List.mem_cons.1 hp with rfl | hp
    · exact ⟨hB, hbase⟩
    · exact h.off p hp
theorem WaitInv.del (h : WaitInv w base Bw Wt S) {n : Int} (ho : OwnWait w' Bw (delM Wt n)) (hg : w.grownBy w' (some Bw)) : WaitInv w' base Bw (delM Wt n) S where
  own := ho
  sets p hp := by
    obtain ⟨hp, _⟩ := mem_delM.1 hp
    obtain ⟨P', a, b⟩ := h.sets p hp
    exact ⟨P', a.grown hg (fun e => (h.off p hp).1 (Option.some.inj e)), b⟩
  apart := h.apart.sublist ((List.filter_sublist).map _)
  off p hp := h.off p (mem_delM.1 hp).1
theorem WaitInv.block_inj (h : WaitInv w base Bw Wt S) : ∀ p ∈ Wt, ∀ q ∈ Wt, p.2 = q.2 → p = q := by
  have : ∀ (l : List (Int × Nat)), (l.map (·.2)).Nodup → ∀ p ∈ l, ∀ q ∈ l, p.2 = q.2 → p = q := by
    intro l
    induction l with
    | nil => simp
    | cons a l ih =>
      intro hn p hp q hq he
      rw [List.map_cons, List.nodup_cons] at hn
      rcases List.mem_cons.1 hp with e1 | hp' <;> rcases List.mem_cons.1 hq with e2 | hq'
      · rw [e1, e2]
      · exact absurd (List.mem_map.2 ⟨q, hq', by rw [← he, e1]⟩) hn.1
      · exact absurd (List.mem_map.2 ⟨p, hp', by rw [he, e2]⟩) hn.1
      · exact ih hn.2 p hp' q hq' he
  exact this Wt h.apart
theorem WaitInv.key_inj (h : WaitInv w base Bw Wt S) {p q : Int × Nat} (hp : p ∈ Wt) (hq : q ∈ Wt) (e : p.1 = q.1) : p = q := by
  have h1 := getM_mem h.own.nodup (x := p.1) (y := p.2) hp 0
  have h2 := getM_mem h.own.nodup (x := q.1) (y := q.2) hq 0
  rw [← e, h1] at h2
  exact Prod.ext e h2
theorem WaitInv.delIn (h : WaitInv w base Bw Wt S) {p : Int × Nat} (hp : p ∈ Wt) {P : List (Int × Unit)} (hS : ∀ k, k ∈ P.map (·.1) ↔ S p.1 k) {n : Int} (ho : OwnSet w' p.2 (delM P n)) (hg : w.grownBy w' (some p.2)) : WaitInv w' base Bw Wt (fun x k => S x k ∧ (x = p.1 → k ≠ n)) where
  own := h.own.grown hg (fun e => (h.off p hp).1 (Option.some.inj e).symm)
  sets q hq := by
    by_cases e : q.1 = p.1
    · obtain rfl := h.key_inj hq hp e
      exact ⟨_, ho, fun k => by rw [keys_delM, hS]; simp⟩
    · obtain ⟨P', a, b⟩ := h.sets q hq
      exact ⟨P', a.grown hg (fun e' => e (congrArg Prod.fst (h.block_inj q hq p hp (Option.some.inj e')))), fun k => by rw [b]; simp [e]⟩
  apart := h.apart
  off := h.off
end
abbrev reachOf (g : List (List Int)) (x k : Int) : Prop := Rch g (g.getD x.toNat []) k
structure BuildIn (g : List (List Int)) (Ma : List (Int × Unit)) (w1 w : World) (base ba r Bw cnt : Nat) (todo : List Int) (Wt : List (Int × Nat)) : Prop where
  it : Iter setK unitV w ba r Ma todo
  wait : WaitInv w base Bw Wt (fun x k => reachOf g x k ∧ k ∈ Ma.map (·.1))
  off : ba ≠ Bw ∧ ∀ p ∈ Wt, p.2 ≠ ba
  ge : base ≤ r ∧ base ≤ Bw ∧ base ≤ w1.heap.size
  bel : Below base w1 w
  left : w.rangeLeft ba r = cnt
structure PastIn (g : List (List Int)) (Ma : List (Int × Unit)) (w1 w : World) (base ba r Bw cnt : Nat) (todo : List Int) (Wt : List (Int × Nat)) (x : Int) (bp r2 : Nat) (Mp : List (Int × Unit)) (todo2 : List Int) : Prop where
  b : BuildIn g Ma w1 w base ba r Bw cnt todo Wt
  it : Iter setK unitV w bp r2 Mp todo2
  mem : ∀ k, k ∈ Mp.map (·.1) ↔ reachOf g x k ∧ (k ∈ Ma.map (·.1) ∨ k ∈ todo2)
  ne : bp ≠ ba ∧ bp ≠ Bw ∧ (∀ p ∈ Wt, p.2 ≠ bp) ∧ r2 ≠ r
  ge : base ≤ bp ∧ base ≤ r2
section
variable {g : List (List Int)} {Ma Mp : List (Int × Unit)} {w1 w w' : World} {base ba r Bw cnt bp r2 : Nat} {todo todo2 : List Int} {Wt : List (Int × Nat)} {x : Int}
theorem BuildIn.size (h : BuildIn g Ma w1 w base ba r Bw cnt todo Wt) : base ≤ w.heap.size := Nat.le_trans h.ge.2.2 h.bel.size
theorem BuildIn.grown {row : Option Nat} (h : BuildIn g Ma w1 w base ba r Bw cnt todo Wt) (hg : w.grownBy w' row) (h1 : some ba ≠ row) (h2 : some r ≠ row) (h3 : some Bw ≠ row) (h4 : ∀ p ∈ Wt, some p.2 ≠ row) (h5 : ∀ k, row = some k → base ≤ k) : BuildIn g Ma w1 w' base ba r Bw cnt todo Wt where
  it := h.it.grown hg h1 h2
  wait := h.wait.grown hg h3 h4
  off := h.off
  ge := h.ge
  bel := h.bel.grown hg h.size h5
  left := (h.it.left_grown hg h1 h2).trans h.left
theorem BuildIn.below (h : BuildIn g Ma w1 w base ba r Bw cnt todo Wt) (hb : Below w.heap.size w w') : BuildIn g Ma w1 w' base ba r Bw cnt todo Wt :=
  h.grown (row := none) ⟨hb.os, hb.tape, hb.output, hb.size, fun k hk _ => hb.block k hk⟩ (by simp) (by simp) (by simp) (by simp) (by simp)
theorem BuildIn.next {todo' : List Int} (h : BuildIn g Ma w1 w base ba r Bw cnt todo Wt) (hg : w.grownBy w' (some r)) (hi : Iter setK unitV w' ba r Ma todo') : BuildIn g Ma w1 w' base ba r Bw (w'.rangeLeft ba r) todo' Wt where
  it := hi
  wait := h.wait.grown hg (h.wait.iter_off h.it).1 (h.wait.iter_off h.it).2
  off := h.off
  ge := h.ge
  bel := h.bel.grown hg h.size (fun k e => by cases e; exact h.ge.1)
  left := rfl
theorem PastIn.b_row {row : Nat} (h : PastIn g Ma w1 w base ba r Bw cnt todo Wt x bp r2 Mp todo2) (hg : w.grownBy w' (some row)) (hr : row = r2 ∨ row = bp) : BuildIn g Ma w1 w' base ba r Bw cnt todo Wt := by
  have ho := h.it.own
  rcases hr with rfl | rfl
  · refine h.b.grown hg (fun e => h.b.it.own.ne_iter h.it (Option.some.inj e)) (fun e => h.ne.2.2.2 (Option.some.inj e).symm) (h.b.wait.iter_off h.it).1 (h.b.wait.iter_off h.it).2 (fun k e => by cases e; exact h.ge.2)
  · refine h.b.grown hg (fun e => h.ne.1 (Option.some.inj e).symm) (fun e => ho.ne_iter h.b.it (Option.some.inj e).symm) (fun e => h.ne.2.1 (Option.some.inj e).symm) (fun p hp e => h.ne.2.2.1 p hp (Option.some.inj e)) (fun k e => by cases e; exact h.ge.1)
theorem PastIn.keep {k : Int} (h : PastIn g Ma w1 w base ba r Bw cnt todo Wt x bp r2 Mp todo2) (hk : k ∈ Ma.map (·.1)) (hb : BuildIn g Ma w1 w' base ba r Bw cnt todo Wt) (hi : Iter setK unitV w' bp r2 Mp (strikeL todo2 k)) : PastIn g Ma w1 w' base ba r Bw cnt todo Wt x bp r2 Mp (strikeL todo2 k) where
  b := hb
  it := hi
  mem z := by
    rw [h.mem, mem_strikeL]
    by_cases e : z = k
    · subst e; simp [hk]
    · simp [e]
  ne := h.ne
  ge := h.ge
theorem PastIn.drop {k : Int} {t : List Int} (h : PastIn g Ma w1 w base ba r Bw cnt todo Wt x bp r2 Mp todo2) (hk : k ∉ Ma.map (·.1)) (ht : ∀ z, z ∈ t ↔ z ∈ todo2 ∧ z ≠ k) (hb : BuildIn g Ma w1 w' base ba r Bw cnt todo Wt) (hi : Iter setK unitV w' bp r2 (delM Mp k) t) : PastIn g Ma w1 w' base ba r Bw cnt todo Wt x bp r2 (delM Mp k) t where
  b := hb
  it := hi
  mem z := by
    rw [keys_delM, h.mem, ht]
    by_cases e : z = k
    · subst e; simp [hk]
    · simp [e]
  ne := h.ne
  ge := h.ge
theorem PastIn.put (h : PastIn g Ma w1 w base ba r Bw cnt todo Wt x bp r2 Mp []) (hx : x ∉ Wt.map (·.1)) (ho : OwnWait w' Bw (putM Wt x bp)) (hg : w.grownBy w' (some Bw)) : BuildIn g Ma w1 w' base ba r Bw cnt todo (putM Wt x bp) where
  it := h.b.it.grown hg (fun e => h.b.off.1 (Option.some.inj e)) (fun e => h.b.wait.own.ne_iter h.b.it (Option.some.inj e).symm)
  wait := h.b.wait.put hx h.it.own (fun k => by rw [h.mem]; simp) h.ne.2.2.1 h.ne.2.1 h.ge.1 ho hg
  off := ⟨h.b.off.1, fun p hp => by
    unfold putM at hp; rw [delM_not hx] at hp
    rcases List.mem_cons.1 hp with rfl | hp
    · exact h.ne.1
    · exact h.b.off.2 p hp⟩
  ge := h.b.ge
  bel := h.b.bel.grown hg h.b.size (fun k e => by cases e; exact h.b.ge.2.1)
  left := (h.b.it.left_grown hg (fun e => h.b.off.1 (Option.some.inj e)) (fun e => h.b.wait.own.ne_iter h.b.it (Option.some.inj e).symm)).trans h.b.left
end
structure MainIn (g : List (List Int)) (w1 w : World) (base Bw : Nat) (v : Value) (out Wl : List Int) (Wt : List (Int × Nat)) : Prop where
  wait : WaitInv w base Bw Wt (fun x k => reachOf g x k ∧ k ∈ Wl)
  row : (Kd.int .i64).R 3 w base (fun _ => True) v out
  keys : ∀ x, x ∈ Wl ↔ x ∈ Wt.map (·.1)
  nodup : Wl.Nodup
  valid : ∀ x ∈ Wl, 0 ≤ x ∧ x < g.length
  len : out.length + Wl.length ≤ g.length
  ge : base ≤ Bw ∧ base ≤ w1.heap.size
  bel : Below base w1 w
structure ReadyIn (g : List (List Int)) (w1 w : World) (base Bw : Nat) (v : Value) (out Wl : List Int) (Wt : List (Int × Nat)) (r : Nat) (u : Value) (xs todo : List Int) : Prop where
  m : MainIn g w1 w base Bw v out Wl Wt
  it : Iter setK mapV w Bw r Wt todo
  row : (Kd.int .i64).R 3 w base (fun _ => True) u xs
  apart : ∀ k, u.ownBlock = some k → some k ≠ v.ownBlock
  nodup : xs.Nodup
  mem : ∀ x, x ∈ xs ↔ (x ∈ Wl ∧ freeIn g Wl x = true) ∧ x ∉ todo
  ge : base ≤ r
structure DelIn (g : List (List Int)) (w1 w : World) (base Bw : Nat) (v : Value) (out Wl : List Int) (Wt : List (Int × Nat)) (r : Nat) (n : Int) (todo : List Int) : Prop where
  it : Iter setK mapV w Bw r Wt todo
  wait : WaitInv w base Bw Wt (fun x k => (reachOf g x k ∧ k ∈ Wl) ∧ (k = n → x ∈ todo))
  row : (Kd.int .i64).R 3 w base (fun _ => True) v out
  ge : base ≤ r ∧ base ≤ w1.heap.size
  bel : Below base w1 w
section
variable {g : List (List Int)} {w1 w w' : World} {base Bw r : Nat} {v u : Value} {out Wl xs todo : List Int} {Wt : List (Int × Nat)} {n : Int}
theorem MainIn.size (h : MainIn g w1 w base Bw v out Wl Wt) : base ≤ w.heap.size := Nat.le_trans h.ge.2 h.bel.size
theorem MainIn.grown {row : Option Nat} (h : MainIn g w1 w base Bw v out Wl Wt) (hg : w.grownBy w' row) (h1 : some Bw ≠ row) (h2 : ∀ p ∈ Wt, some p.2 ≠ row) (h3 : ∀ k, row = some k → some k ≠ v.ownBlock) (h4 : ∀ k, row = some k → base ≤ k) : MainIn g w1 w' base Bw v out Wl Wt where
  wait := h.wait.grown hg h1 h2
  row := Kd.R_grown2 h.row rfl hg h3
  keys := h.keys
  nodup := h.nodup
  valid := h.valid
  len := h.len
  ge := h.ge
  bel := h.bel.grown hg h.size h4
theorem MainIn.wlen (h : MainIn g w1 w base Bw v out Wl Wt) : Wt.length = Wl.length := by
  have hp : (Wt.map (·.1)).Perm Wl := (List.perm_ext_iff_of_nodup h.wait.own.nodup h.nodup).2 (fun x => (h.keys x).symm)
  simpa using hp.length_eq
theorem ReadyIn.next {todo' : List Int} (h : ReadyIn g w1 w base Bw v out Wl Wt r u xs todo) (hg : w.grownBy w' (some r)) (hi : Iter setK mapV w' Bw r Wt todo') : MainIn g w1 w' base Bw v out Wl Wt ∧ (Kd.int .i64).R 3 w' base (fun _ => True) u xs :=
  ⟨h.m.grown hg (h.m.wait.iter_off h.it).1 (h.m.wait.iter_off h.it).2 (fun k e => by cases e; exact iter_ne_row h.it h.m.row) (fun k e => by cases e; exact h.ge), Kd.R_grown1 h.row rfl hg (iter_ne_row h.it h.row)⟩
theorem freeIn_iff {W : List Int} {x : Int} : freeIn g W x = true ↔ ∀ k, ¬ (reachOf g x k ∧ k ∈ W) := by
  unfold freeIn
  simp only [Bool.not_eq_true', List.any_eq_false]
  constructor
  · intro h k ⟨h1, h2⟩; exact h k h2 (rchB_iff.2 h1)
  · intro h k hk hr; exact h k ⟨rchB_iff.1 hr, hk⟩
theorem ReadyIn.skip {x : Int} (h : ReadyIn g w1 w base Bw v out Wl Wt r u xs todo) (hx : freeIn g Wl x = false) (hm : MainIn g w1 w' base Bw v out Wl Wt) (hr : (Kd.int .i64).R 3 w' base (fun _ => True) u xs) (hi : Iter setK mapV w' Bw r Wt (strikeL todo x)) : ReadyIn g w1 w' base Bw v out Wl Wt r u xs (strikeL todo x) where
  m := hm
  it := hi
  row := hr
  apart := h.apart
  nodup := h.nodup
  mem z := by
    rw [h.mem, mem_strikeL]
    by_cases e : z = x
    · subst e; simp [hx]
    · simp [e]
  ge := h.ge
theorem ReadyIn.push {x : Int} {u' : Value} (h : ReadyIn g w1 w base Bw v out Wl Wt r u xs todo) (hx : freeIn g Wl x = true) (ht : x ∈ todo) (hm : MainIn g w1 w' base Bw v out Wl Wt) (hr : (Kd.int .i64).R 3 w' base (fun _ => True) u' (xs ++ [x])) (ha : ∀ k, u'.ownBlock = some k → some k ≠ v.ownBlock) (hi : Iter setK mapV w' Bw r Wt (strikeL todo x)) : ReadyIn g w1 w' base Bw v out Wl Wt r u' (xs ++ [x]) (strikeL todo x) where
  m := hm
  it := hi
  row := hr
  apart := ha
  nodup := List.nodup_append.2 ⟨h.nodup, by simp, fun a ha c hc e => by rw [List.mem_singleton.1 hc] at e; subst e; exact ((h.mem a).1 ha).2 ht⟩
  mem z := by
    rw [List.mem_append, List.mem_singleton, h.mem, mem_strikeL]
    by_cases e : z = x
    · subst e; simp [hx, (h.m.keys z).2 (h.it.sub z ht)]
    · simp [e]
  ge := h.ge
theorem DelIn.size (h : DelIn g w1 w base Bw v out Wl Wt r n todo) : base ≤ w.heap.size := Nat.le_trans h.ge.2 h.bel.size
theorem DelIn.step {x : Int} {y : Nat} {P : List (Int × Unit)} {w2 : World} (h : DelIn g w1 w base Bw v out Wl Wt r n todo) (hp : (x, y) ∈ Wt) (hi : Iter setK mapV w' Bw r Wt (strikeL todo x)) (hg : w.grownBy w' (some r))
    (hP : ∀ k, k ∈ P.map (·.1) ↔ (reachOf g x k ∧ k ∈ Wl) ∧ (k = n → x ∈ todo)) (ho : OwnSet w2 y (delM P n)) (hg2 : w'.grownBy w2 (some y)) : DelIn g w1 w2 base Bw v out Wl Wt r n (strikeL todo x) := by
  have hw := h.wait.grown hg (h.wait.iter_off h.it).1 (h.wait.iter_off h.it).2
  have hyB : some Bw ≠ some y := fun e => (h.wait.off (x, y) hp).1 (Option.some.inj e).symm
  obtain ⟨P0, hP0, _⟩ := hw.sets (x, y) hp
  have hr' : (Kd.int .i64).R 3 w' base (fun _ => True) v out := Kd.R_grown1 h.row rfl hg (iter_ne_row h.it h.row)
  exact {
    it := hi.grown hg2 hyB (fun e => hP0.ne_iter hi (Option.some.inj e).symm)
    wait := (hw.delIn hp hP ho hg2).congr (fun p hp' k => by
      rw [mem_strikeL]
      constructor
      · rintro ⟨⟨h1, h2⟩, h3⟩; exact ⟨h1, fun e => ⟨h2 e, fun e' => h3 e' e⟩⟩
      · rintro ⟨h1, h2⟩; exact ⟨⟨h1, fun e => (h2 e).1⟩, fun e' e => (h2 e).2 e'⟩)
    row := Kd.R_grown1 hr' rfl hg2 (own_ne_row hP0 hr')
    ge := h.ge
    bel := (h.bel.grown hg h.size (fun k e => by cases e; exact h.ge.1)).grown hg2 (Nat.le_trans h.size hg.size) (fun k e => by cases e; exact (h.wait.off (x, y) hp).2) }
end
theorem ordGo_nil (g : List (List Int)) (rank : List Int) : ∀ k, ordGo g rank k [] = []
  | 0 => rfl
  | k + 1 => rfl
theorem ordGo_stuck {g : List (List Int)} {rank W : List Int} (h : ∀ x, ¬ (x ∈ W ∧ freeIn g W x = true)) : ∀ k, ordGo g rank k W = []
  | 0 => rfl
  | k + 1 => by
    have : W.filter (freeIn g W) = [] := List.filter_eq_nil_iff.2 (fun x hx hf => h x ⟨hx, hf⟩)
    unfold ordGo; rw [this]
theorem ordGo_step {g : List (List Int)} {rank W : List Int} {n : Int} (h1 : n ∈ W ∧ freeIn g W n = true) (h2 : ∀ x, x ∈ W ∧ freeIn g W x = true → lessN rank x n = false) (k : Nat) : ordGo g rank (k + 1) W = n :: ordGo g rank k (strikeL W n) := by
  have hn : n ∈ W.filter (freeIn g W) := List.mem_filter.2 h1
  have hm : ∀ x ∈ W.filter (freeIn g W), lessN rank x n = false := fun x hx => h2 x (List.mem_filter.1 hx)
  show (match W.filter (freeIn g W) with | [] => [] | x :: l => leastN rank x l :: ordGo g rank k (W.filter fun k => decide (k ≠ leastN rank x l))) = _
  generalize W.filter (freeIn g W) = F at hn hm
  cases F with
  | nil => cases hn
  | cons x l =>
    obtain ⟨h3, h4⟩ := leastN_spec rank l x
    have := least_unique h3 h4 hn hm
    simp only [this]
    rfl
theorem small_pick (g : List (List Int)) (p : Int → Bool) : (pickL g p).length ≤ g.length := by
  unfold pickL
  exact Nat.le_trans (List.length_filter_le _ _) (by simp)
theorem row_base {γ : Type} {d : Kd γ} {e base : Nat} {W : World} {ok : Nat → Prop} {u : Value} {xs : List γ} (hr : d.R e W base ok u xs) : ∀ k, u.ownBlock = some k → base ≤ k := by
  obtain ⟨inner, ho⟩ := Kd.R_own hr
  exact own_base ho
theorem apart_step {γ : Type} {d : Kd γ} {e base : Nat} {W : World} {ok : Nat → Prop} {u u' v : Value} {xs : List γ} (hat : u'.ownBlock = u.ownBlock ∨ ∃ b, u'.ownBlock = some b ∧ W.heap.size ≤ b) (ha : ∀ k, u.ownBlock = some k → some k ≠ v.ownBlock) (hr : d.R e W base ok v xs) : ∀ k, u'.ownBlock = some k → some k ≠ v.ownBlock := by
  intro k hk
  rcases hat with h | ⟨b, h1, h2⟩
  · exact ha k (h ▸ hk)
  · intro e'
    obtain ⟨inner, ho⟩ := Kd.R_own hr
    have := own_lt ho k e'.symm
    rw [hk] at h1
    injection h1 with h1
    omega
theorem cell_block {W : World} {b : Nat} {v : Value} {t : TypeId} (h : W.heap[b]? = some (.cells #[v] t (0, 0))) : W.cell? ⟨b, 0, none⟩ = some v := by
  simp [World.cell?, h]
set_option maxHeartbeats 16000000 in
set_option maxRecDepth 100000 in
theorem graph_Order.walk (A0 : Option Addr) (c0 : Nat) (g : List (List Int)) (A1 : Option Addr) (c1 : Nat) (l : List Int) (A2 : Option Addr) (c2 : Nat) (rank : List Int) (w : World) (hr0 : Kd.C (Kd.slice 3 (Kd.int .i64)) w A0 g.length g) (hr1 : Kd.C (Kd.int .i64) w A1 l.length l) (hr2 : Kd.C (Kd.int .i64) w A2 rank.length rank) (hlim : g.length < 17592186044416) :
    Calls Try.prog 92 #[.slice A0 g.length c0, .slice A1 l.length c1, .slice A2 rank.length c2] w fun e w' => ∃ v, e = .returned v ∧ (Kd.int .i64).R 3 w' w.heap.size (fun _ => True) v (ordL g l rank) ∧ Below w.heap.size w w' := by
  have hmm := @run_makeMap Try.prog
  have HR0 := Aside0.mk hr0
  have HR1 := Aside0.mk hr1
  have HR2 := Aside0.mk hr2
  clear hr0 hr1 hr2
  go_enter Try.func92, Try.ntmps92
  go_wp2_with fail
  have HC0 := Aside0.mk (heap_alloc_new w (Obj.cells #[Value.slice A2 rank.length c2] 65))
  obtain ⟨wA, hwA⟩ : ∃ wA, wA = w.alloc (Obj.cells #[Value.slice A2 rank.length c2] 65) := ⟨_, rfl⟩
  have hsA : wA.heap.size = w.heap.size + 1 := by rw [hwA]; exact World.size_alloc _ _
  have HC1 := Aside0.mk (heap_alloc_new wA (Obj.cells #[Value.func (Fn.func 117) #[] #[Value.pointer (some { block := w.heap.size, off := 0 })]] 146))
  obtain ⟨wB, hwB⟩ : ∃ wB, wB = wA.alloc (Obj.cells #[Value.func (Fn.func 117) #[] #[Value.pointer (some { block := w.heap.size, off := 0 })]] 146) := ⟨_, rfl⟩
  have hsB : wB.heap.size = w.heap.size + 1 + 1 := by rw [hwB, ← hsA]; exact World.size_alloc _ _
  have HBA := Aside0.mk (show Below w.heap.size w wA by rw [hwA]; exact below_alloc (Below.refl _ _) _)
  have HBB := Aside0.mk (show Below wA.heap.size wA wB by rw [hwB]; exact below_alloc (Below.refl _ _) _)
  have HOB := Aside0.mk (show OwnWait (wB.alloc (.map #[] 0)) (w.heap.size + 1 + 1) [] by rw [← hsB]; exact Own.made _ _ _)
  have HBC := Aside0.mk (show Below wB.heap.size wB (wB.alloc (.map #[] 0)) from below_alloc (Below.refl _ _) _)
  rw [← hwA, ← hwB]
  rw [← hwA] at HC0
  rw [← hwB] at HC1
  have hsC : (wB.alloc (.map #[] 0)).heap.size = w.heap.size + 1 + 1 + 1 := by rw [World.size_alloc, hsB]
  generalize hwC : wB.alloc (.map #[] 0) = wC at HOB HBC hsC ⊢
  have HBW := Aside0.mk (below_then (below_then HBA.out (by omega) HBB.out) (by omega) HBC.out)
  have HC0' := Aside0.mk (show wC.heap[w.heap.size]? = _ from (HBC.out.block _ (by omega)).trans ((HBB.out.block _ (by omega)).trans HC0.out))
  have HC1' := Aside0.mk (show wC.heap[w.heap.size + 1]? = some (Obj.cells #[Value.func (Fn.func 117) #[] #[Value.pointer (some { block := w.heap.size, off := 0 })]] 146) from (HBC.out.block _ (by omega)).trans (by have := HC1.out; rw [hsA] at this; exact this))
  clear HC0 HC1 HBA HBB HBC hwA hwB hwC
  refine (graph_of.walk A0 c0 g A1 c1 l wC (by omega) (Kd.C_below HR1.out HBW.out)).mono ?_
  rintro e w1 ⟨ba, Ma, rfl, hba, hoa, hma, hb1⟩
  have HF0 := Aside0.mk ((hb1.block _ (by omega)).trans HC0'.out)
  have HF1 := Aside0.mk ((hb1.block _ (by omega)).trans HC1'.out)
  have HMA := Aside0.mk hma
  have HW1 := Aside0.mk (below_then HBW.out (by omega) hb1)
  have HOW := Aside0.mk (HOB.out.below hb1)
  have HOA := Aside0.mk hoa
  have hML : Ma.length ≤ g.length := by
    have := hoa.nodup.length_le_of_subset (l₂ := setL g l) (fun x hx => mem_setL.2 (by obtain ⟨h1, h2, h3⟩ := (hma x).1 hx; exact ⟨⟨h2, h3⟩, h1⟩))
    have h' : (setL g l).length ≤ g.length := small_pick g _
    simp at this; omega
  have HML := Aside0.mk hML
  have HS1 := Aside0.mk (show w.heap.size + 1 + 1 + 1 ≤ w1.heap.size by have := hb1.size; omega)
  have HBN := Aside0.mk (show ba ≠ w.heap.size + 1 + 1 by omega)
  clear hmm hsA hsB hsC hba hoa hma hb1 hML HC0' HC1' HOB HBW
  go_wp2_with (first | (at_range; refine wpList_mrange rfl _ 121 rfl setK unitV 103 Try.underlying121 ba Ma rfl HOA.out ?_; intro w2 hi2 hg2 hs2))
  go_frame
  have HI := Aside0.mk (show BuildIn g Ma w1 w2 (w.heap.size + 1 + 1) ba w1.heap.size (w.heap.size + 1 + 1) (w2.rangeLeft ba w1.heap.size) (Ma.map (·.1)) [] from {
    it := hi2
    wait := ⟨HOW.out.grown hg2 (by simp), by simp, by simp, by simp⟩
    off := ⟨HBN.out, by simp⟩
    ge := ⟨by have := HS1.out; omega, Nat.le_refl _, by have := HS1.out; omega⟩
    bel := (Below.refl _ _).grown hg2 (by have := HS1.out; omega) (by simp)
    left := rfl })
  clear hi2 hg2 hs2
  go_loopw [10] (fun _ wr => ∃ (cnt : Nat) (todo : List Int) (Wt : List (Int × Nat)), Aside0 (BuildIn g Ma w1 wr (w.heap.size + 1 + 1) ba w1.heap.size (w.heap.size + 1 + 1) cnt todo Wt) ∧ Aside0 (∀ x, x ∈ Wt.map (·.1) ↔ x ∈ Ma.map (·.1) ∧ x ∉ todo)) (fun _ wr => wr.rangeLeft ba w1.heap.size)
  case atStart => exact ⟨_, _, [], HI, ⟨fun x => by simp⟩⟩
  case round =>
    clear HI
    obtain ⟨cnt, todo, Wt, HI, HK⟩ := hrel
    go_wp2_with (first | (at_next; refine wpList_mnext rfl _ rfl setK unitV ba w1.heap.size Ma rfl HI.out.it ?_ ?_))
    · intro ht
      subst ht
      have HM0 := Aside0.mk (show MainIn g w1 wr (w.heap.size + 1 + 1) (w.heap.size + 1 + 1) (.slice none 0 0) [] (setL g l) Wt from {
        wait := HI.out.wait.congr (fun p hp k => by
          rw [mem_setL, HMA.out]
          constructor
          · rintro ⟨h1, h2, h3, h4⟩; exact ⟨h1, ⟨h3, h4⟩, h2⟩
          · rintro ⟨h1, ⟨h3, h4⟩, h2⟩; exact ⟨h1, h2, h3, h4⟩)
        row := Kd.R_nil _ _ _ _ _
        keys := fun x => by
          rw [mem_setL, HK.out, HMA.out]
          constructor
          · rintro ⟨⟨h3, h4⟩, h2⟩; exact ⟨⟨h2, h3, h4⟩, by simp⟩
          · rintro ⟨⟨h2, h3, h4⟩, _⟩; exact ⟨⟨h3, h4⟩, h2⟩
        nodup := (pickL_rises g _).imp (fun h => by omega)
        valid := fun x hx => (mem_setL.1 hx).1
        len := by have := small_pick g (fun x => decide (x ∈ l)); simp; exact this
        ge := ⟨Nat.le_refl _, by have := HS1.out; omega⟩
        bel := HI.out.bel })
      clear HI HK
      go_wp2
      go_loopg [13] (setL g l).length (fun kq v13 wr => ∃ (out Wl : List Int) (Wt : List (Int × Nat)), Aside0 (MainIn g w1 wr (w.heap.size + 1 + 1) (w.heap.size + 1 + 1) v13 out Wl Wt) ∧ Aside0 (out ++ ordGo g rank kq Wl = ordL g l rank) ∧ Aside0 (Wl.length ≤ kq))
      case atStart => exact ⟨[], setL g l, Wt, HM0, ⟨rfl⟩, ⟨Nat.le_refl _⟩⟩
      case round =>
        clear HM0
        obtain ⟨out, Wl, Wt, HM, HE, HL⟩ := hrel
        by_cases hW : Wl = []
        · subst hW
          have hw0 : Wt = [] := List.eq_nil_of_length_eq_zero (by rw [HM.out.wlen]; rfl)
          subst hw0
          go_wp2_with (first | (at_len; refine wpList_mlen rfl _ 147 rfl setK mapV 121 Try.underlying147 (w.heap.size + 1 + 1) [] rfl HM.out.wait.own ?_))
          go_ret
          exact ⟨u13, rfl, by rw [← HE.out, ordGo_nil, List.append_nil]; exact Kd.R_lower HM.out.row (by omega), HW1.out.trans (HM.out.bel.mono (by omega))⟩
        · have hWp := List.length_pos_iff.2 hW
          have hpos : 0 < Wt.length := by rw [HM.out.wlen]; exact hWp
          have hposI : (0 : Int) < (Wt.length : Int) := by omega
          obtain ⟨k1, rfl⟩ : ∃ k1, gk = k1 + 1 := ⟨gk - 1, by have := HL.out; omega⟩
          clear hW hWp
          go_wp2_with (first | (at_len; refine wpList_mlen rfl _ 147 rfl setK mapV 121 Try.underlying147 (w.heap.size + 1 + 1) Wt rfl HM.out.wait.own ?_) | (at_range; refine wpList_mrange rfl _ 147 rfl setK mapV 121 Try.underlying147 (w.heap.size + 1 + 1) Wt rfl HM.out.wait.own ?_; intro w2 hi2 hg2 hs2))
          go_frame
          have hge : w.heap.size + 1 + 1 ≤ wr.heap.size := HM.out.size
          have HM2 := Aside0.mk (HM.out.grown hg2 (by simp) (by simp) (by simp) (by simp))
          clear hpos hposI hg2 hs2 HM
          generalize wr.heap.size = rI at hge hi2 ⊢
          have HR := Aside0.mk (show ReadyIn g w1 w2 (w.heap.size + 1 + 1) (w.heap.size + 1 + 1) u13 out Wl Wt rI (.slice none 0 0) [] (Wt.map (·.1)) from {
            m := HM2.out
            it := hi2
            row := Kd.R_nil _ _ _ _ _
            apart := by simp [Value.ownBlock]
            nodup := by simp
            mem := fun x => ⟨(fun h => by cases h), fun h => absurd ((HM2.out.keys x).1 h.1.1) h.2⟩
            ge := hge })
          clear hi2 HM2
          go_loopw [14] (fun v14 wr2 => ∃ (xs todo : List Int), Aside0 (ReadyIn g w1 wr2 (w.heap.size + 1 + 1) (w.heap.size + 1 + 1) u13 out Wl Wt rI v14 xs todo)) (fun _ wr2 => wr2.rangeLeft (w.heap.size + 1 + 1) rI)
          case atStart => exact ⟨[], _, HR⟩
          case round =>
            clear HR
            obtain ⟨xs, todo, HR⟩ := hrel
            go_wp2_with (first | (at_next; refine wpList_mnext rfl _ rfl setK mapV (w.heap.size + 1 + 1) rI Wt rfl HR.out.it ?_ ?_))
            · intro ht
              subst ht
              obtain ⟨A, c, hv⟩ := Kd.R_slice HR.out.row
              subst hv
              by_cases hxs : xs = []
              · subst hxs
                go_wp2
                go_ret
                exact ⟨u13, rfl, by rw [← HE.out, ordGo_stuck (fun x hx => by have := (HR.out.mem x).2 ⟨hx, by simp⟩; simp at this), List.append_nil]; exact Kd.R_lower HR.out.m.row (by omega), HW1.out.trans (HR.out.m.bel.mono (by omega))⟩
              · have hxp := List.length_pos_iff.2 hxs
                have hne : ((xs.length : Int) == 0) = false := beq_eq_false_iff_ne.mpr (by omega)
                have hne2 : (xs.length == 0) = false := beq_eq_false_iff_ne.mpr (by omega)
                have hxl : xs.length ≤ Wl.length := HR.out.nodup.length_le_of_subset (fun x hx => ((HR.out.mem x).1 hx).1.1)
                have hml := HR.out.m.len
                have HMIN := Aside0.mk (min_ready.walk w.heap.size (w.heap.size + 1) A2 c2 rank w wr (w.heap.size + 1 + 1) (fun _ => True) (.slice A xs.length c) xs HR.out.row hxs (fun x hx => (HR.out.m.valid x ((HR.out.mem x).1 hx).1.1).1) (by omega)
                  (cell_block ((HR.out.m.bel.block _ (by omega)).trans HF1.out)) (cell_block ((HR.out.m.bel.block _ (by omega)).trans HF0.out)) (by omega) (by omega) HR2.out (HW1.out.trans (HR.out.m.bel.mono (by omega))) (by omega))
                have HLL := Aside0.mk (show (out.length + 1) * 8 ≤ 140737488355328 by omega)
                clear hxs hxp hxl hml
                go_wp2_with (first
                  | (go_at_call 118; refine HMIN.out.mono ?_; rintro e w5 ⟨n, rfl, hn, hmin, hg5⟩; have HN := Aside0.mk hn; have HMI := Aside0.mk hmin; have HM5 := Aside0.mk (HR.out.m.grown hg5 (HR.out.m.wait.row_off HR.out.row).1 (HR.out.m.wait.row_off HR.out.row).2 HR.out.apart (row_base HR.out.row)); have HNV := Aside0.mk (HR.out.m.valid n ((HR.out.mem n).1 hn).1.1); have HWF := Aside0.mk (show (Lit.int .i64 n).wf = true from WalkArith.wf_i64 (by have := HNV.out; omega)); clear hn hmin hg5)
                  | (at_builtin; refine Kd.R_append (Kd.int .i64) (w0 := w1) (w.heap.size + 1 + 1) rfl _ _ 65 3 (.int .i64 0) 8 rfl Try.underlying65 info3 rfl (by decide) (by omega) u13 out n [.int .i64 n] (fun _ => True) (fun _ => False) rfl rfl rfl (fun _ hk => hk.elim) (fun _ _ => trivial) HM5.out.row HM5.out.bel HM5.out.size HLL.out ?_; intro v2 w6 hr6 hb6 hg6 hat6; have HW6 := Aside0.mk (HM5.out.wait.grown hg6 (HM5.out.wait.row_off HM5.out.row).1 (HM5.out.wait.row_off HM5.out.row).2); have HR6 := Aside0.mk hr6; have HB6 := Aside0.mk hb6; clear hr6 hb6 hg6 hat6)
                  | (at_delete; refine wpList_mdel rfl _ _ 147 rfl setK mapV 121 Try.underlying147 (w.heap.size + 1 + 1) Wt rfl HW6.out.own n rfl HWF.out ?_; intro w7 ho7 hg7 hs7; have HW7 := Aside0.mk (HW6.out.del ho7 hg7); have HR7 := Aside0.mk (Kd.R_grown1 HR6.out rfl hg7 (own_ne_row HW6.out.own HR6.out)); have HB7 := Aside0.mk (HB6.out.grown hg7 (Nat.le_trans HR.out.m.ge.2 HB6.out.size) (fun k e => by cases e; exact Nat.le_refl _)); clear ho7 hg7 hs7)
                  | (at_range; refine wpList_mrange rfl _ 147 rfl setK mapV 121 Try.underlying147 (w.heap.size + 1 + 1) (delM Wt n) rfl HW7.out.own ?_; intro w8 hi8 hg8 hs8))
                go_frame
                have hge7 : w.heap.size + 1 + 1 ≤ w7.heap.size := Nat.le_trans HR.out.m.ge.2 HB7.out.size
                have HD := Aside0.mk (show DelIn g w1 w8 (w.heap.size + 1 + 1) (w.heap.size + 1 + 1) v2 (out ++ [n]) Wl (delM Wt n) w7.heap.size n ((delM Wt n).map (·.1)) from {
                  it := hi8
                  wait := (HW7.out.grown hg8 (by simp) (by simp)).congr (fun p hp k => ⟨fun h => ⟨h, fun _ => List.mem_map.2 ⟨p, hp, rfl⟩⟩, fun h => h.1⟩)
                  row := Kd.R_grown2 HR7.out rfl hg8 (by simp)
                  ge := ⟨hge7, HR.out.m.ge.2⟩
                  bel := HB7.out.grown hg8 hge7 (by simp) })
                clear hi8 hg8 hs8 HW7 HR7 HB7 HW6 HR6 HB6 HM5
                go_loopw [19] (fun _ wr2 => ∃ (todo : List Int), Aside0 (DelIn g w1 wr2 (w.heap.size + 1 + 1) (w.heap.size + 1 + 1) v2 (out ++ [n]) Wl (delM Wt n) w7.heap.size n todo)) (fun _ wr2 => wr2.rangeLeft (w.heap.size + 1 + 1) w7.heap.size)
                case atStart => exact ⟨_, HD⟩
                case round =>
                  clear HD
                  obtain ⟨todo, HD⟩ := hrel
                  go_wp2_with (first | (at_next; refine wpList_mnext rfl _ rfl setK mapV (w.heap.size + 1 + 1) w7.heap.size (delM Wt n) rfl HD.out.it ?_ ?_))
                  · intro ht
                    subst ht
                    have hnW := ((HR.out.mem n).1 HN.out).1
                    have hls := length_strike1 HR.out.m.nodup hnW.1
                    have HE2 := Aside0.mk (show (out ++ [n]) ++ ordGo g rank k1 (strikeL Wl n) = ordL g l rank by
                      rw [← HE.out, ordGo_step hnW (fun x hx => HMI.out x ((HR.out.mem x).2 ⟨hx, by simp⟩)), List.append_assoc]; rfl)
                    have HM9 := Aside0.mk (show MainIn g w1 wr (w.heap.size + 1 + 1) (w.heap.size + 1 + 1) v2 (out ++ [n]) (strikeL Wl n) (delM Wt n) from {
                      wait := HD.out.wait.congr (fun p hp k => by
                        rw [mem_strikeL]
                        constructor
                        · rintro ⟨⟨h1, h2⟩, h3⟩; exact ⟨h1, h2, fun e => by cases h3 e⟩
                        · rintro ⟨h1, h2, h3⟩; exact ⟨⟨h1, h2⟩, fun e => absurd e h3⟩)
                      row := HD.out.row
                      keys := fun x => by rw [mem_strikeL, keys_delM, HR.out.m.keys]
                      nodup := nodup_strikeL HR.out.m.nodup n
                      valid := fun x hx => HR.out.m.valid x (mem_strikeL.1 hx).1
                      len := by have := HR.out.m.len; rw [List.length_append]; simp; omega
                      ge := HR.out.m.ge
                      bel := HD.out.bel })
                    have HL2 := Aside0.mk (show (strikeL Wl n).length ≤ k1 by have := HL.out; omega)
                    clear hnW hls
                    go_wp2
                    go_roundg k1
                    case measure => omega
                    case rel => exact ⟨_, _, _, HM9, HE2, HL2⟩
                  · intro x y w9 hx hxM hi9 hlt9 hg9 hs9 hen
                    have hen' : (Instr.entry (.pointer (some ⟨w7.heap.size, 0, none⟩))).run Try.prog w9 = .ok (.tuple #[.int .i64 x, .map (some y)]) w9 := hen
                    clear hen
                    obtain ⟨P, hP, hPk⟩ := HD.out.wait.sets (x, y) hxM
                    have HP9 := Aside0.mk (hP.grown hg9 ((HD.out.wait.iter_off HD.out.it).2 (x, y) hxM))
                    have HI9 := Aside0.mk hi9
                    have HLT := Aside0.mk hlt9
                    have HPK := Aside0.mk hPk
                    have HG9 := Aside0.mk hg9
                    have HXM := Aside0.mk hxM
                    clear hx hxM hi9 hlt9 hg9 hs9 hP hPk
                    go_wp2_with (first | (at_delete; refine wpList_mdel rfl _ _ 121 rfl setK unitV 103 Try.underlying121 y P rfl HP9.out n rfl HWF.out ?_; intro w10 ho10 hg10 hs10; go_frame))
                    have HD10 := Aside0.mk (HD.out.step HXM.out HI9.out HG9.out HPK.out ho10 hg10)
                    have HL10 := Aside0.mk (HI9.out.left_grown hg10 (fun e => (HD.out.wait.off (x, y) HXM.out).1 (Option.some.inj e).symm) (fun e => HP9.out.ne_iter HI9.out (Option.some.inj e).symm))
                    clear ho10 hg10 hs10
                    go_roundw
                    case rel => exact ⟨_, HD10⟩
                    case measure => rw [HL10.out]; exact HLT.out
            · intro x y w4 hx hxM hi4 hlt4 hg4 hs4 hen
              have hen' : (Instr.entry (.pointer (some ⟨rI, 0, none⟩))).run Try.prog w4 = .ok (.tuple #[.int .i64 x, .map (some y)]) w4 := hen
              clear hen
              obtain ⟨hm4, hr4⟩ := HR.out.next hg4 hi4
              obtain ⟨P, hP, hPk⟩ := hm4.wait.sets (x, y) hxM
              have hfree : freeIn g Wl x = decide (P = []) := by
                rw [Bool.eq_iff_iff, freeIn_iff, decide_eq_true_eq]
                constructor
                · intro h
                  refine List.eq_nil_iff_forall_not_mem.2 (fun p hp => ?_)
                  exact h p.1 ((hPk p.1).1 (List.mem_map.2 ⟨p, hp, rfl⟩))
                · intro h k hk
                  have := (hPk k).2 hk
                  rw [h] at this
                  cases this
              have HM4 := Aside0.mk hm4
              have HR4 := Aside0.mk hr4
              have HP := Aside0.mk hP
              have HI4 := Aside0.mk hi4
              have HLT := Aside0.mk hlt4
              have HX := Aside0.mk hx
              have hxl : xs.length ≤ Wl.length := HR.out.nodup.length_le_of_subset (fun x hx => ((HR.out.mem x).1 hx).1.1)
              have HLL := Aside0.mk (show (xs.length + 1) * 8 ≤ 140737488355328 by have := HR.out.m.len; omega)
              clear hm4 hr4 hP hPk hi4 hlt4 hg4 hs4 hx hxM hxl
              by_cases hP0 : P = []
              · subst hP0
                have HF := Aside0.mk (hfree.trans rfl)
                clear hfree
                go_wp2_with (first | (at_len; refine wpList_mlen rfl _ 121 rfl setK unitV 103 Try.underlying121 y [] rfl HP.out ?_) | (at_builtin; refine Kd.R_append (Kd.int .i64) (w0 := w1) (w.heap.size + 1 + 1) rfl _ _ 65 3 (.int .i64 0) 8 rfl Try.underlying65 info3 rfl (by decide) (by omega) u14 xs x [.int .i64 x] (fun _ => True) (fun _ => False) rfl rfl rfl (fun _ hk => hk.elim) (fun _ _ => trivial) HR4.out HM4.out.bel HM4.out.size HLL.out ?_; intro v2 w6 hr6 hb6 hg6 hat6))
                have HM6 := Aside0.mk (HM4.out.grown hg6 (HM4.out.wait.row_off HR4.out).1 (HM4.out.wait.row_off HR4.out).2 HR.out.apart (row_base HR4.out))
                have HA6 := Aside0.mk (apart_step hat6 HR.out.apart HM4.out.row)
                have HI6 := Aside0.mk (HI4.out.grown hg6 (own_ne_row HI4.out.own HR4.out) (iter_ne_row HI4.out HR4.out))
                have HL6 := Aside0.mk (HI4.out.left_grown hg6 (own_ne_row HI4.out.own HR4.out) (iter_ne_row HI4.out HR4.out))
                have HR6 := Aside0.mk hr6
                clear hr6 hb6 hg6 hat6
                go_roundw
                case rel => exact ⟨_, _, ⟨HR.out.push HF.out HX.out HM6.out HR6.out HA6.out HI6.out⟩⟩
                case measure => rw [HL6.out]; exact HLT.out
              · have HF := Aside0.mk (hfree.trans (decide_eq_false hP0))
                have hPp := List.length_pos_iff.2 hP0
                have hne : ((P.length : Int) == 0) = false := beq_eq_false_iff_ne.mpr (by omega)
                have hne2 : (P.length == 0) = false := beq_eq_false_iff_ne.mpr (by omega)
                clear hfree hP0 hPp
                go_wp2_with (first | (at_len; refine wpList_mlen rfl _ 121 rfl setK unitV 103 Try.underlying121 y P rfl HP.out ?_))
                go_roundw
                case rel => exact ⟨xs, _, ⟨HR.out.skip HF.out HM4.out HR4.out HI4.out⟩⟩
                case measure => exact HLT.out
    · intro x y w4 hx hxM hi4 hlt4 hg4 hs4 hen
      have hen' : (Instr.entry (.pointer (some ⟨w1.heap.size, 0, none⟩))).run Try.prog w4 = .ok (.tuple #[.int .i64 x, .agg #[]]) w4 := hen
      clear hen
      have HX := Aside0.mk hx
      have HI4 := Aside0.mk (HI.out.next hg4 hi4)
      have HLT := Aside0.mk hlt4
      have hxv := (HMA.out x).1 (HI.out.it.sub x hx)
      have hx0 : 0 ≤ x := hxv.2.1
      have hx1 : x < g.length := hxv.2.2
      have hnew : x ∉ Wt.map (·.1) := fun h => ((HK.out x).1 h).2 hx
      have HNEW := Aside0.mk hnew
      clear hx hxM hi4 hlt4 hg4 hs4 hxv hnew
      have HBR := Aside0.mk (show Below w.heap.size w w4 from HW1.out.trans (HI4.out.bel.mono (by omega)))
      obtain ⟨ad, Ar, cr, e, hrx, hrl, hrc⟩ := at_row HR0.out x hx0 hx1
      cases e
      replace hrx := (HBR.out.cell (World.block_lt_of_cell? w _ hrx)).trans hrx
      obtain ⟨ns, hns⟩ : ∃ ns, ns = g.getD x.toNat [] := ⟨_, rfl⟩
      rw [← hns] at hrx hrl hrc
      have HN := Aside0.mk hns
      have HRC := Aside0.mk (Kd.C_below hrc HBR.out)
      have hnl : ns.length ≤ 9223372036854775807 := hrc.2.1
      clear hns hrc hrl
      go_wp2_with (first | (go_at_call 81; refine (graph_reach.walk (some ad) c0 g Ar cr ns w4 (Kd.C_below HR0.out HBR.out) HRC.out hlim).mono ?_; rintro e w5 ⟨bp, Mp, rfl, hbp, hop, hmp, hb5⟩; have HOP := Aside0.mk hop; have HMP := Aside0.mk hmp; have HBP := Aside0.mk hbp; have HB5 := Aside0.mk hb5; clear hop hmp hbp hb5) | (at_range; refine wpList_mrange rfl _ 121 rfl setK unitV 103 Try.underlying121 bp Mp rfl HOP.out ?_; intro w6 hi6 hg6 hs6))
      go_frame
      have HB6 := Aside0.mk (show Below w5.heap.size w5 w6 from ⟨hg6.os, hg6.tape, hg6.output, hg6.size, fun k hk => hg6.block k hk (by simp)⟩)
      have hlt4 : ∀ b M, OwnSet w4 b M → b < w4.heap.size := fun b M h => h.lt
      have hrlt := HI4.out.it.lt
      have hBlt := HI4.out.wait.own.lt
      have halt := HI4.out.it.own.lt
      have hs5 := HB5.out.size
      have HP := Aside0.mk (show PastIn g Ma w1 w6 (w.heap.size + 1 + 1) ba w1.heap.size (w.heap.size + 1 + 1) (w4.rangeLeft ba w1.heap.size) (strikeL todo x) Wt x bp w5.heap.size Mp (Mp.map (·.1)) from {
        b := (HI4.out.below HB5.out).below HB6.out
        it := hi6
        mem := fun k => by
          rw [HMP.out, HN.out]
          exact ⟨fun h => ⟨h, .inr h⟩, fun h => h.1⟩
        ne := ⟨by have := HBP.out; omega, by have := HBP.out; omega, fun p hp => by
            obtain ⟨P, hP, _⟩ := HI4.out.wait.sets p hp
            have := hP.lt
            have := HBP.out
            omega, by omega⟩
        ge := ⟨by have := HBP.out; omega, by omega⟩ })
      clear hi6 hg6 hs6 hlt4 hrlt hBlt halt hs5 hrx
      go_loopw [12] (fun _ wr => ∃ (Mp : List (Int × Unit)) (todo2 : List Int), Aside0 (PastIn g Ma w1 wr (w.heap.size + 1 + 1) ba w1.heap.size (w.heap.size + 1 + 1) (w4.rangeLeft ba w1.heap.size) (strikeL todo x) Wt x bp w5.heap.size Mp todo2)) (fun _ wr => wr.rangeLeft bp w5.heap.size)
      case atStart => exact ⟨Mp, _, HP⟩
      case round =>
        clear HP HMP HOP HB5 HB6 HRC HBR
        obtain ⟨Mp, todo2, HP⟩ := hrel
        go_wp2_with (first | (at_next; refine wpList_mnext rfl _ rfl setK unitV bp w5.heap.size Mp rfl HP.out.it ?_ ?_))
        · intro ht
          subst ht
          have hwf : (Lit.int .i64 x).wf = true := WalkArith.wf_i64 (by omega)
          have hWL : Wt.length ≤ Ma.length := by
            have := HP.out.b.wait.own.nodup.length_le_of_subset (l₂ := Ma.map (·.1)) (fun z hz => ((HK.out z).1 hz).1)
            simpa using this
          have hml : Wt.length < maxLen := by have := HML.out; unfold maxLen; omega
          have HWF := Aside0.mk hwf
          have HMLN := Aside0.mk hml
          clear hwf hWL hml
          go_wp2_with (at_mapUpdate; refine wpList_mput rfl _ _ _ 147 rfl setK mapV 121 Try.underlying147 (w.heap.size + 1 + 1) Wt rfl HP.out.b.wait.own HMLN.out x bp rfl rfl HWF.out trivial ?_; intro w7 ho7 hg7; go_frame)
          have HN7 := Aside0.mk (HP.out.put HNEW.out ho7 hg7)
          go_roundw
          case rel => exact ⟨_, _, _, HN7, ⟨fun z => by
            rw [keys_putM, HK.out, mem_strikeL]
            by_cases e : z = x
            · subst e; simp [HI.out.it.sub z HX.out]
            · simp [e]⟩⟩
          case measure => rw [HN7.out.left]; exact HLT.out
        · intro k y2 w7 hk hkM hi7 hlt7 hg7 hs7 hen
          have hen' : (Instr.entry (.pointer (some ⟨w5.heap.size, 0, none⟩))).run Try.prog w7 = .ok (.tuple #[.int .i64 k, .agg #[]]) w7 := hen
          clear hen
          have HI7 := Aside0.mk hi7
          have HLT7 := Aside0.mk hlt7
          have HG7 := Aside0.mk hg7
          have hkr := ((HP.out.mem k).1 (HP.out.it.sub k hk)).1
          have hkv := hkr.valid
          have hwf : (Lit.int .i64 k).wf = true := WalkArith.wf_i64 (by omega)
          have HWF := Aside0.mk hwf
          have HB7 := Aside0.mk (HP.out.b_row hg7 (.inl rfl))
          clear hk hkM hi7 hlt7 hg7 hs7 hkr hkv hwf
          by_cases hin : k ∈ Ma.map (·.1)
          · have HH := Aside0.mk ((set_has.walk ba Ma k w7 HB7.out.it.own HWF.out).mono (R' := fun e w' => e = .returned (.bool true) ∧ w' = w7.alloc (.cells #[] 103)) (fun _ _ h => by rw [decide_eq_true hin] at h; exact h))
            have HIN := Aside0.mk hin
            clear hin
            go_wp2_with (go_at_call 91; refine HH.out.mono ?_; rintro e w8 ⟨rfl, rfl⟩)
            have hb8 : Below w7.heap.size w7 (w7.alloc (.cells #[] 103)) := below_alloc (Below.refl _ _) _
            have HB8 := Aside0.mk hb8
            clear hb8
            go_roundw
            case rel => exact ⟨Mp, _, ⟨HP.out.keep HIN.out (HB7.out.below HB8.out) (HI7.out.below HB8.out)⟩⟩
            case measure => rw [HI7.out.left_grown (w1 := w7.alloc (.cells #[] 103)) (row := none) (World.grownBy_alloc _ _ _) (by simp) (by simp)]; exact HLT7.out
          · have HH := Aside0.mk ((set_has.walk ba Ma k w7 HB7.out.it.own HWF.out).mono (R' := fun e w' => e = .returned (.bool false) ∧ w' = w7.alloc (.cells #[] 103)) (fun _ _ h => by rw [decide_eq_false hin] at h; exact h))
            have HIN := Aside0.mk hin
            clear hin
            have hb8 : Below w7.heap.size w7 (w7.alloc (.cells #[] 103)) := below_alloc (Below.refl _ _) _
            have HB8 := Aside0.mk hb8
            have HI8 := Aside0.mk (HI7.out.below hb8)
            have HBI8 := Aside0.mk (HB7.out.below hb8)
            have HL8 := Aside0.mk (HI7.out.left_grown (w1 := w7.alloc (.cells #[] 103)) (row := none) (World.grownBy_alloc _ _ _) (by simp) (by simp))
            clear hb8
            go_wp2_with (first | (go_at_call 91; refine HH.out.mono ?_; rintro e w8 ⟨rfl, rfl⟩) | (at_delete; refine wpList_mdelr rfl _ _ 121 rfl setK unitV 103 Try.underlying121 bp w5.heap.size Mp rfl HI8.out k rfl HWF.out ?_; intro w9 hi9 hl9 hg9 hs9; go_frame))
            have HP8 := Aside0.mk (show PastIn g Ma w1 (w7.alloc (.cells #[] 103)) (w.heap.size + 1 + 1) ba w1.heap.size (w.heap.size + 1 + 1) (w4.rangeLeft ba w1.heap.size) (strikeL todo x) Wt x bp w5.heap.size Mp todo2 → True from fun _ => trivial)
            have HB9 := Aside0.mk (show BuildIn g Ma w1 w9 (w.heap.size + 1 + 1) ba w1.heap.size (w.heap.size + 1 + 1) (w4.rangeLeft ba w1.heap.size) (strikeL todo x) Wt from by
              refine HBI8.out.grown hg9 (fun e => HP.out.ne.1 (Option.some.inj e).symm) (fun e => HI8.out.own.ne_iter HBI8.out.it (Option.some.inj e).symm) (fun e => HP.out.ne.2.1 (Option.some.inj e).symm) (fun p hp e => HP.out.ne.2.2.1 p hp (Option.some.inj e)) (fun k e => by cases e; exact HP.out.ge.1))
            have HI9 := Aside0.mk hi9
            have HL9 := Aside0.mk hl9
            clear hi9 hl9 hg9 hs9 HP8
            go_roundw
            case rel => exact ⟨_, _, ⟨HP.out.drop HIN.out (fun z => by rw [mem_strikeL, mem_strikeL]; exact ⟨fun h => h.1, fun h => ⟨h, h.2⟩⟩) HB9.out HI9.out⟩⟩
            case measure => have := HL9.out; rw [HL8.out] at this; have := HLT7.out; omega


def graph_Order.f (g : List (List Int)) (l rank : List Int) : Option (List Int) := if g.length < 17592186044416 then some (ordL g l rank) else none
theorem graph_Order.calls (A0 : Option Addr) (c0 : Nat) (l0 : List (List Int)) (A1 : Option Addr) (c1 : Nat) (l1 : List Int) (A2 : Option Addr) (c2 : Nat) (l2 : List Int) (r : List Int) (w : World) (hr0 : Kd.C (Kd.slice 3 (Kd.int .i64)) w A0 l0.length l0) (hc0 : l0.length ≤ c0) (hr1 : Kd.C (Kd.int .i64) w A1 l1.length l1) (hc1 : l1.length ≤ c1) (hr2 : Kd.C (Kd.int .i64) w A2 l2.length l2) (hc2 : l2.length ≤ c2) (h : graph_Order.f l0 l1 l2 = some r) :
    Calls Try.prog 92 #[.slice A0 l0.length c0, .slice A1 l1.length c1, .slice A2 l2.length c2] w fun e w' => ∃ v0_ : Value, e = .returned (v0_) ∧ (Kd.int .i64).R 3 w' w.heap.size (fun _ => True) v0_ r ∧ Below w.heap.size w w' := by
  unfold graph_Order.f at h
  split at h
  · obtain rfl := Option.some.inj h
    exact graph_Order.walk A0 c0 l0 A1 c1 l1 A2 c2 l2 w hr0 hr1 hr2 ‹_›
  · cases h

end Go.Proofs.Ytmmalieacakcbaa.S

/- Parts of the walk and of the plain law, joined for this claim alone by a program of this session. -/
import Derived.Test.YtmdjknkhjimgeaaGreatTb1
import Derived.Test.YtmdjknkhjimgeaaGreatTb0
import Derived.Test.YtmdjknkhjimgeaaGreatTb2
import Derived.Test.YtmdjknkhjimgeaaGreatTb3
import Derived.Test.YtmdjknkhjimgeaaGreatTb4
import Derived.Test.YtmdjknkhjimgeaaGreatTb5
section
namespace Go.Proofs.YtmdjknkhjimgeaaGreat.S
open Go.RowKit Go.Proofs.YtmdjknkhjimgeaaGreatW.PrintWords Go.Proofs.YtmdjknkhjimgeaaGreatW.PrintLast Go.Proofs.YtmdjknkhjimgeaaGreatW.PrintMore
attribute [local go_sem] max2_int min2_int max_two min_two max_three min_three max_four min_four
set_option linter.unusedVariables false
set_option linter.unusedSimpArgs false
open Go.Proofs.He
def orL (l : List Int) : Int := (l.find? (fun x => decide (x ≠ 0))).getD 0
theorem orL_hit {l : List Int} {j : Nat} (hj : j < l.length) (h : ∀ i, i < j → rd l i = 0) (hx : rd l j ≠ 0) : orL l = rd l j := by
  have e : rd l j = l[j] := by simp [rd, hj]
  unfold orL
  have : l.find? (fun x => decide (x ≠ 0)) = some l[j] := by
    rw [List.find?_eq_some_iff_getElem]
    refine ⟨by rw [← e]; simpa using hx, j, hj, rfl, fun i hi => ?_⟩
    have := h i hi
    have e2 : rd l i = l[i] := by simp [rd, show i < l.length by omega]
    rw [e2] at this
    simp [this]
  rw [this, e]; rfl
theorem orL_miss {l : List Int} (h : ∀ i, i < l.length → rd l i = 0) : orL l = 0 := by
  unfold orL
  have : l.find? (fun x => decide (x ≠ 0)) = none := by
    rw [List.find?_eq_none]
    intro x hx
    obtain ⟨i, hi, rfl⟩ := List.getElem_of_mem hx
    have := h i hi
    have e2 : rd l i = l[i] := by simp [rd, hi]
    rw [e2] at this
    simp [this]
  rw [this]; rfl
set_option maxHeartbeats 2000000 in
theorem cmp_Or.walk (A : Option Addr) (c : Nat) (l : List Int) (w : World) (hr : Kd.C (Kd.int .i64) w A l.length l) :
    Calls Tryz.prog 76 #[.slice A l.length c] w fun e w' => e = .returned (.int .i64 (orL l)) ∧ w' = w := by
  have hlen : l.length ≤ 9223372036854775807 := hr.2.1
  have HR := Aside0.mk hr
  clear hr
  go_enter Tryz.func76, Tryz.ntmps76
  go_wp2
  go_loop [8] (fun v => ∃ j : Nat, v = .int .i64 j ∧ j ≤ l.length ∧ Aside0 (∀ i, i < j → rd l i = 0)) (fun v => l.length - (intOf v).toNat)
  case atStart => exact ⟨0, rfl, Nat.zero_le _, ⟨fun i hi => absurd hi (Nat.not_lt_zero _)⟩⟩
  case round =>
    obtain ⟨j, rfl, hj, HN⟩ := hrel
    by_cases hlt : j < l.length
    · obtain ⟨ad, e, hx⟩ := Kd.at_int HR.out (j : Int) (by omega) (by omega)
      cases e
      obtain ⟨x, hxd⟩ : ∃ x, x = rd l j := ⟨_, rfl⟩
      rw [← hxd, Int.toNat_natCast] at hx
      have HX := Aside0.mk hxd
      clear hxd
      by_cases h0 : x = 0
      · have HZ := Aside0.mk h0
        subst h0
        go_wp2
        go_round
        case rel => exact ⟨j + 1, by go_num, by omega, ⟨fun i hi => by
          by_cases e : i = j
          · rw [e, ← HX.out]
          · exact HN.out i (by omega)⟩⟩
        case measure => simp [intOf]; omega
      · have hb1 : (x != 0) = true := bne_iff_ne.mpr h0
        have hb2 : (x == 0) = false := beq_eq_false_iff_ne.mpr h0
        have HZ := Aside0.mk h0
        clear h0
        go_wp2
        go_ret
        exact ⟨by rw [orL_hit hlt HN.out (by rw [← HX.out]; exact HZ.out), ← HX.out]; rfl, rfl⟩
    · have hjl : j = l.length := by omega
      go_wp2
      go_ret
      exact ⟨by rw [orL_miss (fun i hi => HN.out i (by omega))]; rfl, rfl⟩
theorem or2.walk (a b : Int) (W : World) : Calls Tryz.prog 76 #[.slice (some ⟨W.heap.size, 0, none⟩) 2 2] (W.alloc (.cells #[.int .i64 a, .int .i64 b] 3)).drew fun e w' => e = .returned (.int .i64 (orL [a, b])) ∧ w' = (W.alloc (.cells #[.int .i64 a, .int .i64 b] 3)).drew := by
  refine cmp_Or.walk (some ⟨W.heap.size, 0, none⟩) 2 [a, b] _ (Flat.C_mk (flatScalar (Value.int .i64) (fun _ => rfl)) (by simp) (fun j u hj => ?_))
  have hb : (W.alloc (Obj.cells #[.int .i64 a, .int .i64 b] 3)).drew.heap[W.heap.size]? = _ := heap_alloc_new W (Obj.cells #[.int .i64 a, .int .i64 b] 3)
  have hj' : ([Value.int .i64 a, Value.int .i64 b])[j]? = some u := hj
  have hadd : (⟨W.heap.size, 0, none⟩ : Addr).add j = ⟨W.heap.size, 0 + j, none⟩ := by unfold Addr.add; split <;> simp_all
  rw [hadd]
  have : (#[Value.int .i64 a, Value.int .i64 b] : Array Value)[0 + j]? = some u := by rw [Nat.zero_add]; simpa using hj'
  unfold World.cell?
  rw [hb]
  exact this
set_option maxHeartbeats 2000000 in
theorem order_at.walk (B0 : Nat) (A2 : Option Addr) (c2 : Nat) (rank : List Int) (n : Nat) (w : World) (hb : w.cell? ⟨B0, 0, none⟩ = some (.slice A2 rank.length c2)) (hr : Kd.C (Kd.int .i64) w A2 rank.length rank) :
    Calls Tryz.prog 70 #[.int .i64 n, .pointer (some ⟨B0, 0, none⟩)] w fun e w' => e = .returned (.int .i64 (rankAt rank n)) ∧ w' = w := by
  have hlen : rank.length ≤ 9223372036854775807 := hr.2.1
  have HR := Aside0.mk hr
  clear hr
  by_cases hlt : n < rank.length
  · obtain ⟨ad, e, hx⟩ := Kd.at_int HR.out (n : Int) (by omega) (by omega)
    cases e
    have HX := Aside0.mk (show rankAt rank n = rd rank n by unfold rankAt rd; rw [if_neg (by omega)])
    obtain ⟨x, hxd⟩ : ∃ x, x = rd rank n := ⟨_, rfl⟩
    rw [← hxd, Int.toNat_natCast] at hx
    have HD := Aside0.mk hxd
    clear hxd
    go_enter Tryz.func70, Tryz.ntmps70
    go_wp2
    go_ret
    exact ⟨by rw [HX.out, ← HD.out]; rfl, rfl⟩
  · have HX := Aside0.mk (show rankAt rank n = 0 by unfold rankAt; rw [if_pos (by omega)])
    go_enter Tryz.func70, Tryz.ntmps70
    go_wp2
    go_ret
    exact ⟨by rw [HX.out]; rfl, rfl⟩
def cmpN (rank : List Int) (x y : Nat) : Int := orL [Lib.compareInt (rankAt rank x) (rankAt rank y), Lib.compareInt x y]
set_option maxHeartbeats 4000000 in
set_option maxRecDepth 100000 in
theorem order_cmp.walk (B0 B1 : Nat) (A2 : Option Addr) (c2 : Nat) (rank : List Int) (x y : Nat) (w : World) (hf : w.cell? ⟨B1, 0, none⟩ = some (.func (.func 70) #[] #[.pointer (some ⟨B0, 0, none⟩)])) (hb : w.cell? ⟨B0, 0, none⟩ = some (.slice A2 rank.length c2)) (hr : Kd.C (Kd.int .i64) w A2 rank.length rank) :
    Calls Tryz.prog 75 #[.int .i64 x, .int .i64 y, .pointer (some ⟨B1, 0, none⟩)] w fun e w' => e = .returned (.int .i64 (cmpN rank x y)) ∧ ∃ q os', w' = Go.Sort.grow (w.drewN q) os' := by
  have HR := Aside0.mk hr
  have HB := Aside0.mk hb
  have lb0 := World.block_lt_of_cell? w _ hb
  have lb1 := World.block_lt_of_cell? w _ hf
  clear hr
  go_enter Tryz.func75, Tryz.ntmps75
  go_wp2
  go_region_held3 (fun w' => w'.cell? ⟨B1, 0, none⟩ = some (.func (.func 70) #[] #[.pointer (some ⟨B0, 0, none⟩)]) ∧ w'.cell? ⟨B0, 0, none⟩ = some (.slice A2 rank.length c2)) (go_keep)
    ((first | (go_at_call 70; refine (order_at.walk B0 A2 c2 rank _ _ (by exact HB.out) (Kd.C_below HR.out (below_drew1 (Below.refl _ _)))).mono ?_; rintro e w' ⟨rfl, rfl⟩) | (go_at_call 77; refine (Any.cmp_Compare_int Tryz.laysCompare _ _ _).mono ?_; rintro e w' ⟨rfl, rfl⟩) | (go_at_call 76; refine (or2.walk _ _ _).mono ?_; rintro e w' ⟨rfl, rfl⟩)))
  go_wp2
  go_ret
  exact ⟨rfl, 1, #[.cells #[.int .i64 (Lib.compareInt (rankAt rank x) (rankAt rank y)), .int .i64 (Lib.compareInt x y)] 3], by rw [Go.Sort.alloc_eq_grow, Go.Sort.drew_grow]; rfl⟩
section
open Go.Sort
theorem cmpN_neg {rank : List Int} {x y : Nat} : cmpN rank x y < 0 ↔ lessN rank x y = true := by
  unfold cmpN orL lessN Lib.compareInt
  by_cases h1 : rankAt rank x < rankAt rank y
  · simp [h1]
  · by_cases h2 : rankAt rank x > rankAt rank y
    · have : ¬ rankAt rank ↑x = rankAt rank ↑y := by omega
      simp [h1, h2, this]
    · have e : rankAt rank ↑x = rankAt rank ↑y := by omega
      by_cases h3 : (x : Int) < y
      · simp [e, h3]
      · by_cases h4 : (x : Int) > y
        · simp [e, h3, h4]
        · simp [e, h3, h4]
theorem pickBy_least (rank : List Int) (d : Array Nat) : ∀ n, n < d.size → ∃ i, i ≤ n ∧ Lib.pickBy (fun x m => decide (cmpN rank x m < 0)) d n = d[i]! ∧ ∀ j, j ≤ n → lessN rank (d[j]! : Nat) (d[i]! : Nat) = false
  | 0, h => ⟨0, Nat.le_refl _, rfl, fun j hj => by
    obtain rfl : j = 0 := Nat.le_zero.1 hj
    exact lessN_irrefl _ _⟩
  | n + 1, h => by
    obtain ⟨i, hi, e, hm⟩ := pickBy_least rank d n (by omega)
    simp only [Lib.pickBy]
    rw [e]
    by_cases hc : cmpN rank d[n + 1]! d[i]! < 0
    · rw [if_pos (by simpa using hc)]
      have hl := cmpN_neg.1 hc
      refine ⟨n + 1, Nat.le_refl _, rfl, fun j hj => ?_⟩
      by_cases ej : j = n + 1
      · rw [ej]; exact lessN_irrefl _ _
      · cases hb : lessN rank (d[j]! : Nat) (d[n + 1]! : Nat) with
        | false => rfl
        | true => have := hm j (by omega); rw [lessN_trans hb hl] at this; cases this
    · rw [if_neg (by simpa using hc)]
      refine ⟨i, by omega, rfl, fun j hj => ?_⟩
      by_cases ej : j = n + 1
      · rw [ej]
        cases hb : lessN rank (d[n + 1]! : Nat) (d[i]! : Nat) with
        | false => rfl
        | true => exact absurd (cmpN_neg.2 hb) hc
      · exact hm j (by omega)
abbrev encN (n : Nat) : Value := .int .i64 n
theorem min_ready.walk (B0 B1 : Nat) (A2 : Option Addr) (c2 : Nat) (rank : List Int) (w0 w : World) (base : Nat) (ok : Nat → Prop) (v : Value) (xs : List Int) (hR : (Kd.int .i64).R 3 w base ok v xs) (hx0 : xs ≠ []) (hnn : ∀ x ∈ xs, 0 ≤ x) (hsz : xs.length < 4611686018427387904)
    (hf : w.cell? ⟨B1, 0, none⟩ = some (.func (.func 70) #[] #[.pointer (some ⟨B0, 0, none⟩)])) (hb : w.cell? ⟨B0, 0, none⟩ = some (.slice A2 rank.length c2)) (hB0 : B0 < base) (hB1 : B1 < base) (hr : Kd.C (Kd.int .i64) w0 A2 rank.length rank) (hbel : Below w0.heap.size w0 w) (hbase : w0.heap.size ≤ base) :
    Calls Tryz.prog 74 #[v, .func (.func 75) #[] #[.pointer (some ⟨B1, 0, none⟩)]] w fun e w' => ∃ n, e = .returned (.int .i64 n) ∧ n ∈ xs ∧ (∀ x ∈ xs, lessN rank x n = false) ∧ w.grownBy w' v.ownBlock := by
  obtain ⟨ho, hok⟩ := scalar_own hR
  have ho' := ho
  rcases ho.2 with ⟨_, h0⟩ | ⟨g, cap, cur, rfl, hg, _⟩
  · exact absurd (List.eq_nil_of_length_eq_zero h0) hx0
  obtain ⟨xn, hxn⟩ : ∃ xn : List Nat, xs = xn.map (fun (n : Nat) => (n : Int)) := ⟨xs.map Int.toNat, by
    rw [List.map_map]
    conv => lhs; rw [← List.map_id xs]
    refine List.map_congr_left (fun x hx => ?_)
    have := hnn x hx
    show x = ((x.toNat : Nat) : Int); omega⟩
  have hcells : xs.map (Value.int .i64) = xn.map encN := by rw [hxn, List.map_map]; rfl
  rw [hcells] at ho'
  obtain ⟨a1, a2, a3, a4⟩ := holds_of_row ho'
  have hlen : xs.length = xn.length := by rw [hxn, List.length_map]
  have hsize : xn.toArray.size = xs.length := by simp [hlen]
  have hcmp : CmpLays1 Tryz.prog 75 #[.pointer (some ⟨B1, 0, none⟩)] encN (cmpN rank) g 0 xn.toArray.size w := by
    intro m os dk hs x y
    obtain ⟨dl, rfl⟩ : ∃ dl : List Nat, dk = dl.toArray := ⟨dk.toList, by simp⟩
    have hgr : w.grownBy (sortWorld encN w g 0 m dl.toArray os) (some g) := grown_put m os dl
    exact order_cmp.walk B0 B1 A2 c2 rank x y _ (cell_by hgr hf (fun e => by injection e with e; simp only at e; omega)) (cell_by hgr hb (fun e => by injection e with e; simp only at e; omega)) (Kd.C_below hr (hbel.grown hgr hbel.size (fun k e => by cases e; omega)))
  have hcon := Any.slices_MinFunc Tryz.laysMin encN (fun _ => rfl) (cmpN rank) 75 #[.pointer (some ⟨B1, 0, none⟩)] g 0 cap xn.toArray w (enters_of Tryz.func75 (by kernel_rfl) rfl) hcmp a1 a2 (by rw [hsize]; exact hsz) (by rw [hsize]; exact List.length_pos_iff.2 hx0)
  rw [hsize] at hcon
  refine Calls.mono hcon ?_
  rintro e w' ⟨rfl, m, os, rfl⟩
  have hpos : 0 < xs.length := List.length_pos_iff.2 hx0
  obtain ⟨i, hi, ei, hm⟩ := pickBy_least rank xn.toArray (xs.length - 1) (by rw [hsize]; omega)
  have hget : ∀ j, (hj : j < xs.length) → ((xn.toArray[j]! : Nat) : Int) = xs[j] := fun j hj => by
    have hj' : j < xn.length := by omega
    rw [getElem!_pos xn.toArray j (by simpa using hj')]
    simp [hxn]
  rw [ei]
  refine ⟨xs[i]'(by omega), by rw [← hget i (by omega)], List.getElem_mem _, fun x hx => ?_, grown_put m os xn⟩
  obtain ⟨j, hj, rfl⟩ := List.getElem_of_mem hx
  rw [← hget i (by omega), ← hget j hj]
  exact hm j (by omega)
end
abbrev OwnWait (w : World) (b : Nat) (M : List (Int × Nat)) : Prop := Go.Proofs.He.Own setK mapV w b M
structure WaitInv (w : World) (base Bw : Nat) (Wt : List (Int × Nat)) (S : Int → Int → Prop) : Prop where
  own : OwnWait w Bw Wt
  sets : ∀ p ∈ Wt, ∃ P, OwnSet w p.2 P ∧ ∀ k, k ∈ P.map (·.1) ↔ S p.1 k
  apart : (Wt.map (·.2)).Nodup
  off : ∀ p ∈ Wt, p.2 ≠ Bw ∧ base ≤ p.2
section
variable {w w' : World} {base Bw : Nat} {Wt : List (Int × Nat)} {S S' : Int → Int → Prop}
theorem WaitInv.grown {row : Option Nat} (h : WaitInv w base Bw Wt S) (hg : w.grownBy w' row) (h1 : some Bw ≠ row) (h2 : ∀ p ∈ Wt, some p.2 ≠ row) : WaitInv w' base Bw Wt S :=
  ⟨h.own.grown hg h1, fun p hp => let ⟨P, a, b⟩ := h.sets p hp; ⟨P, a.grown hg (h2 p hp), b⟩, h.apart, h.off⟩
theorem WaitInv.congr (h : WaitInv w base Bw Wt S) (hS : ∀ p ∈ Wt, ∀ k, S p.1 k ↔ S' p.1 k) : WaitInv w base Bw Wt S' :=
  ⟨h.own, fun p hp => let ⟨P, a, b⟩ := h.sets p hp; ⟨P, a, fun k => (b k).trans (hS p hp k)⟩, h.apart, h.off⟩
theorem WaitInv.iter_off {k : TypeId} {α β : Type} [DecidableEq α] {κ : KK Tryz.prog k α} {ν : VK β} {b r : Nat} {M : List (α × β)} {todo : List α} (h : WaitInv w base Bw Wt S) (hi : Iter κ ν w b r M todo) : some Bw ≠ some r ∧ ∀ p ∈ Wt, some p.2 ≠ some r :=
  ⟨fun e => h.own.ne_iter hi (Option.some.inj e), fun p hp e => let ⟨P, a, _⟩ := h.sets p hp; a.ne_iter hi (Option.some.inj e)⟩
theorem WaitInv.row_off {γ : Type} {d : Kd γ} {e b : Nat} {ok : Nat → Prop} {v : Value} {xs : List γ} (h : WaitInv w base Bw Wt S) (hr : d.R e w b ok v xs) : some Bw ≠ v.ownBlock ∧ ∀ p ∈ Wt, some p.2 ≠ v.ownBlock :=
  ⟨own_ne_row h.own hr, fun p hp => let ⟨P, a, _⟩ := h.sets p hp; own_ne_row a hr⟩
theorem delM_not {β : Type} {M : List (Int × β)} {x : Int} (h : x ∉ M.map (·.1)) : delM M x = M :=
  List.filter_eq_self.2 (fun p hp => by simp; rintro rfl; exact h (List.mem_map.2 ⟨p, hp, rfl⟩))
theorem WaitInv.put (h : WaitInv w base Bw Wt S) {x : Int} {bp : Nat} {P : List (Int × Unit)} (hx : x ∉ Wt.map (·.1)) (hP : OwnSet w bp P) (hS : ∀ k, k ∈ P.map (·.1) ↔ S x k) (hbp : ∀ p ∈ Wt, p.2 ≠ bp) (hB : bp ≠ Bw) (hbase : base ≤ bp)
    (ho : OwnWait w' Bw (putM Wt x bp)) (hg : w.grownBy w' (some Bw)) : WaitInv w' base Bw (putM Wt x bp) S where
  own := ho
  sets p hp := by
    unfold putM at hp; rw [delM_not hx] at hp
    rcases List.mem_cons.1 hp with rfl | hp
    · exact ⟨P, hP.grown hg (fun e => hB (Option.some.inj e)), hS⟩
    · obtain ⟨P', a, b⟩ := h.sets p hp
      exact ⟨P', a.grown hg (fun e => (h.off p hp).1 (Option.some.inj e)), b⟩
  apart := by
    unfold putM; rw [delM_not hx]
    refine List.nodup_cons.2 ⟨fun h' => ?_, h.apart⟩
    obtain ⟨p, hp, e⟩ := List.mem_map.1 h'
    exact hbp p hp e
  off p hp := by
    unfold putM at hp; rw [delM_not hx] at hp
    rcases List.mem_cons.1 hp with rfl | hp
    · exact ⟨hB, hbase⟩
    · exact h.off p hp
theorem WaitInv.del (h : WaitInv w base Bw Wt S) {n : Int} (ho : OwnWait w' Bw (delM Wt n)) (hg : w.grownBy w' (some Bw)) : WaitInv w' base Bw (delM Wt n) S where
  own := ho
  sets p hp := by
    obtain ⟨hp, _⟩ := mem_delM.1 hp
    obtain ⟨P', a, b⟩ := h.sets p hp
    exact ⟨P', a.grown hg (fun e => (h.off p hp).1 (Option.some.inj e)), b⟩
  apart := h.apart.sublist ((List.filter_sublist).map _)
  off p hp := h.off p (mem_delM.1 hp).1
theorem WaitInv.block_inj (h : WaitInv w base Bw Wt S) : ∀ p ∈ Wt, ∀ q ∈ Wt, p.2 = q.2 → p = q := by
  have : ∀ (l : List (Int × Nat)), (l.map (·.2)).Nodup → ∀ p ∈ l, ∀ q ∈ l, p.2 = q.2 → p = q := by
    intro l
    induction l with
    | nil => simp
    | cons a l ih =>
      intro hn p hp q hq he
      rw [List.map_cons, List.nodup_cons] at hn
      rcases List.mem_cons.1 hp with e1 | hp' <;> rcases List.mem_cons.1 hq with e2 | hq'
      · rw [e1, e2]
      · exact absurd (List.mem_map.2 ⟨q, hq', by rw [← he, e1]⟩) hn.1
      · exact absurd (List.mem_map.2 ⟨p, hp', by rw [he, e2]⟩) hn.1
      · exact ih hn.2 p hp' q hq' he
  exact this Wt h.apart
theorem WaitInv.key_inj (h : WaitInv w base Bw Wt S) {p q : Int × Nat} (hp : p ∈ Wt) (hq : q ∈ Wt) (e : p.1 = q.1) : p = q := by
  have h1 := getM_mem h.own.nodup (x := p.1) (y := p.2) hp 0
  have h2 := getM_mem h.own.nodup (x := q.1) (y := q.2) hq 0
  rw [← e, h1] at h2
  exact Prod.ext e h2
theorem WaitInv.delIn (h : WaitInv w base Bw Wt S) {p : Int × Nat} (hp : p ∈ Wt) {P : List (Int × Unit)} (hS : ∀ k, k ∈ P.map (·.1) ↔ S p.1 k) {n : Int} (ho : OwnSet w' p.2 (delM P n)) (hg : w.grownBy w' (some p.2)) : WaitInv w' base Bw Wt (fun x k => S x k ∧ (x = p.1 → k ≠ n)) where
  own := h.own.grown hg (fun e => (h.off p hp).1 (Option.some.inj e).symm)
  sets q hq := by
    by_cases e : q.1 = p.1
    · obtain rfl := h.key_inj hq hp e
      exact ⟨_, ho, fun k => by rw [keys_delM, hS]; simp⟩
    · obtain ⟨P', a, b⟩ := h.sets q hq
      exact ⟨P', a.grown hg (fun e' => e (congrArg Prod.fst (h.block_inj q hq p hp (Option.some.inj e')))), fun k => by rw [b]; simp [e]⟩
  apart := h.apart
  off := h.off
end
abbrev reachOf (g : List (List Int)) (x k : Int) : Prop := Rch g (g.getD x.toNat []) k
structure BuildIn (g : List (List Int)) (Ma : List (Int × Unit)) (w1 w : World) (base ba r Bw cnt : Nat) (todo : List Int) (Wt : List (Int × Nat)) : Prop where
  it : Iter setK unitV w ba r Ma todo
  wait : WaitInv w base Bw Wt (fun x k => reachOf g x k ∧ k ∈ Ma.map (·.1))
  off : ba ≠ Bw ∧ ∀ p ∈ Wt, p.2 ≠ ba
  ge : base ≤ r ∧ base ≤ Bw ∧ base ≤ w1.heap.size
  bel : Below base w1 w
  left : w.rangeLeft ba r = cnt
structure PastIn (g : List (List Int)) (Ma : List (Int × Unit)) (w1 w : World) (base ba r Bw cnt : Nat) (todo : List Int) (Wt : List (Int × Nat)) (x : Int) (bp r2 : Nat) (Mp : List (Int × Unit)) (todo2 : List Int) : Prop where
  b : BuildIn g Ma w1 w base ba r Bw cnt todo Wt
  it : Iter setK unitV w bp r2 Mp todo2
  mem : ∀ k, k ∈ Mp.map (·.1) ↔ reachOf g x k ∧ (k ∈ Ma.map (·.1) ∨ k ∈ todo2)
  ne : bp ≠ ba ∧ bp ≠ Bw ∧ (∀ p ∈ Wt, p.2 ≠ bp) ∧ r2 ≠ r
  ge : base ≤ bp ∧ base ≤ r2
section
variable {g : List (List Int)} {Ma Mp : List (Int × Unit)} {w1 w w' : World} {base ba r Bw cnt bp r2 : Nat} {todo todo2 : List Int} {Wt : List (Int × Nat)} {x : Int}
theorem BuildIn.size (h : BuildIn g Ma w1 w base ba r Bw cnt todo Wt) : base ≤ w.heap.size := Nat.le_trans h.ge.2.2 h.bel.size
theorem BuildIn.grown {row : Option Nat} (h : BuildIn g Ma w1 w base ba r Bw cnt todo Wt) (hg : w.grownBy w' row) (h1 : some ba ≠ row) (h2 : some r ≠ row) (h3 : some Bw ≠ row) (h4 : ∀ p ∈ Wt, some p.2 ≠ row) (h5 : ∀ k, row = some k → base ≤ k) : BuildIn g Ma w1 w' base ba r Bw cnt todo Wt where
  it := h.it.grown hg h1 h2
  wait := h.wait.grown hg h3 h4
  off := h.off
  ge := h.ge
  bel := h.bel.grown hg h.size h5
  left := (h.it.left_grown hg h1 h2).trans h.left
theorem BuildIn.below (h : BuildIn g Ma w1 w base ba r Bw cnt todo Wt) (hb : Below w.heap.size w w') : BuildIn g Ma w1 w' base ba r Bw cnt todo Wt :=
  h.grown (row := none) ⟨hb.os, hb.tape, hb.output, hb.size, fun k hk _ => hb.block k hk⟩ (by simp) (by simp) (by simp) (by simp) (by simp)
theorem BuildIn.next {todo' : List Int} (h : BuildIn g Ma w1 w base ba r Bw cnt todo Wt) (hg : w.grownBy w' (some r)) (hi : Iter setK unitV w' ba r Ma todo') : BuildIn g Ma w1 w' base ba r Bw (w'.rangeLeft ba r) todo' Wt where
  it := hi
  wait := h.wait.grown hg (h.wait.iter_off h.it).1 (h.wait.iter_off h.it).2
  off := h.off
  ge := h.ge
  bel := h.bel.grown hg h.size (fun k e => by cases e; exact h.ge.1)
  left := rfl
theorem PastIn.b_row {row : Nat} (h : PastIn g Ma w1 w base ba r Bw cnt todo Wt x bp r2 Mp todo2) (hg : w.grownBy w' (some row)) (hr : row = r2 ∨ row = bp) : BuildIn g Ma w1 w' base ba r Bw cnt todo Wt := by
  have ho := h.it.own
  rcases hr with rfl | rfl
  · refine h.b.grown hg (fun e => h.b.it.own.ne_iter h.it (Option.some.inj e)) (fun e => h.ne.2.2.2 (Option.some.inj e).symm) (h.b.wait.iter_off h.it).1 (h.b.wait.iter_off h.it).2 (fun k e => by cases e; exact h.ge.2)
  · refine h.b.grown hg (fun e => h.ne.1 (Option.some.inj e).symm) (fun e => ho.ne_iter h.b.it (Option.some.inj e).symm) (fun e => h.ne.2.1 (Option.some.inj e).symm) (fun p hp e => h.ne.2.2.1 p hp (Option.some.inj e)) (fun k e => by cases e; exact h.ge.1)
theorem PastIn.keep {k : Int} (h : PastIn g Ma w1 w base ba r Bw cnt todo Wt x bp r2 Mp todo2) (hk : k ∈ Ma.map (·.1)) (hb : BuildIn g Ma w1 w' base ba r Bw cnt todo Wt) (hi : Iter setK unitV w' bp r2 Mp (strikeL todo2 k)) : PastIn g Ma w1 w' base ba r Bw cnt todo Wt x bp r2 Mp (strikeL todo2 k) where
  b := hb
  it := hi
  mem z := by
    rw [h.mem, mem_strikeL]
    by_cases e : z = k
    · subst e; simp [hk]
    · simp [e]
  ne := h.ne
  ge := h.ge
theorem PastIn.drop {k : Int} {t : List Int} (h : PastIn g Ma w1 w base ba r Bw cnt todo Wt x bp r2 Mp todo2) (hk : k ∉ Ma.map (·.1)) (ht : ∀ z, z ∈ t ↔ z ∈ todo2 ∧ z ≠ k) (hb : BuildIn g Ma w1 w' base ba r Bw cnt todo Wt) (hi : Iter setK unitV w' bp r2 (delM Mp k) t) : PastIn g Ma w1 w' base ba r Bw cnt todo Wt x bp r2 (delM Mp k) t where
  b := hb
  it := hi
  mem z := by
    rw [keys_delM, h.mem, ht]
    by_cases e : z = k
    · subst e; simp [hk]
    · simp [e]
  ne := h.ne
  ge := h.ge
theorem PastIn.put (h : PastIn g Ma w1 w base ba r Bw cnt todo Wt x bp r2 Mp []) (hx : x ∉ Wt.map (·.1)) (ho : OwnWait w' Bw (putM Wt x bp)) (hg : w.grownBy w' (some Bw)) : BuildIn g Ma w1 w' base ba r Bw cnt todo (putM Wt x bp) where
  it := h.b.it.grown hg (fun e => h.b.off.1 (Option.some.inj e)) (fun e => h.b.wait.own.ne_iter h.b.it (Option.some.inj e).symm)
  wait := h.b.wait.put hx h.it.own (fun k => by rw [h.mem]; simp) h.ne.2.2.1 h.ne.2.1 h.ge.1 ho hg
  off := ⟨h.b.off.1, fun p hp => by
    unfold putM at hp; rw [delM_not hx] at hp
    rcases List.mem_cons.1 hp with rfl | hp
    · exact h.ne.1
    · exact h.b.off.2 p hp⟩
  ge := h.b.ge
  bel := h.b.bel.grown hg h.b.size (fun k e => by cases e; exact h.b.ge.2.1)
  left := (h.b.it.left_grown hg (fun e => h.b.off.1 (Option.some.inj e)) (fun e => h.b.wait.own.ne_iter h.b.it (Option.some.inj e).symm)).trans h.b.left
end
structure MainIn (g : List (List Int)) (w1 w : World) (base Bw : Nat) (v : Value) (out Wl : List Int) (Wt : List (Int × Nat)) : Prop where
  wait : WaitInv w base Bw Wt (fun x k => reachOf g x k ∧ k ∈ Wl)
  row : (Kd.int .i64).R 3 w base (fun _ => True) v out
  keys : ∀ x, x ∈ Wl ↔ x ∈ Wt.map (·.1)
  nodup : Wl.Nodup
  valid : ∀ x ∈ Wl, 0 ≤ x ∧ x < g.length
  len : out.length + Wl.length ≤ g.length
  ge : base ≤ Bw ∧ base ≤ w1.heap.size
  bel : Below base w1 w
structure ReadyIn (g : List (List Int)) (w1 w : World) (base Bw : Nat) (v : Value) (out Wl : List Int) (Wt : List (Int × Nat)) (r : Nat) (u : Value) (xs todo : List Int) : Prop where
  m : MainIn g w1 w base Bw v out Wl Wt
  it : Iter setK mapV w Bw r Wt todo
  row : (Kd.int .i64).R 3 w base (fun _ => True) u xs
  apart : ∀ k, u.ownBlock = some k → some k ≠ v.ownBlock
  nodup : xs.Nodup
  mem : ∀ x, x ∈ xs ↔ (x ∈ Wl ∧ freeIn g Wl x = true) ∧ x ∉ todo
  ge : base ≤ r
structure DelIn (g : List (List Int)) (w1 w : World) (base Bw : Nat) (v : Value) (out Wl : List Int) (Wt : List (Int × Nat)) (r : Nat) (n : Int) (todo : List Int) : Prop where
  it : Iter setK mapV w Bw r Wt todo
  wait : WaitInv w base Bw Wt (fun x k => (reachOf g x k ∧ k ∈ Wl) ∧ (k = n → x ∈ todo))
  row : (Kd.int .i64).R 3 w base (fun _ => True) v out
  ge : base ≤ r ∧ base ≤ w1.heap.size
  bel : Below base w1 w
section
variable {g : List (List Int)} {w1 w w' : World} {base Bw r : Nat} {v u : Value} {out Wl xs todo : List Int} {Wt : List (Int × Nat)} {n : Int}
theorem MainIn.size (h : MainIn g w1 w base Bw v out Wl Wt) : base ≤ w.heap.size := Nat.le_trans h.ge.2 h.bel.size
theorem MainIn.grown {row : Option Nat} (h : MainIn g w1 w base Bw v out Wl Wt) (hg : w.grownBy w' row) (h1 : some Bw ≠ row) (h2 : ∀ p ∈ Wt, some p.2 ≠ row) (h3 : ∀ k, row = some k → some k ≠ v.ownBlock) (h4 : ∀ k, row = some k → base ≤ k) : MainIn g w1 w' base Bw v out Wl Wt where
  wait := h.wait.grown hg h1 h2
  row := Kd.R_grown2 h.row rfl hg h3
  keys := h.keys
  nodup := h.nodup
  valid := h.valid
  len := h.len
  ge := h.ge
  bel := h.bel.grown hg h.size h4
theorem MainIn.wlen (h : MainIn g w1 w base Bw v out Wl Wt) : Wt.length = Wl.length := by
  have hp : (Wt.map (·.1)).Perm Wl := (List.perm_ext_iff_of_nodup h.wait.own.nodup h.nodup).2 (fun x => (h.keys x).symm)
  simpa using hp.length_eq
theorem ReadyIn.next {todo' : List Int} (h : ReadyIn g w1 w base Bw v out Wl Wt r u xs todo) (hg : w.grownBy w' (some r)) (hi : Iter setK mapV w' Bw r Wt todo') : MainIn g w1 w' base Bw v out Wl Wt ∧ (Kd.int .i64).R 3 w' base (fun _ => True) u xs :=
  ⟨h.m.grown hg (h.m.wait.iter_off h.it).1 (h.m.wait.iter_off h.it).2 (fun k e => by cases e; exact iter_ne_row h.it h.m.row) (fun k e => by cases e; exact h.ge), Kd.R_grown1 h.row rfl hg (iter_ne_row h.it h.row)⟩
theorem freeIn_iff {W : List Int} {x : Int} : freeIn g W x = true ↔ ∀ k, ¬ (reachOf g x k ∧ k ∈ W) := by
  unfold freeIn
  simp only [Bool.not_eq_true', List.any_eq_false]
  constructor
  · intro h k ⟨h1, h2⟩; exact h k h2 (rchB_iff.2 h1)
  · intro h k hk hr; exact h k ⟨rchB_iff.1 hr, hk⟩
theorem ReadyIn.skip {x : Int} (h : ReadyIn g w1 w base Bw v out Wl Wt r u xs todo) (hx : freeIn g Wl x = false) (hm : MainIn g w1 w' base Bw v out Wl Wt) (hr : (Kd.int .i64).R 3 w' base (fun _ => True) u xs) (hi : Iter setK mapV w' Bw r Wt (strikeL todo x)) : ReadyIn g w1 w' base Bw v out Wl Wt r u xs (strikeL todo x) where
  m := hm
  it := hi
  row := hr
  apart := h.apart
  nodup := h.nodup
  mem z := by
    rw [h.mem, mem_strikeL]
    by_cases e : z = x
    · subst e; simp [hx]
    · simp [e]
  ge := h.ge
theorem ReadyIn.push {x : Int} {u' : Value} (h : ReadyIn g w1 w base Bw v out Wl Wt r u xs todo) (hx : freeIn g Wl x = true) (ht : x ∈ todo) (hm : MainIn g w1 w' base Bw v out Wl Wt) (hr : (Kd.int .i64).R 3 w' base (fun _ => True) u' (xs ++ [x])) (ha : ∀ k, u'.ownBlock = some k → some k ≠ v.ownBlock) (hi : Iter setK mapV w' Bw r Wt (strikeL todo x)) : ReadyIn g w1 w' base Bw v out Wl Wt r u' (xs ++ [x]) (strikeL todo x) where
  m := hm
  it := hi
  row := hr
  apart := ha
  nodup := List.nodup_append.2 ⟨h.nodup, by simp, fun a ha c hc e => by rw [List.mem_singleton.1 hc] at e; subst e; exact ((h.mem a).1 ha).2 ht⟩
  mem z := by
    rw [List.mem_append, List.mem_singleton, h.mem, mem_strikeL]
    by_cases e : z = x
    · subst e; simp [hx, (h.m.keys z).2 (h.it.sub z ht)]
    · simp [e]
  ge := h.ge
theorem DelIn.size (h : DelIn g w1 w base Bw v out Wl Wt r n todo) : base ≤ w.heap.size := Nat.le_trans h.ge.2 h.bel.size
theorem DelIn.step {x : Int} {y : Nat} {P : List (Int × Unit)} {w2 : World} (h : DelIn g w1 w base Bw v out Wl Wt r n todo) (hp : (x, y) ∈ Wt) (hi : Iter setK mapV w' Bw r Wt (strikeL todo x)) (hg : w.grownBy w' (some r))
    (hP : ∀ k, k ∈ P.map (·.1) ↔ (reachOf g x k ∧ k ∈ Wl) ∧ (k = n → x ∈ todo)) (ho : OwnSet w2 y (delM P n)) (hg2 : w'.grownBy w2 (some y)) : DelIn g w1 w2 base Bw v out Wl Wt r n (strikeL todo x) := by
  have hw := h.wait.grown hg (h.wait.iter_off h.it).1 (h.wait.iter_off h.it).2
  have hyB : some Bw ≠ some y := fun e => (h.wait.off (x, y) hp).1 (Option.some.inj e).symm
  obtain ⟨P0, hP0, _⟩ := hw.sets (x, y) hp
  have hr' : (Kd.int .i64).R 3 w' base (fun _ => True) v out := Kd.R_grown1 h.row rfl hg (iter_ne_row h.it h.row)
  exact {
    it := hi.grown hg2 hyB (fun e => hP0.ne_iter hi (Option.some.inj e).symm)
    wait := (hw.delIn hp hP ho hg2).congr (fun p hp' k => by
      rw [mem_strikeL]
      constructor
      · rintro ⟨⟨h1, h2⟩, h3⟩; exact ⟨h1, fun e => ⟨h2 e, fun e' => h3 e' e⟩⟩
      · rintro ⟨h1, h2⟩; exact ⟨⟨h1, fun e => (h2 e).1⟩, fun e' e => (h2 e).2 e'⟩)
    row := Kd.R_grown1 hr' rfl hg2 (own_ne_row hP0 hr')
    ge := h.ge
    bel := (h.bel.grown hg h.size (fun k e => by cases e; exact h.ge.1)).grown hg2 (Nat.le_trans h.size hg.size) (fun k e => by cases e; exact (h.wait.off (x, y) hp).2) }
end
theorem ordGo_nil (g : List (List Int)) (rank : List Int) : ∀ k, ordGo g rank k [] = []
  | 0 => rfl
  | k + 1 => rfl
theorem ordGo_stuck {g : List (List Int)} {rank W : List Int} (h : ∀ x, ¬ (x ∈ W ∧ freeIn g W x = true)) : ∀ k, ordGo g rank k W = []
  | 0 => rfl
  | k + 1 => by
    have : W.filter (freeIn g W) = [] := List.filter_eq_nil_iff.2 (fun x hx hf => h x ⟨hx, hf⟩)
    unfold ordGo; rw [this]
theorem ordGo_step {g : List (List Int)} {rank W : List Int} {n : Int} (h1 : n ∈ W ∧ freeIn g W n = true) (h2 : ∀ x, x ∈ W ∧ freeIn g W x = true → lessN rank x n = false) (k : Nat) : ordGo g rank (k + 1) W = n :: ordGo g rank k (strikeL W n) := by
  have hn : n ∈ W.filter (freeIn g W) := List.mem_filter.2 h1
  have hm : ∀ x ∈ W.filter (freeIn g W), lessN rank x n = false := fun x hx => h2 x (List.mem_filter.1 hx)
  show (match W.filter (freeIn g W) with | [] => [] | x :: l => leastN rank x l :: ordGo g rank k (W.filter fun k => decide (k ≠ leastN rank x l))) = _
  generalize W.filter (freeIn g W) = F at hn hm
  cases F with
  | nil => cases hn
  | cons x l =>
    obtain ⟨h3, h4⟩ := leastN_spec rank l x
    have := least_unique h3 h4 hn hm
    simp only [this]
    rfl
theorem small_pick (g : List (List Int)) (p : Int → Bool) : (pickL g p).length ≤ g.length := by
  unfold pickL
  exact Nat.le_trans (List.length_filter_le _ _) (by simp)
theorem row_base {γ : Type} {d : Kd γ} {e base : Nat} {W : World} {ok : Nat → Prop} {u : Value} {xs : List γ} (hr : d.R e W base ok u xs) : ∀ k, u.ownBlock = some k → base ≤ k := by
  obtain ⟨inner, ho⟩ := Kd.R_own hr
  exact own_base ho
theorem apart_step {γ : Type} {d : Kd γ} {e base : Nat} {W : World} {ok : Nat → Prop} {u u' v : Value} {xs : List γ} (hat : u'.ownBlock = u.ownBlock ∨ ∃ b, u'.ownBlock = some b ∧ W.heap.size ≤ b) (ha : ∀ k, u.ownBlock = some k → some k ≠ v.ownBlock) (hr : d.R e W base ok v xs) : ∀ k, u'.ownBlock = some k → some k ≠ v.ownBlock := by
  intro k hk
  rcases hat with h | ⟨b, h1, h2⟩
  · exact ha k (h ▸ hk)
  · intro e'
    obtain ⟨inner, ho⟩ := Kd.R_own hr
    have := own_lt ho k e'.symm
    rw [hk] at h1
    injection h1 with h1
    omega
theorem cell_block {W : World} {b : Nat} {v : Value} {t : TypeId} (h : W.heap[b]? = some (.cells #[v] t (0, 0))) : W.cell? ⟨b, 0, none⟩ = some v := by
  simp [World.cell?, h]
set_option maxHeartbeats 16000000 in
set_option maxRecDepth 100000 in
theorem graph_Order.walk (A0 : Option Addr) (c0 : Nat) (g : List (List Int)) (A1 : Option Addr) (c1 : Nat) (l : List Int) (A2 : Option Addr) (c2 : Nat) (rank : List Int) (w : World) (hr0 : Kd.C (Kd.slice 3 (Kd.int .i64)) w A0 g.length g) (hr1 : Kd.C (Kd.int .i64) w A1 l.length l) (hr2 : Kd.C (Kd.int .i64) w A2 rank.length rank) (hlim : g.length < 17592186044416) :
    Calls Tryz.prog 34 #[.slice A0 g.length c0, .slice A1 l.length c1, .slice A2 rank.length c2] w fun e w' => ∃ v, e = .returned v ∧ (Kd.int .i64).R 3 w' w.heap.size (fun _ => True) v (ordL g l rank) ∧ Below w.heap.size w w' := by
  have hmm := @run_makeMap Tryz.prog
  have HR0 := Aside0.mk hr0
  have HR1 := Aside0.mk hr1
  have HR2 := Aside0.mk hr2
  clear hr0 hr1 hr2
  go_enter Tryz.func34, Tryz.ntmps34
  go_wp2_with fail
  have HC0 := Aside0.mk (heap_alloc_new w (Obj.cells #[Value.slice A2 rank.length c2] 27))
  obtain ⟨wA, hwA⟩ : ∃ wA, wA = w.alloc (Obj.cells #[Value.slice A2 rank.length c2] 27) := ⟨_, rfl⟩
  have hsA : wA.heap.size = w.heap.size + 1 := by rw [hwA]; exact World.size_alloc _ _
  have HC1 := Aside0.mk (heap_alloc_new wA (Obj.cells #[Value.func (Fn.func 70) #[] #[Value.pointer (some { block := w.heap.size, off := 0 })]] 93))
  obtain ⟨wB, hwB⟩ : ∃ wB, wB = wA.alloc (Obj.cells #[Value.func (Fn.func 70) #[] #[Value.pointer (some { block := w.heap.size, off := 0 })]] 93) := ⟨_, rfl⟩
  have hsB : wB.heap.size = w.heap.size + 1 + 1 := by rw [hwB, ← hsA]; exact World.size_alloc _ _
  have HBA := Aside0.mk (show Below w.heap.size w wA by rw [hwA]; exact below_alloc (Below.refl _ _) _)
  have HBB := Aside0.mk (show Below wA.heap.size wA wB by rw [hwB]; exact below_alloc (Below.refl _ _) _)
  have HOB := Aside0.mk (show OwnWait (wB.alloc (.map #[] 0)) (w.heap.size + 1 + 1) [] by rw [← hsB]; exact Go.Proofs.He.Own.made _ _ _)
  have HBC := Aside0.mk (show Below wB.heap.size wB (wB.alloc (.map #[] 0)) from below_alloc (Below.refl _ _) _)
  rw [← hwA, ← hwB]
  rw [← hwA] at HC0
  rw [← hwB] at HC1
  have hsC : (wB.alloc (.map #[] 0)).heap.size = w.heap.size + 1 + 1 + 1 := by rw [World.size_alloc, hsB]
  generalize hwC : wB.alloc (.map #[] 0) = wC at HOB HBC hsC ⊢
  have HBW := Aside0.mk (below_then (below_then HBA.out (by omega) HBB.out) (by omega) HBC.out)
  have HC0' := Aside0.mk (show wC.heap[w.heap.size]? = _ from (HBC.out.block _ (by omega)).trans ((HBB.out.block _ (by omega)).trans HC0.out))
  have HC1' := Aside0.mk (show wC.heap[w.heap.size + 1]? = some (Obj.cells #[Value.func (Fn.func 70) #[] #[Value.pointer (some { block := w.heap.size, off := 0 })]] 93) from (HBC.out.block _ (by omega)).trans (by have := HC1.out; rw [hsA] at this; exact this))
  clear HC0 HC1 HBA HBB HBC hwA hwB hwC
  refine (graph_of.walk A0 c0 g A1 c1 l wC (by omega) (Kd.C_below HR1.out HBW.out)).mono ?_
  rintro e w1 ⟨ba, Ma, rfl, hba, hoa, hma, hb1⟩
  have HF0 := Aside0.mk ((hb1.block _ (by omega)).trans HC0'.out)
  have HF1 := Aside0.mk ((hb1.block _ (by omega)).trans HC1'.out)
  have HMA := Aside0.mk hma
  have HW1 := Aside0.mk (below_then HBW.out (by omega) hb1)
  have HOW := Aside0.mk (HOB.out.below hb1)
  have HOA := Aside0.mk hoa
  have hML : Ma.length ≤ g.length := by
    have := hoa.nodup.length_le_of_subset (l₂ := setL g l) (fun x hx => mem_setL.2 (by obtain ⟨h1, h2, h3⟩ := (hma x).1 hx; exact ⟨⟨h2, h3⟩, h1⟩))
    have h' : (setL g l).length ≤ g.length := small_pick g _
    simp at this; omega
  have HML := Aside0.mk hML
  have HS1 := Aside0.mk (show w.heap.size + 1 + 1 + 1 ≤ w1.heap.size by have := hb1.size; omega)
  have HBN := Aside0.mk (show ba ≠ w.heap.size + 1 + 1 by omega)
  clear hmm hsA hsB hsC hba hoa hma hb1 hML HC0' HC1' HOB HBW
  go_wp2_with (first | (at_range; refine wpList_mrange rfl _ 96 rfl setK unitV 130 Tryz.underlying96 ba Ma rfl HOA.out ?_; intro w2 hi2 hg2 hs2))
  go_frame
  have HI := Aside0.mk (show BuildIn g Ma w1 w2 (w.heap.size + 1 + 1) ba w1.heap.size (w.heap.size + 1 + 1) (w2.rangeLeft ba w1.heap.size) (Ma.map (·.1)) [] from {
    it := hi2
    wait := ⟨HOW.out.grown hg2 (by simp), by simp, by simp, by simp⟩
    off := ⟨HBN.out, by simp⟩
    ge := ⟨by have := HS1.out; omega, Nat.le_refl _, by have := HS1.out; omega⟩
    bel := (Below.refl _ _).grown hg2 (by have := HS1.out; omega) (by simp)
    left := rfl })
  clear hi2 hg2 hs2
  go_loopw [10] (fun _ wr => ∃ (cnt : Nat) (todo : List Int) (Wt : List (Int × Nat)), Aside0 (BuildIn g Ma w1 wr (w.heap.size + 1 + 1) ba w1.heap.size (w.heap.size + 1 + 1) cnt todo Wt) ∧ Aside0 (∀ x, x ∈ Wt.map (·.1) ↔ x ∈ Ma.map (·.1) ∧ x ∉ todo)) (fun _ wr => wr.rangeLeft ba w1.heap.size)
  case atStart => exact ⟨_, _, [], HI, ⟨fun x => by simp⟩⟩
  case round =>
    clear HI
    obtain ⟨cnt, todo, Wt, HI, HK⟩ := hrel
    go_wp2_with (first | (at_next; refine wpList_mnext rfl _ rfl setK unitV ba w1.heap.size Ma rfl HI.out.it ?_ ?_))
    · intro ht
      subst ht
      have HM0 := Aside0.mk (show MainIn g w1 wr (w.heap.size + 1 + 1) (w.heap.size + 1 + 1) (.slice none 0 0) [] (setL g l) Wt from {
        wait := HI.out.wait.congr (fun p hp k => by
          rw [mem_setL, HMA.out]
          constructor
          · rintro ⟨h1, h2, h3, h4⟩; exact ⟨h1, ⟨h3, h4⟩, h2⟩
          · rintro ⟨h1, ⟨h3, h4⟩, h2⟩; exact ⟨h1, h2, h3, h4⟩)
        row := Kd.R_nil _ _ _ _ _
        keys := fun x => by
          rw [mem_setL, HK.out, HMA.out]
          constructor
          · rintro ⟨⟨h3, h4⟩, h2⟩; exact ⟨⟨h2, h3, h4⟩, by simp⟩
          · rintro ⟨⟨h2, h3, h4⟩, _⟩; exact ⟨⟨h3, h4⟩, h2⟩
        nodup := (pickL_rises g _).imp (fun h => by omega)
        valid := fun x hx => (mem_setL.1 hx).1
        len := by have := small_pick g (fun x => decide (x ∈ l)); simp; exact this
        ge := ⟨Nat.le_refl _, by have := HS1.out; omega⟩
        bel := HI.out.bel })
      clear HI HK
      go_wp2
      go_loopg [13] (setL g l).length (fun kq v13 wr => ∃ (out Wl : List Int) (Wt : List (Int × Nat)), Aside0 (MainIn g w1 wr (w.heap.size + 1 + 1) (w.heap.size + 1 + 1) v13 out Wl Wt) ∧ Aside0 (out ++ ordGo g rank kq Wl = ordL g l rank) ∧ Aside0 (Wl.length ≤ kq))
      case atStart => exact ⟨[], setL g l, Wt, HM0, ⟨rfl⟩, ⟨Nat.le_refl _⟩⟩
      case round =>
        clear HM0
        obtain ⟨out, Wl, Wt, HM, HE, HL⟩ := hrel
        by_cases hW : Wl = []
        · subst hW
          have hw0 : Wt = [] := List.eq_nil_of_length_eq_zero (by rw [HM.out.wlen]; rfl)
          subst hw0
          go_wp2_with (first | (at_len; refine wpList_mlen rfl _ 94 rfl setK mapV 96 Tryz.underlying94 (w.heap.size + 1 + 1) [] rfl HM.out.wait.own ?_))
          go_ret
          exact ⟨u13, rfl, by rw [← HE.out, ordGo_nil, List.append_nil]; exact Kd.R_lower HM.out.row (by omega), HW1.out.trans (HM.out.bel.mono (by omega))⟩
        · have hWp := List.length_pos_iff.2 hW
          have hpos : 0 < Wt.length := by rw [HM.out.wlen]; exact hWp
          have hposI : (0 : Int) < (Wt.length : Int) := by omega
          obtain ⟨k1, rfl⟩ : ∃ k1, gk = k1 + 1 := ⟨gk - 1, by have := HL.out; omega⟩
          clear hW hWp
          go_wp2_with (first | (at_len; refine wpList_mlen rfl _ 94 rfl setK mapV 96 Tryz.underlying94 (w.heap.size + 1 + 1) Wt rfl HM.out.wait.own ?_) | (at_range; refine wpList_mrange rfl _ 94 rfl setK mapV 96 Tryz.underlying94 (w.heap.size + 1 + 1) Wt rfl HM.out.wait.own ?_; intro w2 hi2 hg2 hs2))
          go_frame
          have hge : w.heap.size + 1 + 1 ≤ wr.heap.size := HM.out.size
          have HM2 := Aside0.mk (HM.out.grown hg2 (by simp) (by simp) (by simp) (by simp))
          clear hpos hposI hg2 hs2 HM
          generalize wr.heap.size = rI at hge hi2 ⊢
          have HR := Aside0.mk (show ReadyIn g w1 w2 (w.heap.size + 1 + 1) (w.heap.size + 1 + 1) u13 out Wl Wt rI (.slice none 0 0) [] (Wt.map (·.1)) from {
            m := HM2.out
            it := hi2
            row := Kd.R_nil _ _ _ _ _
            apart := by simp [Value.ownBlock]
            nodup := by simp
            mem := fun x => ⟨(fun h => by cases h), fun h => absurd ((HM2.out.keys x).1 h.1.1) h.2⟩
            ge := hge })
          clear hi2 HM2
          go_loopw [14] (fun v14 wr2 => ∃ (xs todo : List Int), Aside0 (ReadyIn g w1 wr2 (w.heap.size + 1 + 1) (w.heap.size + 1 + 1) u13 out Wl Wt rI v14 xs todo)) (fun _ wr2 => wr2.rangeLeft (w.heap.size + 1 + 1) rI)
          case atStart => exact ⟨[], _, HR⟩
          case round =>
            clear HR
            obtain ⟨xs, todo, HR⟩ := hrel
            go_wp2_with (first | (at_next; refine wpList_mnext rfl _ rfl setK mapV (w.heap.size + 1 + 1) rI Wt rfl HR.out.it ?_ ?_))
            · intro ht
              subst ht
              obtain ⟨A, c, hv⟩ := Kd.R_slice HR.out.row
              subst hv
              by_cases hxs : xs = []
              · subst hxs
                go_wp2
                go_ret
                exact ⟨u13, rfl, by rw [← HE.out, ordGo_stuck (fun x hx => by have := (HR.out.mem x).2 ⟨hx, by simp⟩; simp at this), List.append_nil]; exact Kd.R_lower HR.out.m.row (by omega), HW1.out.trans (HR.out.m.bel.mono (by omega))⟩
              · have hxp := List.length_pos_iff.2 hxs
                have hne : ((xs.length : Int) == 0) = false := beq_eq_false_iff_ne.mpr (by omega)
                have hne2 : (xs.length == 0) = false := beq_eq_false_iff_ne.mpr (by omega)
                have hxl : xs.length ≤ Wl.length := HR.out.nodup.length_le_of_subset (fun x hx => ((HR.out.mem x).1 hx).1.1)
                have hml := HR.out.m.len
                have HMIN := Aside0.mk (min_ready.walk w.heap.size (w.heap.size + 1) A2 c2 rank w wr (w.heap.size + 1 + 1) (fun _ => True) (.slice A xs.length c) xs HR.out.row hxs (fun x hx => (HR.out.m.valid x ((HR.out.mem x).1 hx).1.1).1) (by omega)
                  (cell_block ((HR.out.m.bel.block _ (by omega)).trans HF1.out)) (cell_block ((HR.out.m.bel.block _ (by omega)).trans HF0.out)) (by omega) (by omega) HR2.out (HW1.out.trans (HR.out.m.bel.mono (by omega))) (by omega))
                have HLL := Aside0.mk (show (out.length + 1) * 8 ≤ 140737488355328 by omega)
                clear hxs hxp hxl hml
                go_wp2_with (first
                  | (go_at_call 74; refine HMIN.out.mono ?_; rintro e w5 ⟨n, rfl, hn, hmin, hg5⟩; have HN := Aside0.mk hn; have HMI := Aside0.mk hmin; have HM5 := Aside0.mk (HR.out.m.grown hg5 (HR.out.m.wait.row_off HR.out.row).1 (HR.out.m.wait.row_off HR.out.row).2 HR.out.apart (row_base HR.out.row)); have HNV := Aside0.mk (HR.out.m.valid n ((HR.out.mem n).1 hn).1.1); have HWF := Aside0.mk (show (Lit.int .i64 n).wf = true from WalkArith.wf_i64 (by have := HNV.out; omega)); clear hn hmin hg5)
                  | (at_builtin; refine Kd.R_append (Kd.int .i64) (w0 := w1) (w.heap.size + 1 + 1) rfl _ _ 27 3 (.int .i64 0) 8 rfl Tryz.underlying27 info3 rfl (by decide) (by omega) u13 out n [.int .i64 n] (fun _ => True) (fun _ => False) rfl rfl rfl (fun _ hk => hk.elim) (fun _ _ => trivial) HM5.out.row HM5.out.bel HM5.out.size HLL.out ?_; intro v2 w6 hr6 hb6 hg6 hat6; have HW6 := Aside0.mk (HM5.out.wait.grown hg6 (HM5.out.wait.row_off HM5.out.row).1 (HM5.out.wait.row_off HM5.out.row).2); have HR6 := Aside0.mk hr6; have HB6 := Aside0.mk hb6; clear hr6 hb6 hg6 hat6)
                  | (at_delete; refine wpList_mdel rfl _ _ 94 rfl setK mapV 96 Tryz.underlying94 (w.heap.size + 1 + 1) Wt rfl HW6.out.own n rfl HWF.out ?_; intro w7 ho7 hg7 hs7; have HW7 := Aside0.mk (HW6.out.del ho7 hg7); have HR7 := Aside0.mk (Kd.R_grown1 HR6.out rfl hg7 (own_ne_row HW6.out.own HR6.out)); have HB7 := Aside0.mk (HB6.out.grown hg7 (Nat.le_trans HR.out.m.ge.2 HB6.out.size) (fun k e => by cases e; exact Nat.le_refl _)); clear ho7 hg7 hs7)
                  | (at_range; refine wpList_mrange rfl _ 94 rfl setK mapV 96 Tryz.underlying94 (w.heap.size + 1 + 1) (delM Wt n) rfl HW7.out.own ?_; intro w8 hi8 hg8 hs8))
                go_frame
                have hge7 : w.heap.size + 1 + 1 ≤ w7.heap.size := Nat.le_trans HR.out.m.ge.2 HB7.out.size
                have HD := Aside0.mk (show DelIn g w1 w8 (w.heap.size + 1 + 1) (w.heap.size + 1 + 1) v2 (out ++ [n]) Wl (delM Wt n) w7.heap.size n ((delM Wt n).map (·.1)) from {
                  it := hi8
                  wait := (HW7.out.grown hg8 (by simp) (by simp)).congr (fun p hp k => ⟨fun h => ⟨h, fun _ => List.mem_map.2 ⟨p, hp, rfl⟩⟩, fun h => h.1⟩)
                  row := Kd.R_grown2 HR7.out rfl hg8 (by simp)
                  ge := ⟨hge7, HR.out.m.ge.2⟩
                  bel := HB7.out.grown hg8 hge7 (by simp) })
                clear hi8 hg8 hs8 HW7 HR7 HB7 HW6 HR6 HB6 HM5
                go_loopw [19] (fun _ wr2 => ∃ (todo : List Int), Aside0 (DelIn g w1 wr2 (w.heap.size + 1 + 1) (w.heap.size + 1 + 1) v2 (out ++ [n]) Wl (delM Wt n) w7.heap.size n todo)) (fun _ wr2 => wr2.rangeLeft (w.heap.size + 1 + 1) w7.heap.size)
                case atStart => exact ⟨_, HD⟩
                case round =>
                  clear HD
                  obtain ⟨todo, HD⟩ := hrel
                  go_wp2_with (first | (at_next; refine wpList_mnext rfl _ rfl setK mapV (w.heap.size + 1 + 1) w7.heap.size (delM Wt n) rfl HD.out.it ?_ ?_))
                  · intro ht
                    subst ht
                    have hnW := ((HR.out.mem n).1 HN.out).1
                    have hls := length_strike1 HR.out.m.nodup hnW.1
                    have HE2 := Aside0.mk (show (out ++ [n]) ++ ordGo g rank k1 (strikeL Wl n) = ordL g l rank by
                      rw [← HE.out, ordGo_step hnW (fun x hx => HMI.out x ((HR.out.mem x).2 ⟨hx, by simp⟩)), List.append_assoc]; rfl)
                    have HM9 := Aside0.mk (show MainIn g w1 wr (w.heap.size + 1 + 1) (w.heap.size + 1 + 1) v2 (out ++ [n]) (strikeL Wl n) (delM Wt n) from {
                      wait := HD.out.wait.congr (fun p hp k => by
                        rw [mem_strikeL]
                        constructor
                        · rintro ⟨⟨h1, h2⟩, h3⟩; exact ⟨h1, h2, fun e => by cases h3 e⟩
                        · rintro ⟨h1, h2, h3⟩; exact ⟨⟨h1, h2⟩, fun e => absurd e h3⟩)
                      row := HD.out.row
                      keys := fun x => by rw [mem_strikeL, keys_delM, HR.out.m.keys]
                      nodup := nodup_strikeL HR.out.m.nodup n
                      valid := fun x hx => HR.out.m.valid x (mem_strikeL.1 hx).1
                      len := by have := HR.out.m.len; rw [List.length_append]; simp; omega
                      ge := HR.out.m.ge
                      bel := HD.out.bel })
                    have HL2 := Aside0.mk (show (strikeL Wl n).length ≤ k1 by have := HL.out; omega)
                    clear hnW hls
                    go_wp2
                    go_roundg k1
                    case measure => omega
                    case rel => exact ⟨_, _, _, HM9, HE2, HL2⟩
                  · intro x y w9 hx hxM hi9 hlt9 hg9 hs9 hen
                    have hen' : (Instr.entry (.pointer (some ⟨w7.heap.size, 0, none⟩))).run Tryz.prog w9 = .ok (.tuple #[.int .i64 x, .map (some y)]) w9 := hen
                    clear hen
                    obtain ⟨P, hP, hPk⟩ := HD.out.wait.sets (x, y) hxM
                    have HP9 := Aside0.mk (hP.grown hg9 ((HD.out.wait.iter_off HD.out.it).2 (x, y) hxM))
                    have HI9 := Aside0.mk hi9
                    have HLT := Aside0.mk hlt9
                    have HPK := Aside0.mk hPk
                    have HG9 := Aside0.mk hg9
                    have HXM := Aside0.mk hxM
                    clear hx hxM hi9 hlt9 hg9 hs9 hP hPk
                    go_wp2_with (first | (at_delete; refine wpList_mdel rfl _ _ 96 rfl setK unitV 130 Tryz.underlying96 y P rfl HP9.out n rfl HWF.out ?_; intro w10 ho10 hg10 hs10; go_frame))
                    have HD10 := Aside0.mk (HD.out.step HXM.out HI9.out HG9.out HPK.out ho10 hg10)
                    have HL10 := Aside0.mk (HI9.out.left_grown hg10 (fun e => (HD.out.wait.off (x, y) HXM.out).1 (Option.some.inj e).symm) (fun e => HP9.out.ne_iter HI9.out (Option.some.inj e).symm))
                    clear ho10 hg10 hs10
                    go_roundw
                    case rel => exact ⟨_, HD10⟩
                    case measure => rw [HL10.out]; exact HLT.out
            · intro x y w4 hx hxM hi4 hlt4 hg4 hs4 hen
              have hen' : (Instr.entry (.pointer (some ⟨rI, 0, none⟩))).run Tryz.prog w4 = .ok (.tuple #[.int .i64 x, .map (some y)]) w4 := hen
              clear hen
              obtain ⟨hm4, hr4⟩ := HR.out.next hg4 hi4
              obtain ⟨P, hP, hPk⟩ := hm4.wait.sets (x, y) hxM
              have hfree : freeIn g Wl x = decide (P = []) := by
                rw [Bool.eq_iff_iff, freeIn_iff, decide_eq_true_eq]
                constructor
                · intro h
                  refine List.eq_nil_iff_forall_not_mem.2 (fun p hp => ?_)
                  exact h p.1 ((hPk p.1).1 (List.mem_map.2 ⟨p, hp, rfl⟩))
                · intro h k hk
                  have := (hPk k).2 hk
                  rw [h] at this
                  cases this
              have HM4 := Aside0.mk hm4
              have HR4 := Aside0.mk hr4
              have HP := Aside0.mk hP
              have HI4 := Aside0.mk hi4
              have HLT := Aside0.mk hlt4
              have HX := Aside0.mk hx
              have hxl : xs.length ≤ Wl.length := HR.out.nodup.length_le_of_subset (fun x hx => ((HR.out.mem x).1 hx).1.1)
              have HLL := Aside0.mk (show (xs.length + 1) * 8 ≤ 140737488355328 by have := HR.out.m.len; omega)
              clear hm4 hr4 hP hPk hi4 hlt4 hg4 hs4 hx hxM hxl
              by_cases hP0 : P = []
              · subst hP0
                have HF := Aside0.mk (hfree.trans rfl)
                clear hfree
                go_wp2_with (first | (at_len; refine wpList_mlen rfl _ 96 rfl setK unitV 130 Tryz.underlying96 y [] rfl HP.out ?_) | (at_builtin; refine Kd.R_append (Kd.int .i64) (w0 := w1) (w.heap.size + 1 + 1) rfl _ _ 27 3 (.int .i64 0) 8 rfl Tryz.underlying27 info3 rfl (by decide) (by omega) u14 xs x [.int .i64 x] (fun _ => True) (fun _ => False) rfl rfl rfl (fun _ hk => hk.elim) (fun _ _ => trivial) HR4.out HM4.out.bel HM4.out.size HLL.out ?_; intro v2 w6 hr6 hb6 hg6 hat6))
                have HM6 := Aside0.mk (HM4.out.grown hg6 (HM4.out.wait.row_off HR4.out).1 (HM4.out.wait.row_off HR4.out).2 HR.out.apart (row_base HR4.out))
                have HA6 := Aside0.mk (apart_step hat6 HR.out.apart HM4.out.row)
                have HI6 := Aside0.mk (HI4.out.grown hg6 (own_ne_row HI4.out.own HR4.out) (iter_ne_row HI4.out HR4.out))
                have HL6 := Aside0.mk (HI4.out.left_grown hg6 (own_ne_row HI4.out.own HR4.out) (iter_ne_row HI4.out HR4.out))
                have HR6 := Aside0.mk hr6
                clear hr6 hb6 hg6 hat6
                go_roundw
                case rel => exact ⟨_, _, ⟨HR.out.push HF.out HX.out HM6.out HR6.out HA6.out HI6.out⟩⟩
                case measure => rw [HL6.out]; exact HLT.out
              · have HF := Aside0.mk (hfree.trans (decide_eq_false hP0))
                have hPp := List.length_pos_iff.2 hP0
                have hne : ((P.length : Int) == 0) = false := beq_eq_false_iff_ne.mpr (by omega)
                have hne2 : (P.length == 0) = false := beq_eq_false_iff_ne.mpr (by omega)
                clear hfree hP0 hPp
                go_wp2_with (first | (at_len; refine wpList_mlen rfl _ 96 rfl setK unitV 130 Tryz.underlying96 y P rfl HP.out ?_))
                go_roundw
                case rel => exact ⟨xs, _, ⟨HR.out.skip HF.out HM4.out HR4.out HI4.out⟩⟩
                case measure => exact HLT.out
    · intro x y w4 hx hxM hi4 hlt4 hg4 hs4 hen
      have hen' : (Instr.entry (.pointer (some ⟨w1.heap.size, 0, none⟩))).run Tryz.prog w4 = .ok (.tuple #[.int .i64 x, .agg #[]]) w4 := hen
      clear hen
      have HX := Aside0.mk hx
      have HI4 := Aside0.mk (HI.out.next hg4 hi4)
      have HLT := Aside0.mk hlt4
      have hxv := (HMA.out x).1 (HI.out.it.sub x hx)
      have hx0 : 0 ≤ x := hxv.2.1
      have hx1 : x < g.length := hxv.2.2
      have hnew : x ∉ Wt.map (·.1) := fun h => ((HK.out x).1 h).2 hx
      have HNEW := Aside0.mk hnew
      clear hx hxM hi4 hlt4 hg4 hs4 hxv hnew
      have HBR := Aside0.mk (show Below w.heap.size w w4 from HW1.out.trans (HI4.out.bel.mono (by omega)))
      obtain ⟨ad, Ar, cr, e, hrx, hrl, hrc⟩ := at_row HR0.out x hx0 hx1
      cases e
      replace hrx := (HBR.out.cell (World.block_lt_of_cell? w _ hrx)).trans hrx
      obtain ⟨ns, hns⟩ : ∃ ns, ns = g.getD x.toNat [] := ⟨_, rfl⟩
      rw [← hns] at hrx hrl hrc
      have HN := Aside0.mk hns
      have HRC := Aside0.mk (Kd.C_below hrc HBR.out)
      have hnl : ns.length ≤ 9223372036854775807 := hrc.2.1
      clear hns hrc hrl
      go_wp2_with (first | (go_at_call 72; refine (graph_reach.walk (some ad) c0 g Ar cr ns w4 (Kd.C_below HR0.out HBR.out) HRC.out hlim).mono ?_; rintro e w5 ⟨bp, Mp, rfl, hbp, hop, hmp, hb5⟩; have HOP := Aside0.mk hop; have HMP := Aside0.mk hmp; have HBP := Aside0.mk hbp; have HB5 := Aside0.mk hb5; clear hop hmp hbp hb5) | (at_range; refine wpList_mrange rfl _ 96 rfl setK unitV 130 Tryz.underlying96 bp Mp rfl HOP.out ?_; intro w6 hi6 hg6 hs6))
      go_frame
      have HB6 := Aside0.mk (show Below w5.heap.size w5 w6 from ⟨hg6.os, hg6.tape, hg6.output, hg6.size, fun k hk => hg6.block k hk (by simp)⟩)
      have hlt4 : ∀ b M, OwnSet w4 b M → b < w4.heap.size := fun b M h => h.lt
      have hrlt := HI4.out.it.lt
      have hBlt := HI4.out.wait.own.lt
      have halt := HI4.out.it.own.lt
      have hs5 := HB5.out.size
      have HP := Aside0.mk (show PastIn g Ma w1 w6 (w.heap.size + 1 + 1) ba w1.heap.size (w.heap.size + 1 + 1) (w4.rangeLeft ba w1.heap.size) (strikeL todo x) Wt x bp w5.heap.size Mp (Mp.map (·.1)) from {
        b := (HI4.out.below HB5.out).below HB6.out
        it := hi6
        mem := fun k => by
          rw [HMP.out, HN.out]
          exact ⟨fun h => ⟨h, .inr h⟩, fun h => h.1⟩
        ne := ⟨by have := HBP.out; omega, by have := HBP.out; omega, fun p hp => by
            obtain ⟨P, hP, _⟩ := HI4.out.wait.sets p hp
            have := hP.lt
            have := HBP.out
            omega, by omega⟩
        ge := ⟨by have := HBP.out; omega, by omega⟩ })
      clear hi6 hg6 hs6 hlt4 hrlt hBlt halt hs5 hrx
      go_loopw [12] (fun _ wr => ∃ (Mp : List (Int × Unit)) (todo2 : List Int), Aside0 (PastIn g Ma w1 wr (w.heap.size + 1 + 1) ba w1.heap.size (w.heap.size + 1 + 1) (w4.rangeLeft ba w1.heap.size) (strikeL todo x) Wt x bp w5.heap.size Mp todo2)) (fun _ wr => wr.rangeLeft bp w5.heap.size)
      case atStart => exact ⟨Mp, _, HP⟩
      case round =>
        clear HP HMP HOP HB5 HB6 HRC HBR
        obtain ⟨Mp, todo2, HP⟩ := hrel
        go_wp2_with (first | (at_next; refine wpList_mnext rfl _ rfl setK unitV bp w5.heap.size Mp rfl HP.out.it ?_ ?_))
        · intro ht
          subst ht
          have hwf : (Lit.int .i64 x).wf = true := WalkArith.wf_i64 (by omega)
          have hWL : Wt.length ≤ Ma.length := by
            have := HP.out.b.wait.own.nodup.length_le_of_subset (l₂ := Ma.map (·.1)) (fun z hz => ((HK.out z).1 hz).1)
            simpa using this
          have hml : Wt.length < maxLen := by have := HML.out; unfold maxLen; omega
          have HWF := Aside0.mk hwf
          have HMLN := Aside0.mk hml
          clear hwf hWL hml
          go_wp2_with (at_mapUpdate; refine wpList_mput rfl _ _ _ 94 rfl setK mapV 96 Tryz.underlying94 (w.heap.size + 1 + 1) Wt rfl HP.out.b.wait.own HMLN.out x bp rfl rfl HWF.out trivial ?_; intro w7 ho7 hg7; go_frame)
          have HN7 := Aside0.mk (HP.out.put HNEW.out ho7 hg7)
          go_roundw
          case rel => exact ⟨_, _, _, HN7, ⟨fun z => by
            rw [keys_putM, HK.out, mem_strikeL]
            by_cases e : z = x
            · subst e; simp [HI.out.it.sub z HX.out]
            · simp [e]⟩⟩
          case measure => rw [HN7.out.left]; exact HLT.out
        · intro k y2 w7 hk hkM hi7 hlt7 hg7 hs7 hen
          have hen' : (Instr.entry (.pointer (some ⟨w5.heap.size, 0, none⟩))).run Tryz.prog w7 = .ok (.tuple #[.int .i64 k, .agg #[]]) w7 := hen
          clear hen
          have HI7 := Aside0.mk hi7
          have HLT7 := Aside0.mk hlt7
          have HG7 := Aside0.mk hg7
          have hkr := ((HP.out.mem k).1 (HP.out.it.sub k hk)).1
          have hkv := hkr.valid
          have hwf : (Lit.int .i64 k).wf = true := WalkArith.wf_i64 (by omega)
          have HWF := Aside0.mk hwf
          have HB7 := Aside0.mk (HP.out.b_row hg7 (.inl rfl))
          clear hk hkM hi7 hlt7 hg7 hs7 hkr hkv hwf
          by_cases hin : k ∈ Ma.map (·.1)
          · have HH := Aside0.mk ((set_has.walk ba Ma k w7 HB7.out.it.own HWF.out).mono (R' := fun e w' => e = .returned (.bool true) ∧ w' = w7.alloc (.cells #[] 130)) (fun _ _ h => by rw [decide_eq_true hin] at h; exact h))
            have HIN := Aside0.mk hin
            clear hin
            go_wp2_with (go_at_call 73; refine HH.out.mono ?_; rintro e w8 ⟨rfl, rfl⟩)
            have hb8 : Below w7.heap.size w7 (w7.alloc (.cells #[] 130)) := below_alloc (Below.refl _ _) _
            have HB8 := Aside0.mk hb8
            clear hb8
            go_roundw
            case rel => exact ⟨Mp, _, ⟨HP.out.keep HIN.out (HB7.out.below HB8.out) (HI7.out.below HB8.out)⟩⟩
            case measure => rw [HI7.out.left_grown (w1 := w7.alloc (.cells #[] 130)) (row := none) (World.grownBy_alloc _ _ _) (by simp) (by simp)]; exact HLT7.out
          · have HH := Aside0.mk ((set_has.walk ba Ma k w7 HB7.out.it.own HWF.out).mono (R' := fun e w' => e = .returned (.bool false) ∧ w' = w7.alloc (.cells #[] 130)) (fun _ _ h => by rw [decide_eq_false hin] at h; exact h))
            have HIN := Aside0.mk hin
            clear hin
            have hb8 : Below w7.heap.size w7 (w7.alloc (.cells #[] 130)) := below_alloc (Below.refl _ _) _
            have HB8 := Aside0.mk hb8
            have HI8 := Aside0.mk (HI7.out.below hb8)
            have HBI8 := Aside0.mk (HB7.out.below hb8)
            have HL8 := Aside0.mk (HI7.out.left_grown (w1 := w7.alloc (.cells #[] 130)) (row := none) (World.grownBy_alloc _ _ _) (by simp) (by simp))
            clear hb8
            go_wp2_with (first | (go_at_call 73; refine HH.out.mono ?_; rintro e w8 ⟨rfl, rfl⟩) | (at_delete; refine wpList_mdelr rfl _ _ 96 rfl setK unitV 130 Tryz.underlying96 bp w5.heap.size Mp rfl HI8.out k rfl HWF.out ?_; intro w9 hi9 hl9 hg9 hs9; go_frame))
            have HP8 := Aside0.mk (show PastIn g Ma w1 (w7.alloc (.cells #[] 130)) (w.heap.size + 1 + 1) ba w1.heap.size (w.heap.size + 1 + 1) (w4.rangeLeft ba w1.heap.size) (strikeL todo x) Wt x bp w5.heap.size Mp todo2 → True from fun _ => trivial)
            have HB9 := Aside0.mk (show BuildIn g Ma w1 w9 (w.heap.size + 1 + 1) ba w1.heap.size (w.heap.size + 1 + 1) (w4.rangeLeft ba w1.heap.size) (strikeL todo x) Wt from by
              refine HBI8.out.grown hg9 (fun e => HP.out.ne.1 (Option.some.inj e).symm) (fun e => HI8.out.own.ne_iter HBI8.out.it (Option.some.inj e).symm) (fun e => HP.out.ne.2.1 (Option.some.inj e).symm) (fun p hp e => HP.out.ne.2.2.1 p hp (Option.some.inj e)) (fun k e => by cases e; exact HP.out.ge.1))
            have HI9 := Aside0.mk hi9
            have HL9 := Aside0.mk hl9
            clear hi9 hl9 hg9 hs9 HP8
            go_roundw
            case rel => exact ⟨_, _, ⟨HP.out.drop HIN.out (fun z => by rw [mem_strikeL, mem_strikeL]; exact ⟨fun h => h.1, fun h => ⟨h, h.2⟩⟩) HB9.out HI9.out⟩⟩
            case measure => have := HL9.out; rw [HL8.out] at this; have := HLT7.out; omega
end Go.Proofs.YtmdjknkhjimgeaaGreat.S
end
section
namespace Go.Proofs.YtmdjknkhjimgeaaGreat.S
open Go.RowKit Go.Proofs.YtmdjknkhjimgeaaGreatW.PrintWords Go.Proofs.YtmdjknkhjimgeaaGreatW.PrintLast Go.Proofs.YtmdjknkhjimgeaaGreatW.PrintMore
attribute [local go_sem] max2_int min2_int max_two min_two max_three min_three max_four min_four
set_option linter.unusedVariables false
set_option linter.unusedSimpArgs false
open Go.Proofs.He
abbrev SEr := S50
theorem powAt_ev (v : SVl) (key : ByteArray) {d : Nat} (hd : Dm d v) (hd3 : d ≤ 300) : ∃ b : Int × Bool, Ev (fun k => power_at.f k v.f0 v.f1 v.f2 v.f3 v.f4 key) b := by
  obtain ⟨x, b, -, h2, -⟩ := get2_ev v key hd hd3
  by_cases hb : b = true
  · subst hb
    by_cases h3 : x.f0 = 2
    · refine ⟨(x.f1, true), Ev.congr (fun k => rfl) (Ev.bind h2 (Ev.congr (f := fun _ => some (x.f1, true)) (fun k => ?_) (Ev.now _)))⟩
      simp [h3]
    · refine ⟨(0, false), Ev.congr (fun k => rfl) (Ev.bind h2 (Ev.congr (f := fun _ => some (0, false)) (fun k => ?_) (Ev.now _)))⟩
      simp [h3]
  · obtain rfl := Bool.eq_false_iff.2 hb
    refine ⟨(0, false), Ev.congr (fun k => rfl) (Ev.bind h2 (Ev.congr (f := fun _ => some (0, false)) (fun k => ?_) (Ev.now _)))⟩
    simp
theorem powIn_ev (v : SVl) (key : ByteArray) {d : Nat} (hd : Dm d v) (hd3 : d ≤ 300) : ∃ x : SVl, Ev (fun k => power_in.f k v.f0 v.f1 v.f2 v.f3 v.f4 key) (x.f0, x.f1, x.f2, x.f3, x.f4) ∧ Dm d x := by
  obtain ⟨x, b, -, h2, h3⟩ := get2_ev v key hd hd3
  by_cases h5 : x.f0 = 5
  · refine ⟨x, Ev.congr (fun k => rfl) (Ev.bind h2 (Ev.congr (f := fun _ => some (x.f0, x.f1, x.f2, x.f3, x.f4)) (fun k => ?_) (Ev.now _))), h3⟩
    rw [if_pos h5]
  · refine ⟨⟨5, 0, ⟨#[]⟩, [], []⟩, Ev.congr (fun k => rfl) (Ev.bind h2 (Ev.congr (f := fun _ => some (5, 0, (⟨#[]⟩ : ByteArray), ([] : List ByteArray), ([] : List SVl))) (fun k => ?_) (Ev.now _))), Dm.le (d := 0) ⟨Nat.zero_le _, rfl⟩ (Nat.zero_le _)⟩
    rw [if_neg h5]
theorem powOr (b : Int × Bool) (z : Int) : ∃ n, power_level_or.f b.1 b.2 z = some n := by
  unfold power_level_or.f
  split
  · exact ⟨_, rfl⟩
  · exact ⟨_, rfl⟩
theorem powLvl_ev (v : SVl) (has : Bool) (c u : ByteArray) {d : Nat} (hd : Dm d v) (hd3 : d ≤ 300) : ∃ n : Int, Ev (fun k => power_Level.f k v.f0 v.f1 v.f2 v.f3 v.f4 has c u) n := by
  cases has with
  | true =>
    obtain ⟨x, h2, h3⟩ := powIn_ev v ⟨#[117, 115, 101, 114, 115]⟩ hd hd3
    obtain ⟨b4, h5⟩ := powAt_ev v ⟨#[117, 115, 101, 114, 115, 95, 100, 101, 102, 97, 117, 108, 116]⟩ hd hd3
    obtain ⟨b6, h7⟩ := powAt_ev x u h3 hd3
    obtain ⟨z, h50⟩ := powOr b4 0
    obtain ⟨n, h70⟩ := powOr b6 z
    exact ⟨n, Ev.congr (fun k => rfl) (Ev.bind h2 (Ev.bind h7 (Ev.bind h5 (Ev.bind (a := z) (Ev.congr (fun _ => h50) (Ev.now _)) (Ev.bind (a := n) (Ev.congr (fun _ => h70) (Ev.now _)) (Ev.now _))))))⟩
  | false =>
    by_cases e : u.toList = c.toList
    · exact ⟨100, Ev.congr (f := fun _ => some 100) (fun k => by rw [power_Level.f, if_neg (by decide), if_pos e]) (Ev.now _)⟩
    · exact ⟨0, Ev.congr (f := fun _ => some 0) (fun k => by rw [power_Level.f, if_neg (by decide), if_neg e]) (Ev.now _)⟩
def pwR : ByteArray := ⟨#[109, 46, 114, 111, 111, 109, 46, 112, 111, 119, 101, 114, 95, 108, 101, 118, 101, 108, 115]⟩
def crR : ByteArray := ⟨#[109, 46, 114, 111, 111, 109, 46, 99, 114, 101, 97, 116, 101]⟩
def lvlArgs (l : List SEr) (g : List (List Int)) (n : Int) : SVl × Bool × ByteArray × ByteArray :=
  (if 0 ≤ byF l g n pwR then (rd_T50 l (byF l g n pwR)).f10 else ⟨0, 0, ⟨#[]⟩, [], []⟩, decide (byF l g n pwR ≥ 0), if byF l g n crR < 0 then ⟨#[]⟩ else (rd_T50 l (byF l g n crR)).f4, (rd_T50 l n).f4)
def LvlIs (a : SVl × Bool × ByteArray × ByteArray) (z : Int) : Prop := Ev (fun k => power_Level.f k a.1.f0 a.1.f1 a.1.f2 a.1.f3 a.1.f4 a.2.1 a.2.2.1 a.2.2.2) z
theorem atR_in (l : List SEr) (p : Int) (h0 : 0 ≤ p) (h1 : p < l.length) : order_at.f l p = some ((rd_T50 l p).f0, (rd_T50 l p).f1, (rd_T50 l p).f2, (rd_T50 l p).f3, (rd_T50 l p).f4, (rd_T50 l p).f5, (rd_T50 l p).f6, (rd_T50 l p).f7, (rd_T50 l p).f8, (rd_T50 l p).f9, (rd_T50 l p).f10.f0, (rd_T50 l p).f10.f1, (rd_T50 l p).f10.f2, (rd_T50 l p).f10.f3, (rd_T50 l p).f10.f4) := by
  rw [order_at.f, if_neg (by omega), if_pos h0, if_pos h1]
theorem atR_out (l : List SEr) (p : Int) (h0 : p < 0) : order_at.f l p = some ((⟨#[]⟩ : ByteArray), (⟨#[]⟩ : ByteArray), (⟨#[]⟩ : ByteArray), false, (⟨#[]⟩ : ByteArray), (⟨#[]⟩ : ByteArray), ([] : List ByteArray), ([] : List ByteArray), 0, 0, 0, 0, (⟨#[]⟩ : ByteArray), ([] : List ByteArray), ([] : List SVl)) := by
  rw [order_at.f, if_pos h0]
theorem lvl_ev (l : List SEr) (g : List (List Int)) (n : Int) (h0 : 0 ≤ n) (h1 : n < l.length) (hq : ∀ x ∈ l, Dm 41 x.f10) : ∃ z : Int, LvlIs (lvlArgs l g n) z ∧ Ev (fun k => order_Level.f k l g n) z := by
  have bd : ∀ kind : ByteArray, byF l g n kind < l.length := fun kind => by
    rcases byF_spec (l := l) (g := g) (n := n) (kind := kind) with h | ⟨_, _, _, _, h⟩
    · rw [h]; omega
    · exact (slotIs_bd h).2.1
  have hp := bd pwR
  have hm := bd crR
  unfold LvlIs lvlArgs
  obtain ⟨p, hpe⟩ : ∃ p, p = byF l g n pwR := ⟨_, rfl⟩
  obtain ⟨m, hme⟩ : ∃ m, m = byF l g n crR := ⟨_, rfl⟩
  rw [← hpe, ← hme]
  rw [← hpe] at hp
  rw [← hme] at hm
  have hbp : order_By.f l g n (⟨#[109, 46, 114, 111, 111, 109, 46, 112, 111, 119, 101, 114, 95, 108, 101, 118, 101, 108, 115]⟩ : ByteArray) = some p := by rw [hpe]; rfl
  have hbm : order_By.f l g n (⟨#[109, 46, 114, 111, 111, 109, 46, 99, 114, 101, 97, 116, 101]⟩ : ByteArray) = some m := by rw [hme]; rfl
  have hc : ∃ t, order_at.f l m = some t ∧ t.2.2.2.2.1 = (if m < 0 then (⟨#[]⟩ : ByteArray) else (rd_T50 l m).f4) := by
    by_cases h0 : m < 0
    · exact ⟨_, atR_out l m h0, by rw [if_pos h0]⟩
    · exact ⟨_, atR_in l m (by omega) hm, by rw [if_neg h0]⟩
  obtain ⟨t, ht, hts⟩ := hc
  have hb : ∃ a, order_at.f l p = some a ∧ (a.2.2.2.2.2.2.2.2.2.2.1, a.2.2.2.2.2.2.2.2.2.2.2.1, a.2.2.2.2.2.2.2.2.2.2.2.2.1, a.2.2.2.2.2.2.2.2.2.2.2.2.2.1, a.2.2.2.2.2.2.2.2.2.2.2.2.2.2) = (fun x : SVl => (x.f0, x.f1, x.f2, x.f3, x.f4)) (if 0 ≤ p then (rd_T50 l p).f10 else ⟨0, 0, ⟨#[]⟩, [], []⟩) := by
    by_cases h0 : 0 ≤ p
    · exact ⟨_, atR_in l p h0 hp, by rw [if_pos h0]⟩
    · exact ⟨_, atR_out l p (by omega), by rw [if_neg h0]⟩
  obtain ⟨a, ha, has⟩ := hb
  have hdm : Dm 41 (if 0 ≤ p then (rd_T50 l p).f10 else (⟨0, 0, ⟨#[]⟩, [], []⟩ : SVl)) := by
    by_cases h0 : 0 ≤ p
    · rw [if_pos h0]
      refine hq _ ?_
      show l.getD p.toNat _ ∈ l
      rw [List.getD_eq_getElem?_getD, List.getElem?_eq_getElem (by omega)]
      exact List.getElem_mem _
    · rw [if_neg h0]; exact Dm.le (d := 0) ⟨Nat.zero_le _, rfl⟩ (Nat.zero_le _)
  obtain ⟨v, hv⟩ : ∃ v, v = (if 0 ≤ p then (rd_T50 l p).f10 else (⟨0, 0, ⟨#[]⟩, [], []⟩ : SVl)) := ⟨_, rfl⟩
  rw [← hv] at has hdm ⊢
  obtain ⟨z, hz⟩ := powLvl_ev v (decide (p ≥ 0)) (if m < 0 then (⟨#[]⟩ : ByteArray) else (rd_T50 l m).f4) (rd_T50 l n).f4 hdm (by decide)
  refine ⟨z, hz, ?_⟩
  rw [← hts] at hz
  simp only [Prod.mk.injEq] at has
  obtain ⟨e0, e1, e2, e3, e4⟩ := has
  rw [← e0, ← e1, ← e2, ← e3, ← e4] at hz
  refine Ev.congr (f := fun k => order_Level.j0 k l g n false) (fun k => ?_) (Ev.step (fun k => ?_) (Ev.bind hz (f := fun _ t => some t) (Ev.now _)))
  · show order_Level.f k l g n = _
    rw [order_Level.f, if_neg (by omega), show decide (n ≥ (l.length : Int)) = false from decide_eq_false (by omega)]
  · show order_Level.j0 (k + 1) l g n false = _
    rw [order_Level.j0, if_neg (by decide), hbp, Option.bind_some, ha, Option.bind_some, hbm, Option.bind_some, ht, Option.bind_some, if_pos h0, if_pos h1]
def rankGo : List Int → Nat → List Int → List Int
  | r, _, [] => r
  | r, i, x :: s => rankGo (r.set x.toNat (i : Int)) (i + 1) s
theorem rankGo_len : ∀ (s : List Int) (r : List Int) (i : Nat), (rankGo r i s).length = r.length
  | [], _, _ => rfl
  | x :: s, r, i => by rw [rankGo, rankGo_len s]; simp
def rankL (n : Nat) (s : List Int) : List Int := rankGo (List.replicate n 0) 0 s
def rankedL (l : List SEr) (g : List (List Int)) (lv : Int → Int) (xs : List Int) : List Int := ordL g (placesL l.length xs) (rankL l.length (sortedL l lv (placesL l.length xs)))
theorem placesR_len (n : Nat) (xs : List Int) : (placesL n xs).length ≤ xs.length := Nat.le_trans (riseL_length _) (List.length_filter_le _ _)
theorem placesR_mem {n : Nat} {xs : List Int} {x : Int} : x ∈ placesL n xs ↔ x ∈ xs ∧ 0 ≤ x ∧ x < (n : Int) := by
  show x ∈ riseL _ ↔ _
  rw [(riseL_spec _).2, List.mem_filter]
  unfold outP
  constructor
  · rintro ⟨h1, h2⟩
    simp at h2
    exact ⟨h1, by omega, by omega⟩
  · rintro ⟨h1, h2, h3⟩
    refine ⟨h1, ?_⟩
    simp
    omega
theorem placesR_rise (n : Nat) (xs : List Int) : (placesL n xs).Pairwise (· < ·) := (riseL_spec _).1
def Steps (g : List (List Int)) (rank : List Int) : List Int → List Int → Prop
  | W, [] => W = []
  | W, n :: o => n ∈ W ∧ freeIn g W n = true ∧ (∀ x ∈ W, freeIn g W x = true → lessN rank x n = false) ∧ Steps g rank (W.filter fun k => decide (k ≠ n)) o
theorem rch_low {g : List (List Int)} (hb : ∀ n, n < g.length → ∀ x ∈ g.getD n [], 0 ≤ x ∧ x < (n : Int)) {n : Int} (h0 : 0 ≤ n) (h1 : n < g.length) {x : Int} (h : Rch g (g.getD n.toNat []) x) : x < n := by
  induction h with
  | base h2 _ _ => have := hb n.toNat (by omega) _ h2; omega
  | step h2 h3 ih => have := h3.2.2.2; omega
theorem ordGo_steps {g : List (List Int)} (hb : ∀ n, n < g.length → ∀ x ∈ g.getD n [], 0 ≤ x ∧ x < (n : Int)) (rank : List Int) : ∀ (f : Nat) (W : List Int), W.Nodup → (∀ x ∈ W, 0 ≤ x ∧ x < g.length) → W.length ≤ f →
    Steps g rank W (ordGo g rank f W) ∧ (ordGo g rank f W).length = W.length
  | 0, W, _, _, hl => by
    have : W = [] := List.eq_nil_of_length_eq_zero (by omega)
    subst this
    exact ⟨rfl, rfl⟩
  | f + 1, W, hn, hv, hl => by
    by_cases hW : W = []
    · subst hW; exact ⟨rfl, rfl⟩
    · have hmin : ∃ m ∈ W, ∀ x ∈ W, m ≤ x := by
        clear hl hn hv
        induction W with
        | nil => exact absurd rfl hW
        | cons a l ih =>
          by_cases hl : l = []
          · subst hl; exact ⟨a, by simp, by simp⟩
          · obtain ⟨m, hm, hle⟩ := ih hl
            by_cases h : a ≤ m
            · exact ⟨a, by simp, fun x hx => by
                rcases List.mem_cons.1 hx with rfl | hx
                · omega
                · have := hle x hx; omega⟩
            · exact ⟨m, by simp [hm], fun x hx => by
                rcases List.mem_cons.1 hx with rfl | hx
                · omega
                · exact hle x hx⟩
      obtain ⟨m, hm, hle⟩ := hmin
      have hfree : freeIn g W m = true := by
        unfold freeIn
        simp only [Bool.not_eq_true', List.any_eq_false]
        intro k hk hr
        have := rch_low hb (hv m hm).1 (hv m hm).2 (rchB_iff.1 hr)
        have := hle k hk
        omega
      have hmF : m ∈ W.filter (freeIn g W) := List.mem_filter.2 ⟨hm, hfree⟩
      have hgo : ordGo g rank (f + 1) W = (match W.filter (freeIn g W) with | [] => [] | x :: l => leastN rank x l :: ordGo g rank f (W.filter fun k => decide (k ≠ leastN rank x l))) := rfl
      cases hF : W.filter (freeIn g W) with
      | nil => rw [hF] at hmF; cases hmF
      | cons x l =>
        rw [hF] at hgo
        change _ = leastN rank x l :: ordGo g rank f (W.filter fun k => decide (k ≠ leastN rank x l)) at hgo
        obtain ⟨hn0, hn1⟩ := leastN_spec rank l x
        rw [← hF] at hn0 hn1
        generalize leastN rank x l = n at hgo hn0 hn1
        obtain ⟨hnW, hnf⟩ := List.mem_filter.1 hn0
        have hsub : (W.filter fun k => decide (k ≠ n)).length + 1 ≤ W.length := by
          have h1 := List.length_filter_lt_length_iff_exists (p := fun k => decide (k ≠ n)) (l := W)
          have := h1.2 ⟨n, hnW, by simp⟩
          omega
        have hsub2 : W.length ≤ (W.filter fun k => decide (k ≠ n)).length + 1 := by
          have h2 := hn.length_le_of_subset (l₂ := n :: W.filter fun k => decide (k ≠ n)) (fun z hz => by
            by_cases e : z = n
            · simp [e]
            · exact List.mem_cons_of_mem _ (List.mem_filter.2 ⟨hz, by simpa using e⟩))
          simpa using h2
        obtain ⟨i1, i2⟩ := ordGo_steps hb rank f (W.filter fun k => decide (k ≠ n)) (hn.sublist List.filter_sublist) (fun x hx => hv x (List.mem_filter.1 hx).1) (by omega)
        rw [hgo]
        exact ⟨⟨hnW, hnf, fun y hy hyf => hn1 y (List.mem_filter.2 ⟨hy, hyf⟩), i1⟩, by rw [List.length_cons, i2]; omega⟩
theorem rankedL_steps {l : List SEr} {g : List (List Int)} (hgl : g.length = l.length) (hb : ∀ n, n < g.length → ∀ x ∈ g.getD n [], 0 ≤ x ∧ x < (n : Int)) (lv : Int → Int) (xs : List Int) :
    Steps g (rankL l.length (sortedL l lv (placesL l.length xs))) (placesL l.length xs) (rankedL l g lv xs) ∧ (rankedL l g lv xs).length = (placesL l.length xs).length := by
  have hs : setL g (placesL l.length xs) = placesL l.length xs := by
    refine rises_eq (pickL_rises g _) (placesR_rise _ _) (fun x => ?_)
    show x ∈ setL g _ ↔ _
    rw [mem_setL]
    exact ⟨fun h => h.2, fun h => ⟨by have := (placesR_mem.1 h).2; omega, h⟩⟩
  unfold rankedL ordL
  rw [hs]
  exact ordGo_steps hb _ _ _ ((placesR_rise _ _).imp (fun h e => by omega)) (fun x hx => by have := (placesR_mem.1 hx).2; omega) (Nat.le_refl _)
theorem madeInts (n : Nat) : madeCells #[Value.int .i64 0] n = ((List.replicate n (0 : Int)).map (Value.int .i64)).toArray := by
  have h : ∀ x : Nat, (#[Value.int .i64 0])[x % (#[Value.int .i64 0]).size]! = Value.int .i64 0 := fun x => by
    have h1 : x % (#[Value.int .i64 0]).size = 0 := Nat.mod_one x
    rw [h1]; rfl
  unfold madeCells
  rw [show (fun x : Nat => (#[Value.int .i64 0])[x % (#[Value.int .i64 0]).size]!) = fun _ => Value.int .i64 0 from funext h]
  apply Array.toList_inj.1
  rw [Array.toList_map, Array.toList_range, List.map_replicate]
  apply List.ext_getElem?
  intro j
  rw [List.getElem?_map]
  by_cases hj : j < n
  · rw [List.getElem?_range hj, List.getElem?_replicate, if_pos hj]; rfl
  · rw [List.getElem?_eq_none (by simpa using hj), List.getElem?_eq_none (by simpa using hj)]; rfl
theorem setInts (ms : List Int) (b : Nat) (u : Int) : (ms.map (Value.int .i64)).toArray.setIfInBounds b (.int .i64 u) = ((ms.set b u).map (Value.int .i64)).toArray := by
  apply Array.toList_inj.1
  rw [Array.toList_setIfInBounds, List.map_set]
set_option maxHeartbeats 2000000 in
set_option maxRecDepth 100000 in
theorem ranked_1.walk (AL : Option Addr) (cL : Nat) (l : List SEr) (AG : Option Addr) (cG : Nat) (g : List (List Int)) (bl bg : Nat) (n z : Int) (k : Nat) (w : World)
    (hbl : w.cell? ⟨bl, 0, none⟩ = some (.slice AL l.length cL)) (hbg : w.cell? ⟨bg, 0, none⟩ = some (.slice AG g.length cG)) (hL : Kd.C k50 w AL l.length l) (hcL : l.length ≤ cL) (hG : Kd.C (Kd.slice 3 (Kd.int .i64)) w AG g.length g) (hcG : g.length ≤ cG) (h : order_Level.f k l g n = some z) :
    Calls Tryz.prog 33 #[.int .i64 n, .pointer (some ⟨bl, 0, none⟩), .pointer (some ⟨bg, 0, none⟩)] w fun e w' => e = .returned (.int .i64 z) ∧ Below w.heap.size w w' := by
  have HC := Aside0.mk (order_Level.calls k AL cL l AG cG g n z w hL hcL hG hcG h)
  clear hL hG h hcL hcG
  go_enter Tryz.func33, Tryz.ntmps33
  go_wp2_with (go_at_call 13; refine HC.out.mono ?_; rintro e w2 ⟨rfl, hb2⟩; replace hb2 := Aside0.mk hb2)
  go_ret
  exact ⟨rfl, hb2.out⟩
set_option maxHeartbeats 4000000 in
set_option maxRecDepth 100000 in
theorem order_Ranked.walk (AL : Option Addr) (cL : Nat) (l : List SEr) (AG : Option Addr) (cG : Nat) (g : List (List Int)) (A1 : Option Addr) (c1 : Nat) (xs : List Int) (lv : Int → Int) (w : World)
    (hL : Kd.C k50 w AL l.length l) (hcL : l.length ≤ cL) (hG : Kd.C (Kd.slice 3 (Kd.int .i64)) w AG g.length g) (hcG : g.length ≤ cG) (hX : Kd.C (Kd.int .i64) w A1 xs.length xs) (hl : l.length ≤ 100000) (hgl : g.length ≤ 100000) (hlim : xs.length ≤ 100000)
    (hlv : ∀ x : Int, 0 ≤ x → x < (l.length : Int) → Ev (fun k => order_Level.f k l g x) (lv x)) :
    Calls Tryz.prog 10 #[.slice AL l.length cL, .slice AG g.length cG, .slice A1 xs.length c1] w fun e w' => ∃ v, e = .returned v ∧ Kd.R (Kd.int .i64) 3 w' w.heap.size (fun _ => True) v (rankedL l g lv xs) ∧ Below w.heap.size w w' := by
  have hmf : ∀ (fn : Fn) (first cap : Array Value) (w : World), (Instr.makeFunc fn first cap).run Tryz.prog w = .ok (.func fn first cap) w := fun _ _ _ _ => rfl
  have HPL := Aside0.mk (fun (W : World) (hb : Below w.heap.size w W) => places.walk AL l.length cL A1 c1 xs W (Kd.C_below hX hb) (by omega))
  have hlen := placesR_len l.length xs
  have hin : ∀ x ∈ placesL l.length xs, 0 ≤ x ∧ x < (l.length : Int) := fun x hx => (placesR_mem.1 hx).2
  obtain ⟨all, hall⟩ : ∃ all, all = placesL l.length xs := ⟨_, rfl⟩
  rw [← hall] at hlen hin HPL
  obtain ⟨s, hs⟩ : ∃ s, s = sortedL l lv all := ⟨_, rfl⟩
  have hsp : s.Perm all := by rw [hs]; exact sortedL_perm l lv all
  have hsl : s.length ≤ 100000 := by rw [hsp.length_eq]; omega
  have HSI : Aside0 (∀ x ∈ s, 0 ≤ x ∧ x < (l.length : Int)) := ⟨fun x hx => hin x (hsp.mem_iff.1 hx)⟩
  obtain ⟨rz, hrz⟩ : ∃ rz, rz = List.replicate l.length (0 : Int) := ⟨_, rfl⟩
  have HRZ : Aside0 (rz.length = l.length) := ⟨by rw [hrz]; simp⟩
  have HRES : Aside0 (rankedL l g lv xs = ordL g all (rankGo rz 0 s)) := ⟨by unfold rankedL; rw [← hall, ← hs, hrz]; rfl⟩
  have hmk : ∀ W : World, (Instr.makeSlice 27 (.int .i64 (l.length : Int)) (.int .i64 (l.length : Int))).run Tryz.prog W = .ok (.slice (some ⟨W.heap.size, 0, none⟩) l.length l.length) (W.alloc (.cells (rz.map (Value.int .i64)).toArray 3)) := fun W => by
    have := run_make_row' (P := Tryz.prog) 27 3 (.int .i64 0) 8 Tryz.underlying27 (by kernel_rfl) rfl .i64 .i64 l.length (by omega) (by omega) W
    rw [madeInts, ← hrz] at this; exact this
  have HMK := Aside0.mk hmk
  have HS := Aside0.mk hs
  have HLEN : Aside0 (all.length ≤ 100000) := ⟨by omega⟩
  have HIN := Aside0.mk hin
  have HL := Aside0.mk hL
  have HG := Aside0.mk hG
  have HCL := Aside0.mk hcL
  have HCG := Aside0.mk hcG
  have HLV := Aside0.mk hlv
  clear hL hG hX hall hlen hin hcL hcG hlv hs hsp hrz hmk
  go_enter Tryz.func10, Tryz.ntmps10
  go_upto_region 1 with fail
  generalize hW1 : World.alloc (World.alloc w _) _ = W1
  have hb1 : Below w.heap.size w W1 := by rw [← hW1]; exact ((Below.refl _ _).alloc (Nat.le_refl _) _).alloc (by simp) _
  have hx1 : W1.heap[w.heap.size]? = some (.cells #[.slice AL l.length cL] 23 (0, 0)) := by rw [← hW1]; exact (heap_alloc_old _ _ (by simp)).trans (heap_alloc_new w _)
  have hx2 : W1.heap[w.heap.size + 1]? = some (.cells #[.slice AG g.length cG] 24 (0, 0)) := by rw [← hW1]; exact heap_alloc2_new w _ _
  have x1 : W1.cell? ⟨w.heap.size, 0, none⟩ = some (.slice AL l.length cL) := blk_cell hx1 0
  have x2 : W1.cell? ⟨w.heap.size + 1, 0, none⟩ = some (.slice AG g.length cG) := blk_cell hx2 0
  have HX1 := Aside0.mk x1
  have HX2 := Aside0.mk x2
  clear x2
  have HB1 := Aside0.mk hb1
  clear hW1 hb1 hx1 hx2
  go_upto_region 2 with (go_at_call 31; refine (HPL.out _ HB1.out).mono ?_; rintro e W2 ⟨v2, rfl, hr2, hb2⟩; obtain ⟨A2, c2, rfl⟩ := Kd.R_slice hr2; have HB2 := Aside0.mk hb2; have HR2 := Aside0.mk hr2; clear hr2 hb2)
  clear x1
  have x1 := pw_cell_below HB2.out HX1.out
  have hmk := HMK.out
  go_upto_region 3 with fail
  generalize hW3 : World.alloc W2 _ = W3
  have hb3 : Below W2.heap.size W2 W3 := by rw [← hW3]; exact (Below.refl _ _).alloc (Nat.le_refl _) _
  have hx3 : W3.heap[W2.heap.size]? = some (.cells (rz.map (Value.int .i64)).toArray 3 (0, 0)) := by rw [← hW3]; exact heap_alloc_new W2 _
  clear x1
  have HB23 := Aside0.mk (below_then HB2.out HB2.out.size hb3)
  have x1 := pw_cell_below HB23.out HX1.out
  have HX1' := Aside0.mk (pw_cell_below HB23.out HX1.out)
  have HX2' := Aside0.mk (pw_cell_below HB23.out HX2.out)
  have HX3 := Aside0.mk hx3
  have HB3 := Aside0.mk (below_then HB1.out HB1.out.size HB23.out)
  have HC2 := Aside0.mk (Kd.C_below (Kd.R_reads' HR2.out).2.2 hb3)
  have hgb : w.heap.size ≤ W2.heap.size := Nat.le_trans HB1.out.size HB2.out.size
  have HB32 := Aside0.mk hb3
  clear hW3 hb3 hx3 hmk
  have HSO : Aside0 (Calls Tryz.prog 32 #[.slice AL l.length cL, .slice A2 all.length c2, .func (.func 33) #[] #[.pointer (some ⟨w.heap.size, 0, none⟩), .pointer (some ⟨w.heap.size + 1, 0, none⟩)]] W3 fun e w' => ∃ v, e = .returned v ∧ Kd.R (Kd.int .i64) 3 w' W3.heap.size (fun _ => True) v s ∧ Below W3.heap.size W3 w') := ⟨by
    rw [HS.out]
    exact order_sorted.walk AL cL l A2 c2 all 33 #[.pointer (some ⟨w.heap.size, 0, none⟩), .pointer (some ⟨w.heap.size + 1, 0, none⟩)] lv W3 (enters_of Tryz.func33 (by kernel_rfl) rfl) (Kd.C_below HL.out HB3.out) HC2.out HIN.out (by have := HLEN.out; omega)
      (fun n hn W' hW' => by
        obtain ⟨k, hk⟩ := (HLV.out n (HIN.out n hn).1 (HIN.out n hn).2).rounds
        exact ranked_1.walk AL cL l AG cG g w.heap.size (w.heap.size + 1) n (lv n) k W' (pw_cell_below hW' HX1'.out) (pw_cell_below hW' HX2'.out) (Kd.C_below HL.out (below_then HB3.out HB3.out.size hW')) HCL.out (Kd.C_below HG.out (below_then HB3.out HB3.out.size hW')) HCG.out hk)⟩
  go_upto_block 0 with (go_at_call 32; refine HSO.out.mono ?_; rintro e W4 ⟨v4, rfl, hr4, hb4⟩; obtain ⟨A4, c4, rfl⟩ := Kd.R_slice hr4; have HB4 := Aside0.mk hb4; have HC4 := Aside0.mk (Kd.R_reads' hr4).2.2; have HR4 := Aside0.mk hr4; clear hr4 hb4)
  clear x1
  have HX4 : Aside0 (W4.heap[W2.heap.size]? = some (.cells (rz.map (Value.int .i64)).toArray 3 (0, 0))) := ⟨(HB4.out.block _ (blk_lt HX3.out)).trans HX3.out⟩
  have hlt3 : W2.heap.size < W3.heap.size := blk_lt HX3.out
  go_cut [] (fun wx => Aside0 (wx.heap[W2.heap.size]? = some (.cells ((rankGo rz 0 s).map (Value.int .i64)).toArray 3 (0, 0))) ∧ Aside0 (W4.grownBy wx (some W2.heap.size)))
  case first =>
    have HG0 := Aside0.mk (World.grownBy.refl W4 (some W2.heap.size))
    go_wp2_with fail
    go_loopg [9, 10, 22] s.length (fun gg v9 v10 v22 wr => ∃ (i : Nat) (r : List Int), i ≤ s.length ∧ s.length - i ≤ gg ∧ v22 = .int .i64 (i : Int) ∧ r.length = l.length ∧ Aside0 (rankGo r i (s.drop i) = rankGo rz 0 s) ∧ Aside0 (wr.heap[W2.heap.size]? = some (.cells (r.map (Value.int .i64)).toArray 3 (0, 0))) ∧ Aside0 (W4.grownBy wr (some W2.heap.size)))
    case atStart => exact ⟨0, rz, Nat.zero_le _, by omega, rfl, HRZ.out, ⟨by rw [List.drop_zero]⟩, HX4, HG0⟩
    case round =>
      obtain ⟨i, r, hi, hgg, rfl, hrl, HGO, HRW, HGR⟩ := hrel
      by_cases hlt : i < s.length
      · have hltz : (i : Int) < (s.length : Int) := by omega
        obtain ⟨g4, cap4, e4, hg4⟩ := row_form HR4.out (by omega)
        obtain ⟨e5, e6⟩ : A4 = some ⟨g4, 0, none⟩ ∧ c4 = cap4 := by
          injection e4 with h1 _ h2
          exact ⟨h1, h2⟩
        subst e5
        obtain ⟨ad, e, hx0⟩ := C_num HC4.out hlt
        cases e
        have hxs : s[i] ∈ s := List.getElem_mem hlt
        have hdr : s.drop i = s[i] :: s.drop (i + 1) := List.drop_eq_getElem_cons hlt
        obtain ⟨x, hx⟩ : ∃ x, x = s[i] := ⟨_, rfl⟩
        rw [← hx] at hx0 hxs hdr
        obtain ⟨h0, h1⟩ := HSI.out x hxs
        obtain ⟨m, rfl⟩ : ∃ m : Nat, x = (m : Int) := ⟨x.toNat, by omega⟩
        rw [add_plain] at hx0
        replace hx0 := cell_by HGR.out hx0 (fun e => by have := Option.some.inj e; simp at this; omega)
        have hml : m < r.length := by omega
        have hce : wr.cell? ⟨W2.heap.size, m, none⟩ = some (.int .i64 r[m]) := by rw [blk_cell HRW.out m]; simp [hml]
        have hfr := blk_frozen HRW.out m
        have HGO2 : Aside0 (rankGo (r.set m (i : Int)) (i + 1) (s.drop (i + 1)) = rankGo rz 0 s) := ⟨by rw [← HGO.out, hdr, rankGo, Int.toNat_natCast]⟩
        have HRW2 : Aside0 ((wr.setCell ⟨W2.heap.size, m, none⟩ (.int .i64 (i : Int))).heap[W2.heap.size]? = some (.cells ((r.set m (i : Int)).map (Value.int .i64)).toArray 3 (0, 0))) := ⟨blk_put HRW.out m _ (setInts r m i)⟩
        have HGR2 := Aside0.mk (HGR.out.trans (grown_setCell wr ⟨W2.heap.size, m, none⟩ (.int .i64 (i : Int))))
        have hrl2 : (r.set m (i : Int)).length = l.length := by rw [List.length_set]; exact hrl
        obtain ⟨old, hold⟩ : ∃ old, old = r[m] := ⟨_, rfl⟩
        rw [← hold] at hce
        obtain ⟨r2, hr2⟩ : ∃ r2, r2 = r.set m (i : Int) := ⟨_, rfl⟩
        rw [← hr2] at HGO2 HRW2 hrl2
        clear hx hxs hdr hold hr2
        go_wp2_with fail
        go_roundg (s.length - (i + 1))
        case measure => omega
        case rel => exact ⟨i + 1, r2, by omega, by omega, by go_num, hrl2, HGO2, HRW2, HGR2⟩
      · have hltz : ¬ (i : Int) < (s.length : Int) := by omega
        have HE : Aside0 (r = rankGo rz 0 s) := ⟨by rw [← HGO.out, List.drop_eq_nil_of_le (by omega)]; rfl⟩
        go_wp2_with fail
        go_meet
        exact ⟨⟨by rw [← HE.out]; exact HRW.out⟩, HGR⟩
  case rest =>
    obtain ⟨HRW, HGR⟩ := hcut
    obtain ⟨rk, hrk⟩ : ∃ rk, rk = rankGo rz 0 s := ⟨_, rfl⟩
    have hrkl : rk.length = l.length := by rw [hrk, rankGo_len]; exact HRZ.out
    rw [← hrk] at HRW HRES
    have HB4' := below_then HB3.out HB3.out.size HB4.out
    have HBX := Aside0.mk (pw_below_grown HB4' (some W2.heap.size) HB4'.size HGR.out (fun k hk => by cases hk; exact hgb))
    have x2 : wc.cell? ⟨w.heap.size + 1, 0, none⟩ = some (.slice AG g.length cG) := cell_by HGR.out (pw_cell_below HB4.out HX2'.out) (fun e => by have := Option.some.inj e; have h6 := World.block_lt_of_cell? _ _ HX2.out; have h7 := HB2.out.size; simp at this h6; omega)
    have hCr : Kd.C (Kd.int .i64) wc (some ⟨W2.heap.size, 0, none⟩) rk.length rk := Flat.C_mk (flatScalar (Value.int .i64) (fun _ => rfl)) (by omega) (fun j u hj => by rw [add_plain, blk_cell HRW.out]; simpa [flatMap_one] using hj)
    have hCa : Kd.C (Kd.int .i64) wc A2 all.length all := by
      have h1 := Kd.R_grown (Kd.R_below (Kd.R_below (Kd.R_bound HR2.out) HB32.out) HB4.out) HGR.out (fun k hk e => by have := hk.2.2.1; cases e; omega)
      exact (Kd.R_reads' h1).2.2
    have HGO := Aside0.mk (graph_Order.walk AG cG g A2 c2 all (some ⟨W2.heap.size, 0, none⟩) rk.length rk wc (Kd.C_below HG.out HBX.out) hCa hCr (by omega))
    rw [hrkl] at HGO
    clear hCr hCa hrk hrkl HRW
    go_wp2_with (go_at_call 34; refine HGO.out.mono ?_; rintro e W5 ⟨v5, rfl, hr5, hb5⟩; have HR5 := Aside0.mk hr5; have HB5 := Aside0.mk hb5; clear hr5 hb5)
    go_ret
    rw [HRES.out]
    exact ⟨_, rfl, Kd.R_lower HR5.out HBX.out.size, below_then HBX.out HBX.out.size HB5.out⟩
open Go.Proofs.He Go.Shelf
attribute [local go_sem] Oper.semAt_some
theorem idxQ {x : Int} {l : List Int} : 0 ≤ idxOf (fun y => decide (y = x)) l ↔ x ∈ l := by
  unfold idxOf
  cases hf : l.findIdx? (fun y => decide (y = x)) with
  | none =>
    rw [List.findIdx?_eq_none_iff] at hf
    exact ⟨fun h => absurd h (by decide), fun h => by have := hf x h; simp at this⟩
  | some i =>
    obtain ⟨hi, h1, h2⟩ := List.findIdx?_eq_some_iff_getElem.1 hf
    exact ⟨fun _ => by have := of_decide_eq_true h1; rw [← this]; exact List.getElem_mem hi, fun _ => by show (0 : Int) ≤ (i : Int); omega⟩
set_option maxHeartbeats 2000000 in
set_option maxRecDepth 100000 in
theorem indexV.walk (A0 : Option Addr) (c0 : Nat) (l : List Int) (x : Int) (w : World) (hr0 : Kd.C (Kd.int .i64) w A0 l.length l) :
    Calls Tryz.prog 41 #[.slice A0 l.length c0, .int .i64 x] w fun e w' => e = .returned (.int .i64 (idxOf (fun y => decide (y = x)) l)) ∧ w = w' := by
  have HR := Aside0.mk hr0
  have hl : l.length ≤ 9223372036854775807 := hr0.2.1
  clear hr0
  go_enter Tryz.func41, Tryz.ntmps41
  go_wp2
  go_loopg [5, 8] l.length (fun gg v5 v8 wr => ∃ i : Nat, i ≤ l.length ∧ l.length - i ≤ gg ∧ v8 = .int .i64 (i : Int) ∧ w = wr ∧ Aside0 (∀ (j : Nat), j < i → ∀ (y : Int), l[j]? = some y → decide (y = x) = false))
  case atStart => exact ⟨0, Nat.zero_le _, by omega, rfl, rfl, ⟨fun j hj => absurd hj (Nat.not_lt_zero _)⟩⟩
  case round =>
    obtain ⟨i, hi, hgg, rfl, rfl, HN⟩ := hrel
    by_cases hlt : i < l.length
    · have hltz : (i : Int) < (l.length : Int) := by omega
      obtain ⟨ad, e, hx⟩ := C_num HR.out hlt
      cases e
      obtain ⟨y, hy⟩ : ∃ y, y = l[i] := ⟨_, rfl⟩
      rw [← hy] at hx
      have HY : Aside0 (y = l[i]) := ⟨hy⟩
      clear hy
      by_cases he : x = y
      · have hb : (x == y) = true := beq_iff_eq.2 he
        have HE := Aside0.mk he
        clear he
        go_wp2
        go_ret
        exact ⟨by rw [idxOf_hit hlt HN.out (by rw [← HY.out, HE.out]; exact decide_eq_true rfl)]; rfl, rfl⟩
      · have hb : (x == y) = false := beq_eq_false_iff_ne.2 he
        have HN2 : Aside0 (∀ (j : Nat), j < i + 1 → ∀ (z : Int), l[j]? = some z → decide (z = x) = false) := ⟨fun j hj z hz => by
          by_cases e : j = i
          · subst e
            rw [List.getElem?_eq_getElem hlt] at hz
            cases hz
            exact decide_eq_false (fun e => he (by rw [HY.out, e]))
          · exact HN.out j (by omega) z hz⟩
        clear he HN
        go_wp2
        go_roundg (l.length - (i + 1))
        case measure => omega
        case rel => exact ⟨i + 1, by omega, by omega, by go_num, rfl, HN2⟩
    · have hj : i = l.length := by omega
      go_wp2
      go_ret
      exact ⟨by rw [idxOf_miss (fun j hj => HN.out j (by omega))]; rfl, rfl⟩
def nearF (line : List Int) : List Int → Int
  | [] => (line.length : Int)
  | k :: r => if k ∈ line then idxOf (fun y => decide (y = k)) line else nearF line r
theorem nearF_none {line xs : List Int} (h : ∀ k ∈ xs, k ∉ line) : nearF line xs = (line.length : Int) := by
  induction xs with
  | nil => rfl
  | cons k r ih => rw [nearF, if_neg (h k List.mem_cons_self)]; exact ih (fun y hy => h y (List.mem_cons_of_mem _ hy))
theorem nearF_at {line pre xs : List Int} {k : Int} (h : ∀ k ∈ pre, k ∉ line) (hk : k ∈ line) (hp : pre ++ [k] <+: xs) : nearF line xs = idxOf (fun y => decide (y = k)) line := by
  obtain ⟨t, rfl⟩ := hp
  induction pre with
  | nil => show nearF line (k :: t) = _; rw [nearF, if_pos hk]
  | cons a r ih =>
    show nearF line (a :: (r ++ [k] ++ t)) = _
    rw [nearF, if_neg (h a List.mem_cons_self)]
    exact ih (fun y hy => h y (List.mem_cons_of_mem _ hy))
set_option maxHeartbeats 4000000 in
set_option maxRecDepth 100000 in
theorem mained_1.walk (AL : Option Addr) (cL : Nat) (l : List SE) (AG : Option Addr) (cG : Nat) (g : List (List Int)) (AN : Option Addr) (cN : Nat) (line : List Int) (bl bg bn : Nat) (n : Int) (w : World)
    (hbl : w.cell? ⟨bl, 0, none⟩ = some (.slice AL l.length cL)) (hbg : w.cell? ⟨bg, 0, none⟩ = some (.slice AG g.length cG)) (hbn : w.cell? ⟨bn, 0, none⟩ = some (.slice AN line.length cN))
    (hL : Kd.C k50 w AL l.length l) (hG : Kd.C (Kd.slice 3 (Kd.int .i64)) w AG g.length g) (hN : Kd.C (Kd.int .i64) w AN line.length line) :
    Calls Tryz.prog 39 #[.int .i64 n, .pointer (some ⟨bl, 0, none⟩), .pointer (some ⟨bg, 0, none⟩), .pointer (some ⟨bn, 0, none⟩)] w fun e w' => e = .returned (.int .i64 (nearF line (mainF l g n))) ∧ Below w.heap.size w w' := by
  obtain ⟨xs, hxs⟩ : ∃ xs, xs = mainF l g n := ⟨_, rfl⟩
  rw [← hxs]
  refine (callsIn_wide (n := 4)).1 ?_
  refine callsIn_of_wp_marks Tryz.func39 rfl trivial ?_ rfl
  simp only [Tryz.ntmps39, List.size_toArray, List.length_cons, List.length_nil, Nat.reduceAdd, Nat.reduceSub, Array.replicate_succ, Array.replicate_zero, List.push_toArray, List.append_toArray, List.nil_append, List.cons_append]
  obtain ⟨V, hV⟩ : ∃ V, V = w.alloc (.cells #[.int .i64 0] 2) := ⟨_, rfl⟩
  have hVb : Below w.heap.size w V := by rw [hV]; exact (Below.refl _ w).alloc (Nat.le_refl _) _
  have hVs : V.heap.size = w.heap.size + 1 := by rw [hV]; simp
  have bR0 : Boxed V w.heap.size 2 (.int .i64 0) := by rw [hV]; exact Boxed.new w 2 _
  have hbl1 : ∀ o, (w.alloc o).cell? ⟨bl, 0, none⟩ = some (.slice AL l.length cL) := fun o => pw_cell_below (below_alloc (Below.refl _ _) _) hbl
  have hbg1 : ∀ o, (w.alloc o).cell? ⟨bg, 0, none⟩ = some (.slice AG g.length cG) := fun o => pw_cell_below (below_alloc (Below.refl _ _) _) hbg
  have HBK := Aside0.mk (callsIn_wide (n := 3) |>.2 (back.walk AL cL l.length AG cG g.length n V))
  have hat := backW_at (c0 := cL) (c1 := cG) n (Kd.C_below hL hVb) (Kd.C_below hG hVb)
  have hbs := backW_size V AL cL l.length AG cG g.length n
  have hsq := back_1.cell (Kd.C_below hL hVb) (Kd.C_below hG hVb) hat (by omega) (by omega) (by omega)
  have hbd := hVb.trans (hat.below.mono (by omega))
  have bR1 : Boxed (backW V AL cL l.length AG cG g.length n) w.heap.size 2 (.int .i64 0) := (hat.below.block _ bR0.lt).trans bR0
  rw [hV] at HBK
  gi_wp2_with (refine ⟨trivial, ?_⟩; gi_at_call 40; refine HBK.out.mono ?_; rintro e w1 ⟨rfl, rfl⟩)
  rw [hVs] at hsq hbs
  subst hV
  clear HBK hat hVb hbl1 hbg1 hVs bR0 hbl hbg hL hG
  rw [← hxs] at hsq
  obtain ⟨X, hX⟩ : ∃ X, X = backW (w.alloc (Obj.cells #[Value.int IntKind.i64 0] 2)) AL cL l.length AG cG g.length n := ⟨_, rfl⟩
  rw [← hX] at hsq hbs hbd bR1 ⊢
  clear hX hxs
  have hBo : ∀ (v : Int), Own (fun (_ : List Int) W => Boxed W w.heap.size 2 (.int .i64 v)) := fun v s A B row hs hg hr => hs.kept hg (fun e' => by
    obtain ⟨o, ho, hc⟩ := hr _ e'.symm
    rw [show A.heap[w.heap.size]? = _ from hs] at ho; cases ho; cases hc)
  have hPo : Own (fun (pre : List Int) (_ : World) => ∀ k ∈ pre, k ∉ line) := fun s A B row hs _ _ => hs
  refine rangeFunc_cell (Bn := w.heap.size + 1 + 2) (B0 := X.heap.size) (xs := xs) rfl (by decide) (gf := 82) (lb := #[.pointer (some ⟨w.heap.size + 1 + 2, 0, none⟩), .pointer (some ⟨w.heap.size + 1, 0, none⟩), .pointer (some ⟨w.heap.size + 1 + 1, 0, none⟩)]) rfl trivial (enters_of Tryz.func82 (by kernel_rfl) rfl) (Nat.le_refl _) (by omega) hsq rfl
    (fun pre W => (Boxed W w.heap.size 2 (.int .i64 0) ∧ ∀ k ∈ pre, k ∉ line) ∧ Below w.heap.size w W) (fun _ W => Boxed W w.heap.size 2 (.int .i64 (nearF line xs)) ∧ Below w.heap.size w W)
    (OwnFrom.and (OwnFrom.and (Own.from (hBo 0) _) (Own.from hPo _)) (ownFrom_below (Nat.le_refl _) (by omega))) (OwnFrom.and (Own.from (hBo _) _) (ownFrom_below (Nat.le_refl _) (by omega)))
    ?cell ⟨⟨bR1, fun _ h => (nomatch h)⟩, hbd⟩
    (fun x => { tmps := #[.int .i64 n, .pointer (some ⟨bl, 0, none⟩), .pointer (some ⟨bg, 0, none⟩), .pointer (some ⟨bn, 0, none⟩), undef, .pointer (some ⟨w.heap.size, 0, none⟩), .int .i64 x, undef, .slice AL l.length cL, .slice AG g.length cG, .int .i64 n, .func (.func 82) #[] #[.pointer (some ⟨w.heap.size + 1 + 2, 0, none⟩), .pointer (some ⟨w.heap.size + 1, 0, none⟩), .pointer (some ⟨w.heap.size + 1 + 1, 0, none⟩)], .int .i64 x, undef, undef, undef, undef, undef, undef, undef, undef], defers := [] }) ?assign ?body ?done ?stop
  case cell =>
    rintro pre A v ⟨⟨h1, h2⟩, h3⟩
    exact ⟨⟨h1.other (by omega) v, h2⟩, h3.setCell (p := ⟨w.heap.size + 1 + 2, 0, none⟩) (by show w.heap.size ≤ w.heap.size + 1 + 2; omega) _⟩
  case assign =>
    intro lq x W K hK
    gi_wp2
    exact hK
  case body =>
    rintro lq pre x W ⟨⟨bR, hNP⟩, hB⟩ hlt
    have hc3 := pw_cell_below hB hbn
    have hc := bR.cell
    have hf := bR.frozen
    have HIX := Aside0.mk (indexV.walk AN cN line x W (Kd.C_below hN hB))
    by_cases hx : x ∈ line
    · have h0 := idxQ.2 hx
      have hnear := nearF_at hNP hx hlt
      obtain ⟨r, hr⟩ : ∃ r, r = idxOf (fun y => decide (y = x)) line := ⟨_, rfl⟩
      rw [← hr] at h0 hnear HIX
      have HNE := Aside0.mk hnear
      clear hr hnear hNP hx hlt
      gi_wp2_with (refine ⟨trivial, ?_⟩; gi_at_call 41; refine (CallsIn.inRound lq (callsIn_wide.2 HIX.out)).mono ?_; rintro e w4 ⟨rfl, rfl⟩)
      exact ⟨(KeepsOthers.setCell _ _ _).from _, by rw [HNE.out]; exact bR.set _, hB.setCell (p := ⟨w.heap.size, 0, none⟩) (Nat.le_refl _) _⟩
    · have h0 : ¬ 0 ≤ idxOf (fun y => decide (y = x)) line := fun h => hx (idxQ.1 h)
      have HP : Aside0 (∀ k ∈ pre ++ [x], k ∉ line) := ⟨fun k hk => by
        rcases List.mem_append.1 hk with h | h
        · exact hNP k h
        · rw [List.mem_singleton.1 h]; exact hx⟩
      obtain ⟨r, hr⟩ : ∃ r, r = idxOf (fun y => decide (y = x)) line := ⟨_, rfl⟩
      rw [← hr] at h0 HIX
      clear hr hNP hx hlt
      gi_wp2_with (refine ⟨trivial, ?_⟩; gi_at_call 41; refine (CallsIn.inRound lq (callsIn_wide.2 HIX.out)).mono ?_; rintro e w4 ⟨rfl, rfl⟩)
      exact ⟨KeepsFrom.refl _ _, Below.refl _ _, ⟨bR, HP.out⟩, hB⟩
  case done =>
    rintro D W hD ⟨⟨bR, hNP⟩, hB⟩ hK
    have hc3 := pw_cell_below hB hbn
    have hc := bR.cell
    have hf := bR.frozen
    have HNE := Aside0.mk (nearF_none hNP)
    have hK' : (W.setCell ⟨w.heap.size, 0, none⟩ (.int .i64 (line.length : Int))).heap[D]? = some (.deferred (some [])) := (Below.heap_setCell W ⟨w.heap.size, 0, none⟩ _ _ (show D ≠ w.heap.size by omega)).trans hK
    clear hNP
    gi_wp2
    refine ⟨by simp, .inl ⟨_, _, rfl, run_takeDeferred hK', ?_⟩⟩
    have hc5 := cell_kept (bR.set (.int .i64 (line.length : Int))).cell (grownBy_putObj' _ D (.deferred none)) (fun r e => by cases e; exact ⟨_, hK', rfl⟩)
    refine ⟨.int .i64 (line.length : Int), ?_, by rw [HNE.out], (hB.setCell (p := ⟨w.heap.size, 0, none⟩) (Nat.le_refl _) _).trans (belowK_b (w := w) (n₀ := w.heap.size) (Nat.le_refl _) _ D _ _ (by omega) hK' rfl rfl)⟩
    simp [results, Tryz.f39, go_sem, hc5]
  case stop =>
    rintro D pre W hD hpre ⟨bR, hB⟩ hK
    gi_wp2
    refine ⟨by simp, .inl ⟨_, _, rfl, run_takeDeferred hK, ?_⟩⟩
    have hc5 := cell_kept bR.cell (grownBy_putObj' _ D (.deferred none)) (fun r e => by cases e; exact ⟨_, hK, rfl⟩)
    refine ⟨.int .i64 (nearF line xs), ?_, rfl, hB.trans (belowK_b (w := w) (n₀ := w.heap.size) (Nat.le_refl _) W D _ _ (by omega) hK rfl rfl)⟩
    simp [results, Tryz.f39, go_sem, hc5]
def mainedL (l : List SE) (g : List (List Int)) (xs : List Int) (top : Int) : List Int := sortedL l (fun n => nearF (mainF l g top) (mainF l g n)) (placesL l.length xs)
theorem placesM_len (n : Nat) (xs : List Int) : (placesL n xs).length ≤ xs.length := Nat.le_trans (riseL_length _) (List.length_filter_le _ _)
theorem placesM_in {n : Nat} {xs : List Int} {x : Int} (h : x ∈ placesL n xs) : 0 ≤ x ∧ x < (n : Int) := by
  have h : x ∈ riseL _ := h
  rw [(riseL_spec _).2, List.mem_filter] at h
  have h2 := h.2
  unfold outP at h2
  simp at h2
  exact ⟨by omega, by omega⟩
set_option maxHeartbeats 4000000 in
set_option maxRecDepth 100000 in
theorem order_Mained.walk (AL : Option Addr) (cL : Nat) (l : List SE) (AG : Option Addr) (cG : Nat) (g : List (List Int)) (A1 : Option Addr) (c1 : Nat) (xs : List Int) (top : Int) (w : World)
    (hL : Kd.C k50 w AL l.length l) (hG : Kd.C (Kd.slice 3 (Kd.int .i64)) w AG g.length g) (hX : Kd.C (Kd.int .i64) w A1 xs.length xs) (hl : l.length ≤ 100000) (hlim : xs.length ≤ 1000000) :
    Calls Tryz.prog 20 #[.slice AL l.length cL, .slice AG g.length cG, .slice A1 xs.length c1, .int .i64 top] w fun e w' => ∃ v, e = .returned v ∧ Kd.R (Kd.int .i64) 3 w' w.heap.size (fun _ => True) v (mainedL l g xs top) ∧ Below w.heap.size w w' := by
  have hmf : ∀ (fn : Fn) (first cap : Array Value) (w : World), (Instr.makeFunc fn first cap).run Tryz.prog w = .ok (.func fn first cap) w := fun _ _ _ _ => rfl
  have HPL := Aside0.mk (fun (W : World) (hb : Below w.heap.size w W) => places.walk AL l.length cL A1 c1 xs W (Kd.C_below hX hb) hlim)
  have hlen := placesM_len l.length xs
  have hin : ∀ x ∈ placesL l.length xs, 0 ≤ x ∧ x < (l.length : Int) := fun x hx => placesM_in hx
  obtain ⟨all, hall⟩ : ∃ all, all = placesL l.length xs := ⟨_, rfl⟩
  rw [← hall] at hlen hin HPL
  have HALL := Aside0.mk hall
  have HLEN : Aside0 (all.length ≤ 1000000) := ⟨by omega⟩
  have HIN := Aside0.mk hin
  have HL := Aside0.mk hL
  have HG := Aside0.mk hG
  have HLL := Aside0.mk hl
  clear hL hG hX hall hlen hin hl
  go_enter Tryz.func20, Tryz.ntmps20
  go_upto_region 1 with fail
  generalize hW1 : World.alloc (World.alloc w _) _ = W1
  have hb1 : Below w.heap.size w W1 := by rw [← hW1]; exact ((Below.refl _ _).alloc (Nat.le_refl _) _).alloc (by simp) _
  have hx1 : W1.heap[w.heap.size]? = some (.cells #[.slice AL l.length cL] 23 (0, 0)) := by rw [← hW1]; exact (heap_alloc_old _ _ (by simp)).trans (heap_alloc_new w _)
  have hx2 : W1.heap[w.heap.size + 1]? = some (.cells #[.slice AG g.length cG] 24 (0, 0)) := by rw [← hW1]; exact heap_alloc2_new w _ _
  have x1 := blk_cell hx1 0
  have x2 := blk_cell hx2 0
  have HB1 := Aside0.mk hb1
  have HML := Aside0.mk (order_Mainline.walk AL cL l AG cG g top W1 (Kd.C_below HL.out hb1) (Kd.C_below HG.out hb1) HLL.out)
  obtain ⟨line, hline⟩ : ∃ line, line = mainF l g top := ⟨_, rfl⟩
  rw [← hline] at HML
  have HLINE := Aside0.mk hline
  clear hW1 hb1 hx1 hx2 hline
  go_upto_region 2 with (go_at_call 21; refine HML.out.mono ?_; rintro e W2 ⟨v2, rfl, hr2, hb2⟩; obtain ⟨AN, cN, rfl⟩ := Kd.R_slice hr2; have HB2 := Aside0.mk hb2; have HR2 := Aside0.mk hr2; clear hr2 hb2)
  generalize hW3 : World.alloc W2 _ = W3
  have hb3 : Below W2.heap.size W2 W3 := by rw [← hW3]; exact (Below.refl _ _).alloc (Nat.le_refl _) _
  have hx3 : W3.heap[W2.heap.size]? = some (.cells #[.slice AN line.length cN] 27 (0, 0)) := by rw [← hW3]; exact heap_alloc_new W2 _
  have x3 := blk_cell hx3 0
  replace x1 := pw_cell_below hb3 (pw_cell_below HB2.out x1)
  replace x2 := pw_cell_below hb3 (pw_cell_below HB2.out x2)
  have HB3 := Aside0.mk (below_then (below_then HB1.out HB1.out.size HB2.out) (Nat.le_trans HB1.out.size HB2.out.size) hb3)
  have HCN := Aside0.mk (Kd.C_below (Kd.R_reads' HR2.out).2.2 hb3)
  have HSO : Aside0 (∀ (W : World) (A5 : Option Addr) (c5 : Nat), Below W3.heap.size W3 W → Kd.C (Kd.int .i64) W A5 all.length all → Calls Tryz.prog 32 #[.slice AL l.length cL, .slice A5 all.length c5, .func (.func 39) #[] #[.pointer (some ⟨w.heap.size, 0, none⟩), .pointer (some ⟨w.heap.size + 1, 0, none⟩), .pointer (some ⟨W2.heap.size, 0, none⟩)]] W fun e w' => ∃ v, e = .returned v ∧ Kd.R (Kd.int .i64) 3 w' W.heap.size (fun _ => True) v (sortedL l (fun n => nearF line (mainF l g n)) all) ∧ Below W.heap.size W w') := ⟨fun W A5 c5 hW hC5 =>
    order_sorted.walk AL cL l A5 c5 all 39 #[.pointer (some ⟨w.heap.size, 0, none⟩), .pointer (some ⟨w.heap.size + 1, 0, none⟩), .pointer (some ⟨W2.heap.size, 0, none⟩)] (fun n => nearF line (mainF l g n)) W (enters_of Tryz.func39 (by kernel_rfl) rfl) (Kd.C_below HL.out (below_then HB3.out HB3.out.size hW)) hC5 HIN.out HLEN.out
      (fun n _ W' hW' => by
        have hbw := below_then hW hW.size hW'
        have hbw0 := below_then HB3.out HB3.out.size hbw
        exact mained_1.walk AL cL l AG cG g AN cN line w.heap.size (w.heap.size + 1) W2.heap.size n W' (pw_cell_below hbw x1) (pw_cell_below hbw x2) (pw_cell_below hbw x3) (Kd.C_below HL.out hbw0) (Kd.C_below HG.out hbw0) (Kd.C_below HCN.out hbw))⟩
  clear hW3 hb3 hx3 x2 x3 HML
  refine start_ (n := 7) (S := fun w' => w'.cell? ⟨w.heap.size, 0, none⟩ = some (.slice AL l.length cL)) (ds := []) #[false, false, false, false, false, false, false] (by kernel_rfl) rfl rfl (x1) (fun hHeld => ?_)
  refine pure_ (i := 2) (N := some 16) (v := ?_) (a' := ?_) #[false, false, true, false, false, false, false] rfl rfl (by kernel_rfl) (fun _ _ _ h => h) (Or.inl ⟨by rfl, ?_⟩) ?_ ?_
  rotate_left
  · intro w'
    go_simp
    with_reducible rfl
  rotate_left
  · simp only [Act.put, List.setIfInBounds_toArray, List.set_cons_zero, List.set_cons_succ, i64_w, i32_w]
    rfl
  refine pure_ (i := 4) (N := some 18) (v := ?_) (a' := ?_) #[false, false, true, false, true, false, false] rfl rfl (by kernel_rfl) (fun _ _ _ h => h) (Or.inl ⟨by rfl, ?_⟩) ?_ ?_
  rotate_left
  · intro w'
    go_simp
    with_reducible rfl
  rotate_left
  · simp only [Act.put, List.setIfInBounds_toArray, List.set_cons_zero, List.set_cons_succ, i64_w, i32_w]
    rfl
  refine take_ (i := 0) (N := some 14) (v := ?_) (a' := ?_) #[true, false, true, false, true, false, false] rfl rfl (by kernel_rfl) (fun _ _ _ h => h) (Or.inl ⟨by rfl, ?_⟩) hHeld ?_ ?_
  rotate_left
  · intro w' s0
    go_simp
    with_reducible rfl
  rotate_left
  · simp only [Act.put, List.setIfInBounds_toArray, List.set_cons_zero, List.set_cons_succ, i64_w, i32_w]
    rfl
  refine take_ (i := 1) (N := some 15) (v := ?_) (a' := ?_) #[true, true, true, false, true, false, false] rfl rfl (by kernel_rfl) (fun _ _ _ h => h) (Or.inl ⟨by rfl, ?_⟩) hHeld ?_ ?_
  rotate_left
  · intro w' s0
    go_simp
    with_reducible rfl
  rotate_left
  · simp only [Act.put, List.setIfInBounds_toArray, List.set_cons_zero, List.set_cons_succ, i64_w, i32_w]
    rfl
  refine one_ (i := 3) (N := some 17) #[true, true, true, true, true, false, false] rfl rfl (by kernel_rfl) (by decide) (fun K hK => ?_)
  refine goes_ Tryz.func31 (by kernel_rfl) rfl #[.slice AL l.length cL, .slice A1 xs.length c1] (by rfl) rfl rfl (by simp only [List.map_toArray, List.map_cons, List.map_nil]; rfl) ?_
  with_reducible refine (HPL.out _ (below_then HB3.out HB3.out.size (below_drew1 (Below.refl _ _)))).mono ?_
  rintro e W5 ⟨v5, rfl, hr5, hb5⟩
  refine ⟨_, rfl, ?_⟩
  obtain ⟨A5, c5, rfl⟩ := Kd.R_slice hr5
  refine hK.out _ _ ((pw_cell_below hb5 hHeld)) (fun hHeld => ?_)
  clear hK K
  refine norm_ (a' := ?_) ?_ ?_
  rotate_left
  · show Act.put _ (some 17) _ = _
    simp only [Act.put, List.setIfInBounds_toArray, List.set_cons_zero, List.set_cons_succ, i64_w, i32_w]
    rfl
  refine one_ (i := 5) (N := some 19) #[true, true, true, true, true, true, false] rfl rfl (by kernel_rfl) (by decide) (fun K hK => ?_)
  refine goes_ Tryz.func32 (by kernel_rfl) rfl #[.slice AL l.length cL, .slice A5 all.length c5, .func (.func 39) #[] #[.pointer (some ⟨w.heap.size, 0, none⟩), .pointer (some ⟨w.heap.size + 1, 0, none⟩), .pointer (some ⟨W2.heap.size, 0, none⟩)]] (by rfl) rfl rfl (by simp only [List.map_toArray, List.map_cons, List.map_nil]; rfl) ?_
  with_reducible refine (HSO.out _ A5 c5 (below_then (below_drew1 (Below.refl W3.heap.size W3)) (Nat.le_refl _) hb5) (Kd.R_reads' hr5).2.2).mono ?_
  rintro e W6 ⟨v6, rfl, hr6, hb6⟩
  refine ⟨_, rfl, ?_⟩
  refine hK.out _ _ ((pw_cell_below hb6 hHeld)) (fun hHeld => ?_)
  clear hK K
  refine norm_ (a' := ?_) ?_ ?_
  rotate_left
  · show Act.put _ (some 19) _ = _
    simp only [Act.put, List.setIfInBounds_toArray, List.set_cons_zero, List.set_cons_succ, i64_w, i32_w]
    rfl
  refine pure_ (i := 6) (N := some 8) (v := ?_) (a' := ?_) #[true, true, true, true, true, true, true] rfl rfl (by kernel_rfl) (fun _ _ _ h => h) (Or.inl ⟨by rfl, ?_⟩) ?_ ?_
  rotate_left
  · intro w'
    go_simp
    with_reducible rfl
  rotate_left
  · simp only [Act.put, List.setIfInBounds_toArray, List.set_cons_zero, List.set_cons_succ, i64_w, i32_w]
    rfl
  refine done_ (by kernel_rfl) ?_

  go_wp2_with fail
  go_ret
  have hB5 := below_then HB3.out HB3.out.size (below_then (below_drew1 (Below.refl W3.heap.size W3)) (Nat.le_refl _) hb5)
  refine ⟨_, rfl, ?_, below_then hB5 hB5.size hb6⟩
  unfold mainedL
  rw [← HALL.out, ← HLINE.out]
  exact Kd.R_lower hr6 hB5.size
def heliastlaw17_Some.l0 : Nat → List Int → Int → List Int → Int → Option (List Int)
  | 0, _, _, _, _ => none
  | k + 1, x0, x1, x5, x6 => if x6 < (x0.length : Int) then (if x6 < 20 then (if 0 ≤ x6 then (if (wrap64 (x1 + 2)) = 0 then (none) else (if x5.length < 17592186044416 then (heliastlaw17_Some.l0 k x0 x1 (x5 ++ [wrap64 ((Int.tmod (wrap64 (rd x0 x6)) (wrap64 (x1 + 2))) - 1)]) (wrap64 (x6 + 1))) else (none))) else (none)) else (some x5)) else (some x5)
def heliastlaw17_Some.f (k : Nat) (l0 : List Int) (a1 : Int) : Option (List Int) := heliastlaw17_Some.l0 k l0 a1 ([] : List Int) 0
set_option maxHeartbeats 8000000 in
set_option maxRecDepth 100000 in
theorem heliastlaw17_Some.calls (k : Nat) (A0 : Option Addr) (c0 : Nat) (l0 : List Int) (a1 : Int) (r : List Int) (w : World) (hr0 : Kd.C (Kd.int .u8) w A0 l0.length l0) (hc0 : l0.length ≤ c0) (h : heliastlaw17_Some.f k l0 a1 = some r) :
    Calls Tryz.prog 9 #[.slice A0 l0.length c0, .int .i64 a1] w fun e w' => ∃ v0_ : Value, e = .returned (v0_) ∧ Kd.R (Kd.int .i64) 3 w' w.heap.size (fun _ => True) v0_ r ∧ Below w.heap.size w w' := by
  have HR0 := Aside0.mk hr0
  have HC0 := Aside0.mk hc0
  clear hr0 hc0
  have HB := Aside0.mk (Below.refl w.heap.size w)
  have H : (heliastlaw17_Some.l0 k l0 a1 ([] : List Int) 0) = some r := h
  clear h
  have H' := Aside0.mk H
  clear H
  go_enter Tryz.func9, Tryz.ntmps9
  go_wp2
  go_loopg [5, 6] k (fun kq v5 v6 w' => ∃ (x5_1 : List Int) (x6_1 : Int), v6 = .int .i64 x6_1 ∧ Aside0 (heliastlaw17_Some.l0 kq l0 a1 x5_1 x6_1 = some r) ∧ Aside0 (kq ≤ k) ∧ Aside0 (Kd.R (Kd.int .i64) 3 w' w.heap.size (fun _ => True) v5 x5_1) ∧ Aside0 (Below w.heap.size w w'))
  case atStart => exact ⟨(([] : List Int)), (0), (by first | rfl | (simp; done) | (simp [*]; done)), H', ⟨Nat.le_refl _⟩, ⟨by first | exact Kd.R_nil _ _ _ _ _ | exact Kd.N_nil _ _ _ _ _ | exact Kd.V_nil _ _ _ _ _ | exact Kd.Q_nil _ _ _ _ _ | exact Kd.S_nil _ _ _ _ _⟩, ⟨by repeat (first | (with_reducible first | exact HB.out | apply below_alloc | apply pw_below_drewN | apply below_drew1) | exact HB.out)⟩⟩
  case round =>
    clear H'
    try clear p2
    obtain ⟨x5_1, x6_1, rfl, HA, HK1, HO_5, HB⟩ := hrel
    cases gk with
    | zero => exact absurd HA.out (by simp [heliastlaw17_Some.l0])
    | succ k1 =>
      have H := HA.out
      clear HA
      simp only [heliastlaw17_Some.l0] at H
      by_cases c3 : x6_1 < (l0.length : Int)
      · rw [if_pos c3] at H
        have c3b0 : decide (x6_1 < (l0.length : Int)) = true := decide_eq_true c3
        clear c3
        by_cases c4 : x6_1 < 20
        · rw [if_pos c4] at H
          have c4b0 : decide (x6_1 < 20) = true := decide_eq_true c4
          clear c4
          by_cases c5 : 0 ≤ x6_1
          · rw [if_pos c5] at H
            have c5b0 : decide (0 ≤ x6_1) = true := decide_eq_true c5
            clear c5
            by_cases c6 : (wrap64 (a1 + 2)) = 0
            · rw [if_pos c6] at H
              exact absurd H (by simp)
            · rw [if_neg c6] at H
              have c6b0 : ((wrap64 (a1 + 2)) == 0) = false := beq_eq_false_iff_ne.mpr c6
              have c6b1 : ((wrap64 (a1 + 2)) != 0) = true := bne_iff_ne.mpr c6
              by_cases c7 : x5_1.length < 17592186044416
              · rw [if_pos c7] at H
                have LMc7 := Aside0.mk c7
                clear c7
                obtain ⟨y297, hy297⟩ : ∃ y_ : List Int, y_ = (x5_1 ++ [wrap64 ((Int.tmod (wrap64 (rd l0 x6_1)) (wrap64 (a1 + 2))) - 1)]) := ⟨_, rfl⟩
                replace H : (heliastlaw17_Some.l0 k1 l0 a1 y297 (wrap64 (x6_1 + 1))) = some r := by first | (rw [hy297]; with_reducible exact H) | (have H2_ := (Option.bind_some _ _).symm.trans H; rw [hy297]; with_reducible exact H2_) | (have H2_ := (Option.bind_some _ _).symm.trans H; with_reducible exact H2_) | with_reducible exact H | (rw [hy297]; exact H) | exact H
                have Ny297 := Aside0.mk hy297
                clear hy297
                have H' := Aside0.mk H
                clear H
                have p296 : 0 ≤ (x6_1 : Int) := of_decide_eq_true (by first | (with_reducible assumption) | assumption)
                have q296 : x6_1 < (l0.length : Int) := of_decide_eq_true (by first | (with_reducible assumption) | assumption)
                obtain ⟨ad296, e296, hx296_0⟩ := Kd.at_int HR0.out x6_1 p296 q296
                cases e296
                replace hx296_0 := (HB.out.cell (World.block_lt_of_cell? w _ hx296_0)).trans hx296_0
                replace p296 := eq_true p296
                replace q296 := eq_true q296
                go_wp2_with (first | ((with_reducible refine gate_builtin (b := .append) (xs := #[.tmp 17, .tmp 27]) rfl ?_); at_builtin; refine Kd.R_append (Kd.int .i64) (w0 := w) w.heap.size rfl (.tmp 17) (.tmp 27) 27 3 (.int .i64 0) 8 rfl Tryz.underlying27 info3 rfl (by decide) (by omega) u5 x5_1 (wrap64 ((Int.tmod (wrap64 (rd l0 x6_1)) (wrap64 (a1 + 2))) - 1)) [.int .i64 (wrap64 ((Int.tmod (wrap64 (rd l0 x6_1)) (wrap64 (a1 + 2))) - 1))] (fun _ => True) (fun _ => False) rfl rfl ?aP (fun _ hk => hk.elim) ?aF ?aO ?aB ?aS ?aL ?_; (case aP => exact rfl); (case aB => exact (by repeat (first | (with_reducible first | exact HB.out | apply below_alloc | apply pw_below_drewN | apply below_drew1) | exact HB.out))); (case aF => exact (fun _ _ => trivial)); (case aO => exact (by (with_reducible repeat (first | apply Kd.R_alloc | apply Kd.R_drewN | apply Kd.R_drew)); exact HO_5.out)); (case aS => exact (below_size (by repeat (first | (with_reducible first | exact HB.out | apply below_alloc | apply pw_below_drewN | apply below_drew1) | exact HB.out)))); (case aL => have := LMc7.out; omega); intro v298 w8 ho hb hg hat; rw [← Ny297.out] at ho; have n0_ := Aside0.mk (hb); have n1_ := Aside0.mk (ho); clear HB; clear HO_5; have HB := n0_; have HO299 := n1_; clear n0_ n1_; clear ho hb hg hat))
                go_roundg k1
                case measure => have := HK1.out; omega
                case rel => exact ⟨(y297), (wrap64 (x6_1 + 1)), (by first | rfl | (simp; done) | (simp [*]; done)), H', ⟨by have := HK1.out; omega⟩, ⟨by (with_reducible repeat (first | apply Kd.R_alloc | apply Kd.R_drewN | apply Kd.R_drew)); exact HO299.out⟩, ⟨by repeat (first | (with_reducible first | exact HB.out | apply below_alloc | apply pw_below_drewN | apply below_drew1) | exact HB.out)⟩⟩
              · rw [if_neg c7] at H
                exact absurd H (by simp)
          · rw [if_neg c5] at H
            exact absurd H (by simp)
        · rw [if_neg c4] at H
          have c4b0 : decide (x6_1 < 20) = false := decide_eq_false c4
          clear c4
          obtain rfl := Option.some.inj H
          go_wp2
          go_ret
          exact ⟨_, by first | rfl | (simp [errW_none, errW_some] <;> rfl) | (simp [*, errW_none, errW_some] <;> rfl), by (with_reducible repeat (first | apply Kd.R_alloc | apply Kd.R_drewN | apply Kd.R_drew)); exact HO_5.out, by repeat (first | (with_reducible first | exact HB.out | apply below_alloc | apply pw_below_drewN | apply below_drew1) | exact HB.out)⟩
      · rw [if_neg c3] at H
        have c3b0 : decide (x6_1 < (l0.length : Int)) = false := decide_eq_false c3
        clear c3
        obtain rfl := Option.some.inj H
        go_wp2
        go_ret
        exact ⟨_, by first | rfl | (simp [errW_none, errW_some] <;> rfl) | (simp [*, errW_none, errW_some] <;> rfl), by (with_reducible repeat (first | apply Kd.R_alloc | apply Kd.R_drewN | apply Kd.R_drew)); exact HO_5.out, by repeat (first | (with_reducible first | exact HB.out | apply below_alloc | apply pw_below_drewN | apply below_drew1) | exact HB.out)⟩
end Go.Proofs.YtmdjknkhjimgeaaGreat.S
end
section
namespace Go.Proofs.YtmdjknkhjimgeaaGreat.S
open Go.RowKit Go.Proofs.YtmdjknkhjimgeaaGreatW.PrintWords Go.Proofs.YtmdjknkhjimgeaaGreatW.PrintLast Go.Proofs.YtmdjknkhjimgeaaGreatW.PrintMore
attribute [local go_sem] max2_int min2_int max_two min_two max_three min_three max_four min_four
set_option linter.unusedVariables false
set_option linter.unusedSimpArgs false
open Go.Proofs.He
theorem some_evY (ds : List Int) (n : Nat) (hn : n ≤ 1000) : ∃ r : List Int, Ev (fun k => heliastlaw17_Some.f k ds (n : Int)) r ∧ r.length ≤ 20 := by
  have hz : ¬ wrap64 ((n : Int) + 2) = 0 := by unfold wrap64; omega
  have h : ∀ (d i : Nat) (o : List Int), 20 - i = d → i ≤ 20 → o.length ≤ i → ∃ r : List Int, Ev (fun k => heliastlaw17_Some.l0 k ds (n : Int) o (i : Int)) r ∧ r.length ≤ 20 := by
    intro d
    induction d with
    | zero =>
      intro i o hd hi ho
      refine ⟨o, Ev.step (f := fun _ => some o) (fun k => ?_) (Ev.now _), by omega⟩
      show heliastlaw17_Some.l0 (k + 1) ds _ o i = _
      rw [heliastlaw17_Some.l0]
      by_cases h1 : (i : Int) < (ds.length : Int)
      · rw [if_pos h1, if_neg (by omega)]
      · rw [if_neg h1]
    | succ d ih =>
      intro i o hd hi ho
      by_cases h1 : (i : Int) < (ds.length : Int)
      · obtain ⟨r, hr, hq⟩ := ih (i + 1) (o ++ [wrap64 ((Int.tmod (wrap64 (rd ds (i : Int))) (wrap64 ((n : Int) + 2))) - 1)]) (by omega) (by omega) (by simp; omega)
        refine ⟨r, Ev.step (fun k => ?_) hr, hq⟩
        show heliastlaw17_Some.l0 (k + 1) ds _ o i = _
        rw [heliastlaw17_Some.l0, if_pos h1, if_pos (by omega), if_pos (by omega), if_neg hz, if_pos (by omega), show wrap64 ((i : Int) + 1) = ((i + 1 : Nat) : Int) from (by clear hz; unfold wrap64; omega)]
      · refine ⟨o, Ev.step (f := fun _ => some o) (fun k => ?_) (Ev.now _), by omega⟩
        show heliastlaw17_Some.l0 (k + 1) ds _ o i = _
        rw [heliastlaw17_Some.l0, if_neg h1]
  obtain ⟨r, hr, hq⟩ := h _ 0 [] rfl (Nat.zero_le _) (Nat.zero_le _)
  exact ⟨r, Ev.congr (fun k => rfl) hr, hq⟩
theorem bytePY {x : Int} (h : (Lit.int .u8 x).wf = true) : 0 ≤ x ∧ x < 256 := by
  simp only [Lit.wf, Bool.and_eq_true, decide_eq_true_eq] at h
  have h1 : (0 : Int) ≤ x := h.1
  have h2 : x ≤ (255 : Int) := h.2
  omega
theorem same_self_evY (l : List Int) (hl : l.length < 9223372036854775807) : Ev (fun k => heliastref12_Same.f k l l) true := by
  have h : ∀ (d i : Nat), l.length - i = d → Ev (fun k => heliastref12_Same.l0 k l l (i : Int)) true := by
    intro d
    induction d with
    | zero =>
      intro i hd
      exact Ev.step (f := fun _ => some true) (fun k => by show heliastref12_Same.l0 (k + 1) l l i = _; rw [heliastref12_Same.l0, if_neg (by omega)]) (Ev.now _)
    | succ d ih =>
      intro i hd
      exact Ev.step (fun k => by show heliastref12_Same.l0 (k + 1) l l i = _; rw [heliastref12_Same.l0, if_pos (by omega), if_pos (by omega), if_pos (by omega), if_pos rfl, show wrap64 ((i : Int) + 1) = ((i + 1 : Nat) : Int) by unfold wrap64; omega]) (ih (i + 1) (by omega))
  exact Ev.congr (fun k => by show heliastref12_Same.f k l l = _; rw [heliastref12_Same.f, if_pos rfl]; rfl) (h _ 0 rfl)
theorem DqP.dmY : ∀ (d : Nat) (v : SVl), Dq d v → Dm d v
  | 0, _, h => h
  | d + 1, v, h => ⟨h.1, h.2.1, fun y hy => DqP.dmY d y (h.2.2 y hy)⟩
theorem places_same {n : Nat} {xs ys : List Int} (h : ∀ x, x ∈ xs ↔ x ∈ ys) : placesL n xs = placesL n ys :=
  rises_eq (placesR_rise _ _) (placesR_rise _ _) (fun x => by rw [placesR_mem, placesR_mem, h])
theorem mod_topY (k n : Nat) (h : 0 < n) {top : Int} (ht : top = (k : Int) % (n : Int)) (hn : n ≤ 18) : wrap64 (Int.tmod (k : Int) (n : Int)) = top := by
  rw [Int.tmod_eq_emod_of_nonneg (by omega), ← ht]
  have h1 : 0 ≤ top := by rw [ht]; exact Int.emod_nonneg _ (by omega)
  have h2 : top < (n : Int) := by rw [ht]; exact Int.emod_lt_of_pos _ (by omega)
  clear ht
  unfold wrap64; omega
theorem ix_backY (m : Nat) (h : m ≤ 100) : wrap64 ((m : Int) - 1) = (m : Int) - 1 := by unfold wrap64; omega
theorem back_stepY {xs : List Int} {m : Nat} (hm : m < xs.length) : (xs.drop (m + 1)).reverse ++ [xs[m]] = (xs.drop m).reverse := by
  rw [List.drop_eq_getElem_cons hm, List.reverse_cons]
set_option maxHeartbeats 4000000 in
set_option maxRecDepth 100000 in
theorem law17_OrderAny.walk (A0 : Option Addr) (c0 : Nat) (cs : List Int) (A1 : Option Addr) (c1 : Nat) (ds : List Int) (k : Nat) (w : World) (hr0 : (Kd.int .u8).C w A0 cs.length cs) (hc0 : cs.length ≤ c0) (hcb : ∀ x ∈ cs, 0 ≤ x ∧ x < 256) (hr1 : (Kd.int .u8).C w A1 ds.length ds) (hc1 : ds.length ≤ c1) (hk : k < 256) :
    Calls Tryz.prog 6 #[.slice A0 cs.length c0, .slice A1 ds.length c1, .int .u8 (k : Int)] w fun e w' => e = .returned (.bool true) ∧ Below w.heap.size w w' := by
  have hu34 := Tryz.underlying50
  have HRM := Aside0.mk (Room.walk A0 c0 cs w hr0 hc0 hcb)
  have HR1 := Aside0.mk hr1
  have HC1 := Aside0.mk hc1
  clear hr0 hc0 hcb hr1 hc1
  go_enter Tryz.func6, Tryz.ntmps6
  go_upto_region 2 with (go_at_call 7; refine HRM.out.mono ?_; rintro e W1 ⟨l, g, AL, cL, AG, cG, rfl, hN, hG, hroom, hl0, hl18, hb1⟩; replace hN := Aside0.mk hN; replace hG := Aside0.mk hG; replace hroom := Aside0.mk hroom; replace hb1 := Aside0.mk hb1)
  have HCL := Aside0.mk (Kd.N_reads' hN.out)
  have HCG := Aside0.mk (Kd.N_reads' hG.out)
  clear HRM hN hG
  have hgl : g.length = l.length := hroom.out.len
  have mem : ∀ x : Int, 0 ≤ x → x < (l.length : Int) → rd_T50 l x ∈ l := fun x h0 h1 => by show l.getD _ _ ∈ l; rw [List.getD_eq_getElem?_getD, List.getElem?_eq_getElem (by omega)]; exact List.getElem_mem _
  have hpx : ∀ x : Int, ∃ b : Bool, 0 ≤ x → x < (l.length : Int) → PowOf (rd_T50 l x) b := fun x => by
    by_cases h : 0 ≤ x ∧ x < (l.length : Int)
    · obtain ⟨b, hb⟩ := Power.any (rd_T50 l x) (DqP.dmY _ _ (hroom.out.deep _ (mem x h.1 h.2))) (by decide)
      exact ⟨b, fun _ _ => hb⟩
    · exact ⟨false, fun h0 h1 => absurd ⟨h0, h1⟩ h⟩
  obtain ⟨pw, hpw⟩ : ∃ pw : Int → Bool, ∀ x, 0 ≤ x → x < (l.length : Int) → PowOf (rd_T50 l x) (pw x) := ⟨fun x => Classical.choose (hpx x), fun x => Classical.choose_spec (hpx x)⟩
  have hlx : ∀ x : Int, ∃ z : Int, 0 ≤ x → x < (l.length : Int) → Ev (fun k => order_Level.f k l g x) z := fun x => by
    by_cases h : 0 ≤ x ∧ x < (l.length : Int)
    · obtain ⟨z, -, hz⟩ := lvl_ev l g x h.1 h.2 (fun y hy => DqP.dmY _ _ (hroom.out.deep y hy))
      exact ⟨z, fun _ _ => hz⟩
    · exact ⟨0, fun h0 h1 => absurd ⟨h0, h1⟩ h⟩
  obtain ⟨lv, hlv⟩ : ∃ lv : Int → Int, ∀ x, 0 ≤ x → x < (l.length : Int) → Ev (fun k => order_Level.f k l g x) (lv x) := ⟨fun x => Classical.choose (hlx x), fun x => Classical.choose_spec (hlx x)⟩
  obtain ⟨xs, hxe, hx20⟩ := some_evY ds l.length (by omega)
  obtain ⟨kx, hkx⟩ := hxe.rounds
  obtain ⟨top, htop⟩ : ∃ top : Int, top = (k : Int) % (l.length : Int) := ⟨_, rfl⟩
  have HSO : Aside0 (∀ W, Below w.heap.size w W → Calls Tryz.prog 9 #[.slice A1 ds.length c1, .int .i64 (l.length : Int)] W fun e w' => ∃ (B : Option Addr) (d : Nat), e = .returned (.slice B xs.length d) ∧ xs.length ≤ d ∧ (Kd.int .i64).C w' B xs.length xs ∧ Below W.heap.size W w') := ⟨fun W hW => (heliastlaw17_Some.calls kx A1 c1 ds _ xs W (Kd.C_below HR1.out hW) HC1.out hkx).mono (by
    rintro e w' ⟨v, rfl, hr, hb⟩
    obtain ⟨B, d, rfl, h1, h2⟩ := Kd.R_reads hr
    exact ⟨B, d, rfl, h1, h2, hb⟩)⟩
  obtain ⟨P, hP⟩ : ∃ P, P = powersL l.length g pw xs := ⟨_, rfl⟩
  obtain ⟨Q, hQ⟩ : ∃ Q, Q = rankedL l g lv xs := ⟨_, rfl⟩
  obtain ⟨M, hM⟩ : ∃ M, M = mainedL l g xs top := ⟨_, rfl⟩
  have hpn := placesR_len l.length xs
  have HSL : Aside0 (P.length ≤ 100 ∧ Q.length ≤ 100 ∧ M.length ≤ 100) := ⟨by
    refine ⟨?_, ?_, ?_⟩
    · rw [hP]; unfold powersL; exact Nat.le_trans (List.length_filter_le _ _) (by omega)
    · rw [hQ, (rankedL_steps hgl (fun n hn x hx => hroom.out.edges n _ (by rw [List.getD_eq_getElem?_getD, List.getElem?_eq_getElem hn]; rfl) x hx) lv xs).2]; omega
    · rw [hM]; unfold mainedL; rw [(sortedL_perm _ _ _).length_eq]; omega⟩
  have out : ∀ {f : FuncId} {args : Array Value} {W : World} {L : List Int}, (Calls Tryz.prog f args W fun e w' => ∃ v, e = .returned v ∧ Kd.R (Kd.int .i64) 3 w' W.heap.size (fun _ => True) v L ∧ Below W.heap.size W w') → Calls Tryz.prog f args W fun e w' => ∃ (B' : Option Addr) (d' : Nat), e = .returned (.slice B' L.length d') ∧ L.length ≤ d' ∧ (Kd.int .i64).C w' B' L.length L ∧ Below W.heap.size W w' := fun h => h.mono (by
    rintro e w' ⟨v, rfl, hr, hb⟩
    obtain ⟨B, d, rfl, h1, h2⟩ := Kd.R_reads hr
    exact ⟨B, d, rfl, h1, h2, hb⟩)
  have HPO : Aside0 (∀ (zs : List Int), (∀ x, x ∈ zs ↔ x ∈ xs) → zs.length ≤ 100 → ∀ (W : World) (B : Option Addr) (d : Nat), Below W1.heap.size W1 W → (Kd.int .i64).C W B zs.length zs → Calls Tryz.prog 27 #[.slice AL l.length cL, .slice AG g.length cG, .slice B zs.length d] W fun e w' => ∃ (B' : Option Addr) (d' : Nat), e = .returned (.slice B' P.length d') ∧ P.length ≤ d' ∧ (Kd.int .i64).C w' B' P.length P ∧ Below W.heap.size W w') := ⟨fun zs hz hzl W B d hW hC => by
    rw [show P = powersL l.length g pw zs by rw [hP]; unfold powersL; rw [places_same hz]]
    exact out (order_Powers.walk AL cL l AG cG g B d zs pw W (Kd.C_below HCL.out.2.2 hW) (Kd.C_below HCG.out.2.2 hW) HCG.out.2.1 hC (by omega) (by omega) hpw)⟩
  have HRA : Aside0 (∀ (zs : List Int), (∀ x, x ∈ zs ↔ x ∈ xs) → zs.length ≤ 100 → ∀ (W : World) (B : Option Addr) (d : Nat), Below W1.heap.size W1 W → (Kd.int .i64).C W B zs.length zs → Calls Tryz.prog 10 #[.slice AL l.length cL, .slice AG g.length cG, .slice B zs.length d] W fun e w' => ∃ (B' : Option Addr) (d' : Nat), e = .returned (.slice B' Q.length d') ∧ Q.length ≤ d' ∧ (Kd.int .i64).C w' B' Q.length Q ∧ Below W.heap.size W w') := ⟨fun zs hz hzl W B d hW hC => by
    rw [show Q = rankedL l g lv zs by rw [hQ]; unfold rankedL; rw [places_same hz]]
    exact out (order_Ranked.walk AL cL l AG cG g B d zs lv W (Kd.C_below HCL.out.2.2 hW) HCL.out.2.1 (Kd.C_below HCG.out.2.2 hW) HCG.out.2.1 hC (by omega) (by omega) (by omega) hlv)⟩
  have HMA : Aside0 (∀ (zs : List Int), (∀ x, x ∈ zs ↔ x ∈ xs) → zs.length ≤ 100 → ∀ (W : World) (B : Option Addr) (d : Nat), Below W1.heap.size W1 W → (Kd.int .i64).C W B zs.length zs → Calls Tryz.prog 20 #[.slice AL l.length cL, .slice AG g.length cG, .slice B zs.length d, .int .i64 top] W fun e w' => ∃ (B' : Option Addr) (d' : Nat), e = .returned (.slice B' M.length d') ∧ M.length ≤ d' ∧ (Kd.int .i64).C w' B' M.length M ∧ Below W.heap.size W w') := ⟨fun zs hz hzl W B d hW hC => by
    rw [show M = mainedL l g zs top by rw [hM]; unfold mainedL; rw [places_same hz]]
    exact out (order_Mained.walk AL cL l AG cG g B d zs top W (Kd.C_below HCL.out.2.2 hW) (Kd.C_below HCG.out.2.2 hW) hC (by omega) (by omega))⟩
  have HSA : Aside0 (∀ (L : List Int), L.length ≤ 100 → ∀ (W : World) (B B' : Option Addr) (d d' : Nat), L.length ≤ d → (Kd.int .i64).C W B L.length L → L.length ≤ d' → (Kd.int .i64).C W B' L.length L → Calls Tryz.prog 19 #[.slice B L.length d, .slice B' L.length d'] W fun e w' => e = .returned (.bool true) ∧ Below W.heap.size W w') := ⟨fun L hL W B B' d d' h1 h2 h3 h4 => by
    obtain ⟨kq, hkq⟩ := (same_self_evY L (by omega)).rounds
    exact (heliastref12_Same.calls kq B d L B' d' L true W h2 h1 h4 h3 hkq).mono (fun e w' h => ⟨h.1, h.2.below⟩)⟩
  have HTOP := Aside0.mk htop
  clear hxe hkx hpx hpw hlx hlv hgl mem hP hQ hM hpn out htop
  go_upto_region 3 with (go_at_call 9; refine (HSO.out _ hb1.out).mono ?_; rintro e w2 ⟨B2, d2, rfl, hd2, hC2, hb2⟩; have HC2 := Aside0.mk hC2; have HD2 := Aside0.mk hd2; have HB2 := Aside0.mk hb2; clear hC2 hd2 hb2)
  clear HSO
  have hxz := ix_backY xs.length (by omega)
  go_upto_block 0 with fail
  clear hxz
  go_cut [10] (fun s10 wx => Aside0 (Kd.R (Kd.int .i64) 3 wx w2.heap.size (fun _ => True) s10 xs.reverse) ∧ Aside0 (Below w2.heap.size w2 wx))
  case first =>
    have HB0 := Aside0.mk (Below.refl w2.heap.size w2)
    go_wp2_with fail
    go_loopg [10, 11] xs.length (fun gg v10 v11 wr => ∃ (i : Nat) (p : Int), p = (i : Int) - 1 ∧ i ≤ xs.length ∧ i ≤ gg ∧ v11 = .int .i64 p ∧ Aside0 (Kd.R (Kd.int .i64) 3 wr w2.heap.size (fun _ => True) v10 (xs.drop i).reverse) ∧ Aside0 (Below w2.heap.size w2 wr))
    case atStart => exact ⟨xs.length, _, rfl, Nat.le_refl _, Nat.le_refl _, rfl, ⟨by rw [List.drop_length, List.reverse_nil]; exact Kd.R_nil _ _ _ _ _⟩, HB0⟩
    case round =>
      obtain ⟨i, p, hp, hi, hgg, rfl, HV, HB⟩ := hrel
      cases i with
      | zero =>
        have hp0 : p = -1 := by rw [hp]; rfl
        subst hp0
        clear hp
        go_wp2_with fail
        go_meet
        exact ⟨⟨by have := HV.out; rwa [List.drop_zero] at this⟩, HB⟩
      | succ m =>
        have hpm : p = (m : Int) := by rw [hp]; omega
        subst hpm
        clear hp
        have hm : m < xs.length := by omega
        have hmz : (m : Int) < (xs.length : Int) := by omega
        have hm0 : 0 ≤ (m : Int) := by omega
        obtain ⟨ad, e, hx0⟩ := C_num HC2.out hm
        cases e
        have HST := Aside0.mk (back_stepY hm)
        obtain ⟨x, hx⟩ : ∃ x, x = xs[m] := ⟨_, rfl⟩
        rw [← hx] at hx0 HST
        replace hx0 := pw_cell_below HB.out hx0
        have hw1 := ix_backY m (by omega)
        have HLE : Aside0 ((xs.drop (m + 1)).reverse.length ≤ 100) := ⟨by rw [List.length_reverse, List.length_drop]; omega⟩
        clear hx
        go_wp2_with (at_builtin; refine Kd.R_append (Kd.int .i64) (w0 := w2) w2.heap.size rfl (.tmp 29) (.tmp 34) 27 3 (.int .i64 0) 8 rfl Tryz.underlying27 (by kernel_rfl) rfl (by decide) (by decide) u10 (xs.drop (m + 1)).reverse x [.int .i64 x] (fun _ => True) (fun _ => False) rfl rfl rfl (fun _ hk => hk.elim) (fun _ _ => trivial) HV.out HB.out (by have := HB.out.size; omega) (by have := HLE.out; omega) ?_; intro v4 w4 hr4 hb4 hg4 hat4; have HV4 := Aside0.mk hr4; have HB4 := Aside0.mk hb4; clear hr4 hb4 hg4 hat4)
        go_roundg m
        case measure => omega
        case rel => exact ⟨m, _, rfl, by omega, Nat.le_refl _, by first | rfl | rw [hw1], ⟨by rw [← HST.out]; exact HV4.out⟩, HB4⟩
  case rest =>
    obtain ⟨HV, HB⟩ := hcut
    have HCX := Aside0.mk (Kd.C_below HC2.out HB.out)
    have hrl : xs.reverse.length ≤ 20 := by rw [List.length_reverse]; exact hx20
    obtain ⟨rs, hrs⟩ : ∃ rs, rs = xs.reverse := ⟨_, rfl⟩
    rw [← hrs] at HV hrl
    have HRS := Aside0.mk hrs
    clear hrs
    have hs2 := HB.out.size
    have hyl : (rs ++ xs).length ≤ 100 := by rw [List.length_append]; omega
    have HYM : Aside0 (∀ x, x ∈ rs ++ xs ↔ x ∈ xs) := ⟨fun x => by rw [List.mem_append, HRS.out, List.mem_reverse]; exact ⟨fun h => h.elim id id, .inl⟩⟩
    obtain ⟨ys, hys⟩ : ∃ ys, ys = rs ++ xs := ⟨_, rfl⟩
    rw [← hys] at hyl HYM
    have HYS := Aside0.mk hys
    clear hys
    go_upto_region 9 with (at_builtin; refine Kd.R_append_rows (Kd.int .i64) (w0 := w2) w2.heap.size rfl (.tmp 36) (.tmp 37) 27 3 (.int .i64 0) 8 rfl Tryz.underlying27 (by kernel_rfl) rfl (by decide) (by decide) u10 rs xs B2 xs.length d2 (fun _ => True) (fun _ => False) rfl rfl HV.out HCX.out (fun x cs h => h) (fun _ h => h.elim) (fun _ _ => trivial) HB.out hs2 (by omega) ?_; intro v5 w5 hr5 hb5 hg5 hat5; clear hg5 hat5; rw [← HYS.out] at hr5; obtain ⟨B5, d5, rfl⟩ := Kd.R_slice hr5; have HC5 := Aside0.mk (Kd.R_reads' hr5).2; have HB5 := Aside0.mk hb5; clear hr5 hb5)
    have HW5 := Aside0.mk (below_then HB2.out HB2.out.size HB5.out)
    have HCX5 := Aside0.mk (Kd.C_below HC2.out HB5.out)
    clear HV HB HCX hs2 HC2 HB2 HRS hrl HYS
    have hlz : 0 < (l.length : Int) := by omega
    have hlz2 : ¬ (l.length : Int) = 0 := by omega
    have hwt : wrap64 (Int.tmod (k : Int) (l.length : Int)) = top := mod_topY k l.length hl0 HTOP.out hl18
    have hwt2 : Int.tmod (k : Int) (l.length : Int) = top := by rw [HTOP.out]; exact Int.tmod_eq_emod_of_nonneg (by omega)
    go_upto_region 10 with fail
    clear hwt hwt2
    have HKN := Aside0.mk law17_known.walk
    have HP1 := Aside0.mk (HPO.out xs (fun _ => Iff.rfl) (by omega))
    have HP2 := Aside0.mk (HPO.out ys HYM.out hyl)
    have HR1' := Aside0.mk (HRA.out xs (fun _ => Iff.rfl) (by omega))
    have HR2' := Aside0.mk (HRA.out ys HYM.out hyl)
    have HM1 := Aside0.mk (HMA.out xs (fun _ => Iff.rfl) (by omega))
    have HM2 := Aside0.mk (HMA.out ys HYM.out hyl)
    have HSP := Aside0.mk (HSA.out P HSL.out.1)
    have HSQ := Aside0.mk (HSA.out Q HSL.out.2.1)
    have HSM := Aside0.mk (HSA.out M HSL.out.2.2)
    clear HPO HRA HMA HSA HYM hyl
    go_wp2_with (first
      | (go_at_call 16; refine (HKN.out _).mono ?_; rintro e w6 ⟨rfl, hb6⟩; have HB6 := Aside0.mk hb6; clear hb6)
      | (go_at_call 27; (with_reducible refine (HP1.out w6 B2 d2 (below_then HW5.out HW5.out.size HB6.out) (Kd.C_below HCX5.out HB6.out)).mono ?_); rintro e w7 ⟨B17, d17, rfl, hd7, hC7, hb7⟩; have HB7 := Aside0.mk (below_then HB6.out HB6.out.size hb7); have HC7 := Aside0.mk hC7; have HD7 := Aside0.mk hd7; clear hC7 hd7 hb7)
      | (go_at_call 27; (with_reducible refine (HP2.out w7 B5 d5 (below_then HW5.out HW5.out.size HB7.out) (Kd.C_below HC5.out.2 HB7.out)).mono ?_); rintro e w8 ⟨B18, d18, rfl, hd8, hC8, hb8⟩; have HB8 := Aside0.mk (below_then HB7.out HB7.out.size hb8); have HC8 := Aside0.mk hC8; have HD8 := Aside0.mk hd8; have HK8 := Aside0.mk (Kd.C_below HC7.out hb8); clear hC8 hd8 hb8)
      | (go_at_call 19; (with_reducible refine (HSP.out w8 B17 B18 d17 d18 HD7.out HK8.out HD8.out HC8.out).mono ?_); rintro e w9 ⟨rfl, hb9⟩; have HB9 := Aside0.mk (below_then HB8.out HB8.out.size hb9); clear hb9)
      | (go_at_call 10; (with_reducible refine (HR1'.out w9 B2 d2 (below_then HW5.out HW5.out.size HB9.out) (Kd.C_below HCX5.out HB9.out)).mono ?_); rintro e w10 ⟨B20, d20, rfl, hd10, hC10, hb10⟩; have HB10 := Aside0.mk (below_then HB9.out HB9.out.size hb10); have HC10 := Aside0.mk hC10; have HD10 := Aside0.mk hd10; clear hC10 hd10 hb10)
      | (go_at_call 10; (with_reducible refine (HR2'.out w10 B5 d5 (below_then HW5.out HW5.out.size HB10.out) (Kd.C_below HC5.out.2 HB10.out)).mono ?_); rintro e w11 ⟨B21, d21, rfl, hd11, hC11, hb11⟩; have HB11 := Aside0.mk (below_then HB10.out HB10.out.size hb11); have HC11 := Aside0.mk hC11; have HD11 := Aside0.mk hd11; have HK11 := Aside0.mk (Kd.C_below HC10.out hb11); clear hC11 hd11 hb11)
      | (go_at_call 19; (with_reducible refine (HSQ.out w11 B20 B21 d20 d21 HD10.out HK11.out HD11.out HC11.out).mono ?_); rintro e w12 ⟨rfl, hb12⟩; have HB12 := Aside0.mk (below_then HB11.out HB11.out.size hb12); clear hb12)
      | (go_at_call 20; (with_reducible refine (HM1.out w12 B2 d2 (below_then HW5.out HW5.out.size HB12.out) (Kd.C_below HCX5.out HB12.out)).mono ?_); rintro e w13 ⟨B23, d23, rfl, hd13, hC13, hb13⟩; have HB13 := Aside0.mk (below_then HB12.out HB12.out.size hb13); have HC13 := Aside0.mk hC13; have HD13 := Aside0.mk hd13; clear hC13 hd13 hb13)
      | (go_at_call 20; (with_reducible refine (HM2.out w13 B5 d5 (below_then HW5.out HW5.out.size HB13.out) (Kd.C_below HC5.out.2 HB13.out)).mono ?_); rintro e w14 ⟨B24, d24, rfl, hd14, hC14, hb14⟩; have HB14 := Aside0.mk (below_then HB13.out HB13.out.size hb14); have HC14 := Aside0.mk hC14; have HD14 := Aside0.mk hd14; have HK14 := Aside0.mk (Kd.C_below HC13.out hb14); clear hC14 hd14 hb14)
      | (go_at_call 19; (with_reducible refine (HSM.out w14 B23 B24 d23 d24 HD13.out HK14.out HD14.out HC14.out).mono ?_); rintro e w15 ⟨rfl, hb15⟩; have HB15 := Aside0.mk (below_then HB14.out HB14.out.size hb15); clear hb15))
    go_ret
    exact ⟨rfl, below_then hb1.out hb1.out.size (below_then HW5.out HW5.out.size HB15.out)⟩
theorem heliastlaw17_OrderAny.calls (k : Nat) (A0 : Option Addr) (c0 : Nat) (l0 : List Int) (A1 : Option Addr) (c1 : Nat) (l1 : List Int) (a2 : Int) (r : Bool) (w : World) (hr0 : (Kd.int .u8).C w A0 l0.length l0) (hc0 : l0.length ≤ c0) (hr1 : (Kd.int .u8).C w A1 l1.length l1) (hc1 : l1.length ≤ c1)
    (h : (∀ x ∈ l0, (Lit.int .u8 x).wf = true) ∧ (Lit.int .u8 a2).wf = true) (hlaw : r = true) :
    Calls Tryz.prog 6 #[.slice A0 l0.length c0, .slice A1 l1.length c1, .int .u8 a2] w fun e w' => e = .returned (.bool r) ∧ Below w.heap.size w w' := by
  subst hlaw
  have ha := bytePY h.2
  obtain ⟨m, rfl⟩ : ∃ m : Nat, a2 = (m : Int) := ⟨a2.toNat, by omega⟩
  exact law17_OrderAny.walk A0 c0 l0 A1 c1 l1 m w hr0 hc0 (fun x hx => bytePY (h.1 x hx)) hr1 hc1 (by omega)
end Go.Proofs.YtmdjknkhjimgeaaGreat.S
end

/- Parts of the walk and of the plain law, joined for this claim alone by a program of this session. -/
import Derived.Test.YtmdjknkhjimgeaaGreatTa1
import Derived.Test.YtmdjknkhjimgeaaGreatTa0
import Derived.Test.YtmdjknkhjimgeaaGreatTa2
import Derived.Test.YtmdjknkhjimgeaaGreatTa3
import Derived.Test.YtmdjknkhjimgeaaGreatTa4
import Derived.Test.YtmdjknkhjimgeaaGreatTa5
section
namespace Go.Proofs.YtmdjknkhjimgeaaGreat.S
open Go.RowKit Go.Proofs.YtmdjknkhjimgeaaGreatW.PrintWords Go.Proofs.YtmdjknkhjimgeaaGreatW.PrintLast Go.Proofs.YtmdjknkhjimgeaaGreatW.PrintMore
attribute [local go_sem] max2_int min2_int max_two min_two max_three min_three max_four min_four
set_option linter.unusedVariables false
set_option linter.unusedSimpArgs false
open Go.Proofs.He
abbrev SEr := S50
theorem powAt_ev (v : SVl) (key : ByteArray) {d : Nat} (hd : Dm d v) (hd3 : d ≤ 300) : ∃ b : Int × Bool, Ev (fun k => power_at.f k v.f0 v.f1 v.f2 v.f3 v.f4 key) b := by
  obtain ⟨x, b, -, h2, -⟩ := get2_ev v key hd hd3
  by_cases hb : b = true
  · subst hb
    by_cases h3 : x.f0 = 2
    · refine ⟨(x.f1, true), Ev.congr (fun k => rfl) (Ev.bind h2 (Ev.congr (f := fun _ => some (x.f1, true)) (fun k => ?_) (Ev.now _)))⟩
      simp [h3]
    · refine ⟨(0, false), Ev.congr (fun k => rfl) (Ev.bind h2 (Ev.congr (f := fun _ => some (0, false)) (fun k => ?_) (Ev.now _)))⟩
      simp [h3]
  · obtain rfl := Bool.eq_false_iff.2 hb
    refine ⟨(0, false), Ev.congr (fun k => rfl) (Ev.bind h2 (Ev.congr (f := fun _ => some (0, false)) (fun k => ?_) (Ev.now _)))⟩
    simp
theorem powIn_ev (v : SVl) (key : ByteArray) {d : Nat} (hd : Dm d v) (hd3 : d ≤ 300) : ∃ x : SVl, Ev (fun k => power_in.f k v.f0 v.f1 v.f2 v.f3 v.f4 key) (x.f0, x.f1, x.f2, x.f3, x.f4) ∧ Dm d x := by
  obtain ⟨x, b, -, h2, h3⟩ := get2_ev v key hd hd3
  by_cases h5 : x.f0 = 5
  · refine ⟨x, Ev.congr (fun k => rfl) (Ev.bind h2 (Ev.congr (f := fun _ => some (x.f0, x.f1, x.f2, x.f3, x.f4)) (fun k => ?_) (Ev.now _))), h3⟩
    rw [if_pos h5]
  · refine ⟨⟨5, 0, ⟨#[]⟩, [], []⟩, Ev.congr (fun k => rfl) (Ev.bind h2 (Ev.congr (f := fun _ => some (5, 0, (⟨#[]⟩ : ByteArray), ([] : List ByteArray), ([] : List SVl))) (fun k => ?_) (Ev.now _))), Dm.le (d := 0) ⟨Nat.zero_le _, rfl⟩ (Nat.zero_le _)⟩
    rw [if_neg h5]
theorem powOr (b : Int × Bool) (z : Int) : ∃ n, power_level_or.f b.1 b.2 z = some n := by
  unfold power_level_or.f
  split
  · exact ⟨_, rfl⟩
  · exact ⟨_, rfl⟩
theorem powLvl_ev (v : SVl) (has : Bool) (c u : ByteArray) {d : Nat} (hd : Dm d v) (hd3 : d ≤ 300) : ∃ n : Int, Ev (fun k => power_Level.f k v.f0 v.f1 v.f2 v.f3 v.f4 has c u) n := by
  cases has with
  | true =>
    obtain ⟨x, h2, h3⟩ := powIn_ev v ⟨#[117, 115, 101, 114, 115]⟩ hd hd3
    obtain ⟨b4, h5⟩ := powAt_ev v ⟨#[117, 115, 101, 114, 115, 95, 100, 101, 102, 97, 117, 108, 116]⟩ hd hd3
    obtain ⟨b6, h7⟩ := powAt_ev x u h3 hd3
    obtain ⟨z, h50⟩ := powOr b4 0
    obtain ⟨n, h70⟩ := powOr b6 z
    exact ⟨n, Ev.congr (fun k => rfl) (Ev.bind h2 (Ev.bind h7 (Ev.bind h5 (Ev.bind (a := z) (Ev.congr (fun _ => h50) (Ev.now _)) (Ev.bind (a := n) (Ev.congr (fun _ => h70) (Ev.now _)) (Ev.now _))))))⟩
  | false =>
    by_cases e : u.toList = c.toList
    · exact ⟨100, Ev.congr (f := fun _ => some 100) (fun k => by rw [power_Level.f, if_neg (by decide), if_pos e]) (Ev.now _)⟩
    · exact ⟨0, Ev.congr (f := fun _ => some 0) (fun k => by rw [power_Level.f, if_neg (by decide), if_neg e]) (Ev.now _)⟩
def pwR : ByteArray := ⟨#[109, 46, 114, 111, 111, 109, 46, 112, 111, 119, 101, 114, 95, 108, 101, 118, 101, 108, 115]⟩
def crR : ByteArray := ⟨#[109, 46, 114, 111, 111, 109, 46, 99, 114, 101, 97, 116, 101]⟩
def lvlArgs (l : List SEr) (g : List (List Int)) (n : Int) : SVl × Bool × ByteArray × ByteArray :=
  (if 0 ≤ byF l g n pwR then (rd_T50 l (byF l g n pwR)).f10 else ⟨0, 0, ⟨#[]⟩, [], []⟩, decide (byF l g n pwR ≥ 0), if byF l g n crR < 0 then ⟨#[]⟩ else (rd_T50 l (byF l g n crR)).f4, (rd_T50 l n).f4)
def LvlIs (a : SVl × Bool × ByteArray × ByteArray) (z : Int) : Prop := Ev (fun k => power_Level.f k a.1.f0 a.1.f1 a.1.f2 a.1.f3 a.1.f4 a.2.1 a.2.2.1 a.2.2.2) z
theorem atR_in (l : List SEr) (p : Int) (h0 : 0 ≤ p) (h1 : p < l.length) : order_at.f l p = some ((rd_T50 l p).f0, (rd_T50 l p).f1, (rd_T50 l p).f2, (rd_T50 l p).f3, (rd_T50 l p).f4, (rd_T50 l p).f5, (rd_T50 l p).f6, (rd_T50 l p).f7, (rd_T50 l p).f8, (rd_T50 l p).f9, (rd_T50 l p).f10.f0, (rd_T50 l p).f10.f1, (rd_T50 l p).f10.f2, (rd_T50 l p).f10.f3, (rd_T50 l p).f10.f4) := by
  rw [order_at.f, if_neg (by omega), if_pos h0, if_pos h1]
theorem atR_out (l : List SEr) (p : Int) (h0 : p < 0) : order_at.f l p = some ((⟨#[]⟩ : ByteArray), (⟨#[]⟩ : ByteArray), (⟨#[]⟩ : ByteArray), false, (⟨#[]⟩ : ByteArray), (⟨#[]⟩ : ByteArray), ([] : List ByteArray), ([] : List ByteArray), 0, 0, 0, 0, (⟨#[]⟩ : ByteArray), ([] : List ByteArray), ([] : List SVl)) := by
  rw [order_at.f, if_pos h0]
theorem lvl_ev (l : List SEr) (g : List (List Int)) (n : Int) (h0 : 0 ≤ n) (h1 : n < l.length) (hq : ∀ x ∈ l, Dm 41 x.f10) : ∃ z : Int, LvlIs (lvlArgs l g n) z ∧ Ev (fun k => order_Level.f k l g n) z := by
  have bd : ∀ kind : ByteArray, byF l g n kind < l.length := fun kind => by
    rcases byF_spec (l := l) (g := g) (n := n) (kind := kind) with h | ⟨_, _, _, _, h⟩
    · rw [h]; omega
    · exact (slotIs_bd h).2.1
  have hp := bd pwR
  have hm := bd crR
  unfold LvlIs lvlArgs
  obtain ⟨p, hpe⟩ : ∃ p, p = byF l g n pwR := ⟨_, rfl⟩
  obtain ⟨m, hme⟩ : ∃ m, m = byF l g n crR := ⟨_, rfl⟩
  rw [← hpe, ← hme]
  rw [← hpe] at hp
  rw [← hme] at hm
  have hbp : order_By.f l g n (⟨#[109, 46, 114, 111, 111, 109, 46, 112, 111, 119, 101, 114, 95, 108, 101, 118, 101, 108, 115]⟩ : ByteArray) = some p := by rw [hpe]; rfl
  have hbm : order_By.f l g n (⟨#[109, 46, 114, 111, 111, 109, 46, 99, 114, 101, 97, 116, 101]⟩ : ByteArray) = some m := by rw [hme]; rfl
  have hc : ∃ t, order_at.f l m = some t ∧ t.2.2.2.2.1 = (if m < 0 then (⟨#[]⟩ : ByteArray) else (rd_T50 l m).f4) := by
    by_cases h0 : m < 0
    · exact ⟨_, atR_out l m h0, by rw [if_pos h0]⟩
    · exact ⟨_, atR_in l m (by omega) hm, by rw [if_neg h0]⟩
  obtain ⟨t, ht, hts⟩ := hc
  have hb : ∃ a, order_at.f l p = some a ∧ (a.2.2.2.2.2.2.2.2.2.2.1, a.2.2.2.2.2.2.2.2.2.2.2.1, a.2.2.2.2.2.2.2.2.2.2.2.2.1, a.2.2.2.2.2.2.2.2.2.2.2.2.2.1, a.2.2.2.2.2.2.2.2.2.2.2.2.2.2) = (fun x : SVl => (x.f0, x.f1, x.f2, x.f3, x.f4)) (if 0 ≤ p then (rd_T50 l p).f10 else ⟨0, 0, ⟨#[]⟩, [], []⟩) := by
    by_cases h0 : 0 ≤ p
    · exact ⟨_, atR_in l p h0 hp, by rw [if_pos h0]⟩
    · exact ⟨_, atR_out l p (by omega), by rw [if_neg h0]⟩
  obtain ⟨a, ha, has⟩ := hb
  have hdm : Dm 41 (if 0 ≤ p then (rd_T50 l p).f10 else (⟨0, 0, ⟨#[]⟩, [], []⟩ : SVl)) := by
    by_cases h0 : 0 ≤ p
    · rw [if_pos h0]
      refine hq _ ?_
      show l.getD p.toNat _ ∈ l
      rw [List.getD_eq_getElem?_getD, List.getElem?_eq_getElem (by omega)]
      exact List.getElem_mem _
    · rw [if_neg h0]; exact Dm.le (d := 0) ⟨Nat.zero_le _, rfl⟩ (Nat.zero_le _)
  obtain ⟨v, hv⟩ : ∃ v, v = (if 0 ≤ p then (rd_T50 l p).f10 else (⟨0, 0, ⟨#[]⟩, [], []⟩ : SVl)) := ⟨_, rfl⟩
  rw [← hv] at has hdm ⊢
  obtain ⟨z, hz⟩ := powLvl_ev v (decide (p ≥ 0)) (if m < 0 then (⟨#[]⟩ : ByteArray) else (rd_T50 l m).f4) (rd_T50 l n).f4 hdm (by decide)
  refine ⟨z, hz, ?_⟩
  rw [← hts] at hz
  simp only [Prod.mk.injEq] at has
  obtain ⟨e0, e1, e2, e3, e4⟩ := has
  rw [← e0, ← e1, ← e2, ← e3, ← e4] at hz
  refine Ev.congr (f := fun k => order_Level.j0 k l g n false) (fun k => ?_) (Ev.step (fun k => ?_) (Ev.bind hz (f := fun _ t => some t) (Ev.now _)))
  · show order_Level.f k l g n = _
    rw [order_Level.f, if_neg (by omega), show decide (n ≥ (l.length : Int)) = false from decide_eq_false (by omega)]
  · show order_Level.j0 (k + 1) l g n false = _
    rw [order_Level.j0, if_neg (by decide), hbp, Option.bind_some, ha, Option.bind_some, hbm, Option.bind_some, ht, Option.bind_some, if_pos h0, if_pos h1]
def rankGo : List Int → Nat → List Int → List Int
  | r, _, [] => r
  | r, i, x :: s => rankGo (r.set x.toNat (i : Int)) (i + 1) s
theorem rankGo_len : ∀ (s : List Int) (r : List Int) (i : Nat), (rankGo r i s).length = r.length
  | [], _, _ => rfl
  | x :: s, r, i => by rw [rankGo, rankGo_len s]; simp
theorem rankGo_far : ∀ (s : List Int) (r : List Int) (i m : Nat), (∀ x ∈ s, 0 ≤ x ∧ x ≠ (m : Int)) → (rankGo r i s)[m]? = r[m]?
  | [], _, _, _, _ => rfl
  | x :: s, r, i, m, h => by
    rw [rankGo, rankGo_far s _ _ m (fun y hy => h y (List.mem_cons_of_mem _ hy)), List.getElem?_set_ne]
    have := h x List.mem_cons_self
    omega
theorem rankGo_at : ∀ (s : List Int) (r : List Int) (i : Nat), s.Nodup → (∀ x ∈ s, 0 ≤ x ∧ x < (r.length : Int)) → ∀ j, (hj : j < s.length) → (rankGo r i s)[s[j].toNat]? = some ((i + j : Nat) : Int)
  | [], _, _, _, _, j, hj => absurd hj (Nat.not_lt_zero _)
  | x :: s, r, i, hn, hv, j, hj => by
    have hn' := List.nodup_cons.1 hn
    cases j with
    | zero =>
      show (rankGo (r.set x.toNat (i : Int)) (i + 1) s)[x.toNat]? = _
      have hx := hv x List.mem_cons_self
      rw [rankGo_far s _ _ _ (fun y hy => ⟨(hv y (List.mem_cons_of_mem _ hy)).1, fun e => hn'.1 (by rw [show x = y by omega]; exact hy)⟩), List.getElem?_set_self (by omega)]
      rfl
    | succ j =>
      have hj' : j < s.length := by simpa using hj
      show (rankGo (r.set x.toNat (i : Int)) (i + 1) s)[s[j].toNat]? = _
      rw [rankGo_at s _ (i + 1) hn'.2 (fun y hy => by rw [List.length_set]; exact hv y (List.mem_cons_of_mem _ hy)) j hj']
      congr 2
      omega
def rankL (n : Nat) (s : List Int) : List Int := rankGo (List.replicate n 0) 0 s
theorem rankL_at {n : Nat} {s : List Int} (hn : s.Nodup) (hv : ∀ x ∈ s, 0 ≤ x ∧ x < (n : Int)) {j : Nat} (hj : j < s.length) : rankAt (rankL n s) s[j] = (j : Int) := by
  have h := rankGo_at s (List.replicate n 0) 0 hn (by simpa using hv) j hj
  have hx := hv _ (List.getElem_mem hj)
  unfold rankAt
  rw [if_neg (by unfold rankL; rw [rankGo_len]; simp; omega), List.getD_eq_getElem?_getD]
  unfold rankL
  rw [h, Nat.zero_add]
  rfl
def rankedL (l : List SEr) (g : List (List Int)) (lv : Int → Int) (xs : List Int) : List Int := ordL g (placesL l.length xs) (rankL l.length (sortedL l lv (placesL l.length xs)))
theorem placesR_len (n : Nat) (xs : List Int) : (placesL n xs).length ≤ xs.length := Nat.le_trans (riseL_length _) (List.length_filter_le _ _)
theorem placesR_mem {n : Nat} {xs : List Int} {x : Int} : x ∈ placesL n xs ↔ x ∈ xs ∧ 0 ≤ x ∧ x < (n : Int) := by
  show x ∈ riseL _ ↔ _
  rw [(riseL_spec _).2, List.mem_filter]
  unfold outP
  constructor
  · rintro ⟨h1, h2⟩
    simp at h2
    exact ⟨h1, by omega, by omega⟩
  · rintro ⟨h1, h2, h3⟩
    refine ⟨h1, ?_⟩
    simp
    omega
theorem placesR_rise (n : Nat) (xs : List Int) : (placesL n xs).Pairwise (· < ·) := (riseL_spec _).1
def Steps (g : List (List Int)) (rank : List Int) : List Int → List Int → Prop
  | W, [] => W = []
  | W, n :: o => n ∈ W ∧ freeIn g W n = true ∧ (∀ x ∈ W, freeIn g W x = true → lessN rank x n = false) ∧ Steps g rank (W.filter fun k => decide (k ≠ n)) o
theorem rch_low {g : List (List Int)} (hb : ∀ n, n < g.length → ∀ x ∈ g.getD n [], 0 ≤ x ∧ x < (n : Int)) {n : Int} (h0 : 0 ≤ n) (h1 : n < g.length) {x : Int} (h : Rch g (g.getD n.toNat []) x) : x < n := by
  induction h with
  | base h2 _ _ => have := hb n.toNat (by omega) _ h2; omega
  | step h2 h3 ih => have := h3.2.2.2; omega
theorem ordGo_steps {g : List (List Int)} (hb : ∀ n, n < g.length → ∀ x ∈ g.getD n [], 0 ≤ x ∧ x < (n : Int)) (rank : List Int) : ∀ (f : Nat) (W : List Int), W.Nodup → (∀ x ∈ W, 0 ≤ x ∧ x < g.length) → W.length ≤ f →
    Steps g rank W (ordGo g rank f W) ∧ (ordGo g rank f W).length = W.length
  | 0, W, _, _, hl => by
    have : W = [] := List.eq_nil_of_length_eq_zero (by omega)
    subst this
    exact ⟨rfl, rfl⟩
  | f + 1, W, hn, hv, hl => by
    by_cases hW : W = []
    · subst hW; exact ⟨rfl, rfl⟩
    · have hmin : ∃ m ∈ W, ∀ x ∈ W, m ≤ x := by
        clear hl hn hv
        induction W with
        | nil => exact absurd rfl hW
        | cons a l ih =>
          by_cases hl : l = []
          · subst hl; exact ⟨a, by simp, by simp⟩
          · obtain ⟨m, hm, hle⟩ := ih hl
            by_cases h : a ≤ m
            · exact ⟨a, by simp, fun x hx => by
                rcases List.mem_cons.1 hx with rfl | hx
                · omega
                · have := hle x hx; omega⟩
            · exact ⟨m, by simp [hm], fun x hx => by
                rcases List.mem_cons.1 hx with rfl | hx
                · omega
                · exact hle x hx⟩
      obtain ⟨m, hm, hle⟩ := hmin
      have hfree : freeIn g W m = true := by
        unfold freeIn
        simp only [Bool.not_eq_true', List.any_eq_false]
        intro k hk hr
        have := rch_low hb (hv m hm).1 (hv m hm).2 (rchB_iff.1 hr)
        have := hle k hk
        omega
      have hmF : m ∈ W.filter (freeIn g W) := List.mem_filter.2 ⟨hm, hfree⟩
      have hgo : ordGo g rank (f + 1) W = (match W.filter (freeIn g W) with | [] => [] | x :: l => leastN rank x l :: ordGo g rank f (W.filter fun k => decide (k ≠ leastN rank x l))) := rfl
      cases hF : W.filter (freeIn g W) with
      | nil => rw [hF] at hmF; cases hmF
      | cons x l =>
        rw [hF] at hgo
        change _ = leastN rank x l :: ordGo g rank f (W.filter fun k => decide (k ≠ leastN rank x l)) at hgo
        obtain ⟨hn0, hn1⟩ := leastN_spec rank l x
        rw [← hF] at hn0 hn1
        generalize leastN rank x l = n at hgo hn0 hn1
        obtain ⟨hnW, hnf⟩ := List.mem_filter.1 hn0
        have hsub : (W.filter fun k => decide (k ≠ n)).length + 1 ≤ W.length := by
          have h1 := List.length_filter_lt_length_iff_exists (p := fun k => decide (k ≠ n)) (l := W)
          have := h1.2 ⟨n, hnW, by simp⟩
          omega
        have hsub2 : W.length ≤ (W.filter fun k => decide (k ≠ n)).length + 1 := by
          have h2 := hn.length_le_of_subset (l₂ := n :: W.filter fun k => decide (k ≠ n)) (fun z hz => by
            by_cases e : z = n
            · simp [e]
            · exact List.mem_cons_of_mem _ (List.mem_filter.2 ⟨hz, by simpa using e⟩))
          simpa using h2
        obtain ⟨i1, i2⟩ := ordGo_steps hb rank f (W.filter fun k => decide (k ≠ n)) (hn.sublist List.filter_sublist) (fun x hx => hv x (List.mem_filter.1 hx).1) (by omega)
        rw [hgo]
        exact ⟨⟨hnW, hnf, fun y hy hyf => hn1 y (List.mem_filter.2 ⟨hy, hyf⟩), i1⟩, by rw [List.length_cons, i2]; omega⟩
theorem rankedL_steps {l : List SEr} {g : List (List Int)} (hgl : g.length = l.length) (hb : ∀ n, n < g.length → ∀ x ∈ g.getD n [], 0 ≤ x ∧ x < (n : Int)) (lv : Int → Int) (xs : List Int) :
    Steps g (rankL l.length (sortedL l lv (placesL l.length xs))) (placesL l.length xs) (rankedL l g lv xs) ∧ (rankedL l g lv xs).length = (placesL l.length xs).length := by
  have hs : setL g (placesL l.length xs) = placesL l.length xs := by
    refine rises_eq (pickL_rises g _) (placesR_rise _ _) (fun x => ?_)
    show x ∈ setL g _ ↔ _
    rw [mem_setL]
    exact ⟨fun h => h.2, fun h => ⟨by have := (placesR_mem.1 h).2; omega, h⟩⟩
  unfold rankedL ordL
  rw [hs]
  exact ordGo_steps hb _ _ _ ((placesR_rise _ _).imp (fun h e => by omega)) (fun x hx => by have := (placesR_mem.1 hx).2; omega) (Nat.le_refl _)
theorem rank_lt {l : List SEr} {lv : Int → Int} {A : List Int} (hA : A.Nodup) (hin : ∀ x ∈ A, 0 ≤ x ∧ x < (l.length : Int)) {x y : Int} (hx : x ∈ A) (hy : y ∈ A) (hne : x ≠ y) (h : lessN (rankL l.length (sortedL l lv A)) x y = false) : TnLt (turnOf l lv y) (turnOf l lv x) := by
  have hp := sortedL_perm l lv A
  have hsn : (sortedL l lv A).Nodup := hp.nodup_iff.2 hA
  have hsv : ∀ x ∈ sortedL l lv A, 0 ≤ x ∧ x < (l.length : Int) := fun x hx => hin x (hp.mem_iff.1 hx)
  obtain ⟨i, hi, rfl⟩ := List.getElem_of_mem (hp.mem_iff.2 hx)
  obtain ⟨j, hj, rfl⟩ := List.getElem_of_mem (hp.mem_iff.2 hy)
  unfold lessN at h
  rw [rankL_at hsn hsv hi, rankL_at hsn hsv hj] at h
  have hij : i ≠ j := fun e => hne (by subst e; rfl)
  have hlt : j < i := by
    simp only [Bool.or_eq_false_iff, decide_eq_false_iff_not] at h
    omega
  exact List.pairwise_iff_getElem.1 (sortedL_lt hA) j i hj hi hlt
theorem madeInts (n : Nat) : madeCells #[Value.int .i64 0] n = ((List.replicate n (0 : Int)).map (Value.int .i64)).toArray := by
  have h : ∀ x : Nat, (#[Value.int .i64 0])[x % (#[Value.int .i64 0]).size]! = Value.int .i64 0 := fun x => by
    have h1 : x % (#[Value.int .i64 0]).size = 0 := Nat.mod_one x
    rw [h1]; rfl
  unfold madeCells
  rw [show (fun x : Nat => (#[Value.int .i64 0])[x % (#[Value.int .i64 0]).size]!) = fun _ => Value.int .i64 0 from funext h]
  apply Array.toList_inj.1
  rw [Array.toList_map, Array.toList_range, List.map_replicate]
  apply List.ext_getElem?
  intro j
  rw [List.getElem?_map]
  by_cases hj : j < n
  · rw [List.getElem?_range hj, List.getElem?_replicate, if_pos hj]; rfl
  · rw [List.getElem?_eq_none (by simpa using hj), List.getElem?_eq_none (by simpa using hj)]; rfl
theorem setInts (ms : List Int) (b : Nat) (u : Int) : (ms.map (Value.int .i64)).toArray.setIfInBounds b (.int .i64 u) = ((ms.set b u).map (Value.int .i64)).toArray := by
  apply Array.toList_inj.1
  rw [Array.toList_setIfInBounds, List.map_set]
set_option maxHeartbeats 2000000 in
set_option maxRecDepth 100000 in
theorem ranked_1.walk (AL : Option Addr) (cL : Nat) (l : List SEr) (AG : Option Addr) (cG : Nat) (g : List (List Int)) (bl bg : Nat) (n z : Int) (k : Nat) (w : World)
    (hbl : w.cell? ⟨bl, 0, none⟩ = some (.slice AL l.length cL)) (hbg : w.cell? ⟨bg, 0, none⟩ = some (.slice AG g.length cG)) (hL : Kd.C k50 w AL l.length l) (hcL : l.length ≤ cL) (hG : Kd.C (Kd.slice 3 (Kd.int .i64)) w AG g.length g) (hcG : g.length ≤ cG) (h : order_Level.f k l g n = some z) :
    Calls Tryz.prog 33 #[.int .i64 n, .pointer (some ⟨bl, 0, none⟩), .pointer (some ⟨bg, 0, none⟩)] w fun e w' => e = .returned (.int .i64 z) ∧ Below w.heap.size w w' := by
  have HC := Aside0.mk (order_Level.calls k AL cL l AG cG g n z w hL hcL hG hcG h)
  clear hL hG h hcL hcG
  go_enter Tryz.func33, Tryz.ntmps33
  go_wp2_with (go_at_call 13; refine HC.out.mono ?_; rintro e w2 ⟨rfl, hb2⟩; replace hb2 := Aside0.mk hb2)
  go_ret
  exact ⟨rfl, hb2.out⟩
set_option maxHeartbeats 4000000 in
set_option maxRecDepth 100000 in
theorem order_Ranked.walk (AL : Option Addr) (cL : Nat) (l : List SEr) (AG : Option Addr) (cG : Nat) (g : List (List Int)) (A1 : Option Addr) (c1 : Nat) (xs : List Int) (lv : Int → Int) (w : World)
    (hL : Kd.C k50 w AL l.length l) (hcL : l.length ≤ cL) (hG : Kd.C (Kd.slice 3 (Kd.int .i64)) w AG g.length g) (hcG : g.length ≤ cG) (hX : Kd.C (Kd.int .i64) w A1 xs.length xs) (hl : l.length ≤ 100000) (hgl : g.length ≤ 100000) (hlim : xs.length ≤ 100000)
    (hlv : ∀ x : Int, 0 ≤ x → x < (l.length : Int) → Ev (fun k => order_Level.f k l g x) (lv x)) :
    Calls Tryz.prog 10 #[.slice AL l.length cL, .slice AG g.length cG, .slice A1 xs.length c1] w fun e w' => ∃ v, e = .returned v ∧ Kd.R (Kd.int .i64) 3 w' w.heap.size (fun _ => True) v (rankedL l g lv xs) ∧ Below w.heap.size w w' := by
  have hmf : ∀ (fn : Fn) (first cap : Array Value) (w : World), (Instr.makeFunc fn first cap).run Tryz.prog w = .ok (.func fn first cap) w := fun _ _ _ _ => rfl
  have HPL := Aside0.mk (fun (W : World) (hb : Below w.heap.size w W) => places.walk AL l.length cL A1 c1 xs W (Kd.C_below hX hb) (by omega))
  have hlen := placesR_len l.length xs
  have hin : ∀ x ∈ placesL l.length xs, 0 ≤ x ∧ x < (l.length : Int) := fun x hx => (placesR_mem.1 hx).2
  obtain ⟨all, hall⟩ : ∃ all, all = placesL l.length xs := ⟨_, rfl⟩
  rw [← hall] at hlen hin HPL
  obtain ⟨s, hs⟩ : ∃ s, s = sortedL l lv all := ⟨_, rfl⟩
  have hsp : s.Perm all := by rw [hs]; exact sortedL_perm l lv all
  have hsl : s.length ≤ 100000 := by rw [hsp.length_eq]; omega
  have HSI : Aside0 (∀ x ∈ s, 0 ≤ x ∧ x < (l.length : Int)) := ⟨fun x hx => hin x (hsp.mem_iff.1 hx)⟩
  obtain ⟨rz, hrz⟩ : ∃ rz, rz = List.replicate l.length (0 : Int) := ⟨_, rfl⟩
  have HRZ : Aside0 (rz.length = l.length) := ⟨by rw [hrz]; simp⟩
  have HRES : Aside0 (rankedL l g lv xs = ordL g all (rankGo rz 0 s)) := ⟨by unfold rankedL; rw [← hall, ← hs, hrz]; rfl⟩
  have hmk : ∀ W : World, (Instr.makeSlice 27 (.int .i64 (l.length : Int)) (.int .i64 (l.length : Int))).run Tryz.prog W = .ok (.slice (some ⟨W.heap.size, 0, none⟩) l.length l.length) (W.alloc (.cells (rz.map (Value.int .i64)).toArray 3)) := fun W => by
    have := run_make_row' (P := Tryz.prog) 27 3 (.int .i64 0) 8 Tryz.underlying27 (by kernel_rfl) rfl .i64 .i64 l.length (by omega) (by omega) W
    rw [madeInts, ← hrz] at this; exact this
  have HMK := Aside0.mk hmk
  have HS := Aside0.mk hs
  have HLEN : Aside0 (all.length ≤ 100000) := ⟨by omega⟩
  have HIN := Aside0.mk hin
  have HL := Aside0.mk hL
  have HG := Aside0.mk hG
  have HCL := Aside0.mk hcL
  have HCG := Aside0.mk hcG
  have HLV := Aside0.mk hlv
  clear hL hG hX hall hlen hin hcL hcG hlv hs hsp hrz hmk
  go_enter Tryz.func10, Tryz.ntmps10
  go_upto_region 1 with fail
  generalize hW1 : World.alloc (World.alloc w _) _ = W1
  have hb1 : Below w.heap.size w W1 := by rw [← hW1]; exact ((Below.refl _ _).alloc (Nat.le_refl _) _).alloc (by simp) _
  have hx1 : W1.heap[w.heap.size]? = some (.cells #[.slice AL l.length cL] 23 (0, 0)) := by rw [← hW1]; exact (heap_alloc_old _ _ (by simp)).trans (heap_alloc_new w _)
  have hx2 : W1.heap[w.heap.size + 1]? = some (.cells #[.slice AG g.length cG] 24 (0, 0)) := by rw [← hW1]; exact heap_alloc2_new w _ _
  have x1 : W1.cell? ⟨w.heap.size, 0, none⟩ = some (.slice AL l.length cL) := blk_cell hx1 0
  have x2 : W1.cell? ⟨w.heap.size + 1, 0, none⟩ = some (.slice AG g.length cG) := blk_cell hx2 0
  have HX1 := Aside0.mk x1
  have HX2 := Aside0.mk x2
  clear x2
  have HB1 := Aside0.mk hb1
  clear hW1 hb1 hx1 hx2
  go_upto_region 2 with (go_at_call 31; refine (HPL.out _ HB1.out).mono ?_; rintro e W2 ⟨v2, rfl, hr2, hb2⟩; obtain ⟨A2, c2, rfl⟩ := Kd.R_slice hr2; have HB2 := Aside0.mk hb2; have HR2 := Aside0.mk hr2; clear hr2 hb2)
  clear x1
  have x1 := pw_cell_below HB2.out HX1.out
  have hmk := HMK.out
  go_upto_region 3 with fail
  generalize hW3 : World.alloc W2 _ = W3
  have hb3 : Below W2.heap.size W2 W3 := by rw [← hW3]; exact (Below.refl _ _).alloc (Nat.le_refl _) _
  have hx3 : W3.heap[W2.heap.size]? = some (.cells (rz.map (Value.int .i64)).toArray 3 (0, 0)) := by rw [← hW3]; exact heap_alloc_new W2 _
  clear x1
  have HB23 := Aside0.mk (below_then HB2.out HB2.out.size hb3)
  have x1 := pw_cell_below HB23.out HX1.out
  have HX1' := Aside0.mk (pw_cell_below HB23.out HX1.out)
  have HX2' := Aside0.mk (pw_cell_below HB23.out HX2.out)
  have HX3 := Aside0.mk hx3
  have HB3 := Aside0.mk (below_then HB1.out HB1.out.size HB23.out)
  have HC2 := Aside0.mk (Kd.C_below (Kd.R_reads' HR2.out).2.2 hb3)
  have hgb : w.heap.size ≤ W2.heap.size := Nat.le_trans HB1.out.size HB2.out.size
  have HB32 := Aside0.mk hb3
  clear hW3 hb3 hx3 hmk
  have HSO : Aside0 (Calls Tryz.prog 32 #[.slice AL l.length cL, .slice A2 all.length c2, .func (.func 33) #[] #[.pointer (some ⟨w.heap.size, 0, none⟩), .pointer (some ⟨w.heap.size + 1, 0, none⟩)]] W3 fun e w' => ∃ v, e = .returned v ∧ Kd.R (Kd.int .i64) 3 w' W3.heap.size (fun _ => True) v s ∧ Below W3.heap.size W3 w') := ⟨by
    rw [HS.out]
    exact order_sorted.walk AL cL l A2 c2 all 33 #[.pointer (some ⟨w.heap.size, 0, none⟩), .pointer (some ⟨w.heap.size + 1, 0, none⟩)] lv W3 (enters_of Tryz.func33 (by kernel_rfl) rfl) (Kd.C_below HL.out HB3.out) HC2.out HIN.out (by have := HLEN.out; omega)
      (fun n hn W' hW' => by
        obtain ⟨k, hk⟩ := (HLV.out n (HIN.out n hn).1 (HIN.out n hn).2).rounds
        exact ranked_1.walk AL cL l AG cG g w.heap.size (w.heap.size + 1) n (lv n) k W' (pw_cell_below hW' HX1'.out) (pw_cell_below hW' HX2'.out) (Kd.C_below HL.out (below_then HB3.out HB3.out.size hW')) HCL.out (Kd.C_below HG.out (below_then HB3.out HB3.out.size hW')) HCG.out hk)⟩
  go_upto_block 0 with (go_at_call 32; refine HSO.out.mono ?_; rintro e W4 ⟨v4, rfl, hr4, hb4⟩; obtain ⟨A4, c4, rfl⟩ := Kd.R_slice hr4; have HB4 := Aside0.mk hb4; have HC4 := Aside0.mk (Kd.R_reads' hr4).2.2; have HR4 := Aside0.mk hr4; clear hr4 hb4)
  clear x1
  have HX4 : Aside0 (W4.heap[W2.heap.size]? = some (.cells (rz.map (Value.int .i64)).toArray 3 (0, 0))) := ⟨(HB4.out.block _ (blk_lt HX3.out)).trans HX3.out⟩
  have hlt3 : W2.heap.size < W3.heap.size := blk_lt HX3.out
  go_cut [] (fun wx => Aside0 (wx.heap[W2.heap.size]? = some (.cells ((rankGo rz 0 s).map (Value.int .i64)).toArray 3 (0, 0))) ∧ Aside0 (W4.grownBy wx (some W2.heap.size)))
  case first =>
    have HG0 := Aside0.mk (World.grownBy.refl W4 (some W2.heap.size))
    go_wp2_with fail
    go_loopg [9, 10, 22] s.length (fun gg v9 v10 v22 wr => ∃ (i : Nat) (r : List Int), i ≤ s.length ∧ s.length - i ≤ gg ∧ v22 = .int .i64 (i : Int) ∧ r.length = l.length ∧ Aside0 (rankGo r i (s.drop i) = rankGo rz 0 s) ∧ Aside0 (wr.heap[W2.heap.size]? = some (.cells (r.map (Value.int .i64)).toArray 3 (0, 0))) ∧ Aside0 (W4.grownBy wr (some W2.heap.size)))
    case atStart => exact ⟨0, rz, Nat.zero_le _, by omega, rfl, HRZ.out, ⟨by rw [List.drop_zero]⟩, HX4, HG0⟩
    case round =>
      obtain ⟨i, r, hi, hgg, rfl, hrl, HGO, HRW, HGR⟩ := hrel
      by_cases hlt : i < s.length
      · have hltz : (i : Int) < (s.length : Int) := by omega
        obtain ⟨g4, cap4, e4, hg4⟩ := row_form HR4.out (by omega)
        obtain ⟨e5, e6⟩ : A4 = some ⟨g4, 0, none⟩ ∧ c4 = cap4 := by
          injection e4 with h1 _ h2
          exact ⟨h1, h2⟩
        subst e5
        obtain ⟨ad, e, hx0⟩ := C_num HC4.out hlt
        cases e
        have hxs : s[i] ∈ s := List.getElem_mem hlt
        have hdr : s.drop i = s[i] :: s.drop (i + 1) := List.drop_eq_getElem_cons hlt
        obtain ⟨x, hx⟩ : ∃ x, x = s[i] := ⟨_, rfl⟩
        rw [← hx] at hx0 hxs hdr
        obtain ⟨h0, h1⟩ := HSI.out x hxs
        obtain ⟨m, rfl⟩ : ∃ m : Nat, x = (m : Int) := ⟨x.toNat, by omega⟩
        rw [add_plain] at hx0
        replace hx0 := cell_by HGR.out hx0 (fun e => by have := Option.some.inj e; simp at this; omega)
        have hml : m < r.length := by omega
        have hce : wr.cell? ⟨W2.heap.size, m, none⟩ = some (.int .i64 r[m]) := by rw [blk_cell HRW.out m]; simp [hml]
        have hfr := blk_frozen HRW.out m
        have HGO2 : Aside0 (rankGo (r.set m (i : Int)) (i + 1) (s.drop (i + 1)) = rankGo rz 0 s) := ⟨by rw [← HGO.out, hdr, rankGo, Int.toNat_natCast]⟩
        have HRW2 : Aside0 ((wr.setCell ⟨W2.heap.size, m, none⟩ (.int .i64 (i : Int))).heap[W2.heap.size]? = some (.cells ((r.set m (i : Int)).map (Value.int .i64)).toArray 3 (0, 0))) := ⟨blk_put HRW.out m _ (setInts r m i)⟩
        have HGR2 := Aside0.mk (HGR.out.trans (grown_setCell wr ⟨W2.heap.size, m, none⟩ (.int .i64 (i : Int))))
        have hrl2 : (r.set m (i : Int)).length = l.length := by rw [List.length_set]; exact hrl
        obtain ⟨old, hold⟩ : ∃ old, old = r[m] := ⟨_, rfl⟩
        rw [← hold] at hce
        obtain ⟨r2, hr2⟩ : ∃ r2, r2 = r.set m (i : Int) := ⟨_, rfl⟩
        rw [← hr2] at HGO2 HRW2 hrl2
        clear hx hxs hdr hold hr2
        go_wp2_with fail
        go_roundg (s.length - (i + 1))
        case measure => omega
        case rel => exact ⟨i + 1, r2, by omega, by omega, by go_num, hrl2, HGO2, HRW2, HGR2⟩
      · have hltz : ¬ (i : Int) < (s.length : Int) := by omega
        have HE : Aside0 (r = rankGo rz 0 s) := ⟨by rw [← HGO.out, List.drop_eq_nil_of_le (by omega)]; rfl⟩
        go_wp2_with fail
        go_meet
        exact ⟨⟨by rw [← HE.out]; exact HRW.out⟩, HGR⟩
  case rest =>
    obtain ⟨HRW, HGR⟩ := hcut
    obtain ⟨rk, hrk⟩ : ∃ rk, rk = rankGo rz 0 s := ⟨_, rfl⟩
    have hrkl : rk.length = l.length := by rw [hrk, rankGo_len]; exact HRZ.out
    rw [← hrk] at HRW HRES
    have HB4' := below_then HB3.out HB3.out.size HB4.out
    have HBX := Aside0.mk (pw_below_grown HB4' (some W2.heap.size) HB4'.size HGR.out (fun k hk => by cases hk; exact hgb))
    have x2 : wc.cell? ⟨w.heap.size + 1, 0, none⟩ = some (.slice AG g.length cG) := cell_by HGR.out (pw_cell_below HB4.out HX2'.out) (fun e => by have := Option.some.inj e; have h6 := World.block_lt_of_cell? _ _ HX2.out; have h7 := HB2.out.size; simp at this h6; omega)
    have hCr : Kd.C (Kd.int .i64) wc (some ⟨W2.heap.size, 0, none⟩) rk.length rk := Flat.C_mk (flatScalar (Value.int .i64) (fun _ => rfl)) (by omega) (fun j u hj => by rw [add_plain, blk_cell HRW.out]; simpa [flatMap_one] using hj)
    have hCa : Kd.C (Kd.int .i64) wc A2 all.length all := by
      have h1 := Kd.R_grown (Kd.R_below (Kd.R_below (Kd.R_bound HR2.out) HB32.out) HB4.out) HGR.out (fun k hk e => by have := hk.2.2.1; cases e; omega)
      exact (Kd.R_reads' h1).2.2
    have HGO := Aside0.mk (graph_Order.walk AG cG g A2 c2 all (some ⟨W2.heap.size, 0, none⟩) rk.length rk wc (Kd.C_below HG.out HBX.out) hCa hCr (by omega))
    rw [hrkl] at HGO
    clear hCr hCa hrk hrkl HRW
    go_wp2_with (go_at_call 34; refine HGO.out.mono ?_; rintro e W5 ⟨v5, rfl, hr5, hb5⟩; have HR5 := Aside0.mk hr5; have HB5 := Aside0.mk hb5; clear hr5 hb5)
    go_ret
    rw [HRES.out]
    exact ⟨_, rfl, Kd.R_lower HR5.out HBX.out.size, below_then HBX.out HBX.out.size HB5.out⟩
def heliastlaw17_set.l0 : Nat → Int → List Int → List Int → Int → Option (List Int)
  | 0, _, _, _, _ => none
  | k + 1, x0, x1, x5, x6 => if x6 < x0 then ((heliastref12_Has.f k x1 x6).bind fun t296 => (if t296 = true then (if x5.length < 17592186044416 then (heliastlaw17_set.l0 k x0 x1 (x5 ++ [x6]) (wrap64 (x6 + 1))) else (none)) else (heliastlaw17_set.l0 k x0 x1 x5 (wrap64 (x6 + 1))))) else (some x5)
def heliastlaw17_set.f (k : Nat) (a0 : Int) (l1 : List Int) : Option (List Int) := heliastlaw17_set.l0 k a0 l1 ([] : List Int) 0
set_option maxHeartbeats 8000000 in
set_option maxRecDepth 100000 in
theorem heliastlaw17_set.calls (k : Nat) (a0 : Int) (A1 : Option Addr) (c1 : Nat) (l1 : List Int) (r : List Int) (w : World) (hr1 : Kd.C (Kd.int .i64) w A1 l1.length l1) (hc1 : l1.length ≤ c1) (h : heliastlaw17_set.f k a0 l1 = some r) :
    Calls Tryz.prog 8 #[.int .i64 a0, .slice A1 l1.length c1] w fun e w' => ∃ v0_ : Value, e = .returned (v0_) ∧ Kd.R (Kd.int .i64) 3 w' w.heap.size (fun _ => True) v0_ r ∧ Below w.heap.size w w' := by
  have HR1 := Aside0.mk hr1
  have HC1 := Aside0.mk hc1
  clear hr1 hc1
  have HB := Aside0.mk (Below.refl w.heap.size w)
  have H : (heliastlaw17_set.l0 k a0 l1 ([] : List Int) 0) = some r := h
  clear h
  have H' := Aside0.mk H
  clear H
  go_enter Tryz.func8, Tryz.ntmps8
  go_wp2
  go_loopg [5, 6] k (fun kq v5 v6 w' => ∃ (x5_1 : List Int) (x6_1 : Int), v6 = .int .i64 x6_1 ∧ Aside0 (heliastlaw17_set.l0 kq a0 l1 x5_1 x6_1 = some r) ∧ Aside0 (kq ≤ k) ∧ Aside0 (Kd.R (Kd.int .i64) 3 w' w.heap.size (fun _ => True) v5 x5_1) ∧ Aside0 (Below w.heap.size w w'))
  case atStart => exact ⟨(([] : List Int)), (0), (by first | rfl | (simp; done) | (simp [*]; done)), H', ⟨Nat.le_refl _⟩, ⟨by first | exact Kd.R_nil _ _ _ _ _ | exact Kd.N_nil _ _ _ _ _ | exact Kd.V_nil _ _ _ _ _ | exact Kd.Q_nil _ _ _ _ _ | exact Kd.S_nil _ _ _ _ _⟩, ⟨by repeat (first | (with_reducible first | exact HB.out | apply below_alloc | apply pw_below_drewN | apply below_drew1) | exact HB.out)⟩⟩
  case round =>
    clear H'
    try clear c1
    try clear p2
    obtain ⟨x5_1, x6_1, rfl, HA, HK1, HO_5, HB⟩ := hrel
    cases gk with
    | zero => exact absurd HA.out (by simp [heliastlaw17_set.l0])
    | succ k1 =>
      have H := HA.out
      clear HA
      simp only [heliastlaw17_set.l0] at H
      by_cases c3 : x6_1 < a0
      · rw [if_pos c3] at H
        have c3b0 : decide (x6_1 < a0) = true := decide_eq_true c3
        clear c3
        replace H := Option.bind_eq_some_iff.mp H
        obtain ⟨t296, A40, H⟩ := H
        replace H : (if t296 = true then (if x5_1.length < 17592186044416 then (heliastlaw17_set.l0 k1 a0 l1 (x5_1 ++ [x6_1]) (wrap64 (x6_1 + 1))) else (none)) else (heliastlaw17_set.l0 k1 a0 l1 x5_1 (wrap64 (x6_1 + 1)))) = some r := H
        have A4 := Aside0.mk A40
        clear A40
        by_cases c5 : t296 = true
        · subst c5
          have H1 : (if x5_1.length < 17592186044416 then (heliastlaw17_set.l0 k1 a0 l1 (x5_1 ++ [x6_1]) (wrap64 (x6_1 + 1))) else (none)) = some r := by rw [if_pos rfl] at H; exact H
          clear H
          have H := H1
          clear H1
          by_cases c6 : x5_1.length < 17592186044416
          · rw [if_pos c6] at H
            have LMc6 := Aside0.mk c6
            clear c6
            obtain ⟨y297, hy297⟩ : ∃ y_ : List Int, y_ = (x5_1 ++ [x6_1]) := ⟨_, rfl⟩
            replace H : (heliastlaw17_set.l0 k1 a0 l1 y297 (wrap64 (x6_1 + 1))) = some r := by first | (rw [hy297]; with_reducible exact H) | (have H2_ := (Option.bind_some _ _).symm.trans H; rw [hy297]; with_reducible exact H2_) | (have H2_ := (Option.bind_some _ _).symm.trans H; with_reducible exact H2_) | with_reducible exact H | (rw [hy297]; exact H) | exact H
            have Ny297 := Aside0.mk hy297
            clear hy297
            have H' := Aside0.mk H
            clear H
            go_wp2_with (first | ((with_reducible refine gate_callee (f := 11) rfl ?_); refine goesL_ (some 14) rfl rfl Tryz.func11 (by kernel_rfl) rfl #[.slice A1 l1.length c1, .int .i64 x6_1] rfl (by (try simp only [List.map_toArray, List.map_cons, List.map_nil]); first | done | rfl | (simp only [List.length_drop, List.length_take]; rfl)) ?_; (with_reducible refine (heliastref12_Has.calls k1 _ _ l1 x6_1 true _ ?side1 ?side2 A4.out).mono ?_); (case side1 => repeat (first | exact (Kd.C_below HR1.out HB.out) | (with_reducible refine Kd.C_alloc ?_ _) | (with_reducible refine Kd.C_drewN ?_ _) | (with_reducible refine Kd.C_drew ?_))); (case side2 => exact HC1.out); rintro e w' ⟨rfl, ⟨nd, rfl⟩⟩; refine ⟨_, rfl, ?_⟩) | ((with_reducible refine gate_builtin (b := .append) (xs := #[.tmp 15, .tmp 17]) rfl ?_); at_builtin; refine Kd.R_append (Kd.int .i64) (w0 := w) w.heap.size rfl (.tmp 15) (.tmp 17) 27 3 (.int .i64 0) 8 rfl Tryz.underlying27 info3 rfl (by decide) (by omega) u5 x5_1 x6_1 [.int .i64 x6_1] (fun _ => True) (fun _ => False) rfl rfl ?aP (fun _ hk => hk.elim) ?aF ?aO ?aB ?aS ?aL ?_; (case aP => exact rfl); (case aB => exact (by repeat (first | (with_reducible first | exact HB.out | apply below_alloc | apply pw_below_drewN | apply below_drew1) | exact HB.out))); (case aF => exact (fun _ _ => trivial)); (case aO => exact (by (with_reducible repeat (first | apply Kd.R_alloc | apply Kd.R_drewN | apply Kd.R_drew)); exact HO_5.out)); (case aS => exact (below_size (by repeat (first | (with_reducible first | exact HB.out | apply below_alloc | apply pw_below_drewN | apply below_drew1) | exact HB.out)))); (case aL => have := LMc6.out; omega); intro v298 w7 ho hb hg hat; rw [← Ny297.out] at ho; have n0_ := Aside0.mk (hb); have n1_ := Aside0.mk (ho); clear HB; clear HO_5; have HB := n0_; have HO299 := n1_; clear n0_ n1_; clear ho hb hg hat))
            go_roundg k1
            case measure => have := HK1.out; omega
            case rel => exact ⟨(y297), (wrap64 (x6_1 + 1)), (by first | rfl | (simp; done) | (simp [*]; done)), H', ⟨by have := HK1.out; omega⟩, ⟨by (with_reducible repeat (first | apply Kd.R_alloc | apply Kd.R_drewN | apply Kd.R_drew)); exact HO299.out⟩, ⟨by repeat (first | (with_reducible first | exact HB.out | apply below_alloc | apply pw_below_drewN | apply below_drew1) | exact HB.out)⟩⟩
          · rw [if_neg c6] at H
            exact absurd H (by simp)
        · replace c5 := Bool.eq_false_iff.mpr c5
          subst c5
          have H1 : (heliastlaw17_set.l0 k1 a0 l1 x5_1 (wrap64 (x6_1 + 1))) = some r := by rw [if_neg (show ¬ (false = true) by decide)] at H; exact H
          clear H
          have H := H1
          clear H1
          have H' := Aside0.mk H
          clear H
          go_wp2_with (first | ((with_reducible refine gate_callee (f := 11) rfl ?_); refine goesL_ (some 14) rfl rfl Tryz.func11 (by kernel_rfl) rfl #[.slice A1 l1.length c1, .int .i64 x6_1] rfl (by (try simp only [List.map_toArray, List.map_cons, List.map_nil]); first | done | rfl | (simp only [List.length_drop, List.length_take]; rfl)) ?_; (with_reducible refine (heliastref12_Has.calls k1 _ _ l1 x6_1 false _ ?side1 ?side2 A4.out).mono ?_); (case side1 => repeat (first | exact (Kd.C_below HR1.out HB.out) | (with_reducible refine Kd.C_alloc ?_ _) | (with_reducible refine Kd.C_drewN ?_ _) | (with_reducible refine Kd.C_drew ?_))); (case side2 => exact HC1.out); rintro e w' ⟨rfl, ⟨nd, rfl⟩⟩; refine ⟨_, rfl, ?_⟩))
          go_roundg k1
          case measure => have := HK1.out; omega
          case rel => exact ⟨(x5_1), (wrap64 (x6_1 + 1)), (by first | rfl | (simp; done) | (simp [*]; done)), H', ⟨by have := HK1.out; omega⟩, ⟨by (with_reducible repeat (first | apply Kd.R_alloc | apply Kd.R_drewN | apply Kd.R_drew)); exact HO_5.out⟩, ⟨by repeat (first | (with_reducible first | exact HB.out | apply below_alloc | apply pw_below_drewN | apply below_drew1) | exact HB.out)⟩⟩
      · rw [if_neg c3] at H
        have c3b0 : decide (x6_1 < a0) = false := decide_eq_false c3
        clear c3
        obtain rfl := Option.some.inj H
        go_wp2
        go_ret
        exact ⟨_, by first | rfl | (simp [errW_none, errW_some] <;> rfl) | (simp [*, errW_none, errW_some] <;> rfl), by (with_reducible repeat (first | apply Kd.R_alloc | apply Kd.R_drewN | apply Kd.R_drew)); exact HO_5.out, by repeat (first | (with_reducible first | exact HB.out | apply below_alloc | apply pw_below_drewN | apply below_drew1) | exact HB.out)⟩
def heliastlaw17_Some.l0 : Nat → List Int → Int → List Int → Int → Option (List Int)
  | 0, _, _, _, _ => none
  | k + 1, x0, x1, x5, x6 => if x6 < (x0.length : Int) then (if x6 < 20 then (if 0 ≤ x6 then (if (wrap64 (x1 + 2)) = 0 then (none) else (if x5.length < 17592186044416 then (heliastlaw17_Some.l0 k x0 x1 (x5 ++ [wrap64 ((Int.tmod (wrap64 (rd x0 x6)) (wrap64 (x1 + 2))) - 1)]) (wrap64 (x6 + 1))) else (none))) else (none)) else (some x5)) else (some x5)
def heliastlaw17_Some.f (k : Nat) (l0 : List Int) (a1 : Int) : Option (List Int) := heliastlaw17_Some.l0 k l0 a1 ([] : List Int) 0
set_option maxHeartbeats 8000000 in
set_option maxRecDepth 100000 in
theorem heliastlaw17_Some.calls (k : Nat) (A0 : Option Addr) (c0 : Nat) (l0 : List Int) (a1 : Int) (r : List Int) (w : World) (hr0 : Kd.C (Kd.int .u8) w A0 l0.length l0) (hc0 : l0.length ≤ c0) (h : heliastlaw17_Some.f k l0 a1 = some r) :
    Calls Tryz.prog 9 #[.slice A0 l0.length c0, .int .i64 a1] w fun e w' => ∃ v0_ : Value, e = .returned (v0_) ∧ Kd.R (Kd.int .i64) 3 w' w.heap.size (fun _ => True) v0_ r ∧ Below w.heap.size w w' := by
  have HR0 := Aside0.mk hr0
  have HC0 := Aside0.mk hc0
  clear hr0 hc0
  have HB := Aside0.mk (Below.refl w.heap.size w)
  have H : (heliastlaw17_Some.l0 k l0 a1 ([] : List Int) 0) = some r := h
  clear h
  have H' := Aside0.mk H
  clear H
  go_enter Tryz.func9, Tryz.ntmps9
  go_wp2
  go_loopg [5, 6] k (fun kq v5 v6 w' => ∃ (x5_1 : List Int) (x6_1 : Int), v6 = .int .i64 x6_1 ∧ Aside0 (heliastlaw17_Some.l0 kq l0 a1 x5_1 x6_1 = some r) ∧ Aside0 (kq ≤ k) ∧ Aside0 (Kd.R (Kd.int .i64) 3 w' w.heap.size (fun _ => True) v5 x5_1) ∧ Aside0 (Below w.heap.size w w'))
  case atStart => exact ⟨(([] : List Int)), (0), (by first | rfl | (simp; done) | (simp [*]; done)), H', ⟨Nat.le_refl _⟩, ⟨by first | exact Kd.R_nil _ _ _ _ _ | exact Kd.N_nil _ _ _ _ _ | exact Kd.V_nil _ _ _ _ _ | exact Kd.Q_nil _ _ _ _ _ | exact Kd.S_nil _ _ _ _ _⟩, ⟨by repeat (first | (with_reducible first | exact HB.out | apply below_alloc | apply pw_below_drewN | apply below_drew1) | exact HB.out)⟩⟩
  case round =>
    clear H'
    try clear p2
    obtain ⟨x5_1, x6_1, rfl, HA, HK1, HO_5, HB⟩ := hrel
    cases gk with
    | zero => exact absurd HA.out (by simp [heliastlaw17_Some.l0])
    | succ k1 =>
      have H := HA.out
      clear HA
      simp only [heliastlaw17_Some.l0] at H
      by_cases c3 : x6_1 < (l0.length : Int)
      · rw [if_pos c3] at H
        have c3b0 : decide (x6_1 < (l0.length : Int)) = true := decide_eq_true c3
        clear c3
        by_cases c4 : x6_1 < 20
        · rw [if_pos c4] at H
          have c4b0 : decide (x6_1 < 20) = true := decide_eq_true c4
          clear c4
          by_cases c5 : 0 ≤ x6_1
          · rw [if_pos c5] at H
            have c5b0 : decide (0 ≤ x6_1) = true := decide_eq_true c5
            clear c5
            by_cases c6 : (wrap64 (a1 + 2)) = 0
            · rw [if_pos c6] at H
              exact absurd H (by simp)
            · rw [if_neg c6] at H
              have c6b0 : ((wrap64 (a1 + 2)) == 0) = false := beq_eq_false_iff_ne.mpr c6
              have c6b1 : ((wrap64 (a1 + 2)) != 0) = true := bne_iff_ne.mpr c6
              by_cases c7 : x5_1.length < 17592186044416
              · rw [if_pos c7] at H
                have LMc7 := Aside0.mk c7
                clear c7
                obtain ⟨y301, hy301⟩ : ∃ y_ : List Int, y_ = (x5_1 ++ [wrap64 ((Int.tmod (wrap64 (rd l0 x6_1)) (wrap64 (a1 + 2))) - 1)]) := ⟨_, rfl⟩
                replace H : (heliastlaw17_Some.l0 k1 l0 a1 y301 (wrap64 (x6_1 + 1))) = some r := by first | (rw [hy301]; with_reducible exact H) | (have H2_ := (Option.bind_some _ _).symm.trans H; rw [hy301]; with_reducible exact H2_) | (have H2_ := (Option.bind_some _ _).symm.trans H; with_reducible exact H2_) | with_reducible exact H | (rw [hy301]; exact H) | exact H
                have Ny301 := Aside0.mk hy301
                clear hy301
                have H' := Aside0.mk H
                clear H
                have p300 : 0 ≤ (x6_1 : Int) := of_decide_eq_true (by first | (with_reducible assumption) | assumption)
                have q300 : x6_1 < (l0.length : Int) := of_decide_eq_true (by first | (with_reducible assumption) | assumption)
                obtain ⟨ad300, e300, hx300_0⟩ := Kd.at_int HR0.out x6_1 p300 q300
                cases e300
                replace hx300_0 := (HB.out.cell (World.block_lt_of_cell? w _ hx300_0)).trans hx300_0
                replace p300 := eq_true p300
                replace q300 := eq_true q300
                go_wp2_with (first | ((with_reducible refine gate_builtin (b := .append) (xs := #[.tmp 17, .tmp 27]) rfl ?_); at_builtin; refine Kd.R_append (Kd.int .i64) (w0 := w) w.heap.size rfl (.tmp 17) (.tmp 27) 27 3 (.int .i64 0) 8 rfl Tryz.underlying27 info3 rfl (by decide) (by omega) u5 x5_1 (wrap64 ((Int.tmod (wrap64 (rd l0 x6_1)) (wrap64 (a1 + 2))) - 1)) [.int .i64 (wrap64 ((Int.tmod (wrap64 (rd l0 x6_1)) (wrap64 (a1 + 2))) - 1))] (fun _ => True) (fun _ => False) rfl rfl ?aP (fun _ hk => hk.elim) ?aF ?aO ?aB ?aS ?aL ?_; (case aP => exact rfl); (case aB => exact (by repeat (first | (with_reducible first | exact HB.out | apply below_alloc | apply pw_below_drewN | apply below_drew1) | exact HB.out))); (case aF => exact (fun _ _ => trivial)); (case aO => exact (by (with_reducible repeat (first | apply Kd.R_alloc | apply Kd.R_drewN | apply Kd.R_drew)); exact HO_5.out)); (case aS => exact (below_size (by repeat (first | (with_reducible first | exact HB.out | apply below_alloc | apply pw_below_drewN | apply below_drew1) | exact HB.out)))); (case aL => have := LMc7.out; omega); intro v302 w8 ho hb hg hat; rw [← Ny301.out] at ho; have n0_ := Aside0.mk (hb); have n1_ := Aside0.mk (ho); clear HB; clear HO_5; have HB := n0_; have HO303 := n1_; clear n0_ n1_; clear ho hb hg hat))
                go_roundg k1
                case measure => have := HK1.out; omega
                case rel => exact ⟨(y301), (wrap64 (x6_1 + 1)), (by first | rfl | (simp; done) | (simp [*]; done)), H', ⟨by have := HK1.out; omega⟩, ⟨by (with_reducible repeat (first | apply Kd.R_alloc | apply Kd.R_drewN | apply Kd.R_drew)); exact HO303.out⟩, ⟨by repeat (first | (with_reducible first | exact HB.out | apply below_alloc | apply pw_below_drewN | apply below_drew1) | exact HB.out)⟩⟩
              · rw [if_neg c7] at H
                exact absurd H (by simp)
          · rw [if_neg c5] at H
            exact absurd H (by simp)
        · rw [if_neg c4] at H
          have c4b0 : decide (x6_1 < 20) = false := decide_eq_false c4
          clear c4
          obtain rfl := Option.some.inj H
          go_wp2
          go_ret
          exact ⟨_, by first | rfl | (simp [errW_none, errW_some] <;> rfl) | (simp [*, errW_none, errW_some] <;> rfl), by (with_reducible repeat (first | apply Kd.R_alloc | apply Kd.R_drewN | apply Kd.R_drew)); exact HO_5.out, by repeat (first | (with_reducible first | exact HB.out | apply below_alloc | apply pw_below_drewN | apply below_drew1) | exact HB.out)⟩
      · rw [if_neg c3] at H
        have c3b0 : decide (x6_1 < (l0.length : Int)) = false := decide_eq_false c3
        clear c3
        obtain rfl := Option.some.inj H
        go_wp2
        go_ret
        exact ⟨_, by first | rfl | (simp [errW_none, errW_some] <;> rfl) | (simp [*, errW_none, errW_some] <;> rfl), by (with_reducible repeat (first | apply Kd.R_alloc | apply Kd.R_drewN | apply Kd.R_drew)); exact HO_5.out, by repeat (first | (with_reducible first | exact HB.out | apply below_alloc | apply pw_below_drewN | apply below_drew1) | exact HB.out)⟩
def graph_Past.f (l0 : List (List Int)) (a1 : Int) : Option (List Int) := if a1 < 0 then (some ([] : List Int)) else (if a1 ≥ (l0.length : Int) then (some ([] : List Int)) else (if 0 ≤ a1 then (if a1 < (l0.length : Int) then ((graph_Reach.f l0 (rd_L11 l0 a1)).bind fun t305 => (some t305)) else (none)) else (none)))
set_option maxHeartbeats 8000000 in
set_option maxRecDepth 100000 in
theorem graph_Past.calls (A0 : Option Addr) (c0 : Nat) (l0 : List (List Int)) (a1 : Int) (r : List Int) (w : World) (hr0 : Kd.C (Kd.slice 3 (Kd.int .i64)) w A0 l0.length l0) (hc0 : l0.length ≤ c0) (h : graph_Past.f l0 a1 = some r) :
    Calls Tryz.prog 12 #[.slice A0 l0.length c0, .int .i64 a1] w fun e w' => ∃ v0_ : Value, e = .returned (v0_) ∧ Kd.R (Kd.int .i64) 3 w' w.heap.size (fun _ => True) v0_ r ∧ Below w.heap.size w w' := by
  have HR0 := Aside0.mk hr0
  have HC0 := Aside0.mk hc0
  clear hr0 hc0
  have HB := Aside0.mk (Below.refl w.heap.size w)
  have H : (if a1 < 0 then (some ([] : List Int)) else (if a1 ≥ (l0.length : Int) then (some ([] : List Int)) else (if 0 ≤ a1 then (if a1 < (l0.length : Int) then ((graph_Reach.f l0 (rd_L11 l0 a1)).bind fun t305 => (some t305)) else (none)) else (none)))) = some r := h
  clear h
  by_cases c3 : a1 < 0
  · rw [if_pos c3] at H
    have c3b0 : decide (a1 < 0) = true := decide_eq_true c3
    clear c3
    obtain rfl := Option.some.inj H
    go_enter Tryz.func12, Tryz.ntmps12
    go_wp2
    go_ret
    exact ⟨_, by first | rfl | (simp [errW_none, errW_some] <;> rfl) | (simp [*, errW_none, errW_some] <;> rfl), by first | exact Kd.R_nil _ _ _ _ _ | exact Kd.N_nil _ _ _ _ _ | exact Kd.V_nil _ _ _ _ _ | exact Kd.Q_nil _ _ _ _ _ | exact Kd.S_nil _ _ _ _ _, by repeat (first | (with_reducible first | exact HB.out | apply below_alloc | apply pw_below_drewN | apply below_drew1) | exact HB.out)⟩
  · rw [if_neg c3] at H
    have c3b0 : decide (a1 < 0) = false := decide_eq_false c3
    clear c3
    by_cases c4 : a1 ≥ (l0.length : Int)
    · rw [if_pos c4] at H
      have c4b0 : decide ((l0.length : Int) ≤ a1) = true := decide_eq_true c4
      clear c4
      obtain rfl := Option.some.inj H
      go_enter Tryz.func12, Tryz.ntmps12
      go_wp2
      go_ret
      exact ⟨_, by first | rfl | (simp [errW_none, errW_some] <;> rfl) | (simp [*, errW_none, errW_some] <;> rfl), by first | exact Kd.R_nil _ _ _ _ _ | exact Kd.N_nil _ _ _ _ _ | exact Kd.V_nil _ _ _ _ _ | exact Kd.Q_nil _ _ _ _ _ | exact Kd.S_nil _ _ _ _ _, by repeat (first | (with_reducible first | exact HB.out | apply below_alloc | apply pw_below_drewN | apply below_drew1) | exact HB.out)⟩
    · rw [if_neg c4] at H
      have c4b0 : decide ((l0.length : Int) ≤ a1) = false := decide_eq_false c4
      clear c4
      by_cases c5 : 0 ≤ a1
      · rw [if_pos c5] at H
        have c5b0 : decide (0 ≤ a1) = true := decide_eq_true c5
        clear c5
        by_cases c6 : a1 < (l0.length : Int)
        · rw [if_pos c6] at H
          have c6b0 : decide (a1 < (l0.length : Int)) = true := decide_eq_true c6
          clear c6
          replace H := Option.bind_eq_some_iff.mp H
          obtain ⟨t305, A70, H⟩ := H
          replace H : (some t305) = some r := H
          have A7 := Aside0.mk A70
          clear A70
          obtain rfl := Option.some.inj H
          have p304 : 0 ≤ (a1 : Int) := of_decide_eq_true (by first | (with_reducible assumption) | assumption)
          have q304 : a1 < (l0.length : Int) := of_decide_eq_true (by first | (with_reducible assumption) | assumption)
          obtain ⟨ad304, A304_0, c304_0, e304, hx304_0, hl304_0, hi304_0⟩ := at_L11 HR0.out a1 p304 q304
          cases e304
          have HR304_0 := Aside0.mk hi304_0
          have HC304_0 := Aside0.mk hl304_0
          clear hi304_0 hl304_0
          replace p304 := eq_true p304
          replace q304 := eq_true q304
          go_enter Tryz.func12, Tryz.ntmps12
          go_wp2_with (first | ((with_reducible refine gate_callee (f := 35) rfl ?_); refine goesL_ (some 18) rfl rfl Tryz.func35 (by kernel_rfl) rfl #[.slice (some ad304) l0.length c0, .slice A304_0 (rd_L11 l0 a1).length c304_0] rfl (by (try simp only [List.map_toArray, List.map_cons, List.map_nil]); first | done | rfl | (simp only [List.length_drop, List.length_take]; rfl)) ?_; (with_reducible refine (graph_Reach.calls _ _ l0 _ _ (rd_L11 l0 a1) t305 _ ?side1 ?side2 ?side3 ?side4 A7.out).mono ?_); (case side1 => repeat (first | exact HR0.out | (with_reducible refine Kd.C_alloc ?_ _) | (with_reducible refine Kd.C_drewN ?_ _) | (with_reducible refine Kd.C_drew ?_))); (case side2 => exact HC0.out); (case side3 => repeat (first | exact HR304_0.out | (with_reducible refine Kd.C_alloc ?_ _) | (with_reducible refine Kd.C_drewN ?_ _) | (with_reducible refine Kd.C_drew ?_))); (case side4 => exact HC304_0.out); rintro e w8 ⟨v306, rfl, ho0, hb⟩; refine ⟨_, rfl, ?_⟩; have n0_ := Aside0.mk (Kd.R_lower ho0 (below_size (by repeat (first | (with_reducible first | exact HB.out | apply below_alloc | apply pw_below_drewN | apply below_drew1) | exact HB.out)))); have n1_ := Aside0.mk (below_step (by repeat (first | (with_reducible first | exact HB.out | apply below_alloc | apply pw_below_drewN | apply below_drew1) | exact HB.out)) hb); clear HB; have HO307 := n0_; have HB := n1_; clear n0_ n1_; (try clear hb); (try clear hb2); (try clear hk); (try clear hi); (try clear ho0)))
          go_ret
          exact ⟨_, by first | rfl | (simp [errW_none, errW_some] <;> rfl) | (simp [*, errW_none, errW_some] <;> rfl), by (with_reducible repeat (first | apply Kd.R_alloc | apply Kd.R_drewN | apply Kd.R_drew)); exact HO307.out, by repeat (first | (with_reducible first | exact HB.out | apply below_alloc | apply pw_below_drewN | apply below_drew1) | exact HB.out)⟩
        · rw [if_neg c6] at H
          exact absurd H (by simp)
      · rw [if_neg c5] at H
        exact absurd H (by simp)
def heliastlaw17_clear.l0 : Nat → List Int → List Int → Int → Option (Bool)
  | 0, _, _, _ => none
  | k + 1, x2, x7, x8 => if x8 < (x2.length : Int) then (if 0 ≤ x8 then ((heliastref12_Has.f k x7 (rd x2 x8)).bind fun t312 => (if t312 = true then (some false) else (heliastlaw17_clear.l0 k x2 x7 (wrap64 (x8 + 1))))) else (none)) else (some true)
def heliastlaw17_clear.f (k : Nat) (l0 : List (List Int)) (a1 : Int) (l2 : List Int) : Option (Bool) := (graph_Past.f l0 a1).bind fun t308 => (heliastlaw17_clear.l0 k l2 t308 0)
set_option maxHeartbeats 8000000 in
set_option maxRecDepth 100000 in
theorem heliastlaw17_clear.calls (k : Nat) (A0 : Option Addr) (c0 : Nat) (l0 : List (List Int)) (a1 : Int) (A2 : Option Addr) (c2 : Nat) (l2 : List Int) (r : Bool) (w : World) (hr0 : Kd.C (Kd.slice 3 (Kd.int .i64)) w A0 l0.length l0) (hc0 : l0.length ≤ c0) (hr2 : Kd.C (Kd.int .i64) w A2 l2.length l2) (hc2 : l2.length ≤ c2) (h : heliastlaw17_clear.f k l0 a1 l2 = some r) :
    Calls Tryz.prog 14 #[.slice A0 l0.length c0, .int .i64 a1, .slice A2 l2.length c2] w fun e w' => e = .returned (.bool r) ∧ Below w.heap.size w w' := by
  have HR0 := Aside0.mk hr0
  have HC0 := Aside0.mk hc0
  clear hr0 hc0
  have HR2 := Aside0.mk hr2
  have HC2 := Aside0.mk hc2
  clear hr2 hc2
  have HB := Aside0.mk (Below.refl w.heap.size w)
  have H : ((graph_Past.f l0 a1).bind fun t308 => (heliastlaw17_clear.l0 k l2 t308 0)) = some r := h
  clear h
  replace H := Option.bind_eq_some_iff.mp H
  obtain ⟨t308, A40, H⟩ := H
  replace H : (heliastlaw17_clear.l0 k l2 t308 0) = some r := H
  have A4 := Aside0.mk A40
  clear A40
  have H' := Aside0.mk H
  clear H
  go_enter Tryz.func14, Tryz.ntmps14
  go_wp2_with (first | ((with_reducible refine gate_callee (f := 12) rfl ?_); refine goesL_ (some 11) rfl rfl Tryz.func12 (by kernel_rfl) rfl #[.slice A0 l0.length c0, .int .i64 a1] rfl (by (try simp only [List.map_toArray, List.map_cons, List.map_nil]); first | done | rfl | (simp only [List.length_drop, List.length_take]; rfl)) ?_; (with_reducible refine (graph_Past.calls _ _ l0 a1 t308 _ ?side1 ?side2 A4.out).mono ?_); (case side1 => repeat (first | exact HR0.out | (with_reducible refine Kd.C_alloc ?_ _) | (with_reducible refine Kd.C_drewN ?_ _) | (with_reducible refine Kd.C_drew ?_))); (case side2 => exact HC0.out); rintro e w5 ⟨v309, rfl, ho0, hb⟩; refine ⟨_, rfl, ?_⟩; have n0_ := Aside0.mk (Kd.R_lower ho0 (below_size (by repeat (first | (with_reducible first | exact HB.out | apply below_alloc | apply pw_below_drewN | apply below_drew1) | exact HB.out)))); have n1_ := Aside0.mk (below_step (by repeat (first | (with_reducible first | exact HB.out | apply below_alloc | apply pw_below_drewN | apply below_drew1) | exact HB.out)) hb); clear HB; have HO310 := n0_; have HB := n1_; clear n0_ n1_; (try clear hb); (try clear hb2); (try clear hk); (try clear hi); (try clear ho0)))
  go_loopg [8] k (fun kq v8 w' => ∃ (x8_1 : Int), v8 = .int .i64 x8_1 ∧ Aside0 (heliastlaw17_clear.l0 kq l2 t308 x8_1 = some r) ∧ Aside0 (kq ≤ k) ∧ Aside0 (Kd.R (Kd.int .i64) 3 w' w.heap.size (fun _ => True) v309 t308) ∧ Aside0 (Below w.heap.size w w'))
  case atStart => exact ⟨(0), (by first | rfl | (simp; done) | (simp [*]; done)), H', ⟨Nat.le_refl _⟩, ⟨by (with_reducible repeat (first | apply Kd.R_alloc | apply Kd.R_drewN | apply Kd.R_drew)); exact HO310.out⟩, ⟨by repeat (first | (with_reducible first | exact HB.out | apply below_alloc | apply pw_below_drewN | apply below_drew1) | exact HB.out)⟩⟩
  case round =>
    clear H'
    try clear c1
    try clear c2
    try clear p2
    obtain ⟨x8_1, rfl, HA, HK1, HO_7, HB⟩ := hrel
    cases gk with
    | zero => exact absurd HA.out (by simp [heliastlaw17_clear.l0])
    | succ k1 =>
      have H := HA.out
      clear HA
      simp only [heliastlaw17_clear.l0] at H
      by_cases c6 : x8_1 < (l2.length : Int)
      · rw [if_pos c6] at H
        have c6b0 : decide (x8_1 < (l2.length : Int)) = true := decide_eq_true c6
        clear c6
        by_cases c7 : 0 ≤ x8_1
        · rw [if_pos c7] at H
          have c7b0 : decide (0 ≤ x8_1) = true := decide_eq_true c7
          clear c7
          replace H := Option.bind_eq_some_iff.mp H
          obtain ⟨t312, A80, H⟩ := H
          replace H : (if t312 = true then (some false) else (heliastlaw17_clear.l0 k1 l2 t308 (wrap64 (x8_1 + 1)))) = some r := H
          have A8 := Aside0.mk A80
          clear A80
          by_cases c9 : t312 = true
          · subst c9
            have H1 : (some false) = some r := by rw [if_pos rfl] at H; exact H
            clear H
            have H := H1
            clear H1
            obtain rfl := Option.some.inj H
            have p311 : 0 ≤ (x8_1 : Int) := of_decide_eq_true (by first | (with_reducible assumption) | assumption)
            have q311 : x8_1 < (l2.length : Int) := of_decide_eq_true (by first | (with_reducible assumption) | assumption)
            obtain ⟨ad311, e311, hx311_0⟩ := Kd.at_int HR2.out x8_1 p311 q311
            cases e311
            replace hx311_0 := (HB.out.cell (World.block_lt_of_cell? w _ hx311_0)).trans hx311_0
            replace p311 := eq_true p311
            replace q311 := eq_true q311
            obtain ⟨Ao10, co10, eo10⟩ := Kd.R_slice HO_7.out
            subst eo10
            go_wp2_with (first | ((with_reducible refine gate_callee (f := 11) rfl ?_); refine goesL_ (some 23) rfl rfl Tryz.func11 (by kernel_rfl) rfl #[.slice Ao10 t308.length co10, .int .i64 (rd l2 x8_1)] rfl (by (try simp only [List.map_toArray, List.map_cons, List.map_nil]); first | done | rfl | (simp only [List.length_drop, List.length_take]; rfl)) ?_; (with_reducible refine (heliastref12_Has.calls k1 _ _ t308 (rd l2 x8_1) true _ ?side1 ?side2 A8.out).mono ?_); (case side1 => repeat (first | exact (Kd.R_reads' HO_7.out).2.2 | (with_reducible refine Kd.C_alloc ?_ _) | (with_reducible refine Kd.C_drewN ?_ _) | (with_reducible refine Kd.C_drew ?_))); (case side2 => exact (Kd.R_reads' HO_7.out).2.1); rintro e w' ⟨rfl, ⟨nd, rfl⟩⟩; refine ⟨_, rfl, ?_⟩))
            go_ret
            exact ⟨by first | rfl | (simp [errW_none, errW_some] <;> rfl) | (simp [*, errW_none, errW_some] <;> rfl), by repeat (first | (with_reducible first | exact HB.out | apply below_alloc | apply pw_below_drewN | apply below_drew1) | exact HB.out)⟩
          · replace c9 := Bool.eq_false_iff.mpr c9
            subst c9
            have H1 : (heliastlaw17_clear.l0 k1 l2 t308 (wrap64 (x8_1 + 1))) = some r := by rw [if_neg (show ¬ (false = true) by decide)] at H; exact H
            clear H
            have H := H1
            clear H1
            have H' := Aside0.mk H
            clear H
            have p311 : 0 ≤ (x8_1 : Int) := of_decide_eq_true (by first | (with_reducible assumption) | assumption)
            have q311 : x8_1 < (l2.length : Int) := of_decide_eq_true (by first | (with_reducible assumption) | assumption)
            obtain ⟨ad311, e311, hx311_0⟩ := Kd.at_int HR2.out x8_1 p311 q311
            cases e311
            replace hx311_0 := (HB.out.cell (World.block_lt_of_cell? w _ hx311_0)).trans hx311_0
            replace p311 := eq_true p311
            replace q311 := eq_true q311
            obtain ⟨Ao11, co11, eo11⟩ := Kd.R_slice HO_7.out
            subst eo11
            go_wp2_with (first | ((with_reducible refine gate_callee (f := 11) rfl ?_); refine goesL_ (some 23) rfl rfl Tryz.func11 (by kernel_rfl) rfl #[.slice Ao11 t308.length co11, .int .i64 (rd l2 x8_1)] rfl (by (try simp only [List.map_toArray, List.map_cons, List.map_nil]); first | done | rfl | (simp only [List.length_drop, List.length_take]; rfl)) ?_; (with_reducible refine (heliastref12_Has.calls k1 _ _ t308 (rd l2 x8_1) false _ ?side1 ?side2 A8.out).mono ?_); (case side1 => repeat (first | exact (Kd.R_reads' HO_7.out).2.2 | (with_reducible refine Kd.C_alloc ?_ _) | (with_reducible refine Kd.C_drewN ?_ _) | (with_reducible refine Kd.C_drew ?_))); (case side2 => exact (Kd.R_reads' HO_7.out).2.1); rintro e w' ⟨rfl, ⟨nd, rfl⟩⟩; refine ⟨_, rfl, ?_⟩))
            go_roundg k1
            case measure => have := HK1.out; omega
            case rel => exact ⟨(wrap64 (x8_1 + 1)), (by first | rfl | (simp; done) | (simp [*]; done)), H', ⟨by have := HK1.out; omega⟩, ⟨by (with_reducible repeat (first | apply Kd.R_alloc | apply Kd.R_drewN | apply Kd.R_drew)); exact HO_7.out⟩, ⟨by repeat (first | (with_reducible first | exact HB.out | apply below_alloc | apply pw_below_drewN | apply below_drew1) | exact HB.out)⟩⟩
        · rw [if_neg c7] at H
          exact absurd H (by simp)
      · rw [if_neg c6] at H
        have c6b0 : decide (x8_1 < (l2.length : Int)) = false := decide_eq_false c6
        clear c6
        obtain rfl := Option.some.inj H
        go_wp2
        go_ret
        exact ⟨by first | rfl | (simp [errW_none, errW_some] <;> rfl) | (simp [*, errW_none, errW_some] <;> rfl), by repeat (first | (with_reducible first | exact HB.out | apply below_alloc | apply pw_below_drewN | apply below_drew1) | exact HB.out)⟩
end Go.Proofs.YtmdjknkhjimgeaaGreat.S
end
section
namespace Go.Proofs.YtmdjknkhjimgeaaGreat.S
open Go.RowKit Go.Proofs.YtmdjknkhjimgeaaGreatW.PrintWords Go.Proofs.YtmdjknkhjimgeaaGreatW.PrintLast Go.Proofs.YtmdjknkhjimgeaaGreatW.PrintMore
attribute [local go_sem] max2_int min2_int max_two min_two max_three min_three max_four min_four
set_option linter.unusedVariables false
set_option linter.unusedSimpArgs false
def heliastlaw17_sooner.f (l0 : List (S50)) (a1 : Int) (a2 : Int) : Option (Bool) := if 0 ≤ a1 then (if a1 < (l0.length : Int) then (if 0 ≤ a2 then (if a2 < (l0.length : Int) then (if ((rd_T50 l0 a1).f9) = ((rd_T50 l0 a2).f9) then (if ((rd_T50 l0 a1).f0).toList = ((rd_T50 l0 a2).f0).toList then (some (decide (a1 < a2))) else (some (Op.bytesLess (((rd_T50 l0 a1).f0).toList) (((rd_T50 l0 a2).f0).toList)))) else (some (decide (((rd_T50 l0 a1).f9) < ((rd_T50 l0 a2).f9))))) else (none)) else (none)) else (none)) else (none)
set_option maxHeartbeats 8000000 in
set_option maxRecDepth 100000 in
theorem heliastlaw17_sooner.calls (A0 : Option Addr) (c0 : Nat) (l0 : List (S50)) (a1 : Int) (a2 : Int) (r : Bool) (w : World) (hr0 : Kd.C k50 w A0 l0.length l0) (hc0 : l0.length ≤ c0) (h : heliastlaw17_sooner.f l0 a1 a2 = some r) :
    Calls Tryz.prog 15 #[.slice A0 l0.length c0, .int .i64 a1, .int .i64 a2] w fun e w' => e = .returned (.bool r) ∧ Drawn0 w w' := by
  have HR0 := Aside0.mk hr0
  have HC0 := Aside0.mk hc0
  clear hr0 hc0
  have H : (if 0 ≤ a1 then (if a1 < (l0.length : Int) then (if 0 ≤ a2 then (if a2 < (l0.length : Int) then (if ((rd_T50 l0 a1).f9) = ((rd_T50 l0 a2).f9) then (if ((rd_T50 l0 a1).f0).toList = ((rd_T50 l0 a2).f0).toList then (some (decide (a1 < a2))) else (some (Op.bytesLess (((rd_T50 l0 a1).f0).toList) (((rd_T50 l0 a2).f0).toList)))) else (some (decide (((rd_T50 l0 a1).f9) < ((rd_T50 l0 a2).f9))))) else (none)) else (none)) else (none)) else (none)) = some r := h
  clear h
  by_cases c4 : 0 ≤ a1
  · rw [if_pos c4] at H
    have c4b0 : decide (0 ≤ a1) = true := decide_eq_true c4
    clear c4
    by_cases c5 : a1 < (l0.length : Int)
    · rw [if_pos c5] at H
      have c5b0 : decide (a1 < (l0.length : Int)) = true := decide_eq_true c5
      clear c5
      by_cases c6 : 0 ≤ a2
      · rw [if_pos c6] at H
        have c6b0 : decide (0 ≤ a2) = true := decide_eq_true c6
        clear c6
        by_cases c7 : a2 < (l0.length : Int)
        · rw [if_pos c7] at H
          have c7b0 : decide (a2 < (l0.length : Int)) = true := decide_eq_true c7
          clear c7
          by_cases c8 : ((rd_T50 l0 a1).f9) = ((rd_T50 l0 a2).f9)
          · rw [if_pos c8] at H
            have c8b0 : (((rd_T50 l0 a1).f9) == ((rd_T50 l0 a2).f9)) = true := beq_iff_eq.mpr c8
            have c8b1 : (((rd_T50 l0 a1).f9) != ((rd_T50 l0 a2).f9)) = false := bne_eq_false_iff_eq.mpr c8
            clear c8
            by_cases c9 : ((rd_T50 l0 a1).f0).toList = ((rd_T50 l0 a2).f0).toList
            · rw [if_pos c9] at H
              have c9b0 : (((rd_T50 l0 a1).f0).toList == ((rd_T50 l0 a2).f0).toList) = true := beq_iff_eq.mpr c9
              have c9b1 : (((rd_T50 l0 a1).f0).toList != ((rd_T50 l0 a2).f0).toList) = false := bne_eq_false_iff_eq.mpr c9
              clear c9
              obtain rfl := Option.some.inj H
              have p313 : 0 ≤ (a1 : Int) := of_decide_eq_true (by first | (with_reducible assumption) | assumption)
              have q313 : a1 < (l0.length : Int) := of_decide_eq_true (by first | (with_reducible assumption) | assumption)
              obtain ⟨ad313, A313_6, c313_6, A313_7, c313_7, A313_13, c313_13, A313_14, c313_14, e313, hx313_0, hx313_1, hx313_2, hx313_3, hx313_4, hx313_5, hx313_6, hx313_7, hx313_8, hx313_9, hx313_10, hx313_11, hx313_12, hx313_13, hx313_14, hl313_6, hi313_6, hl313_7, hi313_7, hl313_13, hi313_13, hl313_14, hi313_14⟩ := at_T50 HR0.out a1 p313 q313
              cases e313
              have HR313_6 := Aside0.mk hi313_6
              have HC313_6 := Aside0.mk hl313_6
              clear hi313_6 hl313_6
              have HR313_7 := Aside0.mk hi313_7
              have HC313_7 := Aside0.mk hl313_7
              clear hi313_7 hl313_7
              have HR313_13 := Aside0.mk hi313_13
              have HC313_13 := Aside0.mk hl313_13
              clear hi313_13 hl313_13
              have HR313_14 := Aside0.mk hi313_14
              have HC313_14 := Aside0.mk hl313_14
              clear hi313_14 hl313_14
              replace p313 := eq_true p313
              replace q313 := eq_true q313
              have p314 : 0 ≤ (a2 : Int) := of_decide_eq_true (by first | (with_reducible assumption) | assumption)
              have q314 : a2 < (l0.length : Int) := of_decide_eq_true (by first | (with_reducible assumption) | assumption)
              obtain ⟨ad314, A314_6, c314_6, A314_7, c314_7, A314_13, c314_13, A314_14, c314_14, e314, hx314_0, hx314_1, hx314_2, hx314_3, hx314_4, hx314_5, hx314_6, hx314_7, hx314_8, hx314_9, hx314_10, hx314_11, hx314_12, hx314_13, hx314_14, hl314_6, hi314_6, hl314_7, hi314_7, hl314_13, hi314_13, hl314_14, hi314_14⟩ := at_T50 HR0.out a2 p314 q314
              obtain rfl : ad313 = ad314 := (by injection e314)
              have HR314_6 := Aside0.mk hi314_6
              have HC314_6 := Aside0.mk hl314_6
              clear hi314_6 hl314_6
              have HR314_7 := Aside0.mk hi314_7
              have HC314_7 := Aside0.mk hl314_7
              clear hi314_7 hl314_7
              have HR314_13 := Aside0.mk hi314_13
              have HC314_13 := Aside0.mk hl314_13
              clear hi314_13 hl314_13
              have HR314_14 := Aside0.mk hi314_14
              have HC314_14 := Aside0.mk hl314_14
              clear hi314_14 hl314_14
              replace p314 := eq_true p314
              replace q314 := eq_true q314
              have p315 : 0 ≤ (a1 : Int) := of_decide_eq_true (by first | (with_reducible assumption) | assumption)
              have q315 : a1 < (l0.length : Int) := of_decide_eq_true (by first | (with_reducible assumption) | assumption)
              obtain ⟨ad315, A315_6, c315_6, A315_7, c315_7, A315_13, c315_13, A315_14, c315_14, e315, hx315_0, hx315_1, hx315_2, hx315_3, hx315_4, hx315_5, hx315_6, hx315_7, hx315_8, hx315_9, hx315_10, hx315_11, hx315_12, hx315_13, hx315_14, hl315_6, hi315_6, hl315_7, hi315_7, hl315_13, hi315_13, hl315_14, hi315_14⟩ := at_T50 HR0.out a1 p315 q315
              obtain rfl : ad313 = ad315 := (by injection e315)
              have HR315_6 := Aside0.mk hi315_6
              have HC315_6 := Aside0.mk hl315_6
              clear hi315_6 hl315_6
              have HR315_7 := Aside0.mk hi315_7
              have HC315_7 := Aside0.mk hl315_7
              clear hi315_7 hl315_7
              have HR315_13 := Aside0.mk hi315_13
              have HC315_13 := Aside0.mk hl315_13
              clear hi315_13 hl315_13
              have HR315_14 := Aside0.mk hi315_14
              have HC315_14 := Aside0.mk hl315_14
              clear hi315_14 hl315_14
              replace p315 := eq_true p315
              replace q315 := eq_true q315
              have ea_ := Option.some.inj (hx313_6.symm.trans hx315_6)
              injection ea_ with ea_ en_ ec_
              subst ea_
              subst ec_
              clear en_
              have ea_ := Option.some.inj (hx313_7.symm.trans hx315_7)
              injection ea_ with ea_ en_ ec_
              subst ea_
              subst ec_
              clear en_
              have ea_ := Option.some.inj (hx313_13.symm.trans hx315_13)
              injection ea_ with ea_ en_ ec_
              subst ea_
              subst ec_
              clear en_
              have ea_ := Option.some.inj (hx313_14.symm.trans hx315_14)
              injection ea_ with ea_ en_ ec_
              subst ea_
              subst ec_
              clear en_
              have p316 : 0 ≤ (a2 : Int) := of_decide_eq_true (by first | (with_reducible assumption) | assumption)
              have q316 : a2 < (l0.length : Int) := of_decide_eq_true (by first | (with_reducible assumption) | assumption)
              obtain ⟨ad316, A316_6, c316_6, A316_7, c316_7, A316_13, c316_13, A316_14, c316_14, e316, hx316_0, hx316_1, hx316_2, hx316_3, hx316_4, hx316_5, hx316_6, hx316_7, hx316_8, hx316_9, hx316_10, hx316_11, hx316_12, hx316_13, hx316_14, hl316_6, hi316_6, hl316_7, hi316_7, hl316_13, hi316_13, hl316_14, hi316_14⟩ := at_T50 HR0.out a2 p316 q316
              obtain rfl : ad313 = ad316 := (by injection e316)
              have HR316_6 := Aside0.mk hi316_6
              have HC316_6 := Aside0.mk hl316_6
              clear hi316_6 hl316_6
              have HR316_7 := Aside0.mk hi316_7
              have HC316_7 := Aside0.mk hl316_7
              clear hi316_7 hl316_7
              have HR316_13 := Aside0.mk hi316_13
              have HC316_13 := Aside0.mk hl316_13
              clear hi316_13 hl316_13
              have HR316_14 := Aside0.mk hi316_14
              have HC316_14 := Aside0.mk hl316_14
              clear hi316_14 hl316_14
              replace p316 := eq_true p316
              replace q316 := eq_true q316
              have ea_ := Option.some.inj (hx314_6.symm.trans hx316_6)
              injection ea_ with ea_ en_ ec_
              subst ea_
              subst ec_
              clear en_
              have ea_ := Option.some.inj (hx314_7.symm.trans hx316_7)
              injection ea_ with ea_ en_ ec_
              subst ea_
              subst ec_
              clear en_
              have ea_ := Option.some.inj (hx314_13.symm.trans hx316_13)
              injection ea_ with ea_ en_ ec_
              subst ea_
              subst ec_
              clear en_
              have ea_ := Option.some.inj (hx314_14.symm.trans hx316_14)
              injection ea_ with ea_ en_ ec_
              subst ea_
              subst ec_
              clear en_
              go_enter Tryz.func15, Tryz.ntmps15
              go_wp2
              repeat (go_quiet (fail); try go_wp2)
              go_ret
              exact ⟨by first | rfl | (simp; done) | (simp [*]; done), by repeat (first | exact Drawn0.refl _ | apply Drawn0.step)⟩
            · rw [if_neg c9] at H
              have c9b0 : (((rd_T50 l0 a1).f0).toList == ((rd_T50 l0 a2).f0).toList) = false := beq_eq_false_iff_ne.mpr c9
              have c9b1 : (((rd_T50 l0 a1).f0).toList != ((rd_T50 l0 a2).f0).toList) = true := bne_iff_ne.mpr c9
              obtain rfl := Option.some.inj H
              have p313 : 0 ≤ (a1 : Int) := of_decide_eq_true (by first | (with_reducible assumption) | assumption)
              have q313 : a1 < (l0.length : Int) := of_decide_eq_true (by first | (with_reducible assumption) | assumption)
              obtain ⟨ad313, A313_6, c313_6, A313_7, c313_7, A313_13, c313_13, A313_14, c313_14, e313, hx313_0, hx313_1, hx313_2, hx313_3, hx313_4, hx313_5, hx313_6, hx313_7, hx313_8, hx313_9, hx313_10, hx313_11, hx313_12, hx313_13, hx313_14, hl313_6, hi313_6, hl313_7, hi313_7, hl313_13, hi313_13, hl313_14, hi313_14⟩ := at_T50 HR0.out a1 p313 q313
              cases e313
              have HR313_6 := Aside0.mk hi313_6
              have HC313_6 := Aside0.mk hl313_6
              clear hi313_6 hl313_6
              have HR313_7 := Aside0.mk hi313_7
              have HC313_7 := Aside0.mk hl313_7
              clear hi313_7 hl313_7
              have HR313_13 := Aside0.mk hi313_13
              have HC313_13 := Aside0.mk hl313_13
              clear hi313_13 hl313_13
              have HR313_14 := Aside0.mk hi313_14
              have HC313_14 := Aside0.mk hl313_14
              clear hi313_14 hl313_14
              replace p313 := eq_true p313
              replace q313 := eq_true q313
              have p314 : 0 ≤ (a2 : Int) := of_decide_eq_true (by first | (with_reducible assumption) | assumption)
              have q314 : a2 < (l0.length : Int) := of_decide_eq_true (by first | (with_reducible assumption) | assumption)
              obtain ⟨ad314, A314_6, c314_6, A314_7, c314_7, A314_13, c314_13, A314_14, c314_14, e314, hx314_0, hx314_1, hx314_2, hx314_3, hx314_4, hx314_5, hx314_6, hx314_7, hx314_8, hx314_9, hx314_10, hx314_11, hx314_12, hx314_13, hx314_14, hl314_6, hi314_6, hl314_7, hi314_7, hl314_13, hi314_13, hl314_14, hi314_14⟩ := at_T50 HR0.out a2 p314 q314
              obtain rfl : ad313 = ad314 := (by injection e314)
              have HR314_6 := Aside0.mk hi314_6
              have HC314_6 := Aside0.mk hl314_6
              clear hi314_6 hl314_6
              have HR314_7 := Aside0.mk hi314_7
              have HC314_7 := Aside0.mk hl314_7
              clear hi314_7 hl314_7
              have HR314_13 := Aside0.mk hi314_13
              have HC314_13 := Aside0.mk hl314_13
              clear hi314_13 hl314_13
              have HR314_14 := Aside0.mk hi314_14
              have HC314_14 := Aside0.mk hl314_14
              clear hi314_14 hl314_14
              replace p314 := eq_true p314
              replace q314 := eq_true q314
              have p315 : 0 ≤ (a1 : Int) := of_decide_eq_true (by first | (with_reducible assumption) | assumption)
              have q315 : a1 < (l0.length : Int) := of_decide_eq_true (by first | (with_reducible assumption) | assumption)
              obtain ⟨ad315, A315_6, c315_6, A315_7, c315_7, A315_13, c315_13, A315_14, c315_14, e315, hx315_0, hx315_1, hx315_2, hx315_3, hx315_4, hx315_5, hx315_6, hx315_7, hx315_8, hx315_9, hx315_10, hx315_11, hx315_12, hx315_13, hx315_14, hl315_6, hi315_6, hl315_7, hi315_7, hl315_13, hi315_13, hl315_14, hi315_14⟩ := at_T50 HR0.out a1 p315 q315
              obtain rfl : ad313 = ad315 := (by injection e315)
              have HR315_6 := Aside0.mk hi315_6
              have HC315_6 := Aside0.mk hl315_6
              clear hi315_6 hl315_6
              have HR315_7 := Aside0.mk hi315_7
              have HC315_7 := Aside0.mk hl315_7
              clear hi315_7 hl315_7
              have HR315_13 := Aside0.mk hi315_13
              have HC315_13 := Aside0.mk hl315_13
              clear hi315_13 hl315_13
              have HR315_14 := Aside0.mk hi315_14
              have HC315_14 := Aside0.mk hl315_14
              clear hi315_14 hl315_14
              replace p315 := eq_true p315
              replace q315 := eq_true q315
              have ea_ := Option.some.inj (hx313_6.symm.trans hx315_6)
              injection ea_ with ea_ en_ ec_
              subst ea_
              subst ec_
              clear en_
              have ea_ := Option.some.inj (hx313_7.symm.trans hx315_7)
              injection ea_ with ea_ en_ ec_
              subst ea_
              subst ec_
              clear en_
              have ea_ := Option.some.inj (hx313_13.symm.trans hx315_13)
              injection ea_ with ea_ en_ ec_
              subst ea_
              subst ec_
              clear en_
              have ea_ := Option.some.inj (hx313_14.symm.trans hx315_14)
              injection ea_ with ea_ en_ ec_
              subst ea_
              subst ec_
              clear en_
              have p316 : 0 ≤ (a2 : Int) := of_decide_eq_true (by first | (with_reducible assumption) | assumption)
              have q316 : a2 < (l0.length : Int) := of_decide_eq_true (by first | (with_reducible assumption) | assumption)
              obtain ⟨ad316, A316_6, c316_6, A316_7, c316_7, A316_13, c316_13, A316_14, c316_14, e316, hx316_0, hx316_1, hx316_2, hx316_3, hx316_4, hx316_5, hx316_6, hx316_7, hx316_8, hx316_9, hx316_10, hx316_11, hx316_12, hx316_13, hx316_14, hl316_6, hi316_6, hl316_7, hi316_7, hl316_13, hi316_13, hl316_14, hi316_14⟩ := at_T50 HR0.out a2 p316 q316
              obtain rfl : ad313 = ad316 := (by injection e316)
              have HR316_6 := Aside0.mk hi316_6
              have HC316_6 := Aside0.mk hl316_6
              clear hi316_6 hl316_6
              have HR316_7 := Aside0.mk hi316_7
              have HC316_7 := Aside0.mk hl316_7
              clear hi316_7 hl316_7
              have HR316_13 := Aside0.mk hi316_13
              have HC316_13 := Aside0.mk hl316_13
              clear hi316_13 hl316_13
              have HR316_14 := Aside0.mk hi316_14
              have HC316_14 := Aside0.mk hl316_14
              clear hi316_14 hl316_14
              replace p316 := eq_true p316
              replace q316 := eq_true q316
              have ea_ := Option.some.inj (hx314_6.symm.trans hx316_6)
              injection ea_ with ea_ en_ ec_
              subst ea_
              subst ec_
              clear en_
              have ea_ := Option.some.inj (hx314_7.symm.trans hx316_7)
              injection ea_ with ea_ en_ ec_
              subst ea_
              subst ec_
              clear en_
              have ea_ := Option.some.inj (hx314_13.symm.trans hx316_13)
              injection ea_ with ea_ en_ ec_
              subst ea_
              subst ec_
              clear en_
              have ea_ := Option.some.inj (hx314_14.symm.trans hx316_14)
              injection ea_ with ea_ en_ ec_
              subst ea_
              subst ec_
              clear en_
              have p317 : 0 ≤ (a1 : Int) := of_decide_eq_true (by first | (with_reducible assumption) | assumption)
              have q317 : a1 < (l0.length : Int) := of_decide_eq_true (by first | (with_reducible assumption) | assumption)
              obtain ⟨ad317, A317_6, c317_6, A317_7, c317_7, A317_13, c317_13, A317_14, c317_14, e317, hx317_0, hx317_1, hx317_2, hx317_3, hx317_4, hx317_5, hx317_6, hx317_7, hx317_8, hx317_9, hx317_10, hx317_11, hx317_12, hx317_13, hx317_14, hl317_6, hi317_6, hl317_7, hi317_7, hl317_13, hi317_13, hl317_14, hi317_14⟩ := at_T50 HR0.out a1 p317 q317
              obtain rfl : ad313 = ad317 := (by injection e317)
              have HR317_6 := Aside0.mk hi317_6
              have HC317_6 := Aside0.mk hl317_6
              clear hi317_6 hl317_6
              have HR317_7 := Aside0.mk hi317_7
              have HC317_7 := Aside0.mk hl317_7
              clear hi317_7 hl317_7
              have HR317_13 := Aside0.mk hi317_13
              have HC317_13 := Aside0.mk hl317_13
              clear hi317_13 hl317_13
              have HR317_14 := Aside0.mk hi317_14
              have HC317_14 := Aside0.mk hl317_14
              clear hi317_14 hl317_14
              replace p317 := eq_true p317
              replace q317 := eq_true q317
              have ea_ := Option.some.inj (hx313_6.symm.trans hx317_6)
              injection ea_ with ea_ en_ ec_
              subst ea_
              subst ec_
              clear en_
              have ea_ := Option.some.inj (hx313_7.symm.trans hx317_7)
              injection ea_ with ea_ en_ ec_
              subst ea_
              subst ec_
              clear en_
              have ea_ := Option.some.inj (hx313_13.symm.trans hx317_13)
              injection ea_ with ea_ en_ ec_
              subst ea_
              subst ec_
              clear en_
              have ea_ := Option.some.inj (hx313_14.symm.trans hx317_14)
              injection ea_ with ea_ en_ ec_
              subst ea_
              subst ec_
              clear en_
              have p318 : 0 ≤ (a2 : Int) := of_decide_eq_true (by first | (with_reducible assumption) | assumption)
              have q318 : a2 < (l0.length : Int) := of_decide_eq_true (by first | (with_reducible assumption) | assumption)
              obtain ⟨ad318, A318_6, c318_6, A318_7, c318_7, A318_13, c318_13, A318_14, c318_14, e318, hx318_0, hx318_1, hx318_2, hx318_3, hx318_4, hx318_5, hx318_6, hx318_7, hx318_8, hx318_9, hx318_10, hx318_11, hx318_12, hx318_13, hx318_14, hl318_6, hi318_6, hl318_7, hi318_7, hl318_13, hi318_13, hl318_14, hi318_14⟩ := at_T50 HR0.out a2 p318 q318
              obtain rfl : ad313 = ad318 := (by injection e318)
              have HR318_6 := Aside0.mk hi318_6
              have HC318_6 := Aside0.mk hl318_6
              clear hi318_6 hl318_6
              have HR318_7 := Aside0.mk hi318_7
              have HC318_7 := Aside0.mk hl318_7
              clear hi318_7 hl318_7
              have HR318_13 := Aside0.mk hi318_13
              have HC318_13 := Aside0.mk hl318_13
              clear hi318_13 hl318_13
              have HR318_14 := Aside0.mk hi318_14
              have HC318_14 := Aside0.mk hl318_14
              clear hi318_14 hl318_14
              replace p318 := eq_true p318
              replace q318 := eq_true q318
              have ea_ := Option.some.inj (hx314_6.symm.trans hx318_6)
              injection ea_ with ea_ en_ ec_
              subst ea_
              subst ec_
              clear en_
              have ea_ := Option.some.inj (hx314_7.symm.trans hx318_7)
              injection ea_ with ea_ en_ ec_
              subst ea_
              subst ec_
              clear en_
              have ea_ := Option.some.inj (hx314_13.symm.trans hx318_13)
              injection ea_ with ea_ en_ ec_
              subst ea_
              subst ec_
              clear en_
              have ea_ := Option.some.inj (hx314_14.symm.trans hx318_14)
              injection ea_ with ea_ en_ ec_
              subst ea_
              subst ec_
              clear en_
              go_enter Tryz.func15, Tryz.ntmps15
              go_wp2
              repeat (go_quiet (fail); try go_wp2)
              go_ret
              exact ⟨by first | rfl | (simp; done) | (simp [*]; done), by repeat (first | exact Drawn0.refl _ | apply Drawn0.step)⟩
          · rw [if_neg c8] at H
            have c8b0 : (((rd_T50 l0 a1).f9) == ((rd_T50 l0 a2).f9)) = false := beq_eq_false_iff_ne.mpr c8
            have c8b1 : (((rd_T50 l0 a1).f9) != ((rd_T50 l0 a2).f9)) = true := bne_iff_ne.mpr c8
            obtain rfl := Option.some.inj H
            have p313 : 0 ≤ (a1 : Int) := of_decide_eq_true (by first | (with_reducible assumption) | assumption)
            have q313 : a1 < (l0.length : Int) := of_decide_eq_true (by first | (with_reducible assumption) | assumption)
            obtain ⟨ad313, A313_6, c313_6, A313_7, c313_7, A313_13, c313_13, A313_14, c313_14, e313, hx313_0, hx313_1, hx313_2, hx313_3, hx313_4, hx313_5, hx313_6, hx313_7, hx313_8, hx313_9, hx313_10, hx313_11, hx313_12, hx313_13, hx313_14, hl313_6, hi313_6, hl313_7, hi313_7, hl313_13, hi313_13, hl313_14, hi313_14⟩ := at_T50 HR0.out a1 p313 q313
            cases e313
            have HR313_6 := Aside0.mk hi313_6
            have HC313_6 := Aside0.mk hl313_6
            clear hi313_6 hl313_6
            have HR313_7 := Aside0.mk hi313_7
            have HC313_7 := Aside0.mk hl313_7
            clear hi313_7 hl313_7
            have HR313_13 := Aside0.mk hi313_13
            have HC313_13 := Aside0.mk hl313_13
            clear hi313_13 hl313_13
            have HR313_14 := Aside0.mk hi313_14
            have HC313_14 := Aside0.mk hl313_14
            clear hi313_14 hl313_14
            replace p313 := eq_true p313
            replace q313 := eq_true q313
            have p314 : 0 ≤ (a2 : Int) := of_decide_eq_true (by first | (with_reducible assumption) | assumption)
            have q314 : a2 < (l0.length : Int) := of_decide_eq_true (by first | (with_reducible assumption) | assumption)
            obtain ⟨ad314, A314_6, c314_6, A314_7, c314_7, A314_13, c314_13, A314_14, c314_14, e314, hx314_0, hx314_1, hx314_2, hx314_3, hx314_4, hx314_5, hx314_6, hx314_7, hx314_8, hx314_9, hx314_10, hx314_11, hx314_12, hx314_13, hx314_14, hl314_6, hi314_6, hl314_7, hi314_7, hl314_13, hi314_13, hl314_14, hi314_14⟩ := at_T50 HR0.out a2 p314 q314
            obtain rfl : ad313 = ad314 := (by injection e314)
            have HR314_6 := Aside0.mk hi314_6
            have HC314_6 := Aside0.mk hl314_6
            clear hi314_6 hl314_6
            have HR314_7 := Aside0.mk hi314_7
            have HC314_7 := Aside0.mk hl314_7
            clear hi314_7 hl314_7
            have HR314_13 := Aside0.mk hi314_13
            have HC314_13 := Aside0.mk hl314_13
            clear hi314_13 hl314_13
            have HR314_14 := Aside0.mk hi314_14
            have HC314_14 := Aside0.mk hl314_14
            clear hi314_14 hl314_14
            replace p314 := eq_true p314
            replace q314 := eq_true q314
            have p319 : 0 ≤ (a1 : Int) := of_decide_eq_true (by first | (with_reducible assumption) | assumption)
            have q319 : a1 < (l0.length : Int) := of_decide_eq_true (by first | (with_reducible assumption) | assumption)
            obtain ⟨ad319, A319_6, c319_6, A319_7, c319_7, A319_13, c319_13, A319_14, c319_14, e319, hx319_0, hx319_1, hx319_2, hx319_3, hx319_4, hx319_5, hx319_6, hx319_7, hx319_8, hx319_9, hx319_10, hx319_11, hx319_12, hx319_13, hx319_14, hl319_6, hi319_6, hl319_7, hi319_7, hl319_13, hi319_13, hl319_14, hi319_14⟩ := at_T50 HR0.out a1 p319 q319
            obtain rfl : ad313 = ad319 := (by injection e319)
            have HR319_6 := Aside0.mk hi319_6
            have HC319_6 := Aside0.mk hl319_6
            clear hi319_6 hl319_6
            have HR319_7 := Aside0.mk hi319_7
            have HC319_7 := Aside0.mk hl319_7
            clear hi319_7 hl319_7
            have HR319_13 := Aside0.mk hi319_13
            have HC319_13 := Aside0.mk hl319_13
            clear hi319_13 hl319_13
            have HR319_14 := Aside0.mk hi319_14
            have HC319_14 := Aside0.mk hl319_14
            clear hi319_14 hl319_14
            replace p319 := eq_true p319
            replace q319 := eq_true q319
            have ea_ := Option.some.inj (hx313_6.symm.trans hx319_6)
            injection ea_ with ea_ en_ ec_
            subst ea_
            subst ec_
            clear en_
            have ea_ := Option.some.inj (hx313_7.symm.trans hx319_7)
            injection ea_ with ea_ en_ ec_
            subst ea_
            subst ec_
            clear en_
            have ea_ := Option.some.inj (hx313_13.symm.trans hx319_13)
            injection ea_ with ea_ en_ ec_
            subst ea_
            subst ec_
            clear en_
            have ea_ := Option.some.inj (hx313_14.symm.trans hx319_14)
            injection ea_ with ea_ en_ ec_
            subst ea_
            subst ec_
            clear en_
            have p320 : 0 ≤ (a2 : Int) := of_decide_eq_true (by first | (with_reducible assumption) | assumption)
            have q320 : a2 < (l0.length : Int) := of_decide_eq_true (by first | (with_reducible assumption) | assumption)
            obtain ⟨ad320, A320_6, c320_6, A320_7, c320_7, A320_13, c320_13, A320_14, c320_14, e320, hx320_0, hx320_1, hx320_2, hx320_3, hx320_4, hx320_5, hx320_6, hx320_7, hx320_8, hx320_9, hx320_10, hx320_11, hx320_12, hx320_13, hx320_14, hl320_6, hi320_6, hl320_7, hi320_7, hl320_13, hi320_13, hl320_14, hi320_14⟩ := at_T50 HR0.out a2 p320 q320
            obtain rfl : ad313 = ad320 := (by injection e320)
            have HR320_6 := Aside0.mk hi320_6
            have HC320_6 := Aside0.mk hl320_6
            clear hi320_6 hl320_6
            have HR320_7 := Aside0.mk hi320_7
            have HC320_7 := Aside0.mk hl320_7
            clear hi320_7 hl320_7
            have HR320_13 := Aside0.mk hi320_13
            have HC320_13 := Aside0.mk hl320_13
            clear hi320_13 hl320_13
            have HR320_14 := Aside0.mk hi320_14
            have HC320_14 := Aside0.mk hl320_14
            clear hi320_14 hl320_14
            replace p320 := eq_true p320
            replace q320 := eq_true q320
            have ea_ := Option.some.inj (hx314_6.symm.trans hx320_6)
            injection ea_ with ea_ en_ ec_
            subst ea_
            subst ec_
            clear en_
            have ea_ := Option.some.inj (hx314_7.symm.trans hx320_7)
            injection ea_ with ea_ en_ ec_
            subst ea_
            subst ec_
            clear en_
            have ea_ := Option.some.inj (hx314_13.symm.trans hx320_13)
            injection ea_ with ea_ en_ ec_
            subst ea_
            subst ec_
            clear en_
            have ea_ := Option.some.inj (hx314_14.symm.trans hx320_14)
            injection ea_ with ea_ en_ ec_
            subst ea_
            subst ec_
            clear en_
            go_enter Tryz.func15, Tryz.ntmps15
            go_wp2
            repeat (go_quiet (fail); try go_wp2)
            go_ret
            exact ⟨by first | rfl | (simp; done) | (simp [*]; done), by repeat (first | exact Drawn0.refl _ | apply Drawn0.step)⟩
        · rw [if_neg c7] at H
          exact absurd H (by simp)
      · rw [if_neg c6] at H
        exact absurd H (by simp)
    · rw [if_neg c5] at H
      exact absurd H (by simp)
  · rw [if_neg c4] at H
    exact absurd H (by simp)
end Go.Proofs.YtmdjknkhjimgeaaGreat.S
end
section
namespace Go.Proofs.YtmdjknkhjimgeaaGreat.S
open Go.RowKit Go.Proofs.YtmdjknkhjimgeaaGreatW.PrintWords Go.Proofs.YtmdjknkhjimgeaaGreatW.PrintLast Go.Proofs.YtmdjknkhjimgeaaGreatW.PrintMore
attribute [local go_sem] max2_int min2_int max_two min_two max_three min_three max_four min_four
set_option linter.unusedVariables false
set_option linter.unusedSimpArgs false
open Go.Proofs.He
theorem hasD_evR (l : List Int) (n : Int) (hl : l.length < 9223372036854775807) : Ev (fun k => heliastref12_Has.f k l n) (decide (n ∈ l)) := by
  have h : ∀ (d i : Nat), l.length - i = d → (∀ (j : Nat), j < i → l[j]? ≠ some n) → Ev (fun k => heliastref12_Has.l0 k l n (i : Int)) (decide (n ∈ l)) := by
    intro d
    induction d with
    | zero =>
      intro i hd hn
      have e : decide (n ∈ l) = false := decide_eq_false (fun h => by
        obtain ⟨j, hj, e⟩ := List.getElem_of_mem h
        exact hn j (by omega) (by rw [List.getElem?_eq_getElem hj, e]))
      rw [e]
      exact Ev.step (f := fun _ => some false) (fun k => by show heliastref12_Has.l0 (k + 1) l n i = _; rw [heliastref12_Has.l0, if_neg (by omega)]) (Ev.now _)
    | succ d ih =>
      intro i hd hn
      by_cases e2 : rd l (i : Int) = n
      · have hi : l[i]? = some n := by rw [← e2, rd, Int.toNat_natCast, List.getD_eq_getElem?_getD, List.getElem?_eq_getElem (by omega)]; rfl
        have e : decide (n ∈ l) = true := decide_eq_true (List.mem_of_getElem? hi)
        rw [e]
        exact Ev.step (f := fun _ => some true) (fun k => by show heliastref12_Has.l0 (k + 1) l n i = _; rw [heliastref12_Has.l0, if_pos (by omega), if_pos (by omega), if_pos e2]) (Ev.now _)
      · refine Ev.step (fun k => by show heliastref12_Has.l0 (k + 1) l n i = _; rw [heliastref12_Has.l0, if_pos (by omega), if_pos (by omega), if_neg e2, show wrap64 ((i : Int) + 1) = ((i + 1 : Nat) : Int) by unfold wrap64; omega]) (ih (i + 1) (by omega) (fun j hj e => ?_))
        by_cases hji : j = i
        · subst hji
          exact e2 (by rw [rd, Int.toNat_natCast, List.getD_eq_getElem?_getD, e]; rfl)
        · exact hn j (by omega) e
  exact h _ 0 rfl (fun j hj => absurd hj (Nat.not_lt_zero _))
theorem set_evR (n : Nat) (xs : List Int) (hn : n ≤ 1000) (hx : xs.length < 1000000) : ∃ r : List Int, Ev (fun k => heliastlaw17_set.f k (n : Int) xs) r ∧ r.Pairwise (· < ·) ∧ (∀ x, x ∈ r ↔ x ∈ xs ∧ 0 ≤ x ∧ x < (n : Int)) ∧ r.length ≤ n := by
  have h : ∀ (d i : Nat) (o : List Int), n - i = d → i ≤ n → o.Pairwise (· < ·) → (∀ x, x ∈ o ↔ x ∈ xs ∧ 0 ≤ x ∧ x < (i : Int)) → o.length ≤ i → ∃ r : List Int, Ev (fun k => heliastlaw17_set.l0 k (n : Int) xs o (i : Int)) r ∧ r.Pairwise (· < ·) ∧ (∀ x, x ∈ r ↔ x ∈ xs ∧ 0 ≤ x ∧ x < (n : Int)) ∧ r.length ≤ n := by
    intro d
    induction d with
    | zero =>
      intro i o hd hi hp hm ho
      have e : i = n := by omega
      subst e
      exact ⟨o, Ev.step (f := fun _ => some o) (fun k => by show heliastlaw17_set.l0 (k + 1) _ xs o i = _; rw [heliastlaw17_set.l0, if_neg (by omega)]) (Ev.now _), hp, hm, ho⟩
    | succ d ih =>
      intro i o hd hi hp hm ho
      have hw : wrap64 ((i : Int) + 1) = ((i + 1 : Nat) : Int) := by unfold wrap64; omega
      have hb := hasD_evR xs (i : Int) (by omega)
      by_cases hc : (i : Int) ∈ xs
      · rw [decide_eq_true hc] at hb
        obtain ⟨r, hr, hq⟩ := ih (i + 1) (o ++ [(i : Int)]) (by omega) (by omega) (List.pairwise_append.2 ⟨hp, List.pairwise_singleton _ _, fun a ha b hb => by rw [List.mem_singleton.1 hb]; exact ((hm a).1 ha).2.2⟩) (fun x => by
          rw [List.mem_append, hm, List.mem_singleton]
          constructor
          · rintro (⟨h1, h2, h3⟩ | rfl)
            · exact ⟨h1, h2, by omega⟩
            · exact ⟨hc, by omega, by omega⟩
          · rintro ⟨h1, h2, h3⟩
            by_cases e : x = (i : Int)
            · exact .inr e
            · exact .inl ⟨h1, h2, by omega⟩) (by simp; omega)
        exact ⟨r, Ev.step (fun k => by show heliastlaw17_set.l0 (k + 1) _ xs o i = _; rw [heliastlaw17_set.l0, if_pos (by omega)]) (Ev.bind hb (Ev.congr (fun k => by rw [if_pos rfl, if_pos (by omega), hw]) hr)), hq⟩
      · rw [decide_eq_false hc] at hb
        obtain ⟨r, hr, hq⟩ := ih (i + 1) o (by omega) (by omega) hp (fun x => by
          rw [hm]
          constructor
          · rintro ⟨h1, h2, h3⟩; exact ⟨h1, h2, by omega⟩
          · rintro ⟨h1, h2, h3⟩
            by_cases e : x = (i : Int)
            · subst e; exact absurd h1 hc
            · exact ⟨h1, h2, by omega⟩) (by omega)
        exact ⟨r, Ev.step (fun k => by show heliastlaw17_set.l0 (k + 1) _ xs o i = _; rw [heliastlaw17_set.l0, if_pos (by omega)]) (Ev.bind hb (Ev.congr (fun k => by rw [if_neg (by decide), hw]) hr)), hq⟩
  obtain ⟨r, hr, hq⟩ := h n 0 [] rfl (Nat.zero_le _) List.Pairwise.nil (fun x => ⟨fun h => (nomatch h), fun h => by have := h.2.1; have := h.2.2; omega⟩) (Nat.le_refl _)
  exact ⟨r, Ev.congr (fun k => rfl) hr, hq⟩
theorem some_evR (ds : List Int) (n : Nat) (hn : n ≤ 1000) : ∃ r : List Int, Ev (fun k => heliastlaw17_Some.f k ds (n : Int)) r ∧ r.length ≤ 20 := by
  have hz : ¬ wrap64 ((n : Int) + 2) = 0 := by unfold wrap64; omega
  have h : ∀ (d i : Nat) (o : List Int), 20 - i = d → i ≤ 20 → o.length ≤ i → ∃ r : List Int, Ev (fun k => heliastlaw17_Some.l0 k ds (n : Int) o (i : Int)) r ∧ r.length ≤ 20 := by
    intro d
    induction d with
    | zero =>
      intro i o hd hi ho
      refine ⟨o, Ev.step (f := fun _ => some o) (fun k => ?_) (Ev.now _), by omega⟩
      show heliastlaw17_Some.l0 (k + 1) ds _ o i = _
      rw [heliastlaw17_Some.l0]
      by_cases h1 : (i : Int) < (ds.length : Int)
      · rw [if_pos h1, if_neg (by omega)]
      · rw [if_neg h1]
    | succ d ih =>
      intro i o hd hi ho
      by_cases h1 : (i : Int) < (ds.length : Int)
      · obtain ⟨r, hr, hq⟩ := ih (i + 1) (o ++ [wrap64 ((Int.tmod (wrap64 (rd ds (i : Int))) (wrap64 ((n : Int) + 2))) - 1)]) (by omega) (by omega) (by simp; omega)
        refine ⟨r, Ev.step (fun k => ?_) hr, hq⟩
        show heliastlaw17_Some.l0 (k + 1) ds _ o i = _
        rw [heliastlaw17_Some.l0, if_pos h1, if_pos (by omega), if_pos (by omega), if_neg hz, if_pos (by omega), show wrap64 ((i : Int) + 1) = ((i + 1 : Nat) : Int) from (by clear hz; unfold wrap64; omega)]
      · refine ⟨o, Ev.step (f := fun _ => some o) (fun k => ?_) (Ev.now _), by omega⟩
        show heliastlaw17_Some.l0 (k + 1) ds _ o i = _
        rw [heliastlaw17_Some.l0, if_neg h1]
  obtain ⟨r, hr, hq⟩ := h _ 0 [] rfl (Nat.zero_le _) (Nat.zero_le _)
  exact ⟨r, Ev.congr (fun k => rfl) hr, hq⟩
theorem bytePR {x : Int} (h : (Lit.int .u8 x).wf = true) : 0 ≤ x ∧ x < 256 := by
  simp only [Lit.wf, Bool.and_eq_true, decide_eq_true_eq] at h
  have h1 : (0 : Int) ≤ x := h.1
  have h2 : x ≤ (255 : Int) := h.2
  omega
theorem past_inR (g : List (List Int)) (y : Int) (h0 : 0 ≤ y) (h1 : y < (g.length : Int)) (hg : g.length < 17592186044416) : graph_Past.f g y = some (rchL g (g.getD y.toNat [])) := by
  rw [graph_Past.f, if_neg (by omega), if_neg (by omega), if_pos h0, if_pos h1, graph_Reach.f, if_pos hg]; rfl
theorem DqP.dmR : ∀ (d : Nat) (v : SVl), Dq d v → Dm d v
  | 0, _, h => h
  | d + 1, v, h => ⟨h.1, h.2.1, fun y hy => DqP.dmR d y (h.2.2 y hy)⟩
theorem rchL_lenR (g : List (List Int)) (l : List Int) : (rchL g l).length ≤ g.length := by
  unfold rchL pickL
  exact Nat.le_trans (List.length_filter_le _ _) (by simp)
theorem placesR_self {n : Nat} {A : List Int} (hA : A.Pairwise (· < ·)) (hin : ∀ x ∈ A, 0 ≤ x ∧ x < (n : Int)) : placesL n A = A :=
  rises_eq (placesR_rise _ _) hA (fun x => ⟨fun h => (placesR_mem.1 h).1, fun h => placesR_mem.2 ⟨h, hin x h⟩⟩)
theorem clear_row (P W : List Int) (hP : P.length ≤ 100000) (hW : W.length ≤ 100000) : Ev (fun k => heliastlaw17_clear.l0 k W P 0) (!W.any fun y => decide (y ∈ P)) := by
  have h : ∀ (d i : Nat), W.length - i = d → i ≤ W.length → Ev (fun k => heliastlaw17_clear.l0 k W P (i : Int)) (!(W.drop i).any fun y => decide (y ∈ P)) := by
    intro d
    induction d with
    | zero =>
      intro i hd hi
      rw [List.drop_eq_nil_of_le (by omega)]
      exact Ev.step (f := fun _ => some true) (fun k => by show heliastlaw17_clear.l0 (k + 1) W P i = _; rw [heliastlaw17_clear.l0, if_neg (by omega)]) (Ev.now _)
    | succ d ih =>
      intro i hd hi
      have e1 : rd W (i : Int) = W[i] := by rw [rd, Int.toNat_natCast, List.getD_eq_getElem?_getD, List.getElem?_eq_getElem (by omega)]; rfl
      rw [List.drop_eq_getElem_cons (by omega), List.any_cons]
      have hb := hasD_evR P W[i] (by omega)
      refine Ev.step (fun k => by show heliastlaw17_clear.l0 (k + 1) W P i = _; rw [heliastlaw17_clear.l0, if_pos (by omega), if_pos (by omega), e1]) (Ev.bind hb ?_)
      by_cases hm : W[i] ∈ P
      · rw [decide_eq_true hm]
        exact Ev.congr (f := fun _ => some false) (fun k => by rw [if_pos rfl]) (Ev.now _)
      · rw [decide_eq_false hm]
        refine Ev.congr (fun k => ?_) (ih (i + 1) (by omega) (by omega))
        rw [if_neg (by decide), show wrap64 ((i : Int) + 1) = ((i + 1 : Nat) : Int) by unfold wrap64; omega]
  have h0 := h _ 0 rfl (Nat.zero_le _)
  rw [List.drop_zero] at h0
  exact h0
theorem clear_ev (g : List (List Int)) (W : List Int) (n : Int) (h0 : 0 ≤ n) (h1 : n < (g.length : Int)) (hg : g.length ≤ 100000) (hW : W.length ≤ 100000) : Ev (fun k => heliastlaw17_clear.f k g n W) (freeIn g W n) := by
  have e : freeIn g W n = !W.any fun y => decide (y ∈ rchL g (g.getD n.toNat [])) := by
    unfold freeIn
    congr 2
    funext y
    rw [Bool.eq_iff_iff, rchB_iff, decide_eq_true_eq, mem_rchL]
  rw [e]
  refine Ev.congr (fun k => ?_) (clear_row (rchL g (g.getD n.toNat [])) W (Nat.le_trans (rchL_lenR g _) hg) hW)
  unfold heliastlaw17_clear.f
  rw [past_inR g n h0 h1 (by omega)]
  rfl
theorem sooner_falseR {l : List S50} {num : Int → Int} {a b : Int} (ha : 0 ≤ a ∧ a < (l.length : Int)) (hb : 0 ≤ b ∧ b < (l.length : Int)) (h : TnLt (turnOf l num b) (turnOf l num a)) (hn : num a = num b) : heliastlaw17_sooner.f l a b = some false := by
  rw [heliastlaw17_sooner.f, if_pos ha.1, if_pos ha.2, if_pos hb.1, if_pos hb.2]
  have h : num a < num b ∨ num b = num a ∧ ((rd_T50 l b).f9 < (rd_T50 l a).f9 ∨ (rd_T50 l b).f9 = (rd_T50 l a).f9 ∧ ((rd_T50 l b).f0.toList < (rd_T50 l a).f0.toList ∨ (rd_T50 l b).f0.toList = (rd_T50 l a).f0.toList ∧ b < a)) := h
  rcases h with h | ⟨-, h⟩
  · omega
  rcases h with h | ⟨e, h⟩
  · rw [if_neg (by omega), decide_eq_false (by omega)]
  rw [if_pos e.symm]
  rcases h with h | ⟨e2, h⟩
  · rw [if_neg (fun e2 => List.lt_irrefl _ (e2 ▸ h)), bytesLess_eq, decide_eq_false (fun h2 => List.lt_irrefl _ (List.lt_trans h h2))]
  · rw [if_pos e2.symm, decide_eq_false (by omega)]
theorem num_leR {l : List S50} {num : Int → Int} {a b : Int} (h : TnLt (turnOf l num a) (turnOf l num b)) : num b ≤ num a := by
  have h : num b < num a ∨ num a = num b ∧ _ := h
  rcases h with h | ⟨h, _⟩ <;> omega
theorem filter_takeR {W : List Int} {o : Int} {j : Nat} (hj : j < W.length) : ((W.take (j + 1)).filter fun k => decide (k ≠ o)) = ((W.take j).filter fun k => decide (k ≠ o)) ++ (if W[j] = o then [] else [W[j]]) := by
  rw [List.take_add_one, List.getElem?_eq_getElem hj, List.filter_append]
  congr 1
  by_cases e : W[j] = o
  · simp [e]
  · simp [e]
set_option maxHeartbeats 40000000 in
set_option maxRecDepth 100000 in
theorem law17_OrderRanked.walk (A0 : Option Addr) (c0 : Nat) (cs : List Int) (A1 : Option Addr) (c1 : Nat) (ds : List Int) (w : World) (hr0 : (Kd.int .u8).C w A0 cs.length cs) (hc0 : cs.length ≤ c0) (hcb : ∀ x ∈ cs, 0 ≤ x ∧ x < 256) (hr1 : (Kd.int .u8).C w A1 ds.length ds) (hc1 : ds.length ≤ c1) :
    Calls Tryz.prog 3 #[.slice A0 cs.length c0, .slice A1 ds.length c1] w fun e w' => e = .returned (.bool true) ∧ Below w.heap.size w w' := by
  have hu34 := Tryz.underlying50
  have HRM := Aside0.mk (Room.walk A0 c0 cs w hr0 hc0 hcb)
  have HR1 := Aside0.mk hr1
  have HC1 := Aside0.mk hc1
  clear hr0 hc0 hcb hr1 hc1
  go_enter Tryz.func3, Tryz.ntmps3
  go_upto_region 2 with (go_at_call 7; refine HRM.out.mono ?_; rintro e W1 ⟨l, g, AL, cL, AG, cG, rfl, hN, hG, hroom, hl0, hl18, hb1⟩; replace hN := Aside0.mk hN; replace hG := Aside0.mk hG; replace hroom := Aside0.mk hroom; replace hb1 := Aside0.mk hb1)
  have HCL := Aside0.mk (Kd.N_reads' hN.out)
  have HCG := Aside0.mk (Kd.N_reads' hG.out)
  clear HRM hN hG
  have hgl : g.length = l.length := hroom.out.len
  have hbk : ∀ n, n < g.length → ∀ x ∈ g.getD n [], 0 ≤ x ∧ x < (n : Int) := fun n hn x hx => hroom.out.edges n _ (by rw [List.getD_eq_getElem?_getD, List.getElem?_eq_getElem hn]; rfl) x hx
  have hlx : ∀ x : Int, ∃ z : Int, 0 ≤ x → x < (l.length : Int) → Ev (fun k => order_Level.f k l g x) z := fun x => by
    by_cases h : 0 ≤ x ∧ x < (l.length : Int)
    · obtain ⟨z, -, hz⟩ := lvl_ev l g x h.1 h.2 (fun y hy => DqP.dmR _ _ (hroom.out.deep y hy))
      exact ⟨z, fun _ _ => hz⟩
    · exact ⟨0, fun h0 h1 => absurd ⟨h0, h1⟩ h⟩
  obtain ⟨lv, hlv⟩ : ∃ lv : Int → Int, ∀ x, 0 ≤ x → x < (l.length : Int) → Ev (fun k => order_Level.f k l g x) (lv x) := ⟨fun x => Classical.choose (hlx x), fun x => Classical.choose_spec (hlx x)⟩
  obtain ⟨xs, hxe, hx20⟩ := some_evR ds l.length (by omega)
  obtain ⟨kx, hkx⟩ := hxe.rounds
  obtain ⟨A, hAe, hAr, hAm, hAl⟩ := set_evR l.length xs (by omega) (by omega)
  obtain ⟨kA, hkA⟩ := hAe.rounds
  have hAI : ∀ x ∈ A, 0 ≤ x ∧ x < (l.length : Int) := fun x hx => ((hAm x).1 hx).2
  have hA18 : A.length ≤ 18 := by omega
  have HSO : Aside0 (∀ W, Below w.heap.size w W → Calls Tryz.prog 9 #[.slice A1 ds.length c1, .int .i64 (l.length : Int)] W fun e w' => ∃ (B : Option Addr) (d : Nat), e = .returned (.slice B xs.length d) ∧ xs.length ≤ d ∧ (Kd.int .i64).C w' B xs.length xs ∧ Below W.heap.size W w') := ⟨fun W hW => (heliastlaw17_Some.calls kx A1 c1 ds _ xs W (Kd.C_below HR1.out hW) HC1.out hkx).mono (by
    rintro e w' ⟨v, rfl, hr, hb⟩
    obtain ⟨B, d, rfl, h1, h2⟩ := Kd.R_reads hr
    exact ⟨B, d, rfl, h1, h2, hb⟩)⟩
  have HSE : Aside0 (∀ (W : World) (B : Option Addr) (d : Nat), xs.length ≤ d → (Kd.int .i64).C W B xs.length xs → Calls Tryz.prog 8 #[.int .i64 (l.length : Int), .slice B xs.length d] W fun e w' => ∃ (B' : Option Addr) (d' : Nat), e = .returned (.slice B' A.length d') ∧ A.length ≤ d' ∧ (Kd.int .i64).C w' B' A.length A ∧ Below W.heap.size W w') := ⟨fun W B d h1 h2 => (heliastlaw17_set.calls kA _ B d xs A W h2 h1 hkA).mono (by
    rintro e w' ⟨v, rfl, hr, hb⟩
    obtain ⟨B, d, rfl, h1, h2⟩ := Kd.R_reads hr
    exact ⟨B, d, rfl, h1, h2, hb⟩)⟩
  have hpl := placesR_self hAr hAI
  have hnd : A.Nodup := hAr.imp (fun h e => by omega)
  obtain ⟨hst, hol⟩ := rankedL_steps hgl hbk lv A
  rw [hpl] at hst hol
  obtain ⟨rank, hrank⟩ : ∃ rank, rank = rankL l.length (sortedL l lv A) := ⟨_, rfl⟩
  obtain ⟨out, hout⟩ : ∃ out, out = rankedL l g lv A := ⟨_, rfl⟩
  rw [← hrank, ← hout] at hst
  rw [← hout] at hol
  have HRL : Aside0 (∀ x y, x ∈ A → y ∈ A → x ≠ y → lessN rank x y = false → TnLt (turnOf l lv y) (turnOf l lv x)) := ⟨fun x y hx hy hne h => rank_lt hnd hAI hx hy hne (by rw [← hrank]; exact h)⟩
  have HRA : Aside0 (∀ (W : World) (B : Option Addr) (d : Nat), Below W1.heap.size W1 W → (Kd.int .i64).C W B A.length A → Calls Tryz.prog 10 #[.slice AL l.length cL, .slice AG g.length cG, .slice B A.length d] W fun e w' => ∃ (B' : Option Addr) (d' : Nat), e = .returned (.slice B' out.length d') ∧ out.length ≤ d' ∧ (Kd.int .i64).C w' B' out.length out ∧ Below W.heap.size W w') := ⟨fun W B d hW hC => (order_Ranked.walk AL cL l AG cG g B d A lv W (Kd.C_below HCL.out.2.2 hW) HCL.out.2.1 (Kd.C_below HCG.out.2.2 hW) HCG.out.2.1 hC (by omega) (by omega) (by omega) hlv).mono (by
    rintro e w' ⟨v, rfl, hr, hb⟩
    rw [← hout] at hr
    obtain ⟨B, d, rfl, h1, h2⟩ := Kd.R_reads hr
    exact ⟨B, d, rfl, h1, h2, hb⟩)⟩
  have HLE : Aside0 (∀ (n : Int), 0 ≤ n → n < (l.length : Int) → ∀ (W : World), Below W1.heap.size W1 W → Calls Tryz.prog 13 #[.slice AL l.length cL, .slice AG g.length cG, .int .i64 n] W fun e w' => e = .returned (.int .i64 (lv n)) ∧ Below W.heap.size W w') := ⟨fun n h0 h1 W hW => by
    obtain ⟨k, hk⟩ := (hlv n h0 h1).rounds
    exact order_Level.calls k AL cL l AG cG g n (lv n) W (Kd.C_below HCL.out.2.2 hW) HCL.out.2.1 (Kd.C_below HCG.out.2.2 hW) HCG.out.2.1 hk⟩
  have HHA : Aside0 (∀ (n : Int) (L : List Int) (W : World) (B : Option Addr) (d : Nat), L.length ≤ d → (Kd.int .i64).C W B L.length L → L.length ≤ 100000 → Calls Tryz.prog 11 #[.slice B L.length d, .int .i64 n] W fun e w' => e = .returned (.bool (decide (n ∈ L))) ∧ Below W.heap.size W w') := ⟨fun n L W B d hd hC hl => by
    obtain ⟨k, hk⟩ := (hasD_evR L n (by omega)).rounds
    exact (heliastref12_Has.calls k B d L n _ W hC hd hk).mono (fun e w' h => ⟨h.1, h.2.below⟩)⟩
  have HPS : Aside0 (∀ (o : Int), 0 ≤ o → o < (g.length : Int) → ∀ (W : World), Below W1.heap.size W1 W → Calls Tryz.prog 12 #[.slice AG g.length cG, .int .i64 o] W fun e w' => ∃ (B : Option Addr) (d : Nat), e = .returned (.slice B (rchL g (g.getD o.toNat [])).length d) ∧ (rchL g (g.getD o.toNat [])).length ≤ d ∧ (Kd.int .i64).C w' B (rchL g (g.getD o.toNat [])).length (rchL g (g.getD o.toNat [])) ∧ Below W.heap.size W w') := ⟨fun o h0 h1 W hW => (graph_Past.calls AG cG g o _ W (Kd.C_below HCG.out.2.2 hW) HCG.out.2.1 (past_inR g o h0 h1 (by omega))).mono (by
    rintro e w' ⟨v, rfl, hr, hb⟩
    obtain ⟨B, d, rfl, h1, h2⟩ := Kd.R_reads hr
    exact ⟨B, d, rfl, h1, h2, hb⟩)⟩
  have HCE : Aside0 (∀ (n : Int) (Wl : List Int), 0 ≤ n → n < (g.length : Int) → Wl.length ≤ 18 → ∀ (W : World) (B : Option Addr) (d : Nat), Below W1.heap.size W1 W → Wl.length ≤ d → (Kd.int .i64).C W B Wl.length Wl → Calls Tryz.prog 14 #[.slice AG g.length cG, .int .i64 n, .slice B Wl.length d] W fun e w' => e = .returned (.bool (freeIn g Wl n)) ∧ Below W.heap.size W w') := ⟨fun n Wl h0 h1 hwl W B d hW hd hC => by
    obtain ⟨k, hk⟩ := (clear_ev g Wl n h0 h1 (by omega) (by omega)).rounds
    exact heliastlaw17_clear.calls k AG cG g n B d Wl _ W (Kd.C_below HCG.out.2.2 hW) HCG.out.2.1 hC hd hk⟩
  have HST := Aside0.mk hst
  have HOL := Aside0.mk hol
  have HAA := Aside0.mk hAI
  have HBK := Aside0.mk hbk
  clear hxe hkx hAe hkA hAr hAm hAl hpl hnd hst hrank hout hAI hlx hlv hbk hol
  have HGL := Aside0.mk hgl
  clear hgl
  go_upto_region 3 with (first
    | (go_at_call 9; refine (HSO.out _ hb1.out).mono ?_; rintro e w2 ⟨B2, d2, rfl, hd2, hC2, hb2⟩; have HC2 := Aside0.mk hC2; have HD2 := Aside0.mk hd2; have HB2 := Aside0.mk hb2; clear hC2 hd2 hb2)
    | (go_at_call 8; refine (HSE.out _ B2 d2 HD2.out HC2.out).mono ?_; rintro e w3 ⟨B3, d3, rfl, hd3, hC3, hb3⟩; have HC3 := Aside0.mk hC3; have HD3 := Aside0.mk hd3; have HB3 := Aside0.mk (below_then HB2.out HB2.out.size hb3); clear hC3 hd3 hb3))
  go_upto_region 4 with (go_at_call 10; refine (HRA.out w3 B3 d3 HB3.out HC3.out).mono ?_; rintro e w4 ⟨B4, d4, rfl, hd4, hC4, hb4⟩; have HC4 := Aside0.mk hC4; have HD4 := Aside0.mk hd4; have HB4 := Aside0.mk hb4; clear hC4 hd4 hb4)
  have HCA := Aside0.mk (Kd.C_below HC3.out HB4.out)
  have HBL4 := Aside0.mk (below_then HB3.out HB3.out.size HB4.out)
  have hol : out.length = A.length := HOL.out
  have ho18 : out.length ≤ 18 := by omega
  have HOZ : Aside0 (((out.length : Int) == (A.length : Int)) = true) := ⟨by rw [hol]; exact beq_self_eq_true _⟩
  have hoz := HOZ.out
  have hoz2 : ((out.length : Int) != (A.length : Int)) = false := by unfold bne; rw [hoz]; rfl
  clear HSO HSE HC2 HD2 HB2 HRA HC3 HB3 HB4 hol
  go_upto_block 0 with fail
  clear hoz hoz2
  go_cut [] (fun wx => Aside0 (Below w4.heap.size w4 wx))
  case first =>
    have HB0 := Aside0.mk (Below.refl w4.heap.size w4)
    clear HR1 HC1
    go_wp2_with fail
    go_loopg [7, 9] out.length (fun gg v7 v9 wr => ∃ (i : Nat) (W : List Int) (Aw : Option Addr) (cw : Nat), i ≤ out.length ∧ out.length - i ≤ gg ∧ v9 = .int .i64 (i : Int) ∧ v7 = .slice Aw W.length cw ∧ W.length ≤ 18 ∧ Aside0 (W.length ≤ cw) ∧ Aside0 ((Kd.int .i64).C wr Aw W.length W) ∧ Aside0 (Steps g rank W (out.drop i)) ∧ Aside0 (∀ x ∈ W, x ∈ A) ∧ Aside0 (Below w4.heap.size w4 wr))
    case atStart => exact ⟨0, A, B3, d3, Nat.zero_le _, by omega, rfl, rfl, hA18, HD3, HCA, ⟨by rw [List.drop_zero]; exact HST.out⟩, ⟨fun _ h => h⟩, HB0⟩
    case round =>
      obtain ⟨i, W, Aw, cw, hi, hgg, rfl, rfl, hW18, HCW, HCC, HSI, HWA, HB⟩ := hrel
      by_cases hlt : i < out.length
      · have hltz : (i : Int) < (out.length : Int) := by omega
        obtain ⟨ad, e, hx0⟩ := C_num HC4.out hlt
        cases e
        have hdr : out.drop i = out[i] :: out.drop (i + 1) := List.drop_eq_getElem_cons hlt
        obtain ⟨o, ho⟩ : ∃ o, o = out[i] := ⟨_, rfl⟩
        rw [← ho] at hx0 hdr
        obtain ⟨hoW, hof, hmin, hst⟩ : o ∈ W ∧ freeIn g W o = true ∧ (∀ x ∈ W, freeIn g W x = true → lessN rank x o = false) ∧ Steps g rank (W.filter fun k => decide (k ≠ o)) (out.drop (i + 1)) := by
          have := HSI.out; rw [hdr] at this; exact this
        replace hx0 := pw_cell_below HB.out hx0
        have hoA := HWA.out o hoW
        have hor := HAA.out o hoA
        have HHO := Aside0.mk (HHA.out o W wr Aw cw HCW.out HCC.out (by omega))
        rw [decide_eq_true hoW] at HHO
        have HX00 := Aside0.mk hx0
        have HMIN := Aside0.mk hmin
        have HSTN := Aside0.mk hst
        have HOF := Aside0.mk hof
        have HOA := Aside0.mk hoA
        have HOR := Aside0.mk hor
        clear ho hdr hoW hof hmin hst hoA hor
        go_upto_block 2 with (go_at_call 11; refine HHO.out.mono ?_; rintro e w6 ⟨rfl, hb6⟩; have HB6 := Aside0.mk hb6; clear hb6)
        clear hx0
        have HX0 := Aside0.mk (pw_cell_below HB6.out HX00.out)
        have HCW6 := Aside0.mk (Kd.C_below HCC.out HB6.out)
        have HB46 := Aside0.mk (below_then HB.out HB.out.size HB6.out)
        have HBW6 := Aside0.mk (below_then HBL4.out HBL4.out.size HB46.out)
        go_cut [10] from 49 to 110 (fun s10 wx => Aside0 (Kd.R (Kd.int .i64) 3 wx w6.heap.size (fun _ => True) s10 (W.filter fun k => decide (k ≠ o))) ∧ Aside0 (Below w6.heap.size w6 wx))
        case first =>
          have HBI := Aside0.mk (Below.refl w6.heap.size w6)
          go_wp2_with fail
          go_loopg [10, 11] W.length (fun gg v10 v11 wr2 => ∃ j : Nat, j ≤ W.length ∧ W.length - j ≤ gg ∧ v11 = .int .i64 (j : Int) ∧ Aside0 (Kd.R (Kd.int .i64) 3 wr2 w6.heap.size (fun _ => True) v10 ((W.take j).filter fun k => decide (k ≠ o))) ∧ Aside0 (Below w6.heap.size w6 wr2))
          case atStart => exact ⟨0, Nat.zero_le _, by omega, rfl, ⟨by rw [List.take_zero]; exact Kd.R_nil _ _ _ _ _⟩, HBI⟩
          case round =>
            obtain ⟨j, hj, hgg2, rfl, HV, HBJ⟩ := hrel
            by_cases hlt2 : j < W.length
            · have hltz2 : (j : Int) < (W.length : Int) := by omega
              obtain ⟨adw, e, hx2⟩ := C_num HCW6.out hlt2
              cases e
              have hft := filter_takeR (o := o) hlt2
              have hnW : W[j] ∈ W := List.getElem_mem hlt2
              obtain ⟨n, hn⟩ : ∃ n, n = W[j] := ⟨_, rfl⟩
              rw [← hn] at hx2 hft hnW
              replace hx2 := pw_cell_below HBJ.out hx2
              have hx0 := pw_cell_below HBJ.out HX0.out
              by_cases hno : n = o
              · have hbe : (n == o) = true := beq_iff_eq.2 hno
                rw [if_pos hno, List.append_nil] at hft
                have HFT := Aside0.mk hft
                clear hft hn hnW hno
                go_wp2_with fail
                go_roundg (W.length - (j + 1))
                case measure => omega
                case rel => exact ⟨j + 1, by omega, by omega, by go_num, ⟨by rw [HFT.out]; exact HV.out⟩, HBJ⟩
              · have hbe : (n == o) = false := beq_eq_false_iff_ne.2 hno
                rw [if_neg hno] at hft
                have HFT := Aside0.mk hft
                have hfl : ((W.take j).filter fun k => decide (k ≠ o)).length ≤ 18 := Nat.le_trans (List.length_filter_le _ _) (by rw [List.length_take]; omega)
                have HFL := Aside0.mk hfl
                have hnr := HAA.out n (HWA.out n hnW)
                have hgl := HGL.out
                have hnp : decide (n ∈ rchL g (g.getD o.toNat [])) = false := decide_eq_false (fun h => by
                  have h1 := HOF.out
                  unfold freeIn at h1
                  simp only [Bool.not_eq_true', List.any_eq_false] at h1
                  exact h1 n hnW (rchB_iff.2 (mem_rchL.1 h)))
                have HPA := Aside0.mk (HPS.out o HOR.out.1 (by have := HOR.out.2; omega))
                have HHN : Aside0 (∀ (X : World) (B : Option Addr) (d : Nat), (rchL g (g.getD o.toNat [])).length ≤ d → (Kd.int .i64).C X B (rchL g (g.getD o.toNat [])).length (rchL g (g.getD o.toNat [])) → Calls Tryz.prog 11 #[.slice B (rchL g (g.getD o.toNat [])).length d, .int .i64 n] X fun e w' => e = .returned (.bool false) ∧ Below X.heap.size X w') := ⟨fun X B d hd hC => by
                  have := HHA.out n (rchL g (g.getD o.toNat [])) X B d hd hC (by have := rchL_lenR g (g.getD o.toNat []); omega)
                  rw [hnp] at this; exact this⟩
                have HLN := Aside0.mk (HLE.out n hnr.1 hnr.2)
                have HLO := Aside0.mk (HLE.out o HOR.out.1 HOR.out.2)
                have hcn : ∀ X, Below w6.heap.size w6 X → Calls Tryz.prog 14 #[.slice AG g.length cG, .int .i64 n, .slice (some adw) W.length cw] X fun e w' => e = .returned (.bool (freeIn g W n)) ∧ Below X.heap.size X w' := fun X hX => HCE.out n W hnr.1 (by omega) hW18 X (some adw) cw (below_then HBW6.out HBW6.out.size hX) HCW.out (Kd.C_below HCW6.out hX)
                have hsn := fun (hf : freeIn g W n = true) => HRL.out n o (HWA.out n hnW) HOA.out hno (HMIN.out n hnW hf)
                obtain ⟨pl, hpl⟩ : ∃ pl, pl = rchL g (g.getD o.toNat []) := ⟨_, rfl⟩
                rw [← hpl] at HPA HHN
                have hx0 := pw_cell_below HBJ.out HX0.out
                have hnr0 := hnr.1
                have hnr1 := hnr.2
                have HSF := Aside0.mk (fun (h : freeIn g W n = true) (e : lv n = lv o) => sooner_falseR ⟨hnr0, hnr1⟩ HOR.out (hsn h) e)
                have HLL := Aside0.mk (fun (h : freeIn g W n = true) => num_leR (hsn h))
                obtain ⟨q, hq⟩ : ∃ q, q = freeIn g W n := ⟨_, rfl⟩
                rw [← hq] at hcn HSF HLL
                obtain ⟨na, hna⟩ : ∃ na, na = lv n := ⟨_, rfl⟩
                obtain ⟨nb, hnb⟩ : ∃ nb, nb = lv o := ⟨_, rfl⟩
                rw [← hna] at HLN HSF HLL
                rw [← hnb] at HLO HSF HLL
                clear hft hn hnW hno hfl hnr hnp hsn hpl hq hna hnb hgl
                cases q with
                | false =>
                  have HCN := Aside0.mk hcn
                  clear hcn HSF HLL
                  go_wp2_with (first
                    | (at_builtin; refine Kd.R_append (Kd.int .i64) (w0 := w6) w6.heap.size rfl (.tmp 65) (.tmp 67) 27 3 (.int .i64 0) 8 rfl Tryz.underlying27 (by kernel_rfl) rfl (by decide) (by decide) u10 ((W.take j).filter fun k => decide (k ≠ o)) n [.int .i64 n] (fun _ => True) (fun _ => False) rfl rfl rfl (fun _ hk => hk.elim) (fun _ _ => trivial) HV.out HBJ.out (by have := HBJ.out.size; omega) (by have := HFL.out; omega) ?_; intro v7 w7 hr7 hb7 hg7 hat7; have HV7 := Aside0.mk hr7; have HG7 := Aside0.mk hg7; have HB7 := Aside0.mk hb7; have hx0 := pw_cell_below HB7.out HX0.out; clear hr7 hb7 hg7 hat7)
                    | (go_at_call 12; refine (HPA.out _ (below_then HBW6.out HBW6.out.size HB7.out)).mono ?_; rintro e w8 ⟨B8, d8, rfl, hd8, hC8, hb8⟩; have HC8 := Aside0.mk hC8; have HD8 := Aside0.mk hd8; have HB8 := Aside0.mk (below_then HB7.out HB7.out.size hb8); have HR8 := Aside0.mk (Kd.R_below HV7.out hb8); clear hC8 hd8 hb8)
                    | (go_at_call 11; refine (HHN.out _ B8 d8 HD8.out HC8.out).mono ?_; rintro e w9 ⟨rfl, hb9⟩; have HB9 := Aside0.mk (below_then HB8.out HB8.out.size hb9); have HR9 := Aside0.mk (Kd.R_below HR8.out hb9); clear hb9)
                    | (go_at_call 13; (with_reducible refine (HLN.out _ (below_then HBW6.out HBW6.out.size HB9.out)).mono ?_); rintro e w10 ⟨rfl, hb10⟩; have HB10 := Aside0.mk (below_then HB9.out HB9.out.size hb10); have HR10 := Aside0.mk (Kd.R_below HR9.out hb10); have hx0 := pw_cell_below HB10.out HX0.out; clear hb10)
                    | (go_at_call 13; (with_reducible refine (HLO.out _ (below_then HBW6.out HBW6.out.size HB10.out)).mono ?_); rintro e w11 ⟨rfl, hb11⟩; have HB11 := Aside0.mk (below_then HB10.out HB10.out.size hb11); have HR11 := Aside0.mk (Kd.R_below HR10.out hb11); clear hb11)
                    | (go_at_call 14; refine (HCN.out w11 HB11.out).mono ?_; rintro e w12 ⟨rfl, hb12⟩; have HB12 := Aside0.mk (below_then HB11.out HB11.out.size hb12); have HR12 := Aside0.mk (Kd.R_below HR11.out hb12); have hx0 := pw_cell_below HB12.out HX0.out; clear hb12))
                  go_roundg (W.length - (j + 1))
                  case measure => omega
                  case rel => exact ⟨j + 1, by omega, by omega, by go_num, ⟨by rw [HFT.out]; exact HR12.out⟩, HB12⟩
                | true =>
                  have HCN := Aside0.mk hcn
                  have hle : na ≤ nb := HLL.out rfl
                  have hngt : ¬ nb < na := by omega
                  have hgtd : decide (nb < na) = false := decide_eq_false hngt
                  clear hcn HLL
                  by_cases heq : na = nb
                  · have hbq : (na == nb) = true := beq_iff_eq.2 heq
                    have HSN : Aside0 (∀ X, Below w6.heap.size w6 X → Calls Tryz.prog 15 #[.slice AL l.length cL, .int .i64 n, .int .i64 o] X fun e w' => e = .returned (.bool false) ∧ Below X.heap.size X w') := ⟨fun X hX => (heliastlaw17_sooner.calls AL cL l n o false X (Kd.C_below HCL.out.2.2 (below_then HBW6.out HBW6.out.size hX)) HCL.out.2.1 (HSF.out rfl heq)).mono (fun e w' h => ⟨h.1, h.2.below⟩)⟩
                    clear HSF heq
                    go_wp2_with (first
                    | (at_builtin; refine Kd.R_append (Kd.int .i64) (w0 := w6) w6.heap.size rfl (.tmp 65) (.tmp 67) 27 3 (.int .i64 0) 8 rfl Tryz.underlying27 (by kernel_rfl) rfl (by decide) (by decide) u10 ((W.take j).filter fun k => decide (k ≠ o)) n [.int .i64 n] (fun _ => True) (fun _ => False) rfl rfl rfl (fun _ hk => hk.elim) (fun _ _ => trivial) HV.out HBJ.out (by have := HBJ.out.size; omega) (by have := HFL.out; omega) ?_; intro v7 w7 hr7 hb7 hg7 hat7; have HV7 := Aside0.mk hr7; have HG7 := Aside0.mk hg7; have HB7 := Aside0.mk hb7; have hx0 := pw_cell_below HB7.out HX0.out; clear hr7 hb7 hg7 hat7)
                    | (go_at_call 12; refine (HPA.out _ (below_then HBW6.out HBW6.out.size HB7.out)).mono ?_; rintro e w8 ⟨B8, d8, rfl, hd8, hC8, hb8⟩; have HC8 := Aside0.mk hC8; have HD8 := Aside0.mk hd8; have HB8 := Aside0.mk (below_then HB7.out HB7.out.size hb8); have HR8 := Aside0.mk (Kd.R_below HV7.out hb8); clear hC8 hd8 hb8)
                    | (go_at_call 11; refine (HHN.out _ B8 d8 HD8.out HC8.out).mono ?_; rintro e w9 ⟨rfl, hb9⟩; have HB9 := Aside0.mk (below_then HB8.out HB8.out.size hb9); have HR9 := Aside0.mk (Kd.R_below HR8.out hb9); clear hb9)
                    | (go_at_call 13; (with_reducible refine (HLN.out _ (below_then HBW6.out HBW6.out.size HB9.out)).mono ?_); rintro e w10 ⟨rfl, hb10⟩; have HB10 := Aside0.mk (below_then HB9.out HB9.out.size hb10); have HR10 := Aside0.mk (Kd.R_below HR9.out hb10); have hx0 := pw_cell_below HB10.out HX0.out; clear hb10)
                    | (go_at_call 13; (with_reducible refine (HLO.out _ (below_then HBW6.out HBW6.out.size HB10.out)).mono ?_); rintro e w11 ⟨rfl, hb11⟩; have HB11 := Aside0.mk (below_then HB10.out HB10.out.size hb11); have HR11 := Aside0.mk (Kd.R_below HR10.out hb11); clear hb11)
                    | (go_at_call 14; refine (HCN.out w11 HB11.out).mono ?_; rintro e w12 ⟨rfl, hb12⟩; have HB12 := Aside0.mk (below_then HB11.out HB11.out.size hb12); have HR12 := Aside0.mk (Kd.R_below HR11.out hb12); have hx0 := pw_cell_below HB12.out HX0.out; clear hb12)
                    | (go_at_call 15; refine (HSN.out w12 HB12.out).mono ?_; rintro e w13 ⟨rfl, hb13⟩; have HB13 := Aside0.mk (below_then HB12.out HB12.out.size hb13); have HR13 := Aside0.mk (Kd.R_below HR12.out hb13); clear hb13))
                    go_roundg (W.length - (j + 1))
                    case measure => omega
                    case rel => exact ⟨j + 1, by omega, by omega, by go_num, ⟨by rw [HFT.out]; exact HR13.out⟩, HB13⟩
                  · have hbq : (na == nb) = false := beq_eq_false_iff_ne.2 heq
                    clear HSF heq
                    go_wp2_with (first
                    | (at_builtin; refine Kd.R_append (Kd.int .i64) (w0 := w6) w6.heap.size rfl (.tmp 65) (.tmp 67) 27 3 (.int .i64 0) 8 rfl Tryz.underlying27 (by kernel_rfl) rfl (by decide) (by decide) u10 ((W.take j).filter fun k => decide (k ≠ o)) n [.int .i64 n] (fun _ => True) (fun _ => False) rfl rfl rfl (fun _ hk => hk.elim) (fun _ _ => trivial) HV.out HBJ.out (by have := HBJ.out.size; omega) (by have := HFL.out; omega) ?_; intro v7 w7 hr7 hb7 hg7 hat7; have HV7 := Aside0.mk hr7; have HG7 := Aside0.mk hg7; have HB7 := Aside0.mk hb7; have hx0 := pw_cell_below HB7.out HX0.out; clear hr7 hb7 hg7 hat7)
                    | (go_at_call 12; refine (HPA.out _ (below_then HBW6.out HBW6.out.size HB7.out)).mono ?_; rintro e w8 ⟨B8, d8, rfl, hd8, hC8, hb8⟩; have HC8 := Aside0.mk hC8; have HD8 := Aside0.mk hd8; have HB8 := Aside0.mk (below_then HB7.out HB7.out.size hb8); have HR8 := Aside0.mk (Kd.R_below HV7.out hb8); clear hC8 hd8 hb8)
                    | (go_at_call 11; refine (HHN.out _ B8 d8 HD8.out HC8.out).mono ?_; rintro e w9 ⟨rfl, hb9⟩; have HB9 := Aside0.mk (below_then HB8.out HB8.out.size hb9); have HR9 := Aside0.mk (Kd.R_below HR8.out hb9); clear hb9)
                    | (go_at_call 13; (with_reducible refine (HLN.out _ (below_then HBW6.out HBW6.out.size HB9.out)).mono ?_); rintro e w10 ⟨rfl, hb10⟩; have HB10 := Aside0.mk (below_then HB9.out HB9.out.size hb10); have HR10 := Aside0.mk (Kd.R_below HR9.out hb10); have hx0 := pw_cell_below HB10.out HX0.out; clear hb10)
                    | (go_at_call 13; (with_reducible refine (HLO.out _ (below_then HBW6.out HBW6.out.size HB10.out)).mono ?_); rintro e w11 ⟨rfl, hb11⟩; have HB11 := Aside0.mk (below_then HB10.out HB10.out.size hb11); have HR11 := Aside0.mk (Kd.R_below HR10.out hb11); clear hb11)
                    | (go_at_call 14; refine (HCN.out w11 HB11.out).mono ?_; rintro e w12 ⟨rfl, hb12⟩; have HB12 := Aside0.mk (below_then HB11.out HB11.out.size hb12); have HR12 := Aside0.mk (Kd.R_below HR11.out hb12); have hx0 := pw_cell_below HB12.out HX0.out; clear hb12))
                    go_roundg (W.length - (j + 1))
                    case measure => omega
                    case rel => exact ⟨j + 1, by omega, by omega, by go_num, ⟨by rw [HFT.out]; exact HR12.out⟩, HB12⟩
            · have hltz2 : ¬ (j : Int) < (W.length : Int) := by omega
              have HE : Aside0 (W.take j = W) := ⟨by rw [List.take_of_length_le]; omega⟩
              go_wp2_with fail
              go_meet
              exact ⟨⟨by have := HV.out; rwa [HE.out] at this⟩, HBJ⟩
        case rest =>
          obtain ⟨HV, HBX⟩ := hcut
          obtain ⟨A10, c10, e⟩ := Kd.R_slice HV.out
          subst e
          have HCV := Aside0.mk (Kd.R_reads' HV.out).2
          have hfw : (W.filter fun k => decide (k ≠ o)).length ≤ 18 := Nat.le_trans (List.length_filter_le _ _) hW18
          have HWN : Aside0 (∀ x ∈ (W.filter fun k => decide (k ≠ o)), x ∈ A) := ⟨fun x hx => HWA.out x (List.mem_filter.1 hx).1⟩
          obtain ⟨V, hV⟩ : ∃ V, V = W.filter fun k => decide (k ≠ o) := ⟨_, rfl⟩
          rw [← hV] at HCV hfw HWN HSTN ⊢
          clear HV hV
          go_wp2_with fail
          go_roundg (out.length - (i + 1))
          case measure => omega
          case rel => exact ⟨i + 1, V, A10, c10, by omega, by omega, by go_num, rfl, hfw, ⟨HCV.out.1⟩, ⟨HCV.out.2⟩, HSTN, HWN, ⟨below_then HB46.out HB46.out.size HBX.out⟩⟩
      · have hltz : ¬ (i : Int) < (out.length : Int) := by omega
        go_wp2_with fail
        go_meet
        exact HB
  case rest =>
    have HB := hcut
    clear hcut
    have HKN := Aside0.mk law17_known.walk
    go_wp2_with (go_at_call 16; refine (HKN.out _).mono ?_; rintro e w6 ⟨rfl, hb6⟩; have HB6 := Aside0.mk (below_then HB.out HB.out.size hb6); clear hb6)
    go_ret
    exact ⟨rfl, below_then hb1.out hb1.out.size (below_then HBL4.out HBL4.out.size HB6.out)⟩
theorem heliastlaw17_OrderRanked.calls (k : Nat) (A0 : Option Addr) (c0 : Nat) (l0 : List Int) (A1 : Option Addr) (c1 : Nat) (l1 : List Int) (r : Bool) (w : World) (hr0 : (Kd.int .u8).C w A0 l0.length l0) (hc0 : l0.length ≤ c0) (hr1 : (Kd.int .u8).C w A1 l1.length l1) (hc1 : l1.length ≤ c1)
    (h : ∀ x ∈ l0, (Lit.int .u8 x).wf = true) (hlaw : r = true) :
    Calls Tryz.prog 3 #[.slice A0 l0.length c0, .slice A1 l1.length c1] w fun e w' => e = .returned (.bool r) ∧ Below w.heap.size w w' := by
  subst hlaw
  exact law17_OrderRanked.walk A0 c0 l0 A1 c1 l1 w hr0 hc0 (fun x hx => bytePR (h x hx)) hr1 hc1
end Go.Proofs.YtmdjknkhjimgeaaGreat.S
end

-- Written by heprint.py (this session's, over the kit's print.py): not trusted, Lean checks it.
import Derived.Test.YtbldllghkfgkeaaPc0
import Derived.Test.YtbldllghkfgkeaaPc2
import Derived.Test.YtbldllghkfgkeaaPc3
import Derived.Test.YtbldllghkfgkeaaPc4
import Derived.Test.YtbldllghkfgkeaaPc5
import Derived.Test.YtbldllghkfgkeaaPc6
import Derived.Test.YtbldllghkfgkeaaPc9
import Derived.Test.YtbldllghkfgkeaaPc10
namespace Go.Proofs.Ytbldllghkfgkeaa.S
open Go.RowKit Go.Proofs.YtbldllghkfgkeaaW.PrintWords Go.Proofs.YtbldllghkfgkeaaW.PrintLast Go.Proofs.YtbldllghkfgkeaaW.PrintMore
attribute [local go_sem] max2_int min2_int max_two min_two max_three min_three max_four min_four   -- for this text's walks alone
set_option linter.unusedVariables false
set_option linter.unusedSimpArgs false

/-! ### pure St0 -/
-- PURE needs heliast/heliastref13.Put needs heliast/state.Put needs heliast/state.Get
open Go.Proofs.He
abbrev En := S74
instance : DecidableEq En := fun a b => decidable_of_iff (a.f0 = b.f0 ∧ a.f1 = b.f1 ∧ a.f2 = b.f2) ⟨fun h => by cases a; cases b; simp_all, fun h => by subst h; exact ⟨rfl, rfl, rfl⟩⟩
/-! states as maps -/
def look (l : List En) (a b : ByteArray) : Option En := l.find? (fun y => decide (y.f0 = a ∧ y.f1 = b))
theorem stGet_look (l : List En) (a b : ByteArray) : stGet l a b = match look l a b with | some y => y.f2 | none => -1 := by
  unfold stGet look
  have : (fun y : En => cmpE ⟨a, b, 0⟩ y == 0) = (fun y : En => decide (y.f0 = a ∧ y.f1 = b)) := by
    funext y
    rw [Bool.eq_iff_iff]
    simp only [beq_iff_eq, cmpE_zero, decide_eq_true_eq]
    exact ⟨fun h => ⟨h.1.symm, h.2.symm⟩, fun h => ⟨h.1.symm, h.2.symm⟩⟩
  rw [this]
  cases l.find? (fun y : En => decide (y.f0 = a ∧ y.f1 = b)) <;> rfl
theorem look_nil (a b : ByteArray) : look [] a b = none := rfl
theorem look_cons (y : En) (l : List En) (a b : ByteArray) : look (y :: l) a b = if y.f0 = a ∧ y.f1 = b then some y else look l a b := by
  unfold look
  rw [List.find?_cons]
  by_cases h : y.f0 = a ∧ y.f1 = b
  · simp [h]
  · simp only [h, decide_false, if_false]
theorem kLt_irrefl (x : En) : ¬ kLt x x := by
  rintro (h | ⟨_, h⟩) <;> exact List.lt_irrefl _ h
theorem kLt_key {x y z : En} (h : kLt x y) (h0 : y.f0 = z.f0) (h1 : y.f1 = z.f1) : kLt x z := by
  unfold kLt at *; rw [← h0, ← h1]; exact h
theorem kLt_key' {x y z : En} (h : kLt y x) (h0 : y.f0 = z.f0) (h1 : y.f1 = z.f1) : kLt z x := by
  unfold kLt at *; rw [← h0, ← h1]; exact h
theorem kLt_tri (x y : En) : kLt x y ∨ (x.f0 = y.f0 ∧ x.f1 = y.f1) ∨ kLt y x := by
  rcases lt_cases x.f0.toList y.f0.toList with h | h | h
  · exact .inl (.inl h)
  · rcases lt_cases x.f1.toList y.f1.toList with g | g | g
    · exact .inl (.inr ⟨h, g⟩)
    · exact .inr (.inl ⟨ba_ext h, ba_ext g⟩)
    · exact .inr (.inr (.inr ⟨h.symm, g⟩))
  · exact .inr (.inr (.inl h))
theorem kLt_ne {x y : En} (h : kLt x y) : ¬ (x.f0 = y.f0 ∧ x.f1 = y.f1) := fun e => kLt_irrefl y (kLt_key' h e.1 e.2)
theorem look_stIns (x : En) (a b : ByteArray) : ∀ l : List En, look (stIns x l) a b = if x.f0 = a ∧ x.f1 = b then some x else look l a b
  | [] => by rw [stIns, look_cons, look_nil]
  | y :: l => by
    rw [stIns]
    split
    · rename_i h
      rw [look_cons, look_stIns x a b l, look_cons]
      by_cases h1 : x.f0 = a ∧ x.f1 = b
      · rw [if_pos h1, if_pos h1]
        have := kLt_ne (cmpE_neg.1 h)
        rw [if_neg (fun e => this ⟨e.1.trans h1.1.symm, e.2.trans h1.2.symm⟩)]
      · rw [if_neg h1, if_neg h1]
    · split
      · rename_i h
        obtain ⟨e0, e1⟩ := cmpE_zero.1 h
        rw [look_cons, look_cons, e0, e1]
        by_cases h1 : x.f0 = a ∧ x.f1 = b
        · rw [if_pos h1, if_pos h1]
        · rw [if_neg h1, if_neg h1, if_neg h1]
      · rw [look_cons]
theorem mem_stIns {x z : En} : ∀ {l : List En}, z ∈ stIns x l → z = x ∨ z ∈ l
  | [], h => by simp [stIns] at h; exact .inl h
  | y :: l, h => by
    rw [stIns] at h
    split at h
    · rcases List.mem_cons.1 h with h | h
      · exact .inr (by rw [h]; exact List.mem_cons_self ..)
      · rcases mem_stIns h with h | h
        · exact .inl h
        · exact .inr (List.mem_cons_of_mem _ h)
    · split at h
      · rcases List.mem_cons.1 h with h | h
        · exact .inl h
        · exact .inr (List.mem_cons_of_mem _ h)
      · rcases List.mem_cons.1 h with h | h
        · exact .inl h
        · exact .inr h
theorem srt_stIns (x : En) : ∀ {l : List En}, srt l → srt (stIns x l)
  | [], _ => by simp [stIns, srt]
  | y :: l, h => by
    obtain ⟨h1, h2⟩ := List.pairwise_cons.1 h
    rw [stIns]
    split
    · rename_i hn
      refine List.pairwise_cons.2 ⟨fun z hz => ?_, srt_stIns x h2⟩
      rcases mem_stIns hz with rfl | hz
      · exact cmpE_neg.1 hn
      · exact h1 z hz
    · split
      · rename_i he
        obtain ⟨e0, e1⟩ := cmpE_zero.1 he
        exact List.pairwise_cons.2 ⟨fun z hz => kLt_key' (h1 z hz) e0 e1, h2⟩
      · rename_i hn he
        have hxy : kLt x y := by
          rcases kLt_tri x y with h | h | h
          · exact h
          · exact absurd (cmpE_zero.2 ⟨h.1.symm, h.2.symm⟩) he
          · exact absurd (cmpE_neg.2 h) hn
        refine List.pairwise_cons.2 ⟨fun z hz => ?_, h⟩
        rcases List.mem_cons.1 hz with rfl | hz
        · exact hxy
        · exact kLt_trans hxy (h1 z hz)
theorem len_stIns (x : En) : ∀ l : List En, (stIns x l).length ≤ l.length + 1
  | [] => by simp [stIns]
  | y :: l => by
    have := len_stIns x l
    rw [stIns]
    split
    · simp; omega
    · split <;> simp
theorem look_above {x : En} : ∀ {l : List En}, (∀ z ∈ l, kLt x z) → look l x.f0 x.f1 = none
  | [], _ => rfl
  | y :: l, h => by
    rw [look_cons, if_neg (fun e => kLt_ne (h y (List.mem_cons_self ..)) ⟨e.1.symm, e.2.symm⟩)]
    exact look_above (fun z hz => h z (List.mem_cons_of_mem _ hz))
theorem look_key {l : List En} {a b : ByteArray} {y : En} (h : look l a b = some y) : y.f0 = a ∧ y.f1 = b := by
  have := List.find?_some h
  simpa using this
theorem look_mem {l : List En} {a b : ByteArray} {y : En} (h : look l a b = some y) : y ∈ l := List.mem_of_find?_eq_some h
theorem mem_look : ∀ {l : List En}, srt l → ∀ {y}, y ∈ l → look l y.f0 y.f1 = some y
  | z :: l, h, y, hy => by
    obtain ⟨h1, h2⟩ := List.pairwise_cons.1 h
    rw [look_cons]
    rcases List.mem_cons.1 hy with rfl | hy
    · rw [if_pos ⟨rfl, rfl⟩]
    · rw [if_neg (kLt_ne (h1 y hy))]
      exact mem_look h2 hy
theorem st_ext : ∀ {a b : List En}, srt a → srt b → (∀ p q, look a p q = look b p q) → a = b
  | [], [], _, _, _ => rfl
  | [], y :: b, _, _, h => by
    have := h y.f0 y.f1
    rw [look_nil, look_cons, if_pos ⟨rfl, rfl⟩] at this
    cases this
  | x :: a, [], _, _, h => by
    have := h x.f0 x.f1
    rw [look_nil, look_cons, if_pos ⟨rfl, rfl⟩] at this
    cases this
  | x :: a, y :: b, ha, hb, h => by
    obtain ⟨a1, a2⟩ := List.pairwise_cons.1 ha
    obtain ⟨b1, b2⟩ := List.pairwise_cons.1 hb
    have hkey : x.f0 = y.f0 ∧ x.f1 = y.f1 := by
      rcases kLt_tri x y with g | g | g
      · have := h x.f0 x.f1
        rw [look_cons, if_pos ⟨rfl, rfl⟩, look_above (x := x) (fun z hz => by
          rcases List.mem_cons.1 hz with rfl | hz
          · exact g
          · exact kLt_trans g (b1 z hz))] at this
        cases this
      · exact g
      · have := h y.f0 y.f1
        rw [look_cons y, if_pos ⟨rfl, rfl⟩, look_above (x := y) (fun z hz => by
          rcases List.mem_cons.1 hz with rfl | hz
          · exact g
          · exact kLt_trans g (a1 z hz))] at this
        cases this
    have hxy : x = y := by
      have := h x.f0 x.f1
      rw [look_cons, if_pos ⟨rfl, rfl⟩, look_cons, if_pos ⟨hkey.1.symm, hkey.2.symm⟩] at this
      exact Option.some.inj this
    subst hxy
    rw [st_ext a2 b2 (fun p q => ?_)]
    have := h p q
    rw [look_cons, look_cons] at this
    by_cases e : x.f0 = p ∧ x.f1 = q
    · rw [← e.1, ← e.2, look_above a1, look_above b1]
    · rwa [if_neg e, if_neg e] at this
def overL (a b : List En) : List En := b.foldl (fun s y => stIns y s) a
theorem srt_overL : ∀ {b a : List En}, srt a → srt (overL a b)
  | [], _, h => h
  | y :: b, a, h => srt_overL (b := b) (srt_stIns y h)
theorem len_overL : ∀ (b a : List En), (overL a b).length ≤ a.length + b.length
  | [], _ => by simp [overL]
  | y :: b, a => by
    have h := len_overL b (stIns y a)
    have := len_stIns y a
    simp only [overL, List.foldl_cons, List.length_cons] at *
    omega
theorem look_overL (p q : ByteArray) : ∀ {b a : List En}, srt b → look (overL a b) p q = (look b p q).or (look a p q)
  | [], a, _ => by simp [overL, look_nil]
  | y :: b, a, h => by
    obtain ⟨h1, h2⟩ := List.pairwise_cons.1 h
    have ih := look_overL p q (b := b) (a := stIns y a) h2
    have e : overL a (y :: b) = overL (stIns y a) b := rfl
    rw [e, ih, look_stIns, look_cons]
    by_cases g : y.f0 = p ∧ y.f1 = q
    · rw [if_pos g, if_pos g, ← g.1, ← g.2, look_above h1]; rfl
    · rw [if_neg g, if_neg g]
theorem srt_nil : srt ([] : List En) := List.Pairwise.nil
/-! the reference's Put -/
def refIns (x : En) : List En → List En
  | [] => [x]
  | y :: l => if 0 ≤ cmpE y x then x :: ((if cmpE y x = 0 then [] else [y]) ++ l.filter (fun z => cmpE z x != 0)) else y :: refIns x l
theorem refIns_eq (x : En) : ∀ {l : List En}, srt l → refIns x l = stIns x l
  | [], _ => rfl
  | y :: l, h => by
    obtain ⟨h1, h2⟩ := List.pairwise_cons.1 h
    rw [refIns, stIns]
    by_cases hn : cmpE y x < 0
    · rw [if_neg (by omega), if_pos hn, refIns_eq x h2]
    · have hf : l.filter (fun z => cmpE z x != 0) = l := by
        rw [List.filter_eq_self]
        intro z hz
        have hyz := h1 z hz
        simp only [bne_iff_ne, ne_eq]
        intro e
        obtain ⟨e0, e1⟩ := cmpE_zero.1 e
        exact hn (cmpE_neg.2 (kLt_key hyz e0 e1))
      rw [if_pos (by omega), if_neg hn, hf]
      by_cases h0 : cmpE y x = 0
      · rw [if_pos h0, if_pos h0]; rfl
      · rw [if_neg h0, if_neg h0]; rfl

/-! ### pure St1 -/
-- PURE needs heliast/heliastref13.Put needs heliast/state.Put needs heliast/state.Get needs heliast/heliastlaw13.State needs heliast/state.Right
open Go.Proofs.He
theorem ref_order (k : Nat) (a b : En) : heliastref13_order.f (k + 1) a.f0 a.f1 a.f2 b.f0 b.f1 b.f2 = some (cmpE a b) := by
  simp only [heliastref13_order.f, heliastref13_order.j0, He.bytesLess_eq, decide_eq_true_eq]
  unfold cmpE
  rcases cmpS_cases a.f0 b.f0 with ⟨h, h'⟩ | ⟨h, h'⟩ | ⟨h, h'⟩
  · simp [h, h']
  · rcases cmpS_cases a.f1 b.f1 with ⟨g, g'⟩ | ⟨g, g'⟩ | ⟨g, g'⟩ <;> rw [if_pos h, g]
    · simp [h', List.lt_irrefl, g']
    · simp [h', g', List.lt_irrefl]
    · have : b.f1.toList ≠ a.f1.toList := fun e => by rw [e] at g'; exact List.lt_irrefl _ g'
      simp [h', List.lt_irrefl, List.lt_asymm g', Ne.symm this]
  · have : a.f0.toList ≠ b.f0.toList := fun e => by rw [e] at h'; exact List.lt_irrefl _ h'
    simp [h, List.lt_asymm h', this]
theorem wrap_small {i : Int} (h0 : -9223372036854775808 ≤ i) (h : i ≤ 9223372036854775807) : wrap64 i = i := by unfold wrap64; omega
theorem rd_en {l : List En} {i : Nat} (h : i < l.length) : rd_T74 l (i : Int) = l[i] := by simp [rd_T74, h]
theorem ref_Put_l0 (x : En) (l : List En) (hl : l.length < 3518437208882) (d : Nat) : ∀ (i : Nat) (out : List En) (laid : Bool) (k : Nat), i + d = l.length → 3 * d + 2 ≤ k → out.length ≤ i + (if laid then 1 else 0) →
    heliastref13_Put.l0 k l out laid (i : Int) x.f0 x.f1 x.f2 = some (out ++ (if laid then (l.drop i).filter (fun z => cmpE z x != 0) else refIns x (l.drop i))) := by
  induction d with
  | zero =>
    intro i out laid k hd hk ho
    obtain ⟨k, rfl⟩ : ∃ m, k = m + 1 := ⟨k - 1, by omega⟩
    have e : l.drop i = [] := List.drop_eq_nil_of_le (by omega)
    simp only [heliastref13_Put.l0]
    rw [if_neg (by omega), e]
    cases laid
    · simp only [Bool.false_eq_true, if_false, Nat.add_zero] at ho ⊢
      rw [if_pos (by omega)]; rfl
    · simp
  | succ d ih =>
    intro i out laid k hd hk ho
    obtain ⟨k, rfl⟩ : ∃ m, k = m + 3 := ⟨k - 3, by omega⟩
    have hi : i < l.length := by omega
    have ed : l.drop i = l[i] :: l.drop (i + 1) := List.drop_eq_getElem_cons hi
    have hw : wrap64 ((i : Int) + 1) = ((i + 1 : Nat) : Int) := by rw [wrap_small (by omega) (by omega)]; rfl
    simp only [heliastref13_Put.l0]
    rw [if_pos (by omega), if_pos (by omega), rd_en hi, ref_order (k + 1), Option.bind_some, ed]
    cases laid
    · simp only [Bool.false_eq_true, if_false, Nat.add_zero] at ho ⊢
      simp only [heliastref13_Put.j1]
      rw [refIns]
      by_cases hc : 0 ≤ cmpE l[i] x
      · rw [if_pos hc, if_pos (by simpa using hc), if_pos (by omega), Option.bind_some]
        by_cases h0 : cmpE l[i] x = 0
        · rw [if_pos h0, hw, ih (i + 1) _ true (k + 1) (by omega) (by omega) (by simp; omega), if_pos h0]
          simp
        · rw [if_neg h0, if_pos (by omega), if_pos (by omega), if_pos (by simp; omega), hw, rd_en hi, ih (i + 1) _ true (k + 1) (by omega) (by omega) (by simp; omega), if_neg h0]
          simp
      · have h0 : ¬ cmpE l[i] x = 0 := by omega
        rw [if_neg hc, if_neg (by simpa using hc), if_neg h0, if_pos (by omega), if_pos (by omega), if_pos (by omega), hw, rd_en hi, ih (i + 1) _ false (k + 1) (by omega) (by omega) (by simp; omega)]
        simp
    · simp only [if_true] at ho ⊢
      simp only [heliastref13_Put.j1, Bool.false_eq_true, if_false]
      rw [List.filter_cons]
      by_cases h0 : cmpE l[i] x = 0
      · rw [if_pos h0, hw, ih (i + 1) _ true (k + 1) (by omega) (by omega) (by simp; omega)]
        simp [h0]
      · rw [if_neg h0, if_pos (by omega), if_pos (by omega), if_pos (by omega), hw, rd_en hi, ih (i + 1) _ true (k + 1) (by omega) (by omega) (by simp; omega)]
        simp [h0]
theorem ref_Put (x : En) (l : List En) (hl : l.length < 3518437208882) (hs : srt l) (k : Nat) (hk : 3 * l.length + 2 ≤ k) : heliastref13_Put.f k l x.f0 x.f1 x.f2 = some (stIns x l) := by
  have h := ref_Put_l0 x l hl l.length 0 [] false k (by omega) hk (by simp)
  unfold heliastref13_Put.f
  rw [show (0 : Int) = ((0 : Nat) : Int) from rfl, h]
  simp [refIns_eq x hs]
theorem mx_one (m : Int) : 1 ≤ mx m 1 := by unfold mx; split <;> omega
def okSt (m : Int) (n : Nat) (s : List En) : Prop := srt s ∧ s.length ≤ n ∧ ∀ y ∈ s, 0 ≤ y.f2 ∧ y.f2 < mx m 1
theorem State_l0 (c : List Int) (m : Int) (T Ks : List ByteArray) (hT : T.length = 5) (hK : Ks.length = 3) (hc : ∀ x ∈ c, 0 ≤ x ∧ x ≤ 255) (hlen : c.length ≤ 140737488351232) (d : Nat) :
    ∀ (i : Nat) (out : List En), i + 2 * d = 40 → okSt m (i / 2) out → ∃ s, okSt m 20 s ∧ ∀ k, d + 65 ≤ k → heliastlaw13_State.l0 k c m T Ks out (i : Int) = some s := by
  have hrd : ∀ j : Nat, j < c.length → 0 ≤ rd c (j : Int) ∧ rd c (j : Int) ≤ 255 := fun j hj => by
    have : rd c (j : Int) = c[j] := by simp [rd, hj]
    rw [this]; exact hc _ (List.getElem_mem hj)
  induction d with
  | zero =>
    intro i out hi ⟨h1, h2, h3⟩
    refine ⟨out, ⟨h1, by omega, h3⟩, fun k hk => ?_⟩
    obtain ⟨k, rfl⟩ : ∃ m, k = m + 1 := ⟨k - 1, by omega⟩
    simp only [heliastlaw13_State.l0]
    split
    · rw [if_neg (by omega)]
    · rfl
  | succ d ih =>
    intro i out hi ⟨h1, h2, h3⟩
    have hw1 : wrap64 ((i : Int) + 1) = ((i + 1 : Nat) : Int) := by rw [wrap_small (by omega) (by omega)]; rfl
    have hw2 : wrap64 ((i : Int) + 2) = ((i + 2 : Nat) : Int) := by rw [wrap_small (by omega) (by omega)]; rfl
    by_cases hlt : i + 1 < c.length
    · obtain ⟨r1, r2⟩ := hrd i (by omega)
      obtain ⟨r3, r4⟩ := hrd (i + 1) hlt
      have hm := mx_one m
      have e1 : Int.tmod (rd c (i : Int)) 5 = rd c (i : Int) % 5 := Int.tmod_eq_emod_of_nonneg r1
      have e2 : Int.tdiv (rd c (i : Int)) 5 = rd c (i : Int) / 5 := Int.tdiv_eq_ediv_of_nonneg r1
      have e3 : wrap64 (rd c ((i + 1 : Nat) : Int)) = rd c ((i + 1 : Nat) : Int) := wrap_small (by omega) (by omega)
      have e4 : Int.tmod (rd c ((i + 1 : Nat) : Int)) (mx m 1) = rd c ((i + 1 : Nat) : Int) % mx m 1 := Int.tmod_eq_emod_of_nonneg r3
      obtain ⟨x, hx⟩ : ∃ x : En, x = ⟨rdOf ByteArray.empty T (rd c (i : Int) % 5), rdOf ByteArray.empty Ks (rd c (i : Int) / 5 % 256 % 3), rd c ((i + 1 : Nat) : Int) % mx m 1⟩ := ⟨_, rfl⟩
      have hx2 : 0 ≤ x.f2 ∧ x.f2 < mx m 1 := by rw [hx]; exact ⟨Int.emod_nonneg _ (by omega), Int.emod_lt_of_pos _ (by omega)⟩
      obtain ⟨s, hs, hf⟩ := ih (i + 2) (stIns x out) (by omega) ⟨srt_stIns x h1, by have := len_stIns x out; omega, fun y hy => by
        rcases mem_stIns hy with rfl | hy
        · exact hx2
        · exact h3 y hy⟩
      refine ⟨s, hs, fun k hk => ?_⟩
      obtain ⟨k, rfl⟩ : ∃ m, k = m + 1 := ⟨k - 1, by omega⟩
      simp only [heliastlaw13_State.l0]
      rw [hw1, hw2, e1, e2, e3, e4, if_pos (by omega), if_pos (by omega), if_pos (by omega), if_pos (by omega), if_pos (by omega), if_pos (by rw [hT]; omega), if_pos (by omega), if_pos (by rw [hK]; omega), if_pos (by omega), if_neg (by omega)]
      have := ref_Put x out (by omega) h1 k (by omega)
      rw [hx] at this
      rw [this, Option.bind_some, ← hx]
      exact hf k (by omega)
    · refine ⟨out, ⟨h1, by omega, h3⟩, fun k hk => ?_⟩
      obtain ⟨k, rfl⟩ : ∃ m, k = m + 1 := ⟨k - 1, by omega⟩
      simp only [heliastlaw13_State.l0]
      rw [hw1, if_neg (by omega)]
theorem State_f (c : List Int) (m : Int) (hc : ∀ x ∈ c, 0 ≤ x ∧ x ≤ 255) (hlen : c.length ≤ 140737488351232) : ∃ s, okSt m 20 s ∧ ∀ k, 100 ≤ k → heliastlaw13_State.f k c m = some s := by
  unfold heliastlaw13_State.f
  exact Exists.imp (fun s h => ⟨h.1, fun k hk => h.2 k (by omega)⟩) (State_l0 c m _ _ (by rfl) (by rfl) hc hlen 20 0 [] (by omega) ⟨srt_nil, by simp, fun y hy => by simp at hy⟩)
theorem wf_u8 {c : List Int} (h : ∀ x ∈ c, (Lit.int .u8 x).wf = true) : ∀ x ∈ c, 0 ≤ x ∧ x ≤ 255 := by
  intro x hx
  have := h x hx
  simp [Lit.wf, IntKind.min, IntKind.max, IntKind.signed, IntKind.bits] at this
  omega
theorem Right_l0 (l : List En) (hl : l.length ≤ 3518437208882) (d : Nat) : ∀ (i k : Nat), 1 ≤ i → i + d = l.length → d + 5 ≤ k → state_Right.l0 k l (l.length : Int) (i : Int) = some (srtB (l.drop (i - 1))) := by
  induction d with
  | zero =>
    intro i k h1 hd hk
    obtain ⟨k, rfl⟩ : ∃ m, k = m + 1 := ⟨k - 1, by omega⟩
    have e : l.drop (i - 1) = [l[i - 1]'(by omega)] := by rw [List.drop_eq_getElem_cons (by omega), List.drop_eq_nil_of_le (by omega)]
    simp only [state_Right.l0]
    rw [if_neg (by omega), e]; rfl
  | succ d ih =>
    intro i k h1 hd hk
    obtain ⟨k, rfl⟩ : ∃ m, k = m + 1 := ⟨k - 1, by omega⟩
    have hi : i < l.length := by omega
    have hw : wrap64 ((i : Int) + 1) = ((i + 1 : Nat) : Int) := by rw [wrap_small (by omega) (by omega)]; rfl
    have hv : wrap64 ((i : Int) - 1) = ((i - 1 : Nat) : Int) := by rw [wrap_small (by omega) (by omega)]; omega
    have e : l.drop (i - 1) = l[i - 1] :: l[i] :: l.drop (i + 1) := by
      rw [List.drop_eq_getElem_cons (by omega), show i - 1 + 1 = i by omega, List.drop_eq_getElem_cons hi]
    have e2 : l.drop i = l[i] :: l.drop (i + 1) := List.drop_eq_getElem_cons hi
    have hcmp : state_compare.f k l[i - 1].f0 l[i - 1].f1 l[i - 1].f2 l[i].f0 l[i].f1 l[i].f2 = some (cmpE l[i - 1] l[i]) := at_rounds (fun q => state_compare.mono _ _ _ _ _ _ q) (by omega) (cmpE_of l[i - 1] l[i])
    simp only [state_Right.l0]
    rw [hv, hw, if_pos (by omega), if_pos (by omega), if_pos (by omega), if_pos (by omega), if_pos (by omega), if_pos (by omega), rd_en (show i - 1 < l.length by omega), rd_en hi, hcmp, Option.bind_some, e, srtB]
    by_cases hc : cmpE l[i - 1] l[i] < 0
    · rw [if_neg (by omega), ih (i + 1) k (by omega) (by omega) (by omega), show i + 1 - 1 = i by omega, e2]
      simp [hc]
    · rw [if_pos (by omega)]
      simp [hc]
theorem Right_f (l : List En) (hl : l.length ≤ 3518437208882) (k : Nat) (hk : l.length + 6 ≤ k) : state_Right.f k l = some (srtB l) := by
  unfold state_Right.f
  obtain ⟨k, rfl⟩ : ∃ m, k = m + 1 := ⟨k - 1, by omega⟩
  rcases Nat.eq_zero_or_pos l.length with h0 | h0
  · simp only [state_Right.l0]
    rw [if_neg (by omega), List.eq_nil_of_length_eq_zero h0]; rfl
  · simp only [state_Right.l0]
    rw [if_pos (by omega), if_neg (by omega), show wrap64 (0 + 1) = ((1 : Nat) : Int) from wrap_small (by omega) (by omega), Right_l0 l hl (l.length - 1) 1 k (by omega) (by omega) (by omega)]
    rfl
theorem en_ext {a b : En} (h : a.f0.toList = b.f0.toList ∧ a.f1.toList = b.f1.toList ∧ a.f2 = b.f2) : a = b := by
  obtain ⟨h0, h1, h2⟩ := h
  cases a; cases b
  simp only at h0 h1 h2
  rw [ba_ext h0, ba_ext h1, h2]
theorem en_ne (a b : En) : ((!(a.f0.toList == b.f0.toList) || (!(a.f1.toList == b.f1.toList) || (!(a.f2 == b.f2)))) = true) ↔ a ≠ b := by
  constructor
  · rintro h rfl; simp at h
  · intro h
    apply Classical.byContradiction
    intro g
    apply h
    simp at g
    exact en_ext g

/-! ### pure St1o -/
-- PURE needs heliast/heliastref13.Put needs heliast/state.Put needs heliast/state.Get needs heliast/heliastlaw13.State needs heliast/state.Right needs heliast/state.Over
open Go.Proofs.He
theorem Over_l0 (b : List En) (d : Nat) : ∀ (i k : Nat) (cur : List En), srt cur → cur.length + d < 3518437208882 → i + d = b.length → b.length < 3518437208882 → d + 1 ≤ k → state_Over.l0 k cur b (b.length : Int) (i : Int) = some (overL cur (b.drop i)) := by
  induction d with
  | zero =>
    intro i k cur hs hl hd hb hk
    obtain ⟨k, rfl⟩ : ∃ m, k = m + 1 := ⟨k - 1, by omega⟩
    simp only [state_Over.l0]
    rw [if_neg (by omega), List.drop_eq_nil_of_le (by omega)]; rfl
  | succ d ih =>
    intro i k cur hs hl hd hb hk
    obtain ⟨k, rfl⟩ : ∃ m, k = m + 1 := ⟨k - 1, by omega⟩
    have hi : i < b.length := by omega
    have hw : wrap64 ((i : Int) + 1) = ((i + 1 : Nat) : Int) := by rw [wrap_small (by omega) (by omega)]; rfl
    simp only [state_Over.l0]
    rw [if_pos (by omega), if_pos (by omega), if_pos (by omega), rd_en hi]
    unfold state_Put.f
    rw [if_pos ⟨srtB_iff.2 hs, by omega⟩, Option.bind_some, hw, ih (i + 1) k _ (srt_stIns _ hs) (by have := len_stIns b[i] cur; exact Nat.lt_of_le_of_lt (Nat.add_le_add_right this d) (by omega)) (by omega) hb (by omega), List.drop_eq_getElem_cons hi]
    rfl
theorem Over_f (a b : List En) (hs : srt a) (hl : a.length + b.length < 3518437208882) (k : Nat) (hk : b.length + 1 ≤ k) : state_Over.f k a b = some (overL a b) := by
  unfold state_Over.f slices_Clone_Entry.f
  rw [if_pos (by omega), Option.bind_some]
  exact Over_l0 b b.length 0 k a hs hl (by omega) (by omega) hk

/-! ### pure St1s -/
-- PURE needs heliast/heliastref13.Put needs heliast/state.Put needs heliast/state.Get needs heliast/heliastlaw13.State needs heliast/state.Right needs heliast/state.Same
open Go.Proofs.He
theorem Same_l0 (a b : List En) (hl : a.length = b.length) (hb : b.length < 3518437208882) (d : Nat) : ∀ (i k : Nat), i + d = a.length → d + 1 ≤ k → api_Entry_115.l0 k a b (a.length : Int) (i : Int) = some (decide (a.drop i = b.drop i)) := by
  induction d with
  | zero =>
    intro i k hd hk
    obtain ⟨k, rfl⟩ : ∃ m, k = m + 1 := ⟨k - 1, by omega⟩
    simp only [api_Entry_115.l0]
    rw [if_neg (by omega), List.drop_eq_nil_of_le (by omega), List.drop_eq_nil_of_le (by omega)]; rfl
  | succ d ih =>
    intro i k hd hk
    obtain ⟨k, rfl⟩ : ∃ m, k = m + 1 := ⟨k - 1, by omega⟩
    have hi : i < a.length := by omega
    have hj : i < b.length := by omega
    have hw : wrap64 ((i : Int) + 1) = ((i + 1 : Nat) : Int) := by rw [wrap_small (by omega) (by omega)]; rfl
    have hd2 : (a.drop i = b.drop i) ↔ (a[i] = b[i] ∧ a.drop (i + 1) = b.drop (i + 1)) := by
      rw [List.drop_eq_getElem_cons hi, List.drop_eq_getElem_cons hj, List.cons.injEq]
    simp only [api_Entry_115.l0]
    rw [if_pos (by omega), if_pos (by omega), if_pos (by omega), if_pos (by omega), rd_en hi, rd_en hj, decide_eq_decide.2 hd2]
    by_cases he : a[i] = b[i]
    · rw [if_neg (by rw [en_ne]; exact fun h => h he), hw, ih (i + 1) k (by omega) (by omega)]
      simp only [he, true_and]
    · rw [if_pos (by rw [en_ne]; exact he), decide_eq_false (fun h => he h.1)]
theorem Same_f (a b : List En) (ha : a.length < 3518437208882) (hb : b.length < 3518437208882) (k : Nat) (hk : a.length + 1 ≤ k) : state_Same.f k a b = some (decide (a = b)) := by
  unfold state_Same.f api_Entry_115.f
  by_cases hl : a.length = b.length
  · have h := Same_l0 a b hl hb a.length 0 k (by omega) hk
    rw [if_pos (by omega), show (0 : Int) = ((0 : Nat) : Int) from rfl, h, Option.bind_some]
    rfl
  · rw [if_neg (by omega), Option.bind_some]
    have : a ≠ b := fun e => hl (by rw [e])
    simp [this]

/-! ### pure St2 -/
-- PURE needs heliast/heliastref13.Put needs heliast/state.Put needs heliast/state.Get needs heliast/heliastlaw13.State needs heliast/state.Right needs heliast/heliastlaw13.known
open Go.Proofs.He
theorem known_f (k : Nat) (hk : 10 ≤ k) : heliastlaw13_known.f k = some true :=
  at_rounds (fun q => heliastlaw13_known.mono q) hk (by decide +kernel)
theorem Right_t (l : List En) (hs : srt l) (hl : l.length ≤ 3518437208882) (k : Nat) (hk : l.length + 6 ≤ k) : state_Right.f k l = some true := by
  rw [Right_f l hl k hk, srtB_iff.2 hs]
theorem Put_f (x : En) (l : List En) (hs : srt l) (hl : l.length < 3518437208882) : state_Put.f l x.f0 x.f1 x.f2 = some (stIns x l) := by
  unfold state_Put.f
  rw [if_pos ⟨srtB_iff.2 hs, hl⟩]
theorem stGet_of {l : List En} {p q : ByteArray} {y : En} (h : look l p q = some y) : stGet l p q = y.f2 := by rw [stGet_look, h]

/-! ### pure St2s -/
-- PURE needs heliast/heliastref13.Put needs heliast/state.Put needs heliast/state.Get needs heliast/heliastlaw13.State needs heliast/state.Right needs heliast/heliastlaw13.known needs heliast/state.Same
open Go.Proofs.He
theorem Same_t (a b : List En) (h : a = b) (hb : b.length < 3518437208882) (k : Nat) (hk : a.length + 1 ≤ k) : state_Same.f k a b = some true := by
  rw [Same_f a b (by rw [h]; exact hb) hb k hk, decide_eq_true h]

end Go.Proofs.Ytbldllghkfgkeaa.S

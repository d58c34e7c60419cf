-- Written by heprint.py (this session's, over the kit's print.py): not trusted, Lean checks it.
import Derived.Test.YtbldllghkfgkeaaPc0
import Derived.Test.YtbldllghkfgkeaaPc2
import Derived.Test.YtbldllghkfgkeaaPc3
namespace Go.Proofs.Ytbldllghkfgkeaa.S
open Go.RowKit Go.Proofs.YtbldllghkfgkeaaW.PrintWords Go.Proofs.YtbldllghkfgkeaaW.PrintLast Go.Proofs.YtbldllghkfgkeaaW.PrintMore
attribute [local go_sem] max2_int min2_int max_two min_two max_three min_three max_four min_four   -- for this text's walks alone
set_option linter.unusedVariables false
set_option linter.unusedSimpArgs false

/-! ### api_Entry_111: function 111 -/
-- GIVEN slices.BinarySearchFunc[[]heliast/api.Entry,heliast/api.Entry,heliast/api.Entry] making uses slices.Clone[[]heliast/api.Entry,heliast/api.Entry]
open Go.Proofs.He
def bsAt {α : Type} (f : α → Int) (l : List α) : Nat := (l.takeWhile (fun y => decide (f y < 0))).length
theorem bsAt_eq {α : Type} {f : α → Int} : ∀ {l : List α} {i : Nat}, i ≤ l.length → (∀ k (hk : k < i) (hl : k < l.length), f l[k] < 0) → (∀ hl : i < l.length, ¬ f l[i] < 0) → bsAt f l = i
  | [], i, h, _, _ => by simp at h; simp [bsAt, h]
  | x :: l, 0, _, _, h => by
    have := h (by simp)
    simp at this
    simp [bsAt, List.takeWhile_cons]
    omega
  | x :: l, i + 1, h, h1, h2 => by
    have h0 := h1 0 (by omega) (by simp)
    simp at h0
    have ih := bsAt_eq (f := f) (l := l) (i := i) (by simpa using h) (fun k hk hl => by have := h1 (k + 1) (by omega) (by simpa using hl); simpa using this) (fun hl => by have := h2 (by simpa using hl); simpa using this)
    simp only [bsAt] at ih ⊢
    rw [List.takeWhile_cons, if_pos (by simpa using h0), List.length_cons, ih]
set_option maxHeartbeats 8000000 in
set_option maxRecDepth 100000 in
theorem slices_BinarySearchFunc_Entry.calls (g : FuncId) (eg : ∀ args w, (callFunc g args).run Try.prog w = .ok (.enter g args) w) (f : S74 → S74 → Int) (A0 : Option Addr) (c0 : Nat) (l0 : List S74) (t : S74) (w : World) (hr0 : Kd.C k74 w A0 l0.length l0)
    (hmono : ∀ a b (hb : b < l0.length) (hab : a ≤ b), f l0[b] t < 0 → f l0[a] t < 0)
    (hp : ∀ x y W, Below w.heap.size w W → Calls Try.prog g #[.agg #[.string x.f0, .string x.f1, .int .i64 x.f2], .agg #[.string y.f0, .string y.f1, .int .i64 y.f2]] W fun e W' => e = .returned (.int .i64 (f x y)) ∧ Below W.heap.size W W') (hlim : l0.length < 3518437208883) :
    Calls Try.prog 111 #[.slice A0 l0.length c0, .agg #[.string t.f0, .string t.f1, .int .i64 t.f2], .func (.func g) #[] #[]] w fun e w' => ∃ i : Nat, bsAt (f · t) l0 = i ∧ e = .returned (.tuple #[.int .i64 i, .bool (decide (i < l0.length) && f (rd_T74 l0 i) t == 0)]) ∧ Below w.heap.size w w' := by
  have hu74 := Try.underlying74
  have HR0 := Aside0.mk hr0
  have HP := Aside0.mk hp
  have HM := Aside0.mk hmono
  have hrd : Aside0 (∀ k (hk : k < l0.length), rd_T74 l0 k = l0[k]) := ⟨fun k hk => by simp [rd_T74, hk]⟩
  clear hr0 hp hmono
  go_enter Try.func111, Try.ntmps111
  have HB0 := Aside0.mk ((Below.refl w.heap.size w).alloc (Nat.le_refl _) (Obj.cells #[.string t.f0, .string t.f1, .int .i64 t.f2] 74))
  have HX0 := Aside0.mk (heap_alloc_new w (Obj.cells #[.string t.f0, .string t.f1, .int .i64 t.f2] 74))
  go_wp2
  go_loopg [9, 10] l0.length (fun gg v9 v10 wr => ∃ i j : Nat, i ≤ j ∧ j ≤ l0.length ∧ j - i ≤ gg ∧ v9 = .int .i64 i ∧ v10 = .int .i64 j ∧ Aside0 (∀ k (hk : k < i) (hl : k < l0.length), f l0[k] t < 0) ∧ Aside0 (∀ k (hk : j ≤ k) (hl : k < l0.length), 0 ≤ f l0[k] t) ∧ Aside0 (wr.heap[w.heap.size]? = some (.cells #[.string t.f0, .string t.f1, .int .i64 t.f2] 74 (0, 0))) ∧ Aside0 (Below w.heap.size w wr))
  case atStart => exact ⟨0, l0.length, by omega, by omega, by omega, rfl, rfl, ⟨fun k hk _ => absurd hk (Nat.not_lt_zero _)⟩, ⟨fun k hk hl => absurd hl (by omega)⟩, HX0, HB0⟩
  case round =>
    clear HB0 HX0
    obtain ⟨i, j, hij, hj, hg, rfl, rfl, HN, HY, BK, HB⟩ := hrel
    by_cases hlt : i < j
    · have hltz : (i : Int) < (j : Int) := by omega
      obtain ⟨h, hh⟩ : ∃ h : Nat, ((i : Int) + (j : Int)) / 2 = h := ⟨(i + j) / 2, by omega⟩
      have hih : i ≤ h := by omega
      have hhj : h < j := by omega
      have hhl : h < l0.length := by omega
      have hhl' : (h : Int) < (l0.length : Int) := by omega
      go_wp2
      clear hh
      have hBK := Aside0.mk (blk_drew BK.out)
      have hHB := Aside0.mk (below_drew1 HB.out)
      clear BK HB
      have BK := hBK
      have HB := hHB
      clear hBK hHB
      obtain ⟨ad, e, hx0, hx1, hx2⟩ := at_T74 HR0.out h (by omega) (by omega)
      cases e
      rw [Int.toNat_natCast] at hx0 hx1 hx2
      have hw0 := hx0
      have hw1 := hx1
      have hw2 := hx2
      replace hx0 := (HB.out.cell (World.block_lt_of_cell? w _ hx0)).trans hx0
      replace hx1 := (HB.out.cell (World.block_lt_of_cell? w _ hx1)).trans hx1
      replace hx2 := (HB.out.cell (World.block_lt_of_cell? w _ hx2)).trans hx2
      refine start_ (n := 8) (S := fun w' => w'.cell? (ad.add (h * 3)) = some (.string (rd_T74 l0 h).f0) ∧ w'.cell? ⟨(ad.add (h * 3)).block, (ad.add (h * 3)).off + 1, none⟩ = some (.string (rd_T74 l0 h).f1) ∧ w'.cell? ⟨(ad.add (h * 3)).block, (ad.add (h * 3)).off + 2, none⟩ = some (.int .i64 (rd_T74 l0 h).f2) ∧ w'.cell? ⟨w.heap.size, 0, none⟩ = some (.string t.f0) ∧ w'.cell? ⟨w.heap.size, 1, none⟩ = some (.string t.f1) ∧ w'.cell? ⟨w.heap.size, 2, none⟩ = some (.int .i64 t.f2)) (ds := []) #[false, false, false, false, false, false, false, false] (by kernel_rfl) rfl rfl ⟨hx0, hx1, hx2, (blk_cell BK.out 0).trans rfl, (blk_cell BK.out 1).trans rfl, (blk_cell BK.out 2).trans rfl⟩ (fun hHeld => ?_)
      generalize wr.drew = wrd at BK HB hx0 hx1 hx2 hHeld ⊢
      refine pure_ (i := 0) (N := some 24) (v := ?_) (a' := ?_) #[true, false, false, false, false, false, false, false] rfl rfl (by kernel_rfl) (fun _ _ _ h => h) (Or.inl ⟨by rfl, ?_⟩) ?_ ?_
      rotate_left
      · intro w'
        go_simp
        with_reducible rfl
      rotate_left
      · simp only [Act.put, List.setIfInBounds_toArray, List.set_cons_zero, List.set_cons_succ, i64_w, i32_w]
        rfl
      refine pure_ (i := 1) (N := some 25) (v := ?_) (a' := ?_) #[true, true, false, false, false, false, false, false] rfl rfl (by kernel_rfl) (fun _ _ _ h => h) (Or.inl ⟨by rfl, ?_⟩) ?_ ?_
      rotate_left
      · intro w'
        go_simp
        with_reducible rfl
      rotate_left
      · simp only [Act.put, List.setIfInBounds_toArray, List.set_cons_zero, List.set_cons_succ, i64_w, i32_w]
        rfl
      refine pure_ (i := 2) (N := some 26) (v := ?_) (a' := ?_) #[true, true, true, false, false, false, false, false] rfl rfl (by kernel_rfl) (fun _ _ _ h => h) (Or.inl ⟨by rfl, ?_⟩) ?_ ?_
      rotate_left
      · intro w'
        go_simp
        with_reducible rfl
      rotate_left
      · simp only [Act.put, List.setIfInBounds_toArray, List.set_cons_zero, List.set_cons_succ, i64_w, i32_w]
        rfl
      refine pure_ (i := 3) (N := some 27) (v := ?_) (a' := ?_) #[true, true, true, true, false, false, false, false] rfl rfl (by kernel_rfl) (fun _ _ _ h => h) (Or.inl ⟨by rfl, ?_⟩) ?_ ?_
      rotate_left
      · intro w'
        go_simp
        with_reducible rfl
      rotate_left
      · simp only [Act.put, List.setIfInBounds_toArray, List.set_cons_zero, List.set_cons_succ, i64_w, i32_w]
        rfl
      refine take_ (i := 4) (N := some 28) (v := ?_) (a' := ?_) #[true, true, true, true, true, false, false, false] rfl rfl (by kernel_rfl) (fun _ _ _ h => h) (Or.inl ⟨by rfl, ?_⟩) hHeld ?_ ?_
      rotate_left
      · rintro w' ⟨s0, s1, s2, s3, s4, s5⟩
        go_simp
        with_reducible rfl
      rotate_left
      · simp only [Act.put, List.setIfInBounds_toArray, List.set_cons_zero, List.set_cons_succ, i64_w, i32_w]
        rfl
      refine take_ (i := 5) (N := some 29) (v := ?_) (a' := ?_) #[true, true, true, true, true, true, false, false] rfl rfl (by kernel_rfl) (fun _ _ _ h => h) (Or.inl ⟨by rfl, ?_⟩) hHeld ?_ ?_
      rotate_left
      · rintro w' ⟨s0, s1, s2, s3, s4, s5⟩
        go_simp
        with_reducible rfl
      rotate_left
      · simp only [Act.put, List.setIfInBounds_toArray, List.set_cons_zero, List.set_cons_succ, i64_w, i32_w]
        rfl
      refine one_ (i := 6) (N := some 30) #[true, true, true, true, true, true, true, false] rfl rfl (by kernel_rfl) (by decide) (fun K hK => ?_)
      refine call_ g #[.agg #[.string (rd_T74 l0 h).f0, .string (rd_T74 l0 h).f1, .int .i64 (rd_T74 l0 h).f2], .agg #[.string t.f0, .string t.f1, .int .i64 t.f2]] (by rfl) rfl (by go_simp) ?_
      refine (HP.out (rd_T74 l0 h) t _ HB.out).mono ?_
      rintro e w9 ⟨rfl, hb⟩
      refine ⟨_, rfl, ?_⟩
      have n1_ := Aside0.mk (blk_below (g := w.heap.size) (o := .cells #[.string t.f0, .string t.f1, .int .i64 t.f2] 74 (0, 0)) BK.out hb)
      have n2_ := Aside0.mk (below_step HB.out hb)
      clear BK HB hb
      have BK := n1_
      have HB := n2_
      clear n1_ n2_
      refine hK.out _ _ ⟨((HB.out.cell (World.block_lt_of_cell? w _ hw0)).trans hw0), ((HB.out.cell (World.block_lt_of_cell? w _ hw1)).trans hw1), ((HB.out.cell (World.block_lt_of_cell? w _ hw2)).trans hw2), (blk_cell BK.out 0).trans rfl, (blk_cell BK.out 1).trans rfl, (blk_cell BK.out 2).trans rfl⟩ (fun hHeld => ?_)
      clear hK K
      refine norm_ (a' := ?_) ?_ ?_
      rotate_left
      · show Act.put _ (some 30) _ = _
        simp only [Act.put, List.setIfInBounds_toArray, List.set_cons_zero, List.set_cons_succ, i64_w, i32_w]
        rfl
      refine pure_ (i := 7) (N := some 31) (v := ?_) (a' := ?_) #[true, true, true, true, true, true, true, true] rfl rfl (by kernel_rfl) (fun _ _ _ h => h) (Or.inl ⟨by rfl, ?_⟩) ?_ ?_
      rotate_left
      · intro w'
        go_simp
        with_reducible rfl
      rotate_left
      · simp only [Act.put, List.setIfInBounds_toArray, List.set_cons_zero, List.set_cons_succ, i64_w, i32_w]
        rfl
      refine done_ (by kernel_rfl) ?_
      rcases Classical.em (f (rd_T74 l0 h) t < 0) with hneg | hneg
      · have HNG := Aside0.mk hneg
        go_wp2
        go_roundg (j - (h + 1))
        case measure => omega
        case rel => exact ⟨h + 1, j, by omega, by omega, by omega, by go_num, rfl, ⟨fun k hk hl => HM.out k h hhl (by omega) (by rw [← hrd.out h hhl]; exact HNG.out)⟩, HY, BK, HB⟩
      · have HNG := Aside0.mk hneg
        go_wp2
        go_roundg (h - i)
        case measure => omega
        case rel => exact ⟨i, h, by omega, by omega, by omega, rfl, rfl, HN, ⟨fun k hk hl => Int.not_lt.1 fun hn => absurd (show f (rd_T74 l0 h) t < 0 by rw [hrd.out h hhl]; exact HM.out h k hl hk hn) (by have := HNG.out; omega)⟩, BK, HB⟩
    · have hltz : ¬ (i : Int) < (j : Int) := by omega
      obtain rfl : i = j := by omega
      have hat : bsAt (f · t) l0 = i := bsAt_eq hj HN.out (fun hl => by have := HY.out i (Nat.le_refl _) hl; omega)
      have HAT := Aside0.mk hat
      clear hat
      by_cases hil : i < l0.length
      · have hilz : (i : Int) < (l0.length : Int) := by omega
        have hilb : decide (i < l0.length) = true := decide_eq_true hil
        go_wp2
        have hBK := Aside0.mk (blk_drew BK.out)
        have hHB := Aside0.mk (below_drew1 HB.out)
        clear BK HB
        have BK := hBK
        have HB := hHB
        clear hBK hHB
        obtain ⟨ad, e, hx0, hx1, hx2⟩ := at_T74 HR0.out i (by omega) (by omega)
        cases e
        rw [Int.toNat_natCast] at hx0 hx1 hx2
        have hw0 := hx0
        have hw1 := hx1
        have hw2 := hx2
        replace hx0 := (HB.out.cell (World.block_lt_of_cell? w _ hx0)).trans hx0
        replace hx1 := (HB.out.cell (World.block_lt_of_cell? w _ hx1)).trans hx1
        replace hx2 := (HB.out.cell (World.block_lt_of_cell? w _ hx2)).trans hx2
        refine start_ (n := 16) (S := fun w' => w'.cell? (ad.add (i * 3)) = some (.string (rd_T74 l0 i).f0) ∧ w'.cell? ⟨(ad.add (i * 3)).block, (ad.add (i * 3)).off + 1, none⟩ = some (.string (rd_T74 l0 i).f1) ∧ w'.cell? ⟨(ad.add (i * 3)).block, (ad.add (i * 3)).off + 2, none⟩ = some (.int .i64 (rd_T74 l0 i).f2) ∧ w'.cell? ⟨w.heap.size, 0, none⟩ = some (.string t.f0) ∧ w'.cell? ⟨w.heap.size, 1, none⟩ = some (.string t.f1) ∧ w'.cell? ⟨w.heap.size, 2, none⟩ = some (.int .i64 t.f2)) (ds := []) #[false, false, false, false, false, false, false, false, false, false, false, false, false, false, false, false] (by kernel_rfl) rfl rfl ⟨hx0, hx1, hx2, (blk_cell BK.out 0).trans rfl, (blk_cell BK.out 1).trans rfl, (blk_cell BK.out 2).trans rfl⟩ (fun hHeld => ?_)
        generalize wr.drew = wrd at BK HB hx0 hx1 hx2 hHeld ⊢
        refine pure_ (i := 0) (N := some 35) (v := ?_) (a' := ?_) #[true, false, false, false, false, false, false, false, false, false, false, false, false, false, false, false] rfl rfl (by kernel_rfl) (fun _ _ _ h => h) (Or.inl ⟨by rfl, ?_⟩) ?_ ?_
        rotate_left
        · intro w'
          go_simp
          with_reducible rfl
        rotate_left
        · simp only [Act.put, List.setIfInBounds_toArray, List.set_cons_zero, List.set_cons_succ, i64_w, i32_w]
          rfl
        refine pure_ (i := 1) (N := some 36) (v := ?_) (a' := ?_) #[true, true, false, false, false, false, false, false, false, false, false, false, false, false, false, false] rfl rfl (by kernel_rfl) (fun _ _ _ h => h) (Or.inl ⟨by rfl, ?_⟩) ?_ ?_
        rotate_left
        · intro w'
          go_simp
          with_reducible rfl
        rotate_left
        · simp only [Act.put, List.setIfInBounds_toArray, List.set_cons_zero, List.set_cons_succ, i64_w, i32_w]
          rfl
        refine pure_ (i := 2) (N := some 37) (v := ?_) (a' := ?_) #[true, true, true, false, false, false, false, false, false, false, false, false, false, false, false, false] rfl rfl (by kernel_rfl) (fun _ _ _ h => h) (Or.inl ⟨by rfl, ?_⟩) ?_ ?_
        rotate_left
        · intro w'
          go_simp
          with_reducible rfl
        rotate_left
        · simp only [Act.put, List.setIfInBounds_toArray, List.set_cons_zero, List.set_cons_succ, i64_w, i32_w]
          rfl
        refine pure_ (i := 3) (N := some 38) (v := ?_) (a' := ?_) #[true, true, true, true, false, false, false, false, false, false, false, false, false, false, false, false] rfl rfl (by kernel_rfl) (fun _ _ _ h => h) (Or.inl ⟨by rfl, ?_⟩) ?_ ?_
        rotate_left
        · intro w'
          go_simp
          with_reducible rfl
        rotate_left
        · simp only [Act.put, List.setIfInBounds_toArray, List.set_cons_zero, List.set_cons_succ, i64_w, i32_w]
          rfl
        refine pure_ (i := 4) (N := some 39) (v := ?_) (a' := ?_) #[true, true, true, true, true, false, false, false, false, false, false, false, false, false, false, false] rfl rfl (by kernel_rfl) (fun _ _ _ h => h) (Or.inl ⟨by rfl, ?_⟩) ?_ ?_
        rotate_left
        · intro w'
          go_simp
          with_reducible rfl
        rotate_left
        · simp only [Act.put, List.setIfInBounds_toArray, List.set_cons_zero, List.set_cons_succ, i64_w, i32_w]
          rfl
        refine pure_ (i := 5) (N := some 40) (v := ?_) (a' := ?_) #[true, true, true, true, true, true, false, false, false, false, false, false, false, false, false, false] rfl rfl (by kernel_rfl) (fun _ _ _ h => h) (Or.inl ⟨by rfl, ?_⟩) ?_ ?_
        rotate_left
        · intro w'
          go_simp
          with_reducible rfl
        rotate_left
        · simp only [Act.put, List.setIfInBounds_toArray, List.set_cons_zero, List.set_cons_succ, i64_w, i32_w]
          rfl
        refine pure_ (i := 6) (N := some 41) (v := ?_) (a' := ?_) #[true, true, true, true, true, true, true, false, false, false, false, false, false, false, false, false] rfl rfl (by kernel_rfl) (fun _ _ _ h => h) (Or.inl ⟨by rfl, ?_⟩) ?_ ?_
        rotate_left
        · intro w'
          go_simp
          with_reducible rfl
        rotate_left
        · simp only [Act.put, List.setIfInBounds_toArray, List.set_cons_zero, List.set_cons_succ, i64_w, i32_w]
          rfl
        refine pure_ (i := 7) (N := some 42) (v := ?_) (a' := ?_) #[true, true, true, true, true, true, true, true, false, false, false, false, false, false, false, false] rfl rfl (by kernel_rfl) (fun _ _ _ h => h) (Or.inl ⟨by rfl, ?_⟩) ?_ ?_
        rotate_left
        · intro w'
          go_simp
          with_reducible rfl
        rotate_left
        · simp only [Act.put, List.setIfInBounds_toArray, List.set_cons_zero, List.set_cons_succ, i64_w, i32_w]
          rfl
        refine pure_ (i := 8) (N := some 43) (v := ?_) (a' := ?_) #[true, true, true, true, true, true, true, true, true, false, false, false, false, false, false, false] rfl rfl (by kernel_rfl) (fun _ _ _ h => h) (Or.inl ⟨by rfl, ?_⟩) ?_ ?_
        rotate_left
        · intro w'
          go_simp
          with_reducible rfl
        rotate_left
        · simp only [Act.put, List.setIfInBounds_toArray, List.set_cons_zero, List.set_cons_succ, i64_w, i32_w]
          rfl
        refine take_ (i := 9) (N := some 44) (v := ?_) (a' := ?_) #[true, true, true, true, true, true, true, true, true, true, false, false, false, false, false, false] rfl rfl (by kernel_rfl) (fun _ _ _ h => h) (Or.inl ⟨by rfl, ?_⟩) hHeld ?_ ?_
        rotate_left
        · rintro w' ⟨s0, s1, s2, s3, s4, s5⟩
          go_simp
          with_reducible rfl
        rotate_left
        · simp only [Act.put, List.setIfInBounds_toArray, List.set_cons_zero, List.set_cons_succ, i64_w, i32_w]
          rfl
        refine take_ (i := 10) (N := some 45) (v := ?_) (a' := ?_) #[true, true, true, true, true, true, true, true, true, true, true, false, false, false, false, false] rfl rfl (by kernel_rfl) (fun _ _ _ h => h) (Or.inl ⟨by rfl, ?_⟩) hHeld ?_ ?_
        rotate_left
        · rintro w' ⟨s0, s1, s2, s3, s4, s5⟩
          go_simp
          with_reducible rfl
        rotate_left
        · simp only [Act.put, List.setIfInBounds_toArray, List.set_cons_zero, List.set_cons_succ, i64_w, i32_w]
          rfl
        refine one_ (i := 11) (N := some 46) #[true, true, true, true, true, true, true, true, true, true, true, true, false, false, false, false] rfl rfl (by kernel_rfl) (by decide) (fun K hK => ?_)
        refine call_ g #[.agg #[.string (rd_T74 l0 i).f0, .string (rd_T74 l0 i).f1, .int .i64 (rd_T74 l0 i).f2], .agg #[.string t.f0, .string t.f1, .int .i64 t.f2]] (by rfl) rfl (by go_simp) ?_
        refine (HP.out (rd_T74 l0 i) t _ HB.out).mono ?_
        rintro e w9 ⟨rfl, hb⟩
        refine ⟨_, rfl, ?_⟩
        have n1_ := Aside0.mk (blk_below (g := w.heap.size) (o := .cells #[.string t.f0, .string t.f1, .int .i64 t.f2] 74 (0, 0)) BK.out hb)
        have n2_ := Aside0.mk (below_step HB.out hb)
        clear BK HB hb
        have BK := n1_
        have HB := n2_
        clear n1_ n2_
        refine hK.out _ _ ⟨((HB.out.cell (World.block_lt_of_cell? w _ hw0)).trans hw0), ((HB.out.cell (World.block_lt_of_cell? w _ hw1)).trans hw1), ((HB.out.cell (World.block_lt_of_cell? w _ hw2)).trans hw2), (blk_cell BK.out 0).trans rfl, (blk_cell BK.out 1).trans rfl, (blk_cell BK.out 2).trans rfl⟩ (fun hHeld => ?_)
        clear hK K
        refine norm_ (a' := ?_) ?_ ?_
        rotate_left
        · show Act.put _ (some 46) _ = _
          simp only [Act.put, List.setIfInBounds_toArray, List.set_cons_zero, List.set_cons_succ, i64_w, i32_w]
          rfl
        refine pure_ (i := 12) (N := some 47) (v := ?_) (a' := ?_) #[true, true, true, true, true, true, true, true, true, true, true, true, true, false, false, false] rfl rfl (by kernel_rfl) (fun _ _ _ h => h) (Or.inl ⟨by rfl, ?_⟩) ?_ ?_
        rotate_left
        · intro w'
          go_simp
          with_reducible rfl
        rotate_left
        · simp only [Act.put, List.setIfInBounds_toArray, List.set_cons_zero, List.set_cons_succ, i64_w, i32_w]
          rfl
        refine pure_ (i := 13) (N := some 48) (v := ?_) (a' := ?_) #[true, true, true, true, true, true, true, true, true, true, true, true, true, true, false, false] rfl rfl (by kernel_rfl) (fun _ _ _ h => h) (Or.inl ⟨by rfl, ?_⟩) ?_ ?_
        rotate_left
        · intro w'
          go_simp
          with_reducible rfl
        rotate_left
        · simp only [Act.put, List.setIfInBounds_toArray, List.set_cons_zero, List.set_cons_succ, i64_w, i32_w]
          rfl
        refine pure_ (i := 14) (N := some 6) (v := ?_) (a' := ?_) #[true, true, true, true, true, true, true, true, true, true, true, true, true, true, true, false] rfl rfl (by kernel_rfl) (fun _ _ _ h => h) (Or.inl ⟨by rfl, ?_⟩) ?_ ?_
        rotate_left
        · intro w'
          go_simp
          with_reducible rfl
        rotate_left
        · simp only [Act.put, List.setIfInBounds_toArray, List.set_cons_zero, List.set_cons_succ, i64_w, i32_w]
          rfl
        refine pure_ (i := 15) (N := some 7) (v := ?_) (a' := ?_) #[true, true, true, true, true, true, true, true, true, true, true, true, true, true, true, true] rfl rfl (by kernel_rfl) (fun _ _ _ h => h) (Or.inl ⟨by rfl, ?_⟩) ?_ ?_
        rotate_left
        · intro w'
          go_simp
          with_reducible rfl
        rotate_left
        · simp only [Act.put, List.setIfInBounds_toArray, List.set_cons_zero, List.set_cons_succ, i64_w, i32_w]
          rfl
        refine done_ (by kernel_rfl) ?_
        go_wp2
        go_ret2
        exact ⟨i, HAT.out, by rw [hilb]; rfl, HB.out⟩
      · have hilz : ¬ (i : Int) < (l0.length : Int) := by omega
        have hilb : decide (i < l0.length) = false := decide_eq_false hil
        go_wp2
        have hHB := Aside0.mk (below_drew1 HB.out)
        clear BK HB
        have HB := hHB
        clear hHB
        refine start_ (n := 16) (S := fun w' => True) (ds := []) #[false, false, false, false, false, false, false, false, false, false, false, false, false, false, false, false] (by kernel_rfl) rfl rfl trivial (fun hHeld => ?_)
        generalize wr.drew = wrd at HB hHeld ⊢
        refine pure_ (i := 0) (N := some 35) (v := ?_) (a' := ?_) #[true, false, false, false, false, false, false, false, false, false, false, false, false, false, false, false] rfl rfl (by kernel_rfl) (fun _ _ _ h => h) (Or.inl ⟨by rfl, ?_⟩) ?_ ?_
        rotate_left
        · intro w'
          go_simp
          with_reducible rfl
        rotate_left
        · simp only [Act.put, List.setIfInBounds_toArray, List.set_cons_zero, List.set_cons_succ, i64_w, i32_w]
          rfl
        refine pure_ (i := 1) (N := some 36) (v := ?_) (a' := ?_) #[true, true, false, false, false, false, false, false, false, false, false, false, false, false, false, false] rfl rfl (by kernel_rfl) (fun _ _ _ h => h) (Or.inl ⟨by rfl, ?_⟩) ?_ ?_
        rotate_left
        · intro w'
          go_simp
          with_reducible rfl
        rotate_left
        · simp only [Act.put, List.setIfInBounds_toArray, List.set_cons_zero, List.set_cons_succ, i64_w, i32_w]
          rfl
        refine pure_ (i := 2) (N := some 37) (v := ?_) (a' := ?_) #[true, true, true, false, false, false, false, false, false, false, false, false, false, false, false, false] rfl rfl (by kernel_rfl) (fun _ _ _ h => h) (Or.inl ⟨by rfl, ?_⟩) ?_ ?_
        rotate_left
        · intro w'
          go_simp
          with_reducible rfl
        rotate_left
        · simp only [Act.put, List.setIfInBounds_toArray, List.set_cons_zero, List.set_cons_succ, i64_w, i32_w]
          rfl
        refine pure_ (i := 3) (N := some 38) (v := ?_) (a' := ?_) #[true, true, true, true, false, false, false, false, false, false, false, false, false, false, false, false] rfl rfl (by kernel_rfl) (fun _ _ _ h => h) (Or.inl ⟨by rfl, ?_⟩) ?_ ?_
        rotate_left
        · intro w'
          go_simp
          with_reducible rfl
        rotate_left
        · simp only [Act.put, List.setIfInBounds_toArray, List.set_cons_zero, List.set_cons_succ, i64_w, i32_w]
          rfl
        refine pure_ (i := 4) (N := some 39) (v := ?_) (a' := ?_) #[true, true, true, true, true, false, false, false, false, false, false, false, false, false, false, false] rfl rfl (by kernel_rfl) (fun _ _ _ h => h) (Or.inl ⟨by rfl, ?_⟩) ?_ ?_
        rotate_left
        · intro w'
          go_simp
          with_reducible rfl
        rotate_left
        · simp only [Act.put, List.setIfInBounds_toArray, List.set_cons_zero, List.set_cons_succ, i64_w, i32_w]
          rfl
        refine pure_ (i := 5) (N := some 40) (v := undef) (a' := ?_) #[true, true, true, true, true, true, false, false, false, false, false, false, false, false, false, false] rfl rfl (by kernel_rfl) (fun _ _ _ h => h) (Or.inr ⟨by rfl, rfl⟩) ?_ ?_
        rotate_left
        · simp only [Act.put, List.setIfInBounds_toArray, List.set_cons_zero, List.set_cons_succ, i64_w, i32_w]
          rfl
        refine pure_ (i := 6) (N := some 41) (v := undef) (a' := ?_) #[true, true, true, true, true, true, true, false, false, false, false, false, false, false, false, false] rfl rfl (by kernel_rfl) (fun _ _ _ h => h) (Or.inr ⟨by rfl, rfl⟩) ?_ ?_
        rotate_left
        · simp only [Act.put, List.setIfInBounds_toArray, List.set_cons_zero, List.set_cons_succ, i64_w, i32_w]
          rfl
        refine pure_ (i := 7) (N := some 42) (v := undef) (a' := ?_) #[true, true, true, true, true, true, true, true, false, false, false, false, false, false, false, false] rfl rfl (by kernel_rfl) (fun _ _ _ h => h) (Or.inr ⟨by rfl, rfl⟩) ?_ ?_
        rotate_left
        · simp only [Act.put, List.setIfInBounds_toArray, List.set_cons_zero, List.set_cons_succ, i64_w, i32_w]
          rfl
        refine pure_ (i := 8) (N := some 43) (v := undef) (a' := ?_) #[true, true, true, true, true, true, true, true, true, false, false, false, false, false, false, false] rfl rfl (by kernel_rfl) (fun _ _ _ h => h) (Or.inr ⟨by rfl, rfl⟩) ?_ ?_
        rotate_left
        · simp only [Act.put, List.setIfInBounds_toArray, List.set_cons_zero, List.set_cons_succ, i64_w, i32_w]
          rfl
        refine pure_ (i := 9) (N := some 44) (v := undef) (a' := ?_) #[true, true, true, true, true, true, true, true, true, true, false, false, false, false, false, false] rfl rfl (by kernel_rfl) (fun _ _ _ h => h) (Or.inr ⟨by rfl, rfl⟩) ?_ ?_
        rotate_left
        · simp only [Act.put, List.setIfInBounds_toArray, List.set_cons_zero, List.set_cons_succ, i64_w, i32_w]
          rfl
        refine pure_ (i := 10) (N := some 45) (v := undef) (a' := ?_) #[true, true, true, true, true, true, true, true, true, true, true, false, false, false, false, false] rfl rfl (by kernel_rfl) (fun _ _ _ h => h) (Or.inr ⟨by rfl, rfl⟩) ?_ ?_
        rotate_left
        · simp only [Act.put, List.setIfInBounds_toArray, List.set_cons_zero, List.set_cons_succ, i64_w, i32_w]
          rfl
        refine pure_ (i := 11) (N := some 46) (v := undef) (a' := ?_) #[true, true, true, true, true, true, true, true, true, true, true, true, false, false, false, false] rfl rfl (by kernel_rfl) (fun _ _ _ h => h) (Or.inr ⟨by rfl, rfl⟩) ?_ ?_
        rotate_left
        · simp only [Act.put, List.setIfInBounds_toArray, List.set_cons_zero, List.set_cons_succ, i64_w, i32_w]
          rfl
        refine pure_ (i := 12) (N := some 47) (v := undef) (a' := ?_) #[true, true, true, true, true, true, true, true, true, true, true, true, true, false, false, false] rfl rfl (by kernel_rfl) (fun _ _ _ h => h) (Or.inr ⟨by rfl, rfl⟩) ?_ ?_
        rotate_left
        · simp only [Act.put, List.setIfInBounds_toArray, List.set_cons_zero, List.set_cons_succ, i64_w, i32_w]
          rfl
        refine pure_ (i := 13) (N := some 48) (v := ?_) (a' := ?_) #[true, true, true, true, true, true, true, true, true, true, true, true, true, true, false, false] rfl rfl (by kernel_rfl) (fun _ _ _ h => h) (Or.inl ⟨by rfl, ?_⟩) ?_ ?_
        rotate_left
        · intro w'
          go_simp
          with_reducible rfl
        rotate_left
        · simp only [Act.put, List.setIfInBounds_toArray, List.set_cons_zero, List.set_cons_succ, i64_w, i32_w]
          rfl
        refine pure_ (i := 14) (N := some 6) (v := ?_) (a' := ?_) #[true, true, true, true, true, true, true, true, true, true, true, true, true, true, true, false] rfl rfl (by kernel_rfl) (fun _ _ _ h => h) (Or.inl ⟨by rfl, ?_⟩) ?_ ?_
        rotate_left
        · intro w'
          go_simp
          with_reducible rfl
        rotate_left
        · simp only [Act.put, List.setIfInBounds_toArray, List.set_cons_zero, List.set_cons_succ, i64_w, i32_w]
          rfl
        refine pure_ (i := 15) (N := some 7) (v := ?_) (a' := ?_) #[true, true, true, true, true, true, true, true, true, true, true, true, true, true, true, true] rfl rfl (by kernel_rfl) (fun _ _ _ h => h) (Or.inl ⟨by rfl, ?_⟩) ?_ ?_
        rotate_left
        · intro w'
          go_simp
          with_reducible rfl
        rotate_left
        · simp only [Act.put, List.setIfInBounds_toArray, List.set_cons_zero, List.set_cons_succ, i64_w, i32_w]
          rfl
        refine done_ (by kernel_rfl) ?_
        go_wp2
        go_ret2
        exact ⟨i, HAT.out, by rw [hilb]; rfl, HB.out⟩

/-! ### api_Entry_112: function 112 -/
-- GIVEN slices.Insert[[]heliast/api.Entry,heliast/api.Entry] making uses slices.BinarySearchFunc[[]heliast/api.Entry,heliast/api.Entry,heliast/api.Entry]
open Go.Proofs.He
set_option maxHeartbeats 4000000 in
set_option maxRecDepth 100000 in
theorem slices_Insert_Entry.endRow (v : Value) (l0 : List S74) (xb : Nat) (x : S74) (w0 w : World) (hB : Below w0.heap.size w0 w) (hbase : w0.heap.size ≤ w.heap.size) (ho : Kd.R k74 74 w w0.heap.size (fun _ => True) v l0) (hx : w.heap[xb]? = some (.cells #[.string x.f0, .string x.f1, .int .i64 x.f2] 74 (0, 0))) (hlim : l0.length < 3518437208882) :
    Calls Try.prog 112 #[v, .int .i64 l0.length, .slice (some ⟨xb, 0, none⟩) 1 1] w fun e w' => ∃ v', e = .returned v' ∧ Kd.R k74 74 w' w0.heap.size (fun _ => True) v' (l0 ++ [x]) ∧ Below w0.heap.size w0 w' := by
  obtain ⟨A, c, rfl, hlc, hC⟩ := Kd.R_reads ho
  obtain ⟨i0, hi0, _, hsz, _⟩ := info_parts info74
  obtain ⟨sv, hcut⟩ : ∃ sv, ∀ W : World, (Instr.slice 69 (.slice A l0.length c) (some (.int .i64 (l0.length : Int))) none none).run Try.prog W = .ok sv W := ⟨_, cut_from (P := Try.prog) 69 74 .i64 Try.underlying69 hi0 3 hsz A l0.length c (l0.length : Int) (by omega) (by omega)⟩
  have HX := Aside0.mk (Flat.C_mk (w := w) (ad := ⟨xb, 0, none⟩) (l := [x]) flatE (by simp) (fun j u hj => by
    have hadd : (⟨xb, 0, none⟩ : Addr).add j = ⟨xb, j, none⟩ := by unfold Addr.add; split <;> simp_all
    rw [hadd]; simp [encE] at hj; simp [World.cell?, hx]
    rcases j with _ | _ | _ | j <;> simp_all))
  have HO := Aside0.mk ho
  have HB := Aside0.mk hB
  have HS := Aside0.mk hbase
  have HL := Aside0.mk hlim
  clear ho hB hx hC hbase hi0 hsz
  have hmax : l0.length ≤ 9223372036854775807 := by omega
  clear hlim
  go_enter Try.func112, Try.ntmps112
  go_wp2_with (at_builtin; refine Kd.R_append_rows k74 (w0 := w0) w0.heap.size rfl (.tmp 23) (.tmp 24) 69 74 (.agg #[(.string ⟨#[]⟩), (.string ⟨#[]⟩), (.int .i64 0)]) 40 rfl Try.underlying69 info74 rfl (by decide) (by omega) (.slice A l0.length c) l0 [x] (some ⟨xb, 0, none⟩) 1 1 (fun _ => True) (fun _ => False) rfl rfl HO.out HX.out (fun x cs h => (flatE.M _ _ _ _ _).2 ((flatE.K _ _ _).1 h)) (fun _ h => h.elim) (fun _ _ => trivial) HB.out HS.out (by have := HL.out; omega) ?_; intro v1 w1 hr1 hb1 _ _)
  go_ret
  exact ⟨_, rfl, hr1, hb1⟩
theorem cells_box {w : World} {xb : Nat} {x : S74} (hx : w.heap[xb]? = some (.cells #[.string x.f0, .string x.f1, .int .i64 x.f2] 74 (0, 0))) : ∀ j u, (encE x)[j]? = some u → w.cell? ((⟨xb, 0, none⟩ : Addr).add j) = some u := by
  intro j u hj
  rw [add_plain]; simp [encE] at hj; simp [World.cell?, hx]
  rcases j with _ | _ | _ | j <;> simp_all
theorem flen3 (l : List S74) : (l.flatMap encE).length = l.length * 3 := Flat.flen flatE l
set_option maxHeartbeats 8000000 in
set_option maxRecDepth 100000 in
theorem slices_Insert_Entry.grow (l0 : List S74) (i : Nat) (hi : i < l0.length) (g cap : Nat) (hcap : cap < l0.length + 1) (hnc : l0.length ≤ cap) (xb : Nat) (x : S74) (w0 w : World) (hB : Below w0.heap.size w0 w) (hbase : w0.heap.size ≤ w.heap.size)
    (hcells : ∀ j u, (l0.flatMap encE)[j]? = some u → w.cell? ((⟨g, 0, none⟩ : Addr).add j) = some u) (hx : w.heap[xb]? = some (.cells #[.string x.f0, .string x.f1, .int .i64 x.f2] 74 (0, 0))) (hg : g < w.heap.size) (hlim : l0.length < 3518437208882) :
    Calls Try.prog 112 #[.slice (some ⟨g, 0, none⟩) l0.length cap, .int .i64 i, .slice (some ⟨xb, 0, none⟩) 1 1] w fun e w' => ∃ v', e = .returned v' ∧ Kd.R k74 74 w' w0.heap.size (fun _ => True) v' (l0.take i ++ x :: l0.drop i) ∧ Below w0.heap.size w0 w' := by
  obtain ⟨ti, hti, hz0, hsz, hby⟩ := info_parts info74
  have hxb : xb < w.heap.size := (Array.getElem?_eq_some_iff.1 hx).1
  have hszo : (Try.prog.info? 74).map (·.size) = some 3 := by rw [hti]; simp [hsz]
  -- the new row
  obtain ⟨v1, w1, hrun1, hown1, hg1, hob1⟩ := run_append_zeros_grow (P := Try.prog) w w0.heap.size 69 3 69 74 ti _ Try.underlying69 Try.underlying3 hti hz0 (by rw [hsz]; rfl) (by omega) (by omega) ⟨g, 0, none⟩ i cap ((l0.take i).flatMap encE)
    (by rw [flen3, List.length_take, hsz]; omega) (fun j u hj => hcells j u (by rw [Flat.ftake flatE] at hj; exact List.getElem?_eq_some_iff.2 (by obtain ⟨h1, h2⟩ := List.getElem?_eq_some_iff.1 hj; rw [List.length_take] at h1; exact ⟨by omega, by rw [List.getElem_take] at h2; exact h2⟩))) .i64 (l0.length + 1 - i)
    (by omega) (by omega) (fun u hu => by simp [Builtin.zeroCells] at hu; obtain ⟨a, _, rfl⟩ := hu; have : a % 3 < 3 := Nat.mod_lt _ (by omega); rcases (show a % 3 = 0 ∨ a % 3 = 1 ∨ a % 3 = 2 by omega) with h | h | h <;> (simp [Value.cells, h]; rfl)) (by rw [hby]; omega) hbase
  have hin : i + (l0.length + 1 - i) = l0.length + 1 := by omega
  rw [hin] at hown1
  obtain ⟨hl1, hr1⟩ := hown1
  rcases hr1 with ⟨_, h0⟩ | ⟨g1, cap1, cur1, rfl, hb1, hh1, hn1, hc1, hs1, ht1⟩
  · omega
  obtain rfl : g1 = w.heap.size := by simpa [Value.ownBlock] using hob1
  rw [hsz] at hs1 ht1
  obtain ⟨L1, hL1⟩ : ∃ L1, L1 = cur1.toList := ⟨_, rfl⟩
  have hlen1 : L1.length = cap1 * 3 := by rw [hL1, Array.length_toList]; exact hs1
  have hh1' : w1.heap[w.heap.size]? = some (.cells L1.toArray 74 (0, 0)) := by rw [hL1]; exact hh1
  have htk : L1.take (i * 3) = (l0.take i).flatMap encE := by
    have h := congrArg (List.take (i * 3)) ht1
    rw [List.take_take, Nat.min_eq_left (by omega), List.take_append_of_le_length (by rw [flen3, List.length_take]; omega)] at h
    rw [hL1, h]
    exact List.take_of_length_le (by rw [flen3, List.length_take]; omega)
  have hxw1 : w1.heap[xb]? = some (.cells #[.string x.f0, .string x.f1, .int .i64 x.f2] 74 (0, 0)) := (hg1.block xb hxb (by simp)).trans hx
  have hcopy1 : ∀ ty, (Builtin.copy_ #[69, 69] ty #[.slice (some ⟨w.heap.size, i * 3, none⟩) (l0.length + 1 - i) (cap1 - i), .slice (some ⟨xb, 0, none⟩) 1 1]).run Try.prog w1 = .ok (goInt (Nat.min 1 (l0.length + 1 - i))) (w1.setRow w.heap.size (splice L1 (i * 3) (encE x)).toArray) := fun ty =>
    run_copy_rows w1 69 69 ty 74 3 w.heap.size (i * 3) _ _ ⟨xb, 0, none⟩ 1 1 L1 74 (encE x) Try.underlying69 hszo hh1' (by show _ = min 1 _ * 3; rw [Nat.min_eq_left (by omega)]; rfl) (cells_box hxw1) (by rw [hlen1]; simp [encE]; omega) (flatE.one x)
  have hf2 := setRow_heap w1 w.heap.size L1.toArray (splice L1 (i * 3) (encE x)).toArray 74 (0, 0) hh1'
  have ho2 := fun k (hk : k ≠ w.heap.size) => setRow_other w1 w.heap.size k (splice L1 (i * 3) (encE x)).toArray hk
  have hB1 : Below w0.heap.size w0 w1 := hB.grown hg1 hbase (fun k hk => by cases hk)
  have hB2 := below_setRow hB1 hb1 (splice L1 (i * 3) (encE x)).toArray
  obtain ⟨w2, hw2⟩ : ∃ w2, w1.setRow w.heap.size (splice L1 (i * 3) (encE x)).toArray = w2 := ⟨_, rfl⟩
  rw [hw2] at hcopy1 hf2 ho2 hB2
  have hl2 : (splice L1 (i * 3) (encE x)).length = cap1 * 3 := by rw [length_splice _ _ _ (by rw [hlen1]; simp [encE]; omega), hlen1]
  have hdl : ((l0.drop i).flatMap encE).length = (l0.length - i) * 3 := by rw [flen3, List.length_drop]
  have hcopy2 : ∀ ty, (Builtin.copy_ #[69, 69] ty #[.slice (some ⟨w.heap.size, (i + 1) * 3, none⟩) (l0.length + 1 - (i + 1)) (cap1 - (i + 1)), .slice (some ⟨g, i * 3, none⟩) (l0.length - i) (cap - i)]).run Try.prog w2.drew = .ok (goInt (Nat.min (l0.length - i) (l0.length + 1 - (i + 1)))) (w2.drew.setRow w.heap.size (splice (splice L1 (i * 3) (encE x)) ((i + 1) * 3) ((l0.drop i).flatMap encE)).toArray) := fun ty =>
    run_copy_rows w2.drew 69 69 ty 74 3 w.heap.size ((i + 1) * 3) _ _ ⟨g, i * 3, none⟩ _ _ (splice L1 (i * 3) (encE x)) 74 ((l0.drop i).flatMap encE) Try.underlying69 hszo hf2 (by rw [hdl]; show _ = min _ _ * 3; rw [Nat.min_eq_left (by omega)]) (fun j u hj => by
      rw [Flat.fdrop flatE, List.getElem?_drop] at hj
      have h := hcells _ u hj
      rw [add_plain] at h
      have hadd : (⟨g, i * 3, none⟩ : Addr).add j = ⟨g, i * 3 + j, none⟩ := by unfold Addr.add; split <;> simp_all
      rw [hadd]
      have hh : w2.heap[g]? = w.heap[g]? := (ho2 g (by omega)).trans (hg1.block g hg (by simp))
      simp only [World.cell?, World.drew] at h ⊢
      rw [hh]; exact h) (by rw [hdl, hl2]; omega) (Flat.oneOf flatE)
  have hf3 := setRow_heap w2.drew w.heap.size (splice L1 (i * 3) (encE x)).toArray (splice (splice L1 (i * 3) (encE x)) ((i + 1) * 3) ((l0.drop i).flatMap encE)).toArray 74 (0, 0) hf2
  have hB3 := below_setRow (below_drew1 hB2) hb1 (splice (splice L1 (i * 3) (encE x)) ((i + 1) * 3) ((l0.drop i).flatMap encE)).toArray
  obtain ⟨w3, hw3⟩ : ∃ w3, w2.drew.setRow w.heap.size (splice (splice L1 (i * 3) (encE x)) ((i + 1) * 3) ((l0.drop i).flatMap encE)).toArray = w3 := ⟨_, rfl⟩
  rw [hw3] at hcopy2 hf3 hB3
  have hR : Kd.R k74 74 w3 w0.heap.size (fun _ => True) (.slice (some ⟨w.heap.size, 0, none⟩) (l0.length + 1) cap1) (l0.take i ++ x :: l0.drop i) := by
    have hll : (l0.take i ++ x :: l0.drop i).length = l0.length + 1 := by simp; omega
    refine Flat.put flatE ?_ (fun _ _ => trivial)
    rw [hll]
    refine ⟨by rw [flen3, hll]; rfl, .inr ⟨w.heap.size, cap1, _, rfl, hb1, hf3, hn1, hc1, ?_, ?_⟩⟩
    · rw [List.size_toArray, length_splice _ _ _ (by rw [hdl, hl2]; omega), hl2]; rfl
    · have h := splice_up L1 (encE x) ((l0.drop i).flatMap encE) (i * 3) (by rw [hdl, hlen1]; simp [encE]; omega)
      have e1 : i * 3 + (encE x).length = (i + 1) * 3 := by simp [encE]; omega
      have e2 : (i + 1) * 3 + ((l0.drop i).flatMap encE).length = (l0.length + 1) * 3 := by rw [hdl]; omega
      rw [e1, e2, htk] at h
      show (splice _ _ _).take ((l0.length + 1) * 3) = _
      rw [h, List.flatMap_append, List.flatMap_cons]
  have hcut0 := cut_in (P := Try.prog) 69 74 Try.underlying69 hti 3 hsz g l0.length cap i i rfl (by omega) (by omega)
  have hcut1 := cut_up (P := Try.prog) 69 74 Try.underlying69 hti (some ⟨g, 0, none⟩) l0.length cap i i rfl (by omega)
  have hcut2 := cut_in (P := Try.prog) 69 74 Try.underlying69 hti 3 hsz w.heap.size (l0.length + 1) cap1 i i rfl (by omega) (by omega)
  have hcut3 := cut_in (P := Try.prog) 69 74 Try.underlying69 hti 3 hsz w.heap.size (l0.length + 1) cap1 (i + 1) ((i : Int) + 1) (by omega) (by omega) (by omega)
  have hm' : ((l0.length : Int) + 1 - (i : Int)) = ((l0.length + 1 - i : Nat) : Int) := by omega
  have HR := Aside0.mk hR
  have HB3 := Aside0.mk hB3
  have hgt : (cap : Int) < (l0.length : Int) + 1 := by omega
  have hne : ¬ ((i : Int) = (l0.length : Int)) := by omega
  have HC1 := Aside0.mk hcopy1
  have HC2 := Aside0.mk hcopy2
  have HRUN := Aside0.mk hrun1
  have hn63 : l0.length < 3518437208882 := hlim
  clear hR hB3 hcopy1 hcopy2 hrun1 hf3 hw3 hf2 ho2 hw2 hB2 hB1 hxw1 htk hh1' hL1 hlen1 hl2 hdl hs1 ht1 hh1 hb1 hg1 hob1 hl1 hx hcells hB hbase hszo hby hsz hz0 hti hin
  go_enter Try.func112, Try.ntmps112
  go_wp2_with (first | (at_builtin; refine wpList_append_run _ rfl (.tmp 34) (.tmp 39) 69 3 rfl (.slice (some ⟨g, 0, none⟩) i cap) (.int .i64 ((l0.length + 1 - i : Nat) : Int)) rfl rfl HRUN.out ?_) | (with_reducible refine wpList_copy_run _ rfl (.tmp 43) (.tmp 44) 69 69 rfl _ _ rfl rfl (HC1.out _) ?_))
  have hwr : IntKind.i64.wrap ((i : Int) + 1) = (i : Int) + 1 := by rw [IntKind.wrap_i64]; omega
  go_region_law (refine step_copy_run rfl _ _ 69 69 rfl _ _ (by simp [Act.eval, Act.put]) (by simp [Act.eval, Act.put]) (HC2.out _) ?_)
  go_wp2
  go_ret
  exact ⟨_, rfl, HR.out, HB3.out⟩
set_option maxHeartbeats 8000000 in
set_option maxRecDepth 100000 in
theorem slices_Insert_Entry.room (l0 : List S74) (i : Nat) (hi : i < l0.length) (g cap : Nat) (hcap : l0.length + 1 ≤ cap) (hcm : cap ≤ maxLen) (cur : List Value) (hcl : cur.length = cap * 3) (hct : cur.take (l0.length * 3) = l0.flatMap encE) (xb : Nat) (x : S74) (w0 w : World) (hB : Below w0.heap.size w0 w) (hbg : w0.heap.size ≤ g)
    (hg : w.heap[g]? = some (.cells cur.toArray 74 (0, 0))) (hx : w.heap[xb]? = some (.cells #[.string x.f0, .string x.f1, .int .i64 x.f2] 74 (0, 0))) (hne : xb ≠ g) (hlim : l0.length < 3518437208882) :
    Calls Try.prog 112 #[.slice (some ⟨g, 0, none⟩) l0.length cap, .int .i64 i, .slice (some ⟨xb, 0, none⟩) 1 1] w fun e w' => ∃ v', e = .returned v' ∧ Kd.R k74 74 w' w0.heap.size (fun _ => True) v' (l0.take i ++ x :: l0.drop i) ∧ Below w0.heap.size w0 w' := by
  obtain ⟨ti, hti, hz0, hsz, hby⟩ := info_parts info74
  have hszo : (Try.prog.info? 74).map (·.size) = some 3 := by rw [hti]; simp [hsz]
  have hdl : ((l0.drop i).flatMap encE).length = (l0.length - i) * 3 := by rw [flen3, List.length_drop]
  have htk : cur.take (i * 3) = (l0.take i).flatMap encE := by
    rw [Flat.ftake flatE, ← hct, List.take_take, Nat.min_eq_left (by rw [szE]; omega), szE]
  have hsrc : ∀ (j : Nat) (u : Value), ((l0.drop i).flatMap encE)[j]? = some u → (cur.drop (i * 3))[j]? = some u := by
    intro j u hj
    have hjl := (List.getElem?_eq_some_iff.1 hj).1
    rw [hdl] at hjl
    rw [Flat.fdrop flatE, szE, ← hct, List.getElem?_drop, List.getElem?_take, if_pos (by omega)] at hj
    rw [List.getElem?_drop]; exact hj
  have hgd : w.drew.heap[g]? = some (.cells cur.toArray 74 (0, 0)) := hg
  have hcopy1 : ∀ ty, (Builtin.copy_ #[69, 69] ty #[.slice (some ⟨g, (i + 1) * 3, none⟩) (l0.length + 1 - (i + 1)) (cap - (i + 1)), .slice (some ⟨g, i * 3, none⟩) (l0.length + 1 - i) (cap - i)]).run Try.prog w.drew = .ok (goInt (Nat.min (l0.length + 1 - i) (l0.length + 1 - (i + 1)))) (w.drew.setRow g (splice cur ((i + 1) * 3) ((l0.drop i).flatMap encE)).toArray) := fun ty =>
    run_copy_rows w.drew 69 69 ty 74 3 g ((i + 1) * 3) _ _ ⟨g, i * 3, none⟩ _ _ cur 74 ((l0.drop i).flatMap encE) Try.underlying69 hszo hgd (by rw [hdl]; show _ = min _ _ * 3; rw [Nat.min_eq_right (by omega)]; omega) (fun j u hj => cell_of_whole hgd (i * 3) j u (hsrc j u hj)) (by rw [hdl, hcl]; omega) (Flat.oneOf flatE)
  have hf1 := setRow_heap w.drew g cur.toArray (splice cur ((i + 1) * 3) ((l0.drop i).flatMap encE)).toArray 74 (0, 0) hgd
  have ho1 := setRow_other w.drew g xb (splice cur ((i + 1) * 3) ((l0.drop i).flatMap encE)).toArray hne
  have hB1 := below_setRow (below_drew1 hB) hbg (splice cur ((i + 1) * 3) ((l0.drop i).flatMap encE)).toArray
  obtain ⟨w1, hw1⟩ : ∃ w1, w.drew.setRow g (splice cur ((i + 1) * 3) ((l0.drop i).flatMap encE)).toArray = w1 := ⟨_, rfl⟩
  rw [hw1] at hcopy1 hf1 ho1 hB1
  have hl1 : (splice cur ((i + 1) * 3) ((l0.drop i).flatMap encE)).length = cap * 3 := by rw [length_splice _ _ _ (by rw [hdl, hcl]; omega), hcl]
  have hxw1 : w1.heap[xb]? = some (.cells #[.string x.f0, .string x.f1, .int .i64 x.f2] 74 (0, 0)) := ho1.trans hx
  have hcopy2 : ∀ ty, (Builtin.copy_ #[69, 69] ty #[.slice (some ⟨g, i * 3, none⟩) (l0.length + 1 - i) (cap - i), .slice (some ⟨xb, 0, none⟩) 1 1]).run Try.prog w1 = .ok (goInt (Nat.min 1 (l0.length + 1 - i))) (w1.setRow g (splice (splice cur ((i + 1) * 3) ((l0.drop i).flatMap encE)) (i * 3) (encE x)).toArray) := fun ty =>
    run_copy_rows w1 69 69 ty 74 3 g (i * 3) _ _ ⟨xb, 0, none⟩ 1 1 (splice cur ((i + 1) * 3) ((l0.drop i).flatMap encE)) 74 (encE x) Try.underlying69 hszo hf1 (by show _ = min 1 _ * 3; rw [Nat.min_eq_left (by omega)]; rfl) (cells_box hxw1) (by rw [hl1]; simp [encE]; omega) (flatE.one x)
  have hf2 := setRow_heap w1 g _ (splice (splice cur ((i + 1) * 3) ((l0.drop i).flatMap encE)) (i * 3) (encE x)).toArray 74 (0, 0) hf1
  have hB2 := below_setRow hB1 hbg (splice (splice cur ((i + 1) * 3) ((l0.drop i).flatMap encE)) (i * 3) (encE x)).toArray
  obtain ⟨w2, hw2⟩ : ∃ w2, w1.setRow g (splice (splice cur ((i + 1) * 3) ((l0.drop i).flatMap encE)) (i * 3) (encE x)).toArray = w2 := ⟨_, rfl⟩
  rw [hw2] at hcopy2 hf2 hB2
  have hR : Kd.R k74 74 w2 w0.heap.size (fun _ => True) (.slice (some ⟨g, 0, none⟩) (l0.length + 1) cap) (l0.take i ++ x :: l0.drop i) := by
    have hll : (l0.take i ++ x :: l0.drop i).length = l0.length + 1 := by simp; omega
    refine Flat.put flatE ?_ (fun _ _ => trivial)
    rw [hll]
    refine ⟨by rw [flen3, hll]; rfl, .inr ⟨g, cap, _, rfl, hbg, hf2, hcap, hcm, ?_, ?_⟩⟩
    · rw [List.size_toArray, length_splice _ _ _ (by rw [hl1]; simp [encE]; omega), hl1]; rfl
    · have h := splice_down cur (encE x) ((l0.drop i).flatMap encE) (i * 3) (by rw [hdl, hcl]; simp [encE]; omega)
      have e1 : i * 3 + (encE x).length = (i + 1) * 3 := by simp [encE]; omega
      have e2 : (i + 1) * 3 + ((l0.drop i).flatMap encE).length = (l0.length + 1) * 3 := by rw [hdl]; omega
      rw [e1, e2, htk] at h
      show (splice _ _ _).take ((l0.length + 1) * 3) = _
      rw [h, List.flatMap_append, List.flatMap_cons]
  have hov : ∀ lb cb, (callFunc 127 #[.slice (some ⟨xb, 0, none⟩) 1 1, .slice (some ⟨g, (i + 1) * 3, none⟩) lb cb]).run Try.prog w = .ok (.value (.bool false)) w := fun lb cb => by
    rw [run_callFunc_extern (fn := Try.f127) (by kernel_rfl) (by kernel_rfl) (by kernel_rfl) (by kernel_rfl) (e := Extern.SlicesOverlaps.overlaps #[69, 69] #[4]) (by kernel_rfl),
      Lib.run_overlaps_apart w 69 4 74 Try.underlying69 3 (fun w => by simp [sizeOf, typeInfo, hti, hsz]) ⟨xb, 0, none⟩ ⟨g, (i + 1) * 3, none⟩ 1 1 lb cb hne 74 74 3 cur.length (by simp [World.shape?, hx]) (by simp [World.shape?, hg]) (by rw [hcl]; omega) (by simp [World.frozen?, hx]) (by simp [World.frozen?, hx])]
    rfl
  have hcut0 := cut_in (P := Try.prog) 69 74 Try.underlying69 hti 3 hsz g l0.length cap i i rfl (by omega) (by omega)
  have hcut1 := cut_up (P := Try.prog) 69 74 Try.underlying69 hti (some ⟨g, 0, none⟩) l0.length cap (l0.length + 1) ((l0.length : Int) + 1) (by omega) (by omega)
  have hcut2 := cut_in (P := Try.prog) 69 74 Try.underlying69 hti 3 hsz g (l0.length + 1) cap i i rfl (by omega) (by omega)
  have hcut3 := cut_in (P := Try.prog) 69 74 Try.underlying69 hti 3 hsz g (l0.length + 1) cap (i + 1) ((i : Int) + 1) (by omega) (by omega) (by omega)
  have HR := Aside0.mk hR
  have HB3 := Aside0.mk hB2
  have hgt : ¬ (cap : Int) < (l0.length : Int) + 1 := by omega
  have hne' : ¬ ((i : Int) = (l0.length : Int)) := by omega
  have HC1 := Aside0.mk hcopy1
  have HC2 := Aside0.mk hcopy2
  unfold maxLen at hcm
  clear hR hB2 hcopy1 hcopy2 hf2 hw2 hxw1 hl1 hw1 hB1 ho1 hf1 hgd hsrc htk hdl hx hg hB hct hcl hszo hby hsz hz0 hti
  go_enter Try.func112, Try.ntmps112
  go_wp2
  have hwr : IntKind.i64.wrap ((i : Int) + 1) = (i : Int) + 1 := by rw [IntKind.wrap_i64]; omega
  go_region_law (refine step_copy_run rfl _ _ 69 69 rfl _ _ (by simp [Act.eval, Act.put]) (by simp [Act.eval, Act.put]) (HC1.out _) ?_)
  go_wp2_with (with_reducible refine wpList_copy_run _ rfl (.tmp 80) (.tmp 81) 69 69 rfl _ _ rfl rfl (HC2.out _) ?_)
  go_ret
  exact ⟨_, rfl, HR.out, HB3.out⟩
/-- Insert, whatever the room. -/
theorem slices_Insert_Entry.calls (v : Value) (l0 : List S74) (i : Nat) (hi : i ≤ l0.length) (xb : Nat) (x : S74) (w0 w : World) (hB : Below w0.heap.size w0 w) (hbase : w0.heap.size ≤ w.heap.size) (ho : Kd.R k74 74 w w0.heap.size (fun k_ => k_ ≠ xb) v l0)
    (hx : w.heap[xb]? = some (.cells #[.string x.f0, .string x.f1, .int .i64 x.f2] 74 (0, 0))) (hlim : l0.length < 3518437208882) :
    Calls Try.prog 112 #[v, .int .i64 i, .slice (some ⟨xb, 0, none⟩) 1 1] w fun e w' => ∃ v', e = .returned v' ∧ Kd.R k74 74 w' w0.heap.size (fun _ => True) v' (l0.take i ++ x :: l0.drop i) ∧ Below w0.heap.size w0 w' := by
  rcases Nat.lt_or_ge i l0.length with hlt | hge
  · obtain ⟨hown, hok⟩ := Flat.own flatE ho
    rcases hown.2 with ⟨_, h0⟩ | ⟨g, cap, cur, rfl, hb, hh, hnc, hcm, hcs, hct⟩
    · omega
    · rw [szE] at hcs hct
      rcases Nat.lt_or_ge cap (l0.length + 1) with hc | hc
      · exact slices_Insert_Entry.grow l0 i hlt g cap hc hnc xb x w0 w hB hbase (hown.cells (g := g) rfl) hx (Array.getElem?_eq_some_iff.1 hh).1 hlim
      · exact slices_Insert_Entry.room l0 i hlt g cap hc hcm cur.toList (by rw [Array.length_toList]; exact hcs) hct xb x w0 w hB hb (by rw [Array.toArray_toList]; exact hh) hx (fun e => hok g rfl e.symm) hlim
  · obtain rfl : i = l0.length := by omega
    rw [List.take_length, List.drop_length]
    exact slices_Insert_Entry.endRow v l0 xb x w0 w hB hbase (Kd.R_mono ho (fun _ _ => trivial)) hx hlim

/-! ### state_Put: function 79 -/
-- GIVEN heliast/state.Put making uses slices.Insert[[]heliast/api.Entry,heliast/api.Entry]
open Go.Proofs.He
def stIns (x : S74) : List S74 → List S74
  | [] => [x]
  | y :: l => if cmpE y x < 0 then y :: stIns x l else if cmpE y x = 0 then x :: l else x :: y :: l
theorem stIns_at (x : S74) : ∀ l : List S74, stIns x l = if bsAt (cmpE · x) l < l.length ∧ cmpE (rd_T74 l (bsAt (cmpE · x) l)) x = 0 then l.set (bsAt (cmpE · x) l) x else l.take (bsAt (cmpE · x) l) ++ x :: l.drop (bsAt (cmpE · x) l)
  | [] => by simp [stIns, bsAt]
  | y :: l => by
    have ih := stIns_at x l
    unfold stIns
    by_cases h : cmpE y x < 0
    · have e : bsAt (cmpE · x) (y :: l) = bsAt (cmpE · x) l + 1 := by simp [bsAt, List.takeWhile_cons, h]
      rw [if_pos h, e, ih]
      simp [rd_T74]
      split <;> rfl
    · have e : bsAt (cmpE · x) (y :: l) = 0 := by simp [bsAt, List.takeWhile_cons, h]
      rw [if_neg h, e]
      simp [rd_T74]
def kLt (x y : S74) : Prop := x.f0.toList < y.f0.toList ∨ (x.f0.toList = y.f0.toList ∧ x.f1.toList < y.f1.toList)
theorem lt_cases (a b : List UInt8) : a < b ∨ a = b ∨ b < a := by
  by_cases h1 : a < b
  · exact .inl h1
  · rcases List.le_iff_lt_or_eq.1 (List.not_lt.1 h1) with h | h
    · exact .inr (.inr h)
    · exact .inr (.inl h.symm)
theorem cmpS_cases (a b : ByteArray) : (cmpS a b = -1 ∧ a.toList < b.toList) ∨ (cmpS a b = 0 ∧ a = b) ∨ (cmpS a b = 1 ∧ b.toList < a.toList) := by
  unfold cmpS
  rcases lt_cases a.toList b.toList with h | h | h
  · exact .inl ⟨by rw [if_pos h], h⟩
  · exact .inr (.inl ⟨by rw [if_neg (by rw [h]; exact List.lt_irrefl _), if_neg (by rw [h]; exact List.lt_irrefl _)], ba_ext h⟩)
  · exact .inr (.inr ⟨by rw [if_neg (List.lt_asymm h), if_pos h], h⟩)
theorem cmpE_neg {x y : S74} : cmpE x y < 0 ↔ kLt x y := by
  unfold cmpE kLt
  rcases cmpS_cases x.f0 y.f0 with ⟨h, h'⟩ | ⟨h, h'⟩ | ⟨h, h'⟩
  · simp [h, h']
  · rcases cmpS_cases x.f1 y.f1 with ⟨g, g'⟩ | ⟨g, g'⟩ | ⟨g, g'⟩ <;> rw [if_pos h, g]
    · simp [h', g']
    · simp [h', g', List.lt_irrefl]
    · simp [h', List.lt_irrefl, List.lt_asymm g']
  · simp [h, List.lt_asymm h']
    intro e; rw [e] at h'; exact absurd h' (List.lt_irrefl _)
theorem cmpE_zero {x y : S74} : cmpE x y = 0 ↔ x.f0 = y.f0 ∧ x.f1 = y.f1 := by
  unfold cmpE
  rcases cmpS_cases x.f0 y.f0 with ⟨h, h'⟩ | ⟨h, h'⟩ | ⟨h, h'⟩
  · simp [h]; intro e; rw [e] at h'; exact absurd h' (List.lt_irrefl _)
  · rcases cmpS_cases x.f1 y.f1 with ⟨g, g'⟩ | ⟨g, g'⟩ | ⟨g, g'⟩ <;> rw [if_pos h, g]
    · simp; intro _ e; rw [e] at g'; exact absurd g' (List.lt_irrefl _)
    · simp [h', g']
    · simp; intro _ e; rw [e] at g'; exact absurd g' (List.lt_irrefl _)
  · simp [h]; intro e; rw [e] at h'; exact absurd h' (List.lt_irrefl _)
theorem kLt_trans {x y z : S74} (h : kLt x y) (k : kLt y z) : kLt x z := by
  rcases h with h | ⟨h, h'⟩ <;> rcases k with k | ⟨k, k'⟩
  · exact .inl (List.lt_trans h k)
  · exact .inl (by rw [← k]; exact h)
  · exact .inl (by rw [h]; exact k)
  · exact .inr ⟨h.trans k, List.lt_trans h' k'⟩
def srt (l : List S74) : Prop := l.Pairwise kLt
def srtB : List S74 → Bool
  | x :: y :: l => decide (cmpE x y < 0) && srtB (y :: l)
  | _ => true
theorem srtB_iff : ∀ {l : List S74}, srtB l = true ↔ srt l
  | [] => by simp [srtB, srt]
  | [x] => by simp [srtB, srt]
  | x :: y :: l => by
    have ih := @srtB_iff (y :: l)
    simp only [srtB, Bool.and_eq_true, decide_eq_true_eq, ih, cmpE_neg, srt]
    constructor
    · rintro ⟨h1, h2⟩
      refine List.pairwise_cons.2 ⟨fun z hz => ?_, h2⟩
      rcases List.mem_cons.1 hz with rfl | hz
      · exact h1
      · exact kLt_trans h1 ((List.pairwise_cons.1 h2).1 z hz)
    · intro h
      obtain ⟨h1, h2⟩ := List.pairwise_cons.1 h
      exact ⟨h1 y (List.mem_cons_self ..), h2⟩
theorem srt_mono {l : List S74} (h : srt l) (x : S74) : ∀ a b (hb : b < l.length) (hab : a ≤ b), cmpE l[b] x < 0 → cmpE l[a] x < 0 := by
  intro a b hb hab hn
  rcases Nat.lt_or_eq_of_le hab with hlt | rfl
  · exact cmpE_neg.2 (kLt_trans (List.pairwise_iff_getElem.1 h a b (by omega) hb hlt) (cmpE_neg.1 hn))
  · exact hn
set_option maxHeartbeats 8000000 in
set_option maxRecDepth 100000 in
theorem state_Put.walk (A0 : Option Addr) (c0 : Nat) (l0 : List S74) (x : S74) (w : World) (hr0 : Kd.C k74 w A0 l0.length l0) (hc0 : l0.length ≤ c0) (hs : srt l0) (hlim : l0.length < 3518437208882) :
    Calls Try.prog 79 #[.slice A0 l0.length c0, .agg #[.string x.f0, .string x.f1, .int .i64 x.f2]] w fun e w' => ∃ v, e = .returned v ∧ Kd.R k74 74 w' w.heap.size (fun _ => True) v (stIns x l0) ∧ Below w.heap.size w w' := by
  have hu74 := Try.underlying74
  have HB0 := Aside0.mk ((Below.refl w.heap.size w).alloc (Nat.le_refl _) (Obj.cells #[.string x.f0, .string x.f1, .int .i64 x.f2] 74))
  have HX0 := Aside0.mk (heap_alloc_new w (Obj.cells #[.string x.f0, .string x.f1, .int .i64 x.f2] 74))
  have HR0 := Aside0.mk (Kd.C_below hr0 HB0.out)
  have HSM := Aside0.mk (srt_mono hs x)
  have HIN := Aside0.mk (stIns_at x l0)
  clear hr0 hs
  go_enter Try.func79, Try.ntmps79
  go_wp2_with fail
  refine (slices_Clone_Entry.walk A0 c0 l0 _ HR0.out (by omega)).mono ?_
  rintro e w1 ⟨v1, rfl, hr1, hb1⟩
  rw [World.size_alloc] at hr1 hb1
  have HX1 := Aside0.mk ((hb1.block w.heap.size (by omega)).trans HX0.out)
  have HB1 := Aside0.mk (below_then HB0.out (by simp) (by rw [World.size_alloc]; exact hb1))
  have hsz1 : w.heap.size + 1 ≤ w1.heap.size := Nat.le_trans (by simp) hb1.size
  have HO1 := Aside0.mk (Kd.R_mono (Kd.R_lower (Kd.R_bound hr1) (Nat.le_succ w.heap.size)) (fun k hk => (show k ≠ w.heap.size by have := hk.2.1; omega)))
  obtain ⟨A1, c1, rfl, hlc1, hC1⟩ := Kd.R_reads hr1
  have HC1 := Aside0.mk hC1
  clear hr1 hC1 hb1 HR0 HX0 HB0
  have hx0 : w1.cell? ⟨w.heap.size, 0, none⟩ = some (.string x.f0) := (blk_cell HX1.out 0).trans rfl
  have hx1 : w1.cell? ⟨w.heap.size, 1, none⟩ = some (.string x.f1) := (blk_cell HX1.out 1).trans rfl
  have hx2 : w1.cell? ⟨w.heap.size, 2, none⟩ = some (.int .i64 x.f2) := (blk_cell HX1.out 2).trans rfl
  go_wp2_with fail
  refine (slices_BinarySearchFunc_Entry.calls 110 (enters_of Try.func110 (by kernel_rfl) rfl) cmpE A1 c1 l0 x w1 HC1.out HSM.out (fun a b W _ => state_compare.calls 3 a.f0 a.f1 a.f2 b.f0 b.f1 b.f2 (cmpE a b) W (cmpE_of a b)) (by omega)).mono ?_
  rintro e w2 ⟨i, hat, rfl, hb2⟩
  rw [hat] at HIN
  have hil : i ≤ l0.length := by rw [← hat]; exact (List.takeWhile_prefix _).length_le
  have HX2 := Aside0.mk ((hb2.block w.heap.size (by omega)).trans HX1.out)
  have HB2 := Aside0.mk (below_then HB1.out (by omega) hb2)
  have HO2 := Aside0.mk (Kd.R_below HO1.out hb2)
  have hsz2 : w.heap.size + 1 ≤ w2.heap.size := Nat.le_trans hsz1 hb2.size
  clear hat hx0 hx1 hx2 HX1 HB1 HO1 HC1 hb2 HSM
  have hx0 : w2.cell? ⟨w.heap.size, 0, none⟩ = some (.string x.f0) := (blk_cell HX2.out 0).trans rfl
  have hx1 : w2.cell? ⟨w.heap.size, 1, none⟩ = some (.string x.f1) := (blk_cell HX2.out 1).trans rfl
  have hx2 : w2.cell? ⟨w.heap.size, 2, none⟩ = some (.int .i64 x.f2) := (blk_cell HX2.out 2).trans rfl
  cases hf : (decide (i < l0.length) && cmpE (rd_T74 l0 i) x == 0) with
  | true =>
    simp only [Bool.and_eq_true, decide_eq_true_eq, beq_iff_eq] at hf
    have HIN' := HIN.out
    rw [if_pos hf] at HIN'
    have HE := Aside0.mk HIN'
    obtain ⟨hlt, _⟩ := hf
    clear HIN HIN'
    have hltz : (i : Int) < (l0.length : Int) := by omega
    obtain ⟨hown, hok⟩ := Flat.own flatE HO2.out
    obtain ⟨g, cap, he, _⟩ := hown.form (by omega)
    cases he
    have hgx : g ≠ w.heap.size := hok g rfl
    obtain ⟨ce, hcl, hM, hcc, hfr⟩ := Kd.R_elem HO2.out z74 (i : Int) (by omega) hltz
    obtain rfl := k74_openM hM
    have hy0 : w2.cell? ⟨g, i * 3, none⟩ = some (.string (rd_T74 l0 i).f0) := hcc 0 _ rfl
    have hy1 : w2.cell? ⟨g, i * 3 + 1, none⟩ = some (.string (rd_T74 l0 i).f1) := hcc 1 _ rfl
    have hy2 : w2.cell? ⟨g, i * 3 + 2, none⟩ = some (.int .i64 (rd_T74 l0 i).f2) := hcc 2 _ rfl
    have hz0 : w2.frozen? ⟨g, i * 3, none⟩ = false := hfr 0
    have hz1 : w2.frozen? ⟨g, i * 3 + 1, none⟩ = false := hfr 1
    have hz2 : w2.frozen? ⟨g, i * 3 + 2, none⟩ = false := hfr 2
    have hP := Kd.R_seg HO2.out (i : Int) (by omega) hltz (seg := encE x) (j := 0) hcl hcc (show 3 ≤ 3 from by decide) (x' := x) (k74_mkM _ _ _ x) (fun _ hk => hk)
    have hown1 := own_base hown g rfl
    have HR := Aside0.mk hP.1
    have HBE := Aside0.mk (HB2.out.grown hP.2 (by omega) (fun k hk => by cases hk; exact hown1))
    simp only [encE, World.setCells, show k74.sz = 3 from rfl, Nat.add_zero, Int.toNat_natCast, Nat.add_assoc, Nat.reduceAdd] at HR HBE
    clear hP hcl hM hcc hfr hown hok
    go_wp2
    go_ret
    refine ⟨_, rfl, ?_, HBE.out⟩
    rw [HE.out]
    exact Kd.R_mono HR.out (fun _ _ => trivial)
  | false =>
    have HIN' := HIN.out
    rw [if_neg (by intro h; simp [h.1, h.2] at hf)] at HIN'
    have HE := Aside0.mk HIN'
    clear HIN HIN' hf
    have HX3 := Aside0.mk (heap_alloc_new w2 (Obj.cells #[.string x.f0, .string x.f1, .int .i64 x.f2] 74))
    have hb3 := (Below.refl w2.heap.size w2).alloc (Nat.le_refl _) (Obj.cells #[.string x.f0, .string x.f1, .int .i64 x.f2] 74)
    have HB3 := Aside0.mk (below_then HB2.out (by omega) hb3)
    have HO3 := Aside0.mk (Kd.R_mono (Kd.R_below (Kd.R_bound HO2.out) hb3) (fun k hk => (show k ≠ w2.heap.size by have := hk.2.2.1; omega)))
    clear hb3
    go_wp2_with (go_at_call 112; refine (slices_Insert_Entry.calls (.slice A1 l0.length c1) l0 i hil w2.heap.size x w _ HB3.out (by simp; omega) HO3.out HX3.out hlim).mono ?_; rintro e w4 ⟨v4, rfl, hr4, hb4⟩)
    go_ret
    exact ⟨_, rfl, by rw [HE.out]; exact hr4, hb4⟩
def state_Put.f (l0 : List S74) (a1_0 a1_1 : ByteArray) (a1_2 : Int) : Option (List S74) := if srtB l0 = true ∧ l0.length < 3518437208882 then some (stIns ⟨a1_0, a1_1, a1_2⟩ l0) else none
theorem state_Put.calls (A0 : Option Addr) (c0 : Nat) (l0 : List S74) (a1_0 a1_1 : ByteArray) (a1_2 : Int) (r : List S74) (w : World) (hr0 : Kd.C k74 w A0 l0.length l0) (hc0 : l0.length ≤ c0) (h : state_Put.f l0 a1_0 a1_1 a1_2 = some r) :
    Calls Try.prog 79 #[.slice A0 l0.length c0, .agg #[.string a1_0, .string a1_1, .int .i64 a1_2]] w fun e w' => ∃ v0_ : Value, e = .returned (v0_) ∧ Kd.R k74 74 w' w.heap.size (fun _ => True) v0_ r ∧ Below w.heap.size w w' := by
  unfold state_Put.f at h
  split at h
  · rename_i hc
    obtain rfl := Option.some.inj h
    exact state_Put.walk A0 c0 l0 ⟨a1_0, a1_1, a1_2⟩ w hr0 hc0 (srtB_iff.1 hc.1) hc.2
  · cases h

/-! ### heliastlaw13_known: function 43 -/
def heliastlaw13_known.f (k : Nat)  : Option (Bool) := (some (([(⟨(⟨#[109, 46, 114, 111, 111, 109, 46, 99, 114, 101, 97, 116, 101]⟩ : ByteArray), (⟨#[]⟩ : ByteArray), 0⟩ : S74)] : List (S74)) : List (S74))).bind fun y117 => ((state_Get.f y117 (⟨#[109, 46, 114, 111, 111, 109, 46, 99, 114, 101, 97, 116, 101]⟩ : ByteArray) (⟨#[]⟩ : ByteArray)).bind fun t120 => (if t120 = 0 then ((state_Get.f y117 (⟨#[120]⟩ : ByteArray) (⟨#[]⟩ : ByteArray)).bind fun t121 => (if t121 = (-1) then ((state_Right.f k y117).bind fun t122 => (if t122 = true then ((state_Put.f y117 (⟨#[97]⟩ : ByteArray) (⟨#[]⟩ : ByteArray) 3).bind fun t123 => (some ((t123.length : Int) == 2))) else (some false))) else (some false))) else (some false)))
theorem heliastlaw13_known.mono : ∀ k, LeO (heliastlaw13_known.f k ) (heliastlaw13_known.f (k + 1) ) := by
  intro  k
  unfold heliastlaw13_known.f
  repeat' first
      | (with_reducible exact state_Right.mono _ _)
      | (with_reducible exact LeO.refl _)
      | (with_reducible exact LeO.none _)
      | (with_reducible refine LeO.ite ?_ ?_)
      | (with_reducible refine LeO.bind ?_ (fun _ => ?_))
      | exact state_Right.mono _ _
      | exact LeO.none _
      | refine LeO.ite ?_ ?_
      | refine LeO.bind ?_ (fun _ => ?_)
set_option maxHeartbeats 8000000 in
set_option maxRecDepth 100000 in
theorem heliastlaw13_known.calls (k : Nat)  (r : Bool) (w : World) (h : heliastlaw13_known.f k  = some r) (hlaw : r = true) :
    Calls Try.prog 43 #[] w fun e w' => e = .returned (.bool r) ∧ Below w.heap.size w w' := by
  have hu74 := Try.underlying74
  have HLAW := Aside0.mk hlaw
  clear hlaw
  have HB := Aside0.mk (Below.refl w.heap.size w)
  have H : ((some (([(⟨(⟨#[109, 46, 114, 111, 111, 109, 46, 99, 114, 101, 97, 116, 101]⟩ : ByteArray), (⟨#[]⟩ : ByteArray), 0⟩ : S74)] : List (S74)) : List (S74))).bind fun y117 => ((state_Get.f y117 (⟨#[109, 46, 114, 111, 111, 109, 46, 99, 114, 101, 97, 116, 101]⟩ : ByteArray) (⟨#[]⟩ : ByteArray)).bind fun t120 => (if t120 = 0 then ((state_Get.f y117 (⟨#[120]⟩ : ByteArray) (⟨#[]⟩ : ByteArray)).bind fun t121 => (if t121 = (-1) then ((state_Right.f k y117).bind fun t122 => (if t122 = true then ((state_Put.f y117 (⟨#[97]⟩ : ByteArray) (⟨#[]⟩ : ByteArray) 3).bind fun t123 => (some ((t123.length : Int) == 2))) else (some false))) else (some false))) else (some false)))) = some r := h
  clear h
  obtain ⟨y117, hy117⟩ : ∃ y_ : List (S74), y_ = (([(⟨(⟨#[109, 46, 114, 111, 111, 109, 46, 99, 114, 101, 97, 116, 101]⟩ : ByteArray), (⟨#[]⟩ : ByteArray), 0⟩ : S74)] : List (S74))) := ⟨_, rfl⟩
  replace H : ((state_Get.f y117 (⟨#[109, 46, 114, 111, 111, 109, 46, 99, 114, 101, 97, 116, 101]⟩ : ByteArray) (⟨#[]⟩ : ByteArray)).bind fun t120 => (if t120 = 0 then ((state_Get.f y117 (⟨#[120]⟩ : ByteArray) (⟨#[]⟩ : ByteArray)).bind fun t121 => (if t121 = (-1) then ((state_Right.f k y117).bind fun t122 => (if t122 = true then ((state_Put.f y117 (⟨#[97]⟩ : ByteArray) (⟨#[]⟩ : ByteArray) 3).bind fun t123 => (some ((t123.length : Int) == 2))) else (some false))) else (some false))) else (some false))) = some r := by first | (rw [hy117]; with_reducible exact H) | (have H2_ := (Option.bind_some _ _).symm.trans H; rw [hy117]; with_reducible exact H2_) | (have H2_ := (Option.bind_some _ _).symm.trans H; with_reducible exact H2_) | with_reducible exact H | (rw [hy117]; exact H) | exact H
  have Ny117 := Aside0.mk hy117
  clear hy117
  replace H := Option.bind_eq_some_iff.mp H
  obtain ⟨t120, A10, H⟩ := H
  replace H : (if t120 = 0 then ((state_Get.f y117 (⟨#[120]⟩ : ByteArray) (⟨#[]⟩ : ByteArray)).bind fun t121 => (if t121 = (-1) then ((state_Right.f k y117).bind fun t122 => (if t122 = true then ((state_Put.f y117 (⟨#[97]⟩ : ByteArray) (⟨#[]⟩ : ByteArray) 3).bind fun t123 => (some ((t123.length : Int) == 2))) else (some false))) else (some false))) else (some false)) = some r := H
  have A1 := Aside0.mk A10
  clear A10
  by_cases c2 : t120 = 0
  · rw [if_pos c2] at H
    have c2b0 : (t120 == 0) = true := beq_iff_eq.mpr c2
    have c2b1 : (t120 != 0) = false := bne_eq_false_iff_eq.mpr c2
    clear c2
    replace H := Option.bind_eq_some_iff.mp H
    obtain ⟨t121, A30, H⟩ := H
    replace H : (if t121 = (-1) then ((state_Right.f k y117).bind fun t122 => (if t122 = true then ((state_Put.f y117 (⟨#[97]⟩ : ByteArray) (⟨#[]⟩ : ByteArray) 3).bind fun t123 => (some ((t123.length : Int) == 2))) else (some false))) else (some false)) = some r := H
    have A3 := Aside0.mk A30
    clear A30
    by_cases c4 : t121 = (-1)
    · rw [if_pos c4] at H
      have c4b0 : (t121 == (-1)) = true := beq_iff_eq.mpr c4
      have c4b1 : (t121 != (-1)) = false := bne_eq_false_iff_eq.mpr c4
      clear c4
      replace H := Option.bind_eq_some_iff.mp H
      obtain ⟨t122, A50, H⟩ := H
      replace H : (if t122 = true then ((state_Put.f y117 (⟨#[97]⟩ : ByteArray) (⟨#[]⟩ : ByteArray) 3).bind fun t123 => (some ((t123.length : Int) == 2))) else (some false)) = some r := H
      have A5 := Aside0.mk A50
      clear A50
      by_cases c6 : t122 = true
      · subst c6
        have H1 : ((state_Put.f y117 (⟨#[97]⟩ : ByteArray) (⟨#[]⟩ : ByteArray) 3).bind fun t123 => (some ((t123.length : Int) == 2))) = some r := by rw [if_pos rfl] at H; exact H
        clear H
        have H := H1
        clear H1
        replace H := Option.bind_eq_some_iff.mp H
        obtain ⟨t123, A70, H⟩ := H
        replace H : (some ((t123.length : Int) == 2)) = some r := H
        have A7 := Aside0.mk A70
        clear A70
        obtain rfl := Option.some.inj H
        go_enter Try.func43, Try.ntmps43
        go_wp2_with (first | ((with_reducible refine gate_dst (N := 3) rfl ?_); (try (refine gate_guard (by rfl) ?_; dsimp only)); refine Kd.R_lit k74 _ 74 ?hg (N := 3) ?hd (xs := ([(⟨(⟨#[109, 46, 114, 111, 111, 109, 46, 99, 114, 101, 97, 116, 101]⟩ : ByteArray), (⟨#[]⟩ : ByteArray), 0⟩ : S74)] : List (S74))) (inner := [.string (⟨#[109, 46, 114, 111, 111, 109, 46, 99, 114, 101, 97, 116, 101]⟩ : ByteArray), .string (⟨#[]⟩ : ByteArray), .int .i64 0]) (ok := fun _ => True) (okp := fun _ => True) ?hr ?hp (fun _ hk => hk) trivial (Below.refl _ _) (Nat.le_refl _) (by simp) ?_; (case hd => rfl); (case hg => rfl); (case hr => first | (go_simp; done) | (go_simp; rfl)); (case hp => exact (Reps.c3 (show Kd.M k74 _ _ _ (⟨(⟨#[109, 46, 114, 111, 111, 109, 46, 99, 114, 101, 97, 116, 101]⟩ : ByteArray), (⟨#[]⟩ : ByteArray), 0⟩ : S74) [.string (⟨#[109, 46, 114, 111, 111, 109, 46, 99, 114, 101, 97, 116, 101]⟩ : ByteArray), .string (⟨#[]⟩ : ByteArray), .int .i64 0] from (k74_mkM _ _ _ (⟨(⟨#[109, 46, 114, 111, 111, 109, 46, 99, 114, 101, 97, 116, 101]⟩ : ByteArray), (⟨#[]⟩ : ByteArray), 0⟩ : S74) )) (Reps.none _ _))); intro v118 w8 ho9 hb hg_ hnew_; clear hg_ hnew_; (first | rw [← Ny117.out] at ho9 | (simp only [Int.reduceToNat] at ho9; rw [← Ny117.out] at ho9)); have n0_ := Aside0.mk (Kd.R_lower ho9 (below_size (by repeat (first | (with_reducible first | exact HB.out | apply below_alloc | apply pw_below_drewN | apply below_drew1) | exact HB.out)))); have n1_ := Aside0.mk (below_step (by repeat (first | (with_reducible first | exact HB.out | apply below_alloc | apply pw_below_drewN | apply below_drew1) | exact HB.out)) hb); clear HB; have HO119 := n0_; have HB := n1_; clear n0_ n1_; clear hb ho9; obtain ⟨Ao10, co10, eo10⟩ := Kd.R_slice HO119.out; subst eo10) | ((with_reducible refine gate_callee (f := 77) rfl ?_); refine goesL_ (some 5) rfl rfl Try.func77 (by kernel_rfl) rfl #[.slice Ao10 y117.length co10, .string (⟨#[109, 46, 114, 111, 111, 109, 46, 99, 114, 101, 97, 116, 101]⟩ : ByteArray), .string (⟨#[]⟩ : ByteArray)] rfl (by (try simp only [List.map_toArray, List.map_cons, List.map_nil]); first | done | rfl | (simp only [List.length_drop, List.length_take]; rfl)) ?_; (with_reducible refine (state_Get.calls _ _ y117 (⟨#[109, 46, 114, 111, 111, 109, 46, 99, 114, 101, 97, 116, 101]⟩ : ByteArray) (⟨#[]⟩ : ByteArray) t120 _ ?side1 ?side2 A1.out).mono ?_); (case side1 => repeat (first | exact (Kd.R_reads' HO119.out).2.2 | (with_reducible refine Kd.C_alloc ?_ _) | (with_reducible refine Kd.C_drewN ?_ _) | (with_reducible refine Kd.C_drew ?_))); (case side2 => exact (Kd.R_reads' HO119.out).2.1); rintro e w11 ⟨rfl, hb⟩; refine ⟨_, rfl, ?_⟩; have n0_ := Aside0.mk (Kd.R_below (by (with_reducible repeat (first | apply Kd.R_alloc | apply Kd.R_drewN | apply Kd.R_drew)); exact HO119.out) hb); have n1_ := Aside0.mk (below_step (by repeat (first | (with_reducible first | exact HB.out | apply below_alloc | apply pw_below_drewN | apply below_drew1) | exact HB.out)) hb); clear HO119; clear HB; have HO119 := n0_; have HB := n1_; clear n0_ n1_; (try clear hb); (try clear hb2); (try clear hk); (try clear hi)) | (go_at_call 77; (with_reducible refine (state_Get.calls _ _ y117 (⟨#[120]⟩ : ByteArray) (⟨#[]⟩ : ByteArray) t121 _ ?side1 ?side2 A3.out).mono ?_); (case side1 => repeat (first | exact (Kd.R_reads' HO119.out).2.2 | (with_reducible refine Kd.C_alloc ?_ _) | (with_reducible refine Kd.C_drewN ?_ _) | (with_reducible refine Kd.C_drew ?_))); (case side2 => exact (Kd.R_reads' HO119.out).2.1); rintro e w12 ⟨rfl, hb⟩; have n0_ := Aside0.mk (Kd.R_below (by (with_reducible repeat (first | apply Kd.R_alloc | apply Kd.R_drewN | apply Kd.R_drew)); exact HO119.out) hb); have n1_ := Aside0.mk (below_step (by repeat (first | (with_reducible first | exact HB.out | apply below_alloc | apply pw_below_drewN | apply below_drew1) | exact HB.out)) hb); clear HO119; clear HB; have HO119 := n0_; have HB := n1_; clear n0_ n1_; (try clear hb); (try clear hb2); (try clear hk); (try clear hi)) | (go_at_call 78; (with_reducible refine (state_Right.calls k _ _ y117 true _ ?side1 ?side2 A5.out).mono ?_); (case side1 => repeat (first | exact (Kd.R_reads' HO119.out).2.2 | (with_reducible refine Kd.C_alloc ?_ _) | (with_reducible refine Kd.C_drewN ?_ _) | (with_reducible refine Kd.C_drew ?_))); (case side2 => exact (Kd.R_reads' HO119.out).2.1); rintro e w13 ⟨rfl, hb⟩; have n0_ := Aside0.mk (Kd.R_below (by (with_reducible repeat (first | apply Kd.R_alloc | apply Kd.R_drewN | apply Kd.R_drew)); exact HO119.out) hb); have n1_ := Aside0.mk (below_step (by repeat (first | (with_reducible first | exact HB.out | apply below_alloc | apply pw_below_drewN | apply below_drew1) | exact HB.out)) hb); clear HO119; clear HB; have HO119 := n0_; have HB := n1_; clear n0_ n1_; (try clear hb); (try clear hb2); (try clear hk); (try clear hi)) | (go_at_call 79; (with_reducible refine (state_Put.calls _ _ y117 (⟨#[97]⟩ : ByteArray) (⟨#[]⟩ : ByteArray) 3 t123 _ ?side1 ?side2 A7.out).mono ?_); (case side1 => repeat (first | exact (Kd.R_reads' HO119.out).2.2 | (with_reducible refine Kd.C_alloc ?_ _) | (with_reducible refine Kd.C_drewN ?_ _) | (with_reducible refine Kd.C_drew ?_))); (case side2 => exact (Kd.R_reads' HO119.out).2.1); rintro e w14 ⟨v124, rfl, ho0, hb⟩; have n0_ := Aside0.mk (Kd.R_elder' (by (with_reducible repeat (first | apply Kd.R_alloc | apply Kd.R_drewN | apply Kd.R_drew)); exact HO119.out) (Kd.R_base ho0) hb); have n1_ := Aside0.mk (Kd.R_lower (Kd.R_new' ho0 (Kd.R_lt (by (with_reducible repeat (first | apply Kd.R_alloc | apply Kd.R_drewN | apply Kd.R_drew)); exact HO119.out))) (below_size (by repeat (first | (with_reducible first | exact HB.out | apply below_alloc | apply pw_below_drewN | apply below_drew1) | exact HB.out)))); have n2_ := Aside0.mk (below_step (by repeat (first | (with_reducible first | exact HB.out | apply below_alloc | apply pw_below_drewN | apply below_drew1) | exact HB.out)) hb); clear HO119; clear HB; have HO119 := n0_; have HO125 := n1_; have HB := n2_; clear n0_ n1_ n2_; (try clear hb); (try clear hb2); (try clear hk); (try clear hi); (try clear ho0); obtain ⟨Ao15, co15, eo15⟩ := Kd.R_slice HO125.out; subst eo15))
        go_ret
        exact ⟨by first | rfl | (simp [errW_none, errW_some] <;> rfl) | (simp [*, errW_none, errW_some] <;> rfl), by repeat (first | (with_reducible first | exact HB.out | apply below_alloc | apply pw_below_drewN | apply below_drew1) | exact HB.out)⟩
      · replace c6 := Bool.eq_false_iff.mpr c6
        subst c6
        have H1 : (some false) = some r := by rw [if_neg (show ¬ (false = true) by decide)] at H; exact H
        clear H
        have H := H1
        clear H1
        exact absurd ((Option.some.inj H).trans HLAW.out) (by decide)
    · rw [if_neg c4] at H
      have c4b0 : (t121 == (-1)) = false := beq_eq_false_iff_ne.mpr c4
      have c4b1 : (t121 != (-1)) = true := bne_iff_ne.mpr c4
      exact absurd ((Option.some.inj H).trans HLAW.out) (by decide)
  · rw [if_neg c2] at H
    have c2b0 : (t120 == 0) = false := beq_eq_false_iff_ne.mpr c2
    have c2b1 : (t120 != 0) = true := bne_iff_ne.mpr c2
    exact absurd ((Option.some.inj H).trans HLAW.out) (by decide)

end Go.Proofs.Ytbldllghkfgkeaa.S

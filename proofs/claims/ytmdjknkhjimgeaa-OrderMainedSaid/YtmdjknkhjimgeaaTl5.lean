/- Parts of the walk and of the plain law, joined for this claim alone by a program of this session. -/
import Derived.Test.YtmdjknkhjimgeaaTl1
import Derived.Test.YtmdjknkhjimgeaaTl0
import Derived.Test.YtmdjknkhjimgeaaTl2
import Derived.Test.YtmdjknkhjimgeaaTl3
import Derived.Test.YtmdjknkhjimgeaaTl4
section
namespace Go.Proofs.Ytmdjknkhjimgeaa.S
open Go.RowKit Go.Proofs.YtmdjknkhjimgeaaW.PrintWords Go.Proofs.YtmdjknkhjimgeaaW.PrintLast Go.Proofs.YtmdjknkhjimgeaaW.PrintMore
attribute [local go_sem] max2_int min2_int max_two min_two max_three min_three max_four min_four
set_option linter.unusedVariables false
set_option linter.unusedSimpArgs false
open Go.Proofs.He
open Go.Shelf in
structure Tn where
  by_ : Int
  tm : Int
  id : ByteArray
  n : Int
instance : Inhabited Tn := ⟨⟨0, 0, ⟨#[]⟩, 0⟩⟩
def encT (x : Tn) : List Value := [.int .i64 x.by_, .int .i64 x.tm, .string x.id, .int .i64 x.n]
theorem encT_one (x : Tn) : ∀ u ∈ encT x, u.oneCell' = true := fun u hu => by simp [encT] at hu; rcases hu with rfl | rfl | rfl | rfl <;> rfl
def kTn : Kd Tn := kdFlat 4 encT (fun _ => rfl) encT_one
theorem flatT : Flat kTn encT := flat_kdFlat 4 encT (fun _ => rfl) encT_one
set_option maxHeartbeats 1000000 in
theorem c64NaN.walk (x : Int) (w : World) : Calls Try.prog 150 #[.int .i64 x] w fun e w' => e = .returned (.bool false) ∧ w' = w := by
  go_enter Try.func150, Try.ntmps150
  go_wp2
  go_ret
  exact ⟨by simp, rfl⟩
set_option maxHeartbeats 1000000 in
theorem c64Cmp.walk (x y : Int) (w : World) : Calls Try.prog 118 #[.int .i64 x, .int .i64 y] w fun e w' => e = .returned (.int .i64 (Lib.compareInt x y)) ∧ w' = w := by
  go_enter Try.func118, Try.ntmps118
  go_wp2_with (go_at_call 150; refine (c64NaN.walk _ _).mono ?_; rintro e w' ⟨rfl, rfl⟩)
  all_goals (go_ret; refine ⟨?_, rfl⟩; unfold Lib.compareInt; (repeat' split) <;> first | rfl | (exfalso; omega))
set_option maxHeartbeats 1000000 in
theorem c0NaN.walk (x : Int) (w : World) : Calls Try.prog 152 #[.int .i64 x] w fun e w' => e = .returned (.bool false) ∧ w' = w := by
  go_enter Try.func152, Try.ntmps152
  go_wp2
  go_ret
  exact ⟨by simp, rfl⟩
set_option maxHeartbeats 1000000 in
theorem c0Cmp.walk (x y : Int) (w : World) : Calls Try.prog 120 #[.int .i64 x, .int .i64 y] w fun e w' => e = .returned (.int .i64 (Lib.compareInt x y)) ∧ w' = w := by
  go_enter Try.func120, Try.ntmps120
  go_wp2_with (go_at_call 152; refine (c0NaN.walk _ _).mono ?_; rintro e w' ⟨rfl, rfl⟩)
  all_goals (go_ret; refine ⟨?_, rfl⟩; unfold Lib.compareInt; (repeat' split) <;> first | rfl | (exfalso; omega))
set_option maxHeartbeats 1000000 in
theorem cSNaN.walk (x : ByteArray) (w : World) : Calls Try.prog 151 #[.string x] w fun e w' => e = .returned (.bool false) ∧ w' = w := by
  go_enter Try.func151, Try.ntmps151
  go_wp2
  go_ret
  exact ⟨by simp, rfl⟩
set_option maxHeartbeats 1000000 in
theorem cSCmp.walk (x y : ByteArray) (w : World) : Calls Try.prog 119 #[.string x, .string y] w fun e w' => e = .returned (.int .i64 (cmpS x y)) ∧ w' = w := by
  go_enter Try.func119, Try.ntmps119
  go_wp2_with (go_at_call 151; refine (cSNaN.walk _ _).mono ?_; rintro e w' ⟨rfl, rfl⟩)
  all_goals (go_ret; refine ⟨?_, rfl⟩; simp only [bytesLess_eq, decide_eq_true_eq, decide_eq_false_iff_not] at *; unfold cmpS; (repeat' split) <;> first | rfl | (exfalso; simp_all; done))
def orT (l : List Int) : Int := (l.find? (fun x => decide (x ≠ 0))).getD 0
theorem orT_hit {l : List Int} {j : Nat} (hj : j < l.length) (h : ∀ i, i < j → rd l i = 0) (hx : rd l j ≠ 0) : orT l = rd l j := by
  have e : rd l j = l[j] := by simp [rd, hj]
  unfold orT
  have : l.find? (fun x => decide (x ≠ 0)) = some l[j] := by
    rw [List.find?_eq_some_iff_getElem]
    refine ⟨by rw [← e]; simpa using hx, j, hj, rfl, fun i hi => ?_⟩
    have := h i hi
    have e2 : rd l i = l[i] := by simp [rd, show i < l.length by omega]
    rw [e2] at this
    simp [this]
  rw [this, e]; rfl
theorem orT_miss {l : List Int} (h : ∀ i, i < l.length → rd l i = 0) : orT l = 0 := by
  unfold orT
  have : l.find? (fun x => decide (x ≠ 0)) = none := by
    rw [List.find?_eq_none]
    intro x hx
    obtain ⟨i, hi, rfl⟩ := List.getElem_of_mem hx
    have := h i hi
    have e2 : rd l i = l[i] := by simp [rd, hi]
    rw [e2] at this
    simp [this]
  rw [this]; rfl
set_option maxHeartbeats 2000000 in
theorem cmp_OrT.walk (A : Option Addr) (c : Nat) (l : List Int) (w : World) (hr : Kd.C (Kd.int .i64) w A l.length l) :
    Calls Try.prog 117 #[.slice A l.length c] w fun e w' => e = .returned (.int .i64 (orT l)) ∧ w' = w := by
  have hlen : l.length ≤ 9223372036854775807 := hr.2.1
  have HR := Aside0.mk hr
  clear hr
  go_enter Try.func117, Try.ntmps117
  go_wp2
  go_loop [8] (fun v => ∃ j : Nat, v = .int .i64 j ∧ j ≤ l.length ∧ Aside0 (∀ i, i < j → rd l i = 0)) (fun v => l.length - (intOf v).toNat)
  case atStart => exact ⟨0, rfl, Nat.zero_le _, ⟨fun i hi => absurd hi (Nat.not_lt_zero _)⟩⟩
  case round =>
    obtain ⟨j, rfl, hj, HN⟩ := hrel
    by_cases hlt : j < l.length
    · obtain ⟨ad, e, hx⟩ := Kd.at_int HR.out (j : Int) (by omega) (by omega)
      cases e
      obtain ⟨x, hxd⟩ : ∃ x, x = rd l j := ⟨_, rfl⟩
      rw [← hxd, Int.toNat_natCast] at hx
      have HX := Aside0.mk hxd
      clear hxd
      by_cases h0 : x = 0
      · have HZ := Aside0.mk h0
        subst h0
        go_wp2
        go_round
        case rel => exact ⟨j + 1, by go_num, by omega, ⟨fun i hi => by
          by_cases e : i = j
          · rw [e, ← HX.out]
          · exact HN.out i (by omega)⟩⟩
        case measure => simp [intOf]; omega
      · have hb1 : (x != 0) = true := bne_iff_ne.mpr h0
        have hb2 : (x == 0) = false := beq_eq_false_iff_ne.mpr h0
        have HZ := Aside0.mk h0
        clear h0
        go_wp2
        go_ret
        exact ⟨by rw [orT_hit hlt HN.out (by rw [← HX.out]; exact HZ.out), ← HX.out]; rfl, rfl⟩
    · have hjl : j = l.length := by omega
      go_wp2
      go_ret
      exact ⟨by rw [orT_miss (fun i hi => HN.out i (by omega))]; rfl, rfl⟩
theorem or4.walk (a b c d : Int) (W : World) : Calls Try.prog 117 #[.slice (some ⟨W.heap.size, 0, none⟩) 4 4] (W.alloc (.cells #[.int .i64 a, .int .i64 b, .int .i64 c, .int .i64 d] 3)).drew fun e w' => e = .returned (.int .i64 (orT [a, b, c, d])) ∧ w' = (W.alloc (.cells #[.int .i64 a, .int .i64 b, .int .i64 c, .int .i64 d] 3)).drew := by
  refine cmp_OrT.walk (some ⟨W.heap.size, 0, none⟩) 4 [a, b, c, d] _ (Flat.C_mk (flatScalar (Value.int .i64) (fun _ => rfl)) (by simp) (fun j u hj => ?_))
  have hb : (W.alloc (Obj.cells #[.int .i64 a, .int .i64 b, .int .i64 c, .int .i64 d] 3)).drew.heap[W.heap.size]? = _ := heap_alloc_new W (Obj.cells #[.int .i64 a, .int .i64 b, .int .i64 c, .int .i64 d] 3)
  have hj' : ([Value.int .i64 a, Value.int .i64 b, Value.int .i64 c, Value.int .i64 d])[j]? = some u := hj
  have hadd : (⟨W.heap.size, 0, none⟩ : Addr).add j = ⟨W.heap.size, 0 + j, none⟩ := by unfold Addr.add; split <;> simp_all
  rw [hadd]
  have : (#[Value.int .i64 a, Value.int .i64 b, Value.int .i64 c, Value.int .i64 d] : Array Value)[0 + j]? = some u := by rw [Nat.zero_add]; simpa using hj'
  unfold World.cell?
  rw [hb]
  exact this
def tnC (x y : Tn) : Int := orT [Lib.compareInt y.by_ x.by_, Lib.compareInt x.tm y.tm, cmpS x.id y.id, Lib.compareInt x.n y.n]
def TnLt (x y : Tn) : Prop := y.by_ < x.by_ ∨ x.by_ = y.by_ ∧ (x.tm < y.tm ∨ x.tm = y.tm ∧ (x.id.toList < y.id.toList ∨ x.id.toList = y.id.toList ∧ x.n < y.n))
theorem tnC_neg {x y : Tn} : tnC x y < 0 ↔ TnLt x y := by
  unfold tnC orT TnLt
  by_cases h1 : y.by_ < x.by_
  · simp [Lib.compareInt, h1]
  by_cases h2 : x.by_ < y.by_
  · have : ¬ x.by_ = y.by_ := by omega
    simp [Lib.compareInt, h1, h2, this]
  have e1 : x.by_ = y.by_ := by omega
  by_cases h3 : x.tm < y.tm
  · simp [Lib.compareInt, e1, h3]
  by_cases h4 : y.tm < x.tm
  · have : ¬ x.tm = y.tm := by omega
    simp [Lib.compareInt, e1, h3, h4, this]
  have e2 : x.tm = y.tm := by omega
  by_cases h5 : x.id.toList < y.id.toList
  · simp [Lib.compareInt, cmpS, e1, e2, h5]
  by_cases h6 : y.id.toList < x.id.toList
  · have : ¬ x.id.toList = y.id.toList := fun e => List.lt_irrefl _ (e ▸ h6)
    simp [Lib.compareInt, cmpS, e1, e2, h5, h6, this]
  have e3 : x.id.toList = y.id.toList := by
    rcases List.le_iff_lt_or_eq.1 (List.not_lt.1 h5) with h | h
    · exact absurd h h6
    · exact h.symm
  by_cases h7 : x.n < y.n
  · simp [Lib.compareInt, cmpS, e1, e2, e3, h7, List.lt_irrefl]
  by_cases h8 : y.n < x.n
  · simp [Lib.compareInt, cmpS, e1, e2, e3, h7, h8, List.lt_irrefl]
  · simp [Lib.compareInt, cmpS, e1, e2, e3, h7, h8, List.lt_irrefl]
theorem TnLt.irrefl (x : Tn) : ¬ TnLt x x := by
  rintro (h | ⟨_, h | ⟨_, h | ⟨_, h⟩⟩⟩)
  · omega
  · omega
  · exact List.lt_irrefl _ h
  · omega
theorem TnLt.trans {x y z : Tn} (h1 : TnLt x y) (h2 : TnLt y z) : TnLt x z := by
  rcases h1 with h | ⟨e1, h | ⟨e2, h | ⟨e3, h⟩⟩⟩ <;> rcases h2 with k | ⟨f1, k | ⟨f2, k | ⟨f3, k⟩⟩⟩
  all_goals first
    | exact .inl (by omega)
    | exact .inr ⟨by omega, .inl (by omega)⟩
    | exact .inr ⟨by omega, .inr ⟨by omega, .inl (List.lt_trans h k)⟩⟩
    | exact .inr ⟨by omega, .inr ⟨by omega, .inl (f3 ▸ h)⟩⟩
    | exact .inr ⟨by omega, .inr ⟨by omega, .inl (e3 ▸ k)⟩⟩
    | exact .inr ⟨by omega, .inr ⟨by omega, .inr ⟨e3.trans f3, by omega⟩⟩⟩
theorem TnLt.tri (x y : Tn) : TnLt x y ∨ x = y ∨ TnLt y x := by
  unfold TnLt
  rcases Int.lt_trichotomy x.by_ y.by_ with h1 | h1 | h1
  · exact .inr (.inr (.inl h1))
  · rcases Int.lt_trichotomy x.tm y.tm with h2 | h2 | h2
    · exact .inl (.inr ⟨h1, .inl h2⟩)
    · by_cases h5 : x.id.toList < y.id.toList
      · exact .inl (.inr ⟨h1, .inr ⟨h2, .inl h5⟩⟩)
      · rcases List.le_iff_lt_or_eq.1 (List.not_lt.1 h5) with h | h
        · exact .inr (.inr (.inr ⟨h1.symm, .inr ⟨h2.symm, .inl h⟩⟩))
        · rcases Int.lt_trichotomy x.n y.n with h4 | h4 | h4
          · exact .inl (.inr ⟨h1, .inr ⟨h2, .inr ⟨h.symm, h4⟩⟩⟩)
          · refine .inr (.inl ?_)
            have hid := ba_ext h
            cases x; cases y; simp_all
          · exact .inr (.inr (.inr ⟨h1.symm, .inr ⟨h2.symm, .inr ⟨h, h4⟩⟩⟩))
    · exact .inr (.inr (.inr ⟨h1.symm, .inl h2⟩))
  · exact .inl (.inl h1)
theorem ltT {x y : Tn} : ltOf tnC x y = true ↔ TnLt x y := by unfold ltOf; rw [decide_eq_true_eq, tnC_neg]
theorem ltT_no {x y : Tn} : ltOf tnC x y = false ↔ ¬ TnLt x y := by rw [← ltT, Bool.not_eq_true]
theorem tnSWO : Go.Sort.SWO (ltOf tnC) where
  irrefl x := ltT_no.2 (TnLt.irrefl x)
  trans x y z h1 h2 := ltT.2 ((ltT.1 h1).trans (ltT.1 h2))
  ntrans x y z h1 h2 := ltT_no.2 (fun h => by
    rcases TnLt.tri x y with h3 | h3 | h3
    · exact ltT_no.1 h1 h3
    · subst h3; exact ltT_no.1 h2 h
    · exact ltT_no.1 h2 (h3.trans h))
theorem tnAll (x y : Tn) (h1 : ltOf tnC x y = false) (h2 : ltOf tnC y x = false) : x = y := by
  rcases TnLt.tri x y with h3 | h3 | h3
  · exact absurd h3 (ltT_no.1 h1)
  · exact h3
  · exact absurd h3 (ltT_no.1 h2)
def sortT (l : List Tn) : List Tn := l.mergeSort fun x y => !(ltOf tnC) y x
theorem sortT_perm (l : List Tn) : (sortT l).Perm l := List.mergeSort_perm l _
theorem sortT_sorted (l : List Tn) : (sortT l).Pairwise fun x y => ¬ TnLt y x := by
  have := List.pairwise_mergeSort (le := fun x y => !(ltOf tnC) y x) (fun a b c h1 h2 => by
    simp only [Bool.not_eq_true'] at *
    exact tnSWO.ntrans c b a h2 h1) (fun a b => by
    simp only [Bool.or_eq_true, Bool.not_eq_true']
    rcases TnLt.tri a b with h | h | h
    · exact .inl (ltT_no.2 (fun k => TnLt.irrefl _ (h.trans k)))
    · subst h; exact .inl (ltT_no.2 (TnLt.irrefl _))
    · exact .inr (ltT_no.2 (fun k => TnLt.irrefl _ (h.trans k)))) l
  exact this.imp (fun h => ltT_no.1 (by simpa using h))
set_option maxHeartbeats 4000000 in
set_option maxRecDepth 100000 in
theorem turn_cmp.walk (x y : Tn) (w : World) : Calls Try.prog 103 #[.agg (encT x).toArray, .agg (encT y).toArray] w fun e w' => e = .returned (.int .i64 (tnC x y)) ∧ ∃ q os', w' = Go.Sort.grow (w.drewN q) os' := by
  show Calls Try.prog 103 #[.agg #[.int .i64 x.by_, .int .i64 x.tm, .string x.id, .int .i64 x.n], .agg #[.int .i64 y.by_, .int .i64 y.tm, .string y.id, .int .i64 y.n]] w _
  obtain ⟨x0, x1, x2, x3⟩ := x
  obtain ⟨y0, y1, y2, y3⟩ := y
  dsimp only
  go_enter Try.func103, Try.ntmps103
  go_upto_region 1 with fail
  generalize hW : World.alloc (World.alloc w _) _ = W
  have bx : W.heap[w.heap.size]? = some (.cells #[.int .i64 x0, .int .i64 x1, .string x2, .int .i64 x3] 147 (0, 0)) := by rw [← hW]; exact (heap_alloc_old _ _ (by simp)).trans (heap_alloc_new w _)
  have by' : W.heap[w.heap.size + 1]? = some (.cells #[.int .i64 y0, .int .i64 y1, .string y2, .int .i64 y3] 147 (0, 0)) := by rw [← hW]; exact heap_alloc2_new w _ _
  have a0 := blk_cell bx 0
  have a1 := blk_cell bx 1
  have a2 := blk_cell bx 2
  have a3 := blk_cell bx 3
  have b0 := blk_cell by' 0
  have b1 := blk_cell by' 1
  have b2 := blk_cell by' 2
  have b3 := blk_cell by' 3
  have HW := Aside0.mk hW
  clear bx by' hW
  go_region_held3 (fun w' => w'.cell? ⟨w.heap.size, 0, none⟩ = some (.int .i64 x0) ∧ w'.cell? ⟨w.heap.size, 1, none⟩ = some (.int .i64 x1) ∧ w'.cell? ⟨w.heap.size, 2, none⟩ = some (.string x2) ∧ w'.cell? ⟨w.heap.size, 3, none⟩ = some (.int .i64 x3) ∧ w'.cell? ⟨w.heap.size + 1, 0, none⟩ = some (.int .i64 y0) ∧ w'.cell? ⟨w.heap.size + 1, 1, none⟩ = some (.int .i64 y1) ∧ w'.cell? ⟨w.heap.size + 1, 2, none⟩ = some (.string y2) ∧ w'.cell? ⟨w.heap.size + 1, 3, none⟩ = some (.int .i64 y3)) (go_keep)
    ((first | (go_at_call 118; refine (c64Cmp.walk _ _ _).mono ?_; rintro e w' ⟨rfl, rfl⟩) | (go_at_call 119; refine (cSCmp.walk _ _ _).mono ?_; rintro e w' ⟨rfl, rfl⟩) | (go_at_call 120; refine (c0Cmp.walk _ _ _).mono ?_; rintro e w' ⟨rfl, rfl⟩) | (go_at_call 117; refine (or4.walk _ _ _ _ _).mono ?_; rintro e w' ⟨rfl, rfl⟩)))
  go_wp2
  go_ret
  exact ⟨rfl, 1, #[_, _, _], by rw [← HW.out, Go.Sort.alloc_eq_grow, Go.Sort.alloc_eq_grow, Go.Sort.alloc_eq_grow, Go.Sort.grow_grow, Go.Sort.grow_grow, Go.Sort.drew_grow]; rfl⟩
theorem sortF.walk {base : Nat} {ok : Nat → Prop} {v : Value} {xs : List Tn} {w : World} (h : kTn.R 147 w base ok v xs) (hsz : xs.length < 4611686018427387904) :
    Calls Try.prog 102 #[v, .func (.func 103) #[] #[]] w fun e' w' => e' = .returned (.tuple #[]) ∧ kTn.R 147 w' base ok v (sortT xs) ∧ w.grownBy w' v.ownBlock :=
  sort_rowK flatT (srt := sortT) (fun l => List.length_mergeSort l) (by simp [sortT])
    (fun p cap w => AnyF.slices_SortFunc_none Try.laysSortF p cap _ w)
    (fun blk off cap zs w h1 h2 h3 => by
      have := AnyQ.slices_SortFunc_total Try.laysSortF 4 Try.isAgg147 Try.sizeOf147 encT (fun _ => rfl) encT_one tnC tnSWO 103 #[] blk off cap zs.toArray w (enters_of Try.func103 (by kernel_rfl) rfl) (fun _ _ _ _ x y => turn_cmp.walk x y _) h1 h2 (by simpa using h3) tnAll
      rw [List.size_toArray] at this
      exact this) h hsz
theorem at_tn {w : World} {A : Option Addr} {xs : List Tn} (h : kTn.C w A xs.length xs) {i : Nat} (hi : i < xs.length) : ∃ ad, A = some ad ∧ w.cell? (ad.add (i * 4)) = some (.int .i64 xs[i].by_) ∧ w.cell? ⟨(ad.add (i * 4)).block, (ad.add (i * 4)).off + 1, none⟩ = some (.int .i64 xs[i].tm) ∧ w.cell? ⟨(ad.add (i * 4)).block, (ad.add (i * 4)).off + 2, none⟩ = some (.string xs[i].id) ∧ w.cell? ⟨(ad.add (i * 4)).block, (ad.add (i * 4)).off + 3, none⟩ = some (.int .i64 xs[i].n) := by
  obtain ⟨ad, c, e, _, hK, hc⟩ := Kd.C_get h xs[i] (i : Int) (by omega) (by omega)
  have hd : xs.getD (i : Int).toNat xs[i] = xs[i] := by rw [Int.toNat_natCast, List.getD_eq_getElem?_getD, List.getElem?_eq_getElem hi]; rfl
  rw [hd] at hK
  have hK' : c = encT xs[i] := hK
  subst hK'
  replace hc : ∀ j u, (encT xs[i])[j]? = some u → w.cell? (ad.add (i * 4 + j)) = some u := hc
  exact ⟨ad, e, hc 0 _ rfl, by rw [← add_field _ _ 1 (by omega)]; exact hc 1 _ rfl, by rw [← add_field _ _ 2 (by omega)]; exact hc 2 _ rfl, by rw [← add_field _ _ 3 (by omega)]; exact hc 3 _ rfl⟩
def turnOf (l : List S34) (num : Int → Int) (n : Int) : Tn := ⟨num n, (rd_T34 l n).f9, (rd_T34 l n).f0, n⟩
def sortedL (l : List S34) (num : Int → Int) (all : List Int) : List Int := (sortT (all.map (turnOf l num))).map Tn.n
set_option maxHeartbeats 4000000 in
set_option maxRecDepth 100000 in
theorem order_sorted.walk (AL : Option Addr) (cL : Nat) (l : List S34) (A1 : Option Addr) (c1 : Nat) (all : List Int) (g : FuncId) (cb : Array Value) (num : Int → Int) (w : World) (eg : ∀ args w, (callFunc g args).run Try.prog w = .ok (.enter g args) w)
    (hL : Kd.C k34 w AL l.length l) (hX : Kd.C (Kd.int .i64) w A1 all.length all) (hin : ∀ x ∈ all, 0 ≤ x ∧ x < (l.length : Int)) (hlim : all.length ≤ 1000000)
    (hby : ∀ x ∈ all, ∀ W, Below w.heap.size w W → Calls Try.prog g (#[] ++ #[.int .i64 x] ++ cb) W fun e W' => e = .returned (.int .i64 (num x)) ∧ Below W.heap.size W W') :
    Calls Try.prog 70 #[.slice AL l.length cL, .slice A1 all.length c1, .func (.func g) #[] cb] w fun e w' => ∃ v, e = .returned v ∧ Kd.R (Kd.int .i64) 3 w' w.heap.size (fun _ => True) v (sortedL l num all) ∧ Below w.heap.size w w' := by
  have hu34 := Try.underlying34
  have hlen : all.length ≤ 9223372036854775807 := by omega
  obtain ⟨ts, hts⟩ : ∃ ts, ts = all.map (turnOf l num) := ⟨_, rfl⟩
  have htl : ts.length = all.length := by rw [hts]; simp
  have HTG : Aside0 (∀ i, (hi : i < all.length) → ts[i]? = some (turnOf l num all[i])) := ⟨fun i hi => by rw [hts, List.getElem?_map, List.getElem?_eq_getElem hi]; rfl⟩
  have HTS := Aside0.mk hts
  have HEG := Aside0.mk eg
  have HBY := Aside0.mk hby
  have HL := Aside0.mk hL
  have HX := Aside0.mk hX
  have HIN := Aside0.mk hin
  have HTL := Aside0.mk htl
  clear hts hby hL hX hin eg htl
  go_enter Try.func70, Try.ntmps70
  go_upto_block 0 with fail
  go_cut [7] (fun s7 wx => Aside0 (kTn.R 147 wx w.heap.size (fun _ => True) s7 ts) ∧ Aside0 (Below w.heap.size w wx))
  case first =>
    have HB0 := Aside0.mk (Below.refl w.heap.size w)
    go_wp2_with fail
    go_loopg [7, 9, 15] all.length (fun gg v7 v9 v15 wr => ∃ i : Nat, i ≤ all.length ∧ all.length - i ≤ gg ∧ v15 = .int .i64 (i : Int) ∧ Aside0 (kTn.R 147 wr w.heap.size (fun _ => True) v7 (ts.take i)) ∧ Aside0 (Below w.heap.size w wr))
    case atStart => exact ⟨0, Nat.zero_le _, by omega, rfl, ⟨by rw [List.take_zero]; exact Kd.R_nil _ _ _ _ _⟩, HB0⟩
    case round =>
      obtain ⟨i, hi, hgg, rfl, HV, HB⟩ := hrel
      by_cases hlt : i < all.length
      · have hltz : (i : Int) < (all.length : Int) := by omega
        obtain ⟨adx, e, hx0⟩ := C_num HX.out hlt
        cases e
        have hnA : all[i] ∈ all := List.getElem_mem hlt
        have hti := HTG.out i hlt
        obtain ⟨n, hn⟩ : ∃ n, n = all[i] := ⟨_, rfl⟩
        rw [← hn] at hx0 hnA hti
        obtain ⟨hn0, hn1⟩ := HIN.out n hnA
        replace hx0 := pw_cell_below HB.out hx0
        obtain ⟨ad, A6, c6, A7, c7, A13, c13, A14, c14, e, y0, y1, y2, y3, y4, y5, y6, y7, y8, y9, y10, y11, y12, y13, y14, l6, g6, l7, g7, l13, g13, l14, g14⟩ := at_T34 HL.out n hn0 hn1
        cases e
        have HTI : Aside0 (ts[i]? = some ⟨num n, (rd_T34 l n).f9, (rd_T34 l n).f0, n⟩) := ⟨hti⟩
        obtain ⟨ev, hev⟩ : ∃ ev, ev = rd_T34 l n := ⟨_, rfl⟩
        rw [← hev] at y0 y9 HTI
        replace y0 := pw_cell_below HB.out y0
        replace y9 := pw_cell_below HB.out y9
        clear y1 y2 y3 y4 y5 y6 y7 y8 y10 y11 y12 y13 y14 l6 g6 l7 g7 l13 g13 l14 g14 hev hti hn
        have htk : (ts.take i).length ≤ 1000000 := by have := HTL.out; rw [List.length_take]; omega
        have HTK := Aside0.mk htk
        have HNA := Aside0.mk hnA
        clear htk hnA
        go_upto_region 5 with fail
        refine start_ (n := 19) (S := fun w' => w'.cell? ⟨(ad.add (n.toNat * 15)).block, (ad.add (n.toNat * 15)).off + 9, none⟩ = some (.int .i64 ev.f9) ∧ w'.cell? (ad.add (n.toNat * 15)) = some (.string ev.f0)) (ds := [17]) #[false, false, false, false, false, false, false, false, false, false, false, false, false, false, false, false, false, false, false] (by kernel_rfl) rfl rfl ⟨y9, y0⟩ (fun hHeld => ?_)
        refine pure_ (i := 0) (N := some 19) (v := ?_) (a' := ?_) #[true, false, false, false, false, false, false, false, false, false, false, false, false, false, false, false, false, false, false] rfl rfl (by kernel_rfl) (fun _ _ _ h => h) (Or.inl ⟨by rfl, ?_⟩) ?_ ?_
        rotate_left
        · intro w'
          go_simp
          with_reducible rfl
        rotate_left
        · simp only [Act.put, List.setIfInBounds_toArray, List.set_cons_zero, List.set_cons_succ, i64_w, i32_w]
          rfl
        refine pure_ (i := 1) (N := some 20) (v := ?_) (a' := ?_) #[true, true, false, false, false, false, false, false, false, false, false, false, false, false, false, false, false, false, false] rfl rfl (by kernel_rfl) (fun _ _ _ h => h) (Or.inl ⟨by rfl, ?_⟩) ?_ ?_
        rotate_left
        · intro w'
          go_simp
          with_reducible rfl
        rotate_left
        · simp only [Act.put, List.setIfInBounds_toArray, List.set_cons_zero, List.set_cons_succ, i64_w, i32_w]
          rfl
        refine pure_ (i := 2) (N := some 21) (v := ?_) (a' := ?_) #[true, true, true, false, false, false, false, false, false, false, false, false, false, false, false, false, false, false, false] rfl rfl (by kernel_rfl) (fun _ _ _ h => h) (Or.inl ⟨by rfl, ?_⟩) ?_ ?_
        rotate_left
        · intro w'
          go_simp
          with_reducible rfl
        rotate_left
        · simp only [Act.put, List.setIfInBounds_toArray, List.set_cons_zero, List.set_cons_succ, i64_w, i32_w]
          rfl
        refine pure_ (i := 4) (N := some 23) (v := ?_) (a' := ?_) #[true, true, true, false, true, false, false, false, false, false, false, false, false, false, false, false, false, false, false] rfl rfl (by kernel_rfl) (fun _ _ _ h => h) (Or.inl ⟨by rfl, ?_⟩) ?_ ?_
        rotate_left
        · intro w'
          go_simp
          with_reducible rfl
        rotate_left
        · simp only [Act.put, List.setIfInBounds_toArray, List.set_cons_zero, List.set_cons_succ, i64_w, i32_w]
          rfl
        refine pure_ (i := 5) (N := some 24) (v := ?_) (a' := ?_) #[true, true, true, false, true, true, false, false, false, false, false, false, false, false, false, false, false, false, false] rfl rfl (by kernel_rfl) (fun _ _ _ h => h) (Or.inl ⟨by rfl, ?_⟩) ?_ ?_
        rotate_left
        · intro w'
          go_simp
          with_reducible rfl
        rotate_left
        · simp only [Act.put, List.setIfInBounds_toArray, List.set_cons_zero, List.set_cons_succ, i64_w, i32_w]
          rfl
        refine pure_ (i := 6) (N := some 25) (v := ?_) (a' := ?_) #[true, true, true, false, true, true, true, false, false, false, false, false, false, false, false, false, false, false, false] rfl rfl (by kernel_rfl) (fun _ _ _ h => h) (Or.inl ⟨by rfl, ?_⟩) ?_ ?_
        rotate_left
        · intro w'
          go_simp
          with_reducible rfl
        rotate_left
        · simp only [Act.put, List.setIfInBounds_toArray, List.set_cons_zero, List.set_cons_succ, i64_w, i32_w]
          rfl
        refine pure_ (i := 7) (N := some 26) (v := ?_) (a' := ?_) #[true, true, true, false, true, true, true, true, false, false, false, false, false, false, false, false, false, false, false] rfl rfl (by kernel_rfl) (fun _ _ _ h => h) (Or.inl ⟨by rfl, ?_⟩) ?_ ?_
        rotate_left
        · intro w'
          go_simp
          with_reducible rfl
        rotate_left
        · simp only [Act.put, List.setIfInBounds_toArray, List.set_cons_zero, List.set_cons_succ, i64_w, i32_w]
          rfl
        refine pure_ (i := 9) (N := some 28) (v := ?_) (a' := ?_) #[true, true, true, false, true, true, true, true, false, true, false, false, false, false, false, false, false, false, false] rfl rfl (by kernel_rfl) (fun _ _ _ h => h) (Or.inl ⟨by rfl, ?_⟩) ?_ ?_
        rotate_left
        · intro w'
          go_simp
          with_reducible rfl
        rotate_left
        · simp only [Act.put, List.setIfInBounds_toArray, List.set_cons_zero, List.set_cons_succ, i64_w, i32_w]
          rfl
        refine pure_ (i := 10) (N := some 29) (v := ?_) (a' := ?_) #[true, true, true, false, true, true, true, true, false, true, true, false, false, false, false, false, false, false, false] rfl rfl (by kernel_rfl) (fun _ _ _ h => h) (Or.inl ⟨by rfl, ?_⟩) ?_ ?_
        rotate_left
        · intro w'
          go_simp
          with_reducible rfl
        rotate_left
        · simp only [Act.put, List.setIfInBounds_toArray, List.set_cons_zero, List.set_cons_succ, i64_w, i32_w]
          rfl
        refine pure_ (i := 11) (N := some 30) (v := ?_) (a' := ?_) #[true, true, true, false, true, true, true, true, false, true, true, true, false, false, false, false, false, false, false] rfl rfl (by kernel_rfl) (fun _ _ _ h => h) (Or.inl ⟨by rfl, ?_⟩) ?_ ?_
        rotate_left
        · intro w'
          go_simp
          with_reducible rfl
        rotate_left
        · simp only [Act.put, List.setIfInBounds_toArray, List.set_cons_zero, List.set_cons_succ, i64_w, i32_w]
          rfl
        refine pure_ (i := 12) (N := some 31) (v := ?_) (a' := ?_) #[true, true, true, false, true, true, true, true, false, true, true, true, true, false, false, false, false, false, false] rfl rfl (by kernel_rfl) (fun _ _ _ h => h) (Or.inl ⟨by rfl, ?_⟩) ?_ ?_
        rotate_left
        · intro w'
          go_simp
          with_reducible rfl
        rotate_left
        · simp only [Act.put, List.setIfInBounds_toArray, List.set_cons_zero, List.set_cons_succ, i64_w, i32_w]
          rfl
        refine pure_ (i := 14) (N := some 33) (v := ?_) (a' := ?_) #[true, true, true, false, true, true, true, true, false, true, true, true, true, false, true, false, false, false, false] rfl rfl (by kernel_rfl) (fun _ _ _ h => h) (Or.inl ⟨by rfl, ?_⟩) ?_ ?_
        rotate_left
        · intro w'
          go_simp
          with_reducible rfl
        rotate_left
        · simp only [Act.put, List.setIfInBounds_toArray, List.set_cons_zero, List.set_cons_succ, i64_w, i32_w]
          rfl
        refine take_ (i := 8) (N := some 27) (v := ?_) (a' := ?_) #[true, true, true, false, true, true, true, true, true, true, true, true, true, false, true, false, false, false, false] rfl rfl (by kernel_rfl) (fun _ _ _ h => h) (Or.inl ⟨by rfl, ?_⟩) hHeld ?_ ?_
        rotate_left
        · rintro w' ⟨s0, s1⟩
          go_simp
          with_reducible rfl
        rotate_left
        · simp only [Act.put, List.setIfInBounds_toArray, List.set_cons_zero, List.set_cons_succ, i64_w, i32_w]
          rfl
        refine take_ (i := 13) (N := some 32) (v := ?_) (a' := ?_) #[true, true, true, false, true, true, true, true, true, true, true, true, true, true, true, false, false, false, false] rfl rfl (by kernel_rfl) (fun _ _ _ h => h) (Or.inl ⟨by rfl, ?_⟩) hHeld ?_ ?_
        rotate_left
        · rintro w' ⟨s0, s1⟩
          go_simp
          with_reducible rfl
        rotate_left
        · simp only [Act.put, List.setIfInBounds_toArray, List.set_cons_zero, List.set_cons_succ, i64_w, i32_w]
          rfl
        refine one_ (i := 3) (N := some 22) #[true, true, true, true, true, true, true, true, true, true, true, true, true, true, true, false, false, false, false] rfl rfl (by kernel_rfl) (by decide) (fun K hK => ?_)
        refine goesV_ HEG.out #[.int .i64 n] (by rfl) rfl rfl (by rfl) (by simp only [List.map_toArray, List.map_cons, List.map_nil]; rfl) ?_
        refine (HBY.out n HNA.out _ (below_then HB.out HB.out.size (below_drew1 (Below.refl _ _)))).mono ?_
        rintro e W2 ⟨rfl, hb2⟩
        refine ⟨_, rfl, ?_⟩
        refine hK.out _ _ ⟨(pw_cell_below hb2 hHeld.1), (pw_cell_below hb2 hHeld.2)⟩ (fun hHeld => ?_)
        clear hK K
        refine norm_ (a' := ?_) ?_ ?_
        rotate_left
        · show Act.put _ (some 22) _ = _
          simp only [Act.put, List.setIfInBounds_toArray, List.set_cons_zero, List.set_cons_succ, i64_w, i32_w]
          rfl
        refine pure_ (i := 15) (N := some 34) (v := ?_) (a' := ?_) #[true, true, true, true, true, true, true, true, true, true, true, true, true, true, true, true, false, false, false] rfl rfl (by kernel_rfl) (fun _ _ _ h => h) (Or.inl ⟨by rfl, ?_⟩) ?_ ?_
        rotate_left
        · intro w'
          go_simp
          with_reducible rfl
        rotate_left
        · simp only [Act.put, List.setIfInBounds_toArray, List.set_cons_zero, List.set_cons_succ, i64_w, i32_w]
          rfl
        refine one_ (i := 16) (N := some 35) #[true, true, true, true, true, true, true, true, true, true, true, true, true, true, true, true, true, false, false] rfl rfl (by kernel_rfl) (by decide) (fun K hK => ?_)
        refine value_ (w1 := ?_) (v := ?_) (by rfl) rfl ?_ ?_
        rotate_left 2
        · go_simp
          constructor
          · rfl
          · rfl
        refine hK.out _ _ ⟨(pw_cell_below (Below.alloc (Below.refl _ _) (Nat.le_refl _) _) hHeld.1), (pw_cell_below (Below.alloc (Below.refl _ _) (Nat.le_refl _) _) hHeld.2)⟩ (fun hHeld => ?_)
        clear hK K
        refine norm_ (a' := ?_) ?_ ?_
        rotate_left
        · show Act.put _ (some 35) _ = _
          simp only [Act.put, List.setIfInBounds_toArray, List.set_cons_zero, List.set_cons_succ, i64_w, i32_w]
          rfl
        refine last_ (i := 17) (N := some 36) #[true, true, true, true, true, true, true, true, true, true, true, true, true, true, true, true, true, true, false] rfl rfl (by kernel_rfl) (by decide) (fun K hK => ?_)
        refine Kd.R_append_step kTn (w0 := w) (W := W2) w.heap.size (by rfl) (.tmp 19) (.tmp 35) 145 147 (.agg #[.int .i64 0, .int .i64 0, .string ⟨#[]⟩, .int .i64 0]) 40 rfl Try.underlying145 (by kernel_rfl) rfl (by decide) (by decide) u7 (ts.take i) ⟨num n, ev.f9, ev.f0, n⟩ [.int .i64 (num n), .int .i64 ev.f9, .string ev.f0, .int .i64 n] (fun _ => True) (fun _ => False) (by simp [Act.eval, Act.put]) (by simp [Act.eval, Act.put]) rfl (fun _ hk => hk.elim) (fun _ _ => trivial) (Kd.R_below HV.out (below_then (below_drew1 (Below.refl wr.heap.size wr)) (Nat.le_refl _) hb2)) (below_then HB.out HB.out.size (below_then (below_drew1 (Below.refl wr.heap.size wr)) (Nat.le_refl _) hb2)) (by have h7 := HB.out.size; have h8 : wr.heap.size ≤ W2.heap.size := hb2.size; omega) (by have := HTK.out; omega) ?_
        intro v3 W3 hr3 hb3 hg3 hat3
        refine hK.out _ _ ?_
        clear hK K
        refine norm_ (a' := ?_) ?_ ?_
        rotate_left
        · show Act.put _ (some 36) _ = _
          simp only [Act.put, List.setIfInBounds_toArray, List.set_cons_zero, List.set_cons_succ, i64_w, i32_w]
          rfl
        refine pure_ (i := 18) (N := some 7) (v := ?_) (a' := ?_) #[true, true, true, true, true, true, true, true, true, true, true, true, true, true, true, true, true, true, true] rfl rfl (by kernel_rfl) (fun _ _ _ h => h) (Or.inl ⟨by rfl, ?_⟩) ?_ ?_
        rotate_left
        · intro w'
          go_simp
          with_reducible rfl
        rotate_left
        · simp only [Act.put, List.setIfInBounds_toArray, List.set_cons_zero, List.set_cons_succ, i64_w, i32_w]
          rfl
        refine done_ (by kernel_rfl) ?_

        clear hx0 y0 y9
        have HV3 := Aside0.mk hr3
        have HB3 := Aside0.mk hb3
        clear hr3 hb3 hg3 hat3 hb2
        go_wp2_with fail
        go_roundg (all.length - (i + 1))
        case measure => omega
        case rel => exact ⟨i + 1, by omega, by omega, by go_num, ⟨by rw [List.take_add_one, HTI.out]; exact HV3.out⟩, HB3⟩
      · have hltz : ¬ (i : Int) < (all.length : Int) := by omega
        have HE : Aside0 (ts.take i = ts) := ⟨by rw [List.take_of_length_le]; have := HTL.out; omega⟩
        go_wp2_with fail
        go_meet
        exact ⟨⟨by have := HV.out; rwa [HE.out] at this⟩, HB⟩
  case rest =>
    obtain ⟨HV, HB⟩ := hcut
    obtain ⟨A2, c2, e⟩ := Kd.R_slice HV.out
    subst e
    have HSF := Aside0.mk (sortF.walk HV.out (by have := HTL.out; omega))
    obtain ⟨st, hst⟩ : ∃ st, st = sortT ts := ⟨_, rfl⟩
    rw [← hst] at HSF
    have hsl : ts.length = st.length := by rw [hst]; exact (List.length_mergeSort ts).symm
    have HRES : Aside0 (sortedL l num all = st.map Tn.n) := ⟨by rw [hst, HTS.out]; rfl⟩
    have hs1 : st.length ≤ 1000000 := by have := HTL.out; omega
    rw [hsl] at HSF HV
    rw [hsl]
    clear hst hsl
    go_upto_region 8 with (go_at_call 102; go_loud (refine HSF.out.mono ?_; rintro e w2 ⟨rfl, hr2, hg2⟩; have HR2 := Aside0.mk hr2; have HB2 := Aside0.mk (pw_below_grown HB.out _ HB.out.size hg2 (fun k hk => Kd.R_base HV.out k hk)); clear hr2 hg2))
    have HC2 := Aside0.mk (Kd.R_reads' HR2.out).2.2
    clear HV HSF
    go_upto_block 2 with fail
    go_cut [10] (fun s10 wx => Aside0 (Kd.R (Kd.int .i64) 3 wx w2.heap.size (fun _ => True) s10 (st.map Tn.n)) ∧ Aside0 (Below w2.heap.size w2 wx))
    case first =>
      have HB0 := Aside0.mk (Below.refl w2.heap.size w2)
      go_wp2_with fail
      go_loopg [10, 12, 42] st.length (fun gg v10 v12 v42 wr => ∃ i : Nat, i ≤ st.length ∧ st.length - i ≤ gg ∧ v42 = .int .i64 (i : Int) ∧ Aside0 (Kd.R (Kd.int .i64) 3 wr w2.heap.size (fun _ => True) v10 ((st.take i).map Tn.n)) ∧ Aside0 (Below w2.heap.size w2 wr))
      case atStart => exact ⟨0, Nat.zero_le _, by omega, rfl, ⟨by rw [List.take_zero]; exact Kd.R_nil _ _ _ _ _⟩, HB0⟩
      case round =>
        obtain ⟨i, hi, hgg, rfl, HV, HBi⟩ := hrel
        by_cases hlt : i < st.length
        · have hltz : (i : Int) < (st.length : Int) := by omega
          obtain ⟨ad, e, x0, x1, x2, x3⟩ := at_tn HC2.out hlt
          cases e
          have HTI : Aside0 (st[i]? = some st[i]) := ⟨List.getElem?_eq_getElem hlt⟩
          obtain ⟨x, hx⟩ : ∃ x, x = st[i] := ⟨_, rfl⟩
          rw [← hx] at x0 x1 x2 x3 HTI
          replace x0 := pw_cell_below HBi.out x0
          replace x1 := pw_cell_below HBi.out x1
          replace x2 := pw_cell_below HBi.out x2
          replace x3 := pw_cell_below HBi.out x3
          have htk : ((st.take i).map Tn.n).length ≤ 1000000 := by rw [List.length_map, List.length_take]; omega
          have HTK := Aside0.mk htk
          clear hx htk
          go_upto_region 12 with fail
          generalize hW3 : World.alloc wr _ = W3
          have hb3 : Below wr.heap.size wr W3 := by rw [← hW3]; exact (Below.refl _ _).alloc (Nat.le_refl _) _
          have z3 := blk_cell (show W3.heap[wr.heap.size]? = some (.cells #[.int .i64 x.by_, .int .i64 x.tm, .string x.id, .int .i64 x.n] 147 (0, 0)) by rw [← hW3]; exact heap_alloc_new wr _) 3
          have HV3 := Aside0.mk (Kd.R_below HV.out hb3)
          have HB3 := Aside0.mk (below_then HBi.out HBi.out.size hb3)
          clear hW3 hb3 x0 x1 x2 x3
          go_wp2_with (at_builtin; refine Kd.R_append (Kd.int .i64) (w0 := w2) w2.heap.size rfl (.tmp 46) (.tmp 49) 49 3 (.int .i64 0) 8 rfl Try.underlying49 (by kernel_rfl) rfl (by decide) (by decide) u10 ((st.take i).map Tn.n) x.n [.int .i64 x.n] (fun _ => True) (fun _ => False) rfl rfl rfl (fun _ hk => hk.elim) (fun _ _ => trivial) HV3.out HB3.out (by have := HB3.out.size; omega) (by have := HTK.out; omega) ?_; intro v4 w4 hr4 hb4 hg4 hat4; have HV4 := Aside0.mk hr4; have HB4 := Aside0.mk hb4; clear hr4 hb4 hg4 hat4)
          go_roundg (st.length - (i + 1))
          case measure => omega
          case rel => exact ⟨i + 1, by omega, by omega, by go_num, ⟨by rw [List.take_add_one, HTI.out, List.map_append]; exact HV4.out⟩, HB4⟩
        · have hltz : ¬ (i : Int) < (st.length : Int) := by omega
          have HE : Aside0 (st.take i = st) := ⟨by rw [List.take_of_length_le]; omega⟩
          go_wp2_with fail
          go_meet
          exact ⟨⟨by have := HV.out; rwa [HE.out] at this⟩, HBi⟩
    case rest =>
      obtain ⟨HV, HB3⟩ := hcut
      go_wp2_with fail
      go_ret
      rw [HRES.out]
      exact ⟨_, rfl, Kd.R_lower HV.out HB2.out.size, below_then HB2.out HB2.out.size HB3.out⟩
theorem sortedL_perm (l : List S34) (num : Int → Int) (A : List Int) : (sortedL l num A).Perm A := by
  have h := (sortT_perm (A.map (turnOf l num))).map Tn.n
  have e : (A.map (turnOf l num)).map Tn.n = A := by rw [List.map_map]; exact (List.map_congr_left (fun _ _ => rfl)).trans (List.map_id' A)
  rw [e] at h
  exact h
theorem sortedL_lt {l : List S34} {num : Int → Int} {A : List Int} (hA : A.Nodup) : (sortedL l num A).Pairwise fun a b => TnLt (turnOf l num a) (turnOf l num b) := by
  have hn : (sortT (A.map (turnOf l num))).Nodup := (sortT_perm _).nodup_iff.2 (by
    unfold List.Nodup at *
    rw [List.pairwise_map]
    exact hA.imp (fun h e => h (congrArg Tn.n e)))
  unfold sortedL
  rw [List.pairwise_map]
  refine ((sortT_sorted _).and hn).imp_of_mem (fun {x y} hx hy h => ?_)
  have hm : ∀ t ∈ sortT (A.map (turnOf l num)), turnOf l num t.n = t := fun t ht => by
    obtain ⟨n, _, rfl⟩ := List.mem_map.1 ((sortT_perm _).mem_iff.1 ht)
    rfl
  rw [hm x hx, hm y hy]
  rcases TnLt.tri x y with h3 | h3 | h3
  · exact h3
  · exact absurd h3 h.2
  · exact absurd h3 h.1
open Go.Proofs.He Go.Shelf
attribute [local go_sem] Oper.semAt_some
theorem idxQ {x : Int} {l : List Int} : 0 ≤ idxOf (fun y => decide (y = x)) l ↔ x ∈ l := by
  unfold idxOf
  cases hf : l.findIdx? (fun y => decide (y = x)) with
  | none =>
    rw [List.findIdx?_eq_none_iff] at hf
    exact ⟨fun h => absurd h (by decide), fun h => by have := hf x h; simp at this⟩
  | some i =>
    obtain ⟨hi, h1, h2⟩ := List.findIdx?_eq_some_iff_getElem.1 hf
    exact ⟨fun _ => by have := of_decide_eq_true h1; rw [← this]; exact List.getElem_mem hi, fun _ => by show (0 : Int) ≤ (i : Int); omega⟩
set_option maxHeartbeats 2000000 in
set_option maxRecDepth 100000 in
theorem indexV.walk (A0 : Option Addr) (c0 : Nat) (l : List Int) (x : Int) (w : World) (hr0 : Kd.C (Kd.int .i64) w A0 l.length l) :
    Calls Try.prog 72 #[.slice A0 l.length c0, .int .i64 x] w fun e w' => e = .returned (.int .i64 (idxOf (fun y => decide (y = x)) l)) ∧ w = w' := by
  have HR := Aside0.mk hr0
  have hl : l.length ≤ 9223372036854775807 := hr0.2.1
  clear hr0
  go_enter Try.func72, Try.ntmps72
  go_wp2
  go_loopg [5, 8] l.length (fun gg v5 v8 wr => ∃ i : Nat, i ≤ l.length ∧ l.length - i ≤ gg ∧ v8 = .int .i64 (i : Int) ∧ w = wr ∧ Aside0 (∀ (j : Nat), j < i → ∀ (y : Int), l[j]? = some y → decide (y = x) = false))
  case atStart => exact ⟨0, Nat.zero_le _, by omega, rfl, rfl, ⟨fun j hj => absurd hj (Nat.not_lt_zero _)⟩⟩
  case round =>
    obtain ⟨i, hi, hgg, rfl, rfl, HN⟩ := hrel
    by_cases hlt : i < l.length
    · have hltz : (i : Int) < (l.length : Int) := by omega
      obtain ⟨ad, e, hx⟩ := C_num HR.out hlt
      cases e
      obtain ⟨y, hy⟩ : ∃ y, y = l[i] := ⟨_, rfl⟩
      rw [← hy] at hx
      have HY : Aside0 (y = l[i]) := ⟨hy⟩
      clear hy
      by_cases he : x = y
      · have hb : (x == y) = true := beq_iff_eq.2 he
        have HE := Aside0.mk he
        clear he
        go_wp2
        go_ret
        exact ⟨by rw [idxOf_hit hlt HN.out (by rw [← HY.out, HE.out]; exact decide_eq_true rfl)]; rfl, rfl⟩
      · have hb : (x == y) = false := beq_eq_false_iff_ne.2 he
        have HN2 : Aside0 (∀ (j : Nat), j < i + 1 → ∀ (z : Int), l[j]? = some z → decide (z = x) = false) := ⟨fun j hj z hz => by
          by_cases e : j = i
          · subst e
            rw [List.getElem?_eq_getElem hlt] at hz
            cases hz
            exact decide_eq_false (fun e => he (by rw [HY.out, e]))
          · exact HN.out j (by omega) z hz⟩
        clear he HN
        go_wp2
        go_roundg (l.length - (i + 1))
        case measure => omega
        case rel => exact ⟨i + 1, by omega, by omega, by go_num, rfl, HN2⟩
    · have hj : i = l.length := by omega
      go_wp2
      go_ret
      exact ⟨by rw [idxOf_miss (fun j hj => HN.out j (by omega))]; rfl, rfl⟩
def nearF (line : List Int) : List Int → Int
  | [] => (line.length : Int)
  | k :: r => if k ∈ line then idxOf (fun y => decide (y = k)) line else nearF line r
theorem nearF_none {line xs : List Int} (h : ∀ k ∈ xs, k ∉ line) : nearF line xs = (line.length : Int) := by
  induction xs with
  | nil => rfl
  | cons k r ih => rw [nearF, if_neg (h k List.mem_cons_self)]; exact ih (fun y hy => h y (List.mem_cons_of_mem _ hy))
theorem nearF_at {line pre xs : List Int} {k : Int} (h : ∀ k ∈ pre, k ∉ line) (hk : k ∈ line) (hp : pre ++ [k] <+: xs) : nearF line xs = idxOf (fun y => decide (y = k)) line := by
  obtain ⟨t, rfl⟩ := hp
  induction pre with
  | nil => show nearF line (k :: t) = _; rw [nearF, if_pos hk]
  | cons a r ih =>
    show nearF line (a :: (r ++ [k] ++ t)) = _
    rw [nearF, if_neg (h a List.mem_cons_self)]
    exact ih (fun y hy => h y (List.mem_cons_of_mem _ hy))
set_option maxHeartbeats 4000000 in
set_option maxRecDepth 100000 in
theorem mained_1.walk (AL : Option Addr) (cL : Nat) (l : List SE) (AG : Option Addr) (cG : Nat) (g : List (List Int)) (AN : Option Addr) (cN : Nat) (line : List Int) (bl bg bn : Nat) (n : Int) (w : World)
    (hbl : w.cell? ⟨bl, 0, none⟩ = some (.slice AL l.length cL)) (hbg : w.cell? ⟨bg, 0, none⟩ = some (.slice AG g.length cG)) (hbn : w.cell? ⟨bn, 0, none⟩ = some (.slice AN line.length cN))
    (hL : Kd.C k34 w AL l.length l) (hG : Kd.C (Kd.slice 3 (Kd.int .i64)) w AG g.length g) (hN : Kd.C (Kd.int .i64) w AN line.length line) :
    Calls Try.prog 71 #[.int .i64 n, .pointer (some ⟨bl, 0, none⟩), .pointer (some ⟨bg, 0, none⟩), .pointer (some ⟨bn, 0, none⟩)] w fun e w' => e = .returned (.int .i64 (nearF line (mainF l g n))) ∧ Below w.heap.size w w' := by
  obtain ⟨xs, hxs⟩ : ∃ xs, xs = mainF l g n := ⟨_, rfl⟩
  rw [← hxs]
  refine (callsIn_wide (n := 4)).1 ?_
  refine callsIn_of_wp_marks Try.func71 rfl trivial ?_ rfl
  simp only [Try.ntmps71, List.size_toArray, List.length_cons, List.length_nil, Nat.reduceAdd, Nat.reduceSub, Array.replicate_succ, Array.replicate_zero, List.push_toArray, List.append_toArray, List.nil_append, List.cons_append]
  obtain ⟨V, hV⟩ : ∃ V, V = w.alloc (.cells #[.int .i64 0] 2) := ⟨_, rfl⟩
  have hVb : Below w.heap.size w V := by rw [hV]; exact (Below.refl _ w).alloc (Nat.le_refl _) _
  have hVs : V.heap.size = w.heap.size + 1 := by rw [hV]; simp
  have bR0 : Boxed V w.heap.size 2 (.int .i64 0) := by rw [hV]; exact Boxed.new w 2 _
  have hbl1 : ∀ o, (w.alloc o).cell? ⟨bl, 0, none⟩ = some (.slice AL l.length cL) := fun o => pw_cell_below (below_alloc (Below.refl _ _) _) hbl
  have hbg1 : ∀ o, (w.alloc o).cell? ⟨bg, 0, none⟩ = some (.slice AG g.length cG) := fun o => pw_cell_below (below_alloc (Below.refl _ _) _) hbg
  have HBK := Aside0.mk (callsIn_wide (n := 3) |>.2 (back.walk AL cL l.length AG cG g.length n V))
  have hat := backW_at (c0 := cL) (c1 := cG) n (Kd.C_below hL hVb) (Kd.C_below hG hVb)
  have hbs := backW_size V AL cL l.length AG cG g.length n
  have hsq := back_1.cell (Kd.C_below hL hVb) (Kd.C_below hG hVb) hat (by omega) (by omega) (by omega)
  have hbd := hVb.trans (hat.below.mono (by omega))
  have bR1 : Boxed (backW V AL cL l.length AG cG g.length n) w.heap.size 2 (.int .i64 0) := (hat.below.block _ bR0.lt).trans bR0
  rw [hV] at HBK
  gi_wp2_with (refine ⟨trivial, ?_⟩; gi_at_call 47; refine HBK.out.mono ?_; rintro e w1 ⟨rfl, rfl⟩)
  rw [hVs] at hsq hbs
  subst hV
  clear HBK hat hVb hbl1 hbg1 hVs bR0 hbl hbg hL hG
  rw [← hxs] at hsq
  obtain ⟨X, hX⟩ : ∃ X, X = backW (w.alloc (Obj.cells #[Value.int IntKind.i64 0] 2)) AL cL l.length AG cG g.length n := ⟨_, rfl⟩
  rw [← hX] at hsq hbs hbd bR1 ⊢
  clear hX hxs
  have hBo : ∀ (v : Int), Own (fun (_ : List Int) W => Boxed W w.heap.size 2 (.int .i64 v)) := fun v s A B row hs hg hr => hs.kept hg (fun e' => by
    obtain ⟨o, ho, hc⟩ := hr _ e'.symm
    rw [show A.heap[w.heap.size]? = _ from hs] at ho; cases ho; cases hc)
  have hPo : Own (fun (pre : List Int) (_ : World) => ∀ k ∈ pre, k ∉ line) := fun s A B row hs _ _ => hs
  refine rangeFunc_cell (Bn := w.heap.size + 1 + 2) (B0 := X.heap.size) (xs := xs) rfl (by decide) (gf := 84) (lb := #[.pointer (some ⟨w.heap.size + 1 + 2, 0, none⟩), .pointer (some ⟨w.heap.size + 1, 0, none⟩), .pointer (some ⟨w.heap.size + 1 + 1, 0, none⟩)]) rfl trivial (enters_of Try.func84 (by kernel_rfl) rfl) (Nat.le_refl _) (by omega) hsq rfl
    (fun pre W => (Boxed W w.heap.size 2 (.int .i64 0) ∧ ∀ k ∈ pre, k ∉ line) ∧ Below w.heap.size w W) (fun _ W => Boxed W w.heap.size 2 (.int .i64 (nearF line xs)) ∧ Below w.heap.size w W)
    (OwnFrom.and (OwnFrom.and (Own.from (hBo 0) _) (Own.from hPo _)) (ownFrom_below (Nat.le_refl _) (by omega))) (OwnFrom.and (Own.from (hBo _) _) (ownFrom_below (Nat.le_refl _) (by omega)))
    ?cell ⟨⟨bR1, fun _ h => (nomatch h)⟩, hbd⟩
    (fun x => { tmps := #[.int .i64 n, .pointer (some ⟨bl, 0, none⟩), .pointer (some ⟨bg, 0, none⟩), .pointer (some ⟨bn, 0, none⟩), undef, .pointer (some ⟨w.heap.size, 0, none⟩), .int .i64 x, undef, .slice AL l.length cL, .slice AG g.length cG, .int .i64 n, .func (.func 84) #[] #[.pointer (some ⟨w.heap.size + 1 + 2, 0, none⟩), .pointer (some ⟨w.heap.size + 1, 0, none⟩), .pointer (some ⟨w.heap.size + 1 + 1, 0, none⟩)], .int .i64 x, undef, undef, undef, undef, undef, undef, undef, undef], defers := [] }) ?assign ?body ?done ?stop
  case cell =>
    rintro pre A v ⟨⟨h1, h2⟩, h3⟩
    exact ⟨⟨h1.other (by omega) v, h2⟩, h3.setCell (p := ⟨w.heap.size + 1 + 2, 0, none⟩) (by show w.heap.size ≤ w.heap.size + 1 + 2; omega) _⟩
  case assign =>
    intro lq x W K hK
    gi_wp2
    exact hK
  case body =>
    rintro lq pre x W ⟨⟨bR, hNP⟩, hB⟩ hlt
    have hc3 := pw_cell_below hB hbn
    have hc := bR.cell
    have hf := bR.frozen
    have HIX := Aside0.mk (indexV.walk AN cN line x W (Kd.C_below hN hB))
    by_cases hx : x ∈ line
    · have h0 := idxQ.2 hx
      have hnear := nearF_at hNP hx hlt
      obtain ⟨r, hr⟩ : ∃ r, r = idxOf (fun y => decide (y = x)) line := ⟨_, rfl⟩
      rw [← hr] at h0 hnear HIX
      have HNE := Aside0.mk hnear
      clear hr hnear hNP hx hlt
      gi_wp2_with (refine ⟨trivial, ?_⟩; gi_at_call 72; refine (CallsIn.inRound lq (callsIn_wide.2 HIX.out)).mono ?_; rintro e w4 ⟨rfl, rfl⟩)
      exact ⟨(KeepsOthers.setCell _ _ _).from _, by rw [HNE.out]; exact bR.set _, hB.setCell (p := ⟨w.heap.size, 0, none⟩) (Nat.le_refl _) _⟩
    · have h0 : ¬ 0 ≤ idxOf (fun y => decide (y = x)) line := fun h => hx (idxQ.1 h)
      have HP : Aside0 (∀ k ∈ pre ++ [x], k ∉ line) := ⟨fun k hk => by
        rcases List.mem_append.1 hk with h | h
        · exact hNP k h
        · rw [List.mem_singleton.1 h]; exact hx⟩
      obtain ⟨r, hr⟩ : ∃ r, r = idxOf (fun y => decide (y = x)) line := ⟨_, rfl⟩
      rw [← hr] at h0 HIX
      clear hr hNP hx hlt
      gi_wp2_with (refine ⟨trivial, ?_⟩; gi_at_call 72; refine (CallsIn.inRound lq (callsIn_wide.2 HIX.out)).mono ?_; rintro e w4 ⟨rfl, rfl⟩)
      exact ⟨KeepsFrom.refl _ _, Below.refl _ _, ⟨bR, HP.out⟩, hB⟩
  case done =>
    rintro D W hD ⟨⟨bR, hNP⟩, hB⟩ hK
    have hc3 := pw_cell_below hB hbn
    have hc := bR.cell
    have hf := bR.frozen
    have HNE := Aside0.mk (nearF_none hNP)
    have hK' : (W.setCell ⟨w.heap.size, 0, none⟩ (.int .i64 (line.length : Int))).heap[D]? = some (.deferred (some [])) := (Below.heap_setCell W ⟨w.heap.size, 0, none⟩ _ _ (show D ≠ w.heap.size by omega)).trans hK
    clear hNP
    gi_wp2
    refine ⟨by simp, .inl ⟨_, _, rfl, run_takeDeferred hK', ?_⟩⟩
    have hc5 := cell_kept (bR.set (.int .i64 (line.length : Int))).cell (grownBy_putObj' _ D (.deferred none)) (fun r e => by cases e; exact ⟨_, hK', rfl⟩)
    refine ⟨.int .i64 (line.length : Int), ?_, by rw [HNE.out], (hB.setCell (p := ⟨w.heap.size, 0, none⟩) (Nat.le_refl _) _).trans (belowK_b (w := w) (n₀ := w.heap.size) (Nat.le_refl _) _ D _ _ (by omega) hK' rfl rfl)⟩
    simp [results, Try.f71, go_sem, hc5]
  case stop =>
    rintro D pre W hD hpre ⟨bR, hB⟩ hK
    gi_wp2
    refine ⟨by simp, .inl ⟨_, _, rfl, run_takeDeferred hK, ?_⟩⟩
    have hc5 := cell_kept bR.cell (grownBy_putObj' _ D (.deferred none)) (fun r e => by cases e; exact ⟨_, hK, rfl⟩)
    refine ⟨.int .i64 (nearF line xs), ?_, rfl, hB.trans (belowK_b (w := w) (n₀ := w.heap.size) (Nat.le_refl _) W D _ _ (by omega) hK rfl rfl)⟩
    simp [results, Try.f71, go_sem, hc5]
def mainedL (l : List SE) (g : List (List Int)) (xs : List Int) (top : Int) : List Int := sortedL l (fun n => nearF (mainF l g top) (mainF l g n)) (placesL l.length xs)
theorem placesM_len (n : Nat) (xs : List Int) : (placesL n xs).length ≤ xs.length := Nat.le_trans (riseL_length _) (List.length_filter_le _ _)
theorem placesM_in {n : Nat} {xs : List Int} {x : Int} (h : x ∈ placesL n xs) : 0 ≤ x ∧ x < (n : Int) := by
  have h : x ∈ riseL _ := h
  rw [(riseL_spec _).2, List.mem_filter] at h
  have h2 := h.2
  unfold outP at h2
  simp at h2
  exact ⟨by omega, by omega⟩
set_option maxHeartbeats 4000000 in
set_option maxRecDepth 100000 in
theorem order_Mained.walk (AL : Option Addr) (cL : Nat) (l : List SE) (AG : Option Addr) (cG : Nat) (g : List (List Int)) (A1 : Option Addr) (c1 : Nat) (xs : List Int) (top : Int) (w : World)
    (hL : Kd.C k34 w AL l.length l) (hG : Kd.C (Kd.slice 3 (Kd.int .i64)) w AG g.length g) (hX : Kd.C (Kd.int .i64) w A1 xs.length xs) (hl : l.length ≤ 100000) (hlim : xs.length ≤ 1000000) :
    Calls Try.prog 34 #[.slice AL l.length cL, .slice AG g.length cG, .slice A1 xs.length c1, .int .i64 top] w fun e w' => ∃ v, e = .returned v ∧ Kd.R (Kd.int .i64) 3 w' w.heap.size (fun _ => True) v (mainedL l g xs top) ∧ Below w.heap.size w w' := by
  have hmf : ∀ (fn : Fn) (first cap : Array Value) (w : World), (Instr.makeFunc fn first cap).run Try.prog w = .ok (.func fn first cap) w := fun _ _ _ _ => rfl
  have HPL := Aside0.mk (fun (W : World) (hb : Below w.heap.size w W) => places.walk AL l.length cL A1 c1 xs W (Kd.C_below hX hb) hlim)
  have hlen := placesM_len l.length xs
  have hin : ∀ x ∈ placesL l.length xs, 0 ≤ x ∧ x < (l.length : Int) := fun x hx => placesM_in hx
  obtain ⟨all, hall⟩ : ∃ all, all = placesL l.length xs := ⟨_, rfl⟩
  rw [← hall] at hlen hin HPL
  have HALL := Aside0.mk hall
  have HLEN : Aside0 (all.length ≤ 1000000) := ⟨by omega⟩
  have HIN := Aside0.mk hin
  have HL := Aside0.mk hL
  have HG := Aside0.mk hG
  have HLL := Aside0.mk hl
  clear hL hG hX hall hlen hin hl
  go_enter Try.func34, Try.ntmps34
  go_upto_region 1 with fail
  generalize hW1 : World.alloc (World.alloc w _) _ = W1
  have hb1 : Below w.heap.size w W1 := by rw [← hW1]; exact ((Below.refl _ _).alloc (Nat.le_refl _) _).alloc (by simp) _
  have hx1 : W1.heap[w.heap.size]? = some (.cells #[.slice AL l.length cL] 45 (0, 0)) := by rw [← hW1]; exact (heap_alloc_old _ _ (by simp)).trans (heap_alloc_new w _)
  have hx2 : W1.heap[w.heap.size + 1]? = some (.cells #[.slice AG g.length cG] 46 (0, 0)) := by rw [← hW1]; exact heap_alloc2_new w _ _
  have x1 := blk_cell hx1 0
  have x2 := blk_cell hx2 0
  have HB1 := Aside0.mk hb1
  have HML := Aside0.mk (order_Mainline.walk AL cL l AG cG g top W1 (Kd.C_below HL.out hb1) (Kd.C_below HG.out hb1) HLL.out)
  obtain ⟨line, hline⟩ : ∃ line, line = mainF l g top := ⟨_, rfl⟩
  rw [← hline] at HML
  have HLINE := Aside0.mk hline
  clear hW1 hb1 hx1 hx2 hline
  go_upto_region 2 with (go_at_call 19; refine HML.out.mono ?_; rintro e W2 ⟨v2, rfl, hr2, hb2⟩; obtain ⟨AN, cN, rfl⟩ := Kd.R_slice hr2; have HB2 := Aside0.mk hb2; have HR2 := Aside0.mk hr2; clear hr2 hb2)
  generalize hW3 : World.alloc W2 _ = W3
  have hb3 : Below W2.heap.size W2 W3 := by rw [← hW3]; exact (Below.refl _ _).alloc (Nat.le_refl _) _
  have hx3 : W3.heap[W2.heap.size]? = some (.cells #[.slice AN line.length cN] 49 (0, 0)) := by rw [← hW3]; exact heap_alloc_new W2 _
  have x3 := blk_cell hx3 0
  replace x1 := pw_cell_below hb3 (pw_cell_below HB2.out x1)
  replace x2 := pw_cell_below hb3 (pw_cell_below HB2.out x2)
  have HB3 := Aside0.mk (below_then (below_then HB1.out HB1.out.size HB2.out) (Nat.le_trans HB1.out.size HB2.out.size) hb3)
  have HCN := Aside0.mk (Kd.C_below (Kd.R_reads' HR2.out).2.2 hb3)
  have HSO : Aside0 (∀ (W : World) (A5 : Option Addr) (c5 : Nat), Below W3.heap.size W3 W → Kd.C (Kd.int .i64) W A5 all.length all → Calls Try.prog 70 #[.slice AL l.length cL, .slice A5 all.length c5, .func (.func 71) #[] #[.pointer (some ⟨w.heap.size, 0, none⟩), .pointer (some ⟨w.heap.size + 1, 0, none⟩), .pointer (some ⟨W2.heap.size, 0, none⟩)]] W fun e w' => ∃ v, e = .returned v ∧ Kd.R (Kd.int .i64) 3 w' W.heap.size (fun _ => True) v (sortedL l (fun n => nearF line (mainF l g n)) all) ∧ Below W.heap.size W w') := ⟨fun W A5 c5 hW hC5 =>
    order_sorted.walk AL cL l A5 c5 all 71 #[.pointer (some ⟨w.heap.size, 0, none⟩), .pointer (some ⟨w.heap.size + 1, 0, none⟩), .pointer (some ⟨W2.heap.size, 0, none⟩)] (fun n => nearF line (mainF l g n)) W (enters_of Try.func71 (by kernel_rfl) rfl) (Kd.C_below HL.out (below_then HB3.out HB3.out.size hW)) hC5 HIN.out HLEN.out
      (fun n _ W' hW' => by
        have hbw := below_then hW hW.size hW'
        have hbw0 := below_then HB3.out HB3.out.size hbw
        exact mained_1.walk AL cL l AG cG g AN cN line w.heap.size (w.heap.size + 1) W2.heap.size n W' (pw_cell_below hbw x1) (pw_cell_below hbw x2) (pw_cell_below hbw x3) (Kd.C_below HL.out hbw0) (Kd.C_below HG.out hbw0) (Kd.C_below HCN.out hbw))⟩
  clear hW3 hb3 hx3 x2 x3 HML
  refine start_ (n := 7) (S := fun w' => w'.cell? ⟨w.heap.size, 0, none⟩ = some (.slice AL l.length cL)) (ds := []) #[false, false, false, false, false, false, false] (by kernel_rfl) rfl rfl (x1) (fun hHeld => ?_)
  refine pure_ (i := 2) (N := some 16) (v := ?_) (a' := ?_) #[false, false, true, false, false, false, false] rfl rfl (by kernel_rfl) (fun _ _ _ h => h) (Or.inl ⟨by rfl, ?_⟩) ?_ ?_
  rotate_left
  · intro w'
    go_simp
    with_reducible rfl
  rotate_left
  · simp only [Act.put, List.setIfInBounds_toArray, List.set_cons_zero, List.set_cons_succ, i64_w, i32_w]
    rfl
  refine pure_ (i := 4) (N := some 18) (v := ?_) (a' := ?_) #[false, false, true, false, true, false, false] rfl rfl (by kernel_rfl) (fun _ _ _ h => h) (Or.inl ⟨by rfl, ?_⟩) ?_ ?_
  rotate_left
  · intro w'
    go_simp
    with_reducible rfl
  rotate_left
  · simp only [Act.put, List.setIfInBounds_toArray, List.set_cons_zero, List.set_cons_succ, i64_w, i32_w]
    rfl
  refine take_ (i := 0) (N := some 14) (v := ?_) (a' := ?_) #[true, false, true, false, true, false, false] rfl rfl (by kernel_rfl) (fun _ _ _ h => h) (Or.inl ⟨by rfl, ?_⟩) hHeld ?_ ?_
  rotate_left
  · intro w' s0
    go_simp
    with_reducible rfl
  rotate_left
  · simp only [Act.put, List.setIfInBounds_toArray, List.set_cons_zero, List.set_cons_succ, i64_w, i32_w]
    rfl
  refine take_ (i := 1) (N := some 15) (v := ?_) (a' := ?_) #[true, true, true, false, true, false, false] rfl rfl (by kernel_rfl) (fun _ _ _ h => h) (Or.inl ⟨by rfl, ?_⟩) hHeld ?_ ?_
  rotate_left
  · intro w' s0
    go_simp
    with_reducible rfl
  rotate_left
  · simp only [Act.put, List.setIfInBounds_toArray, List.set_cons_zero, List.set_cons_succ, i64_w, i32_w]
    rfl
  refine one_ (i := 3) (N := some 17) #[true, true, true, true, true, false, false] rfl rfl (by kernel_rfl) (by decide) (fun K hK => ?_)
  refine goes_ Try.func61 (by kernel_rfl) rfl #[.slice AL l.length cL, .slice A1 xs.length c1] (by rfl) rfl rfl (by simp only [List.map_toArray, List.map_cons, List.map_nil]; rfl) ?_
  with_reducible refine (HPL.out _ (below_then HB3.out HB3.out.size (below_drew1 (Below.refl _ _)))).mono ?_
  rintro e W5 ⟨v5, rfl, hr5, hb5⟩
  refine ⟨_, rfl, ?_⟩
  obtain ⟨A5, c5, rfl⟩ := Kd.R_slice hr5
  refine hK.out _ _ ((pw_cell_below hb5 hHeld)) (fun hHeld => ?_)
  clear hK K
  refine norm_ (a' := ?_) ?_ ?_
  rotate_left
  · show Act.put _ (some 17) _ = _
    simp only [Act.put, List.setIfInBounds_toArray, List.set_cons_zero, List.set_cons_succ, i64_w, i32_w]
    rfl
  refine one_ (i := 5) (N := some 19) #[true, true, true, true, true, true, false] rfl rfl (by kernel_rfl) (by decide) (fun K hK => ?_)
  refine goes_ Try.func70 (by kernel_rfl) rfl #[.slice AL l.length cL, .slice A5 all.length c5, .func (.func 71) #[] #[.pointer (some ⟨w.heap.size, 0, none⟩), .pointer (some ⟨w.heap.size + 1, 0, none⟩), .pointer (some ⟨W2.heap.size, 0, none⟩)]] (by rfl) rfl rfl (by simp only [List.map_toArray, List.map_cons, List.map_nil]; rfl) ?_
  with_reducible refine (HSO.out _ A5 c5 (below_then (below_drew1 (Below.refl W3.heap.size W3)) (Nat.le_refl _) hb5) (Kd.R_reads' hr5).2.2).mono ?_
  rintro e W6 ⟨v6, rfl, hr6, hb6⟩
  refine ⟨_, rfl, ?_⟩
  refine hK.out _ _ ((pw_cell_below hb6 hHeld)) (fun hHeld => ?_)
  clear hK K
  refine norm_ (a' := ?_) ?_ ?_
  rotate_left
  · show Act.put _ (some 19) _ = _
    simp only [Act.put, List.setIfInBounds_toArray, List.set_cons_zero, List.set_cons_succ, i64_w, i32_w]
    rfl
  refine pure_ (i := 6) (N := some 8) (v := ?_) (a' := ?_) #[true, true, true, true, true, true, true] rfl rfl (by kernel_rfl) (fun _ _ _ h => h) (Or.inl ⟨by rfl, ?_⟩) ?_ ?_
  rotate_left
  · intro w'
    go_simp
    with_reducible rfl
  rotate_left
  · simp only [Act.put, List.setIfInBounds_toArray, List.set_cons_zero, List.set_cons_succ, i64_w, i32_w]
    rfl
  refine done_ (by kernel_rfl) ?_

  go_wp2_with fail
  go_ret
  have hB5 := below_then HB3.out HB3.out.size (below_then (below_drew1 (Below.refl W3.heap.size W3)) (Nat.le_refl _) hb5)
  refine ⟨_, rfl, ?_, below_then hB5 hB5.size hb6⟩
  unfold mainedL
  rw [← HALL.out, ← HLINE.out]
  exact Kd.R_lower hr6 hB5.size
end Go.Proofs.Ytmdjknkhjimgeaa.S
end
section
namespace Go.Proofs.Ytmdjknkhjimgeaa.S
open Go.RowKit Go.Proofs.YtmdjknkhjimgeaaW.PrintWords Go.Proofs.YtmdjknkhjimgeaaW.PrintLast Go.Proofs.YtmdjknkhjimgeaaW.PrintMore
attribute [local go_sem] max2_int min2_int max_two min_two max_three min_three max_four min_four
set_option linter.unusedVariables false
set_option linter.unusedSimpArgs false
def heliastlaw17_set.l0 : Nat → Int → List Int → List Int → Int → Option (List Int)
  | 0, _, _, _, _ => none
  | k + 1, x0, x1, x5, x6 => if x6 < x0 then ((heliastref12_Has.f k x1 x6).bind fun t205 => (if t205 = true then (if x5.length < 17592186044416 then (heliastlaw17_set.l0 k x0 x1 (x5 ++ [x6]) (wrap64 (x6 + 1))) else (none)) else (heliastlaw17_set.l0 k x0 x1 x5 (wrap64 (x6 + 1))))) else (some x5)
def heliastlaw17_set.f (k : Nat) (a0 : Int) (l1 : List Int) : Option (List Int) := heliastlaw17_set.l0 k a0 l1 ([] : List Int) 0
theorem heliastlaw17_set.mono_l : ∀ k, (∀ y0 y1 y2 y3, LeO (heliastlaw17_set.l0 k y0 y1 y2 y3) (heliastlaw17_set.l0 (k + 1) y0 y1 y2 y3))
  | 0 => fun _ _ _ _ r h => by simp [heliastlaw17_set.l0] at h
  | k + 1 => by
    have ih0 := heliastlaw17_set.mono_l k
    · intro y0 y1 y2 y3
      unfold heliastlaw17_set.l0
      repeat' first
      | (with_reducible exact ih0 _ _ _ _)
      | (with_reducible exact heliastref12_Has.mono _ _ _)
      | (with_reducible exact LeO.refl _)
      | (with_reducible exact LeO.none _)
      | (with_reducible refine LeO.ite ?_ ?_)
      | (with_reducible refine LeO.bind ?_ (fun _ => ?_))
      | exact ih0 _ _ _ _
      | exact heliastref12_Has.mono _ _ _
      | exact LeO.none _
      | refine LeO.ite ?_ ?_
      | refine LeO.bind ?_ (fun _ => ?_)
theorem heliastlaw17_set.mono : ∀ a0 a1 k, LeO (heliastlaw17_set.f k a0 a1) (heliastlaw17_set.f (k + 1) a0 a1) := by
  intro a0 a1 k
  have ih0 := heliastlaw17_set.mono_l k
  unfold heliastlaw17_set.f
  repeat' first
      | (with_reducible exact ih0 _ _ _ _)
      | (with_reducible exact heliastref12_Has.mono _ _ _)
      | (with_reducible exact LeO.refl _)
      | (with_reducible exact LeO.none _)
      | (with_reducible refine LeO.ite ?_ ?_)
      | (with_reducible refine LeO.bind ?_ (fun _ => ?_))
      | exact ih0 _ _ _ _
      | exact heliastref12_Has.mono _ _ _
      | exact LeO.none _
      | refine LeO.ite ?_ ?_
      | refine LeO.bind ?_ (fun _ => ?_)
set_option maxHeartbeats 8000000 in
set_option maxRecDepth 100000 in
theorem heliastlaw17_set.calls (k : Nat) (a0 : Int) (A1 : Option Addr) (c1 : Nat) (l1 : List Int) (r : List Int) (w : World) (hr1 : Kd.C (Kd.int .i64) w A1 l1.length l1) (hc1 : l1.length ≤ c1) (h : heliastlaw17_set.f k a0 l1 = some r) :
    Calls Try.prog 28 #[.int .i64 a0, .slice A1 l1.length c1] w fun e w' => ∃ v0_ : Value, e = .returned (v0_) ∧ Kd.R (Kd.int .i64) 3 w' w.heap.size (fun _ => True) v0_ r ∧ Below w.heap.size w w' := by
  have HR1 := Aside0.mk hr1
  have HC1 := Aside0.mk hc1
  clear hr1 hc1
  have HB := Aside0.mk (Below.refl w.heap.size w)
  have H : (heliastlaw17_set.l0 k a0 l1 ([] : List Int) 0) = some r := h
  clear h
  have H' := Aside0.mk H
  clear H
  go_enter Try.func28, Try.ntmps28
  go_wp2
  go_loopg [5, 6] k (fun kq v5 v6 w' => ∃ (x5_1 : List Int) (x6_1 : Int), v6 = .int .i64 x6_1 ∧ Aside0 (heliastlaw17_set.l0 kq a0 l1 x5_1 x6_1 = some r) ∧ Aside0 (kq ≤ k) ∧ Aside0 (Kd.R (Kd.int .i64) 3 w' w.heap.size (fun _ => True) v5 x5_1) ∧ Aside0 (Below w.heap.size w w'))
  case atStart => exact ⟨(([] : List Int)), (0), (by first | rfl | (simp; done) | (simp [*]; done)), H', ⟨Nat.le_refl _⟩, ⟨by first | exact Kd.R_nil _ _ _ _ _ | exact Kd.N_nil _ _ _ _ _ | exact Kd.V_nil _ _ _ _ _ | exact Kd.Q_nil _ _ _ _ _ | exact Kd.S_nil _ _ _ _ _⟩, ⟨by repeat (first | (with_reducible first | exact HB.out | apply below_alloc | apply pw_below_drewN | apply below_drew1) | exact HB.out)⟩⟩
  case round =>
    clear H'
    try clear c1
    try clear c2
    try clear p2
    obtain ⟨x5_1, x6_1, rfl, HA, HK1, HO_5, HB⟩ := hrel
    cases gk with
    | zero => exact absurd HA.out (by simp [heliastlaw17_set.l0])
    | succ k1 =>
      have H := HA.out
      clear HA
      simp only [heliastlaw17_set.l0] at H
      by_cases c3 : x6_1 < a0
      · rw [if_pos c3] at H
        have c3b0 : decide (x6_1 < a0) = true := decide_eq_true c3
        clear c3
        replace H := Option.bind_eq_some_iff.mp H
        obtain ⟨t205, A40, H⟩ := H
        replace H : (if t205 = true then (if x5_1.length < 17592186044416 then (heliastlaw17_set.l0 k1 a0 l1 (x5_1 ++ [x6_1]) (wrap64 (x6_1 + 1))) else (none)) else (heliastlaw17_set.l0 k1 a0 l1 x5_1 (wrap64 (x6_1 + 1)))) = some r := H
        have A4 := Aside0.mk A40
        clear A40
        by_cases c5 : t205 = true
        · subst c5
          have H1 : (if x5_1.length < 17592186044416 then (heliastlaw17_set.l0 k1 a0 l1 (x5_1 ++ [x6_1]) (wrap64 (x6_1 + 1))) else (none)) = some r := by rw [if_pos rfl] at H; exact H
          clear H
          have H := H1
          clear H1
          by_cases c6 : x5_1.length < 17592186044416
          · rw [if_pos c6] at H
            have LMc6 := Aside0.mk c6
            clear c6
            obtain ⟨y206, hy206⟩ : ∃ y_ : List Int, y_ = (x5_1 ++ [x6_1]) := ⟨_, rfl⟩
            replace H : (heliastlaw17_set.l0 k1 a0 l1 y206 (wrap64 (x6_1 + 1))) = some r := by first | (rw [hy206]; with_reducible exact H) | (have H2_ := (Option.bind_some _ _).symm.trans H; rw [hy206]; with_reducible exact H2_) | (have H2_ := (Option.bind_some _ _).symm.trans H; with_reducible exact H2_) | with_reducible exact H | (rw [hy206]; exact H) | exact H
            have Ny206 := Aside0.mk hy206
            clear hy206
            have H' := Aside0.mk H
            clear H
            go_wp2_with (first | ((with_reducible refine gate_callee (f := 24) rfl ?_); refine goesL_ (some 14) rfl rfl Try.func24 (by kernel_rfl) rfl #[.slice A1 l1.length c1, .int .i64 x6_1] rfl (by (try simp only [List.map_toArray, List.map_cons, List.map_nil]); first | done | rfl | (simp only [List.length_drop, List.length_take]; rfl)) ?_; (with_reducible refine (heliastref12_Has.calls k1 _ _ l1 x6_1 true _ ?side1 ?side2 A4.out).mono ?_); (case side1 => repeat (first | exact (Kd.C_below HR1.out HB.out) | (with_reducible refine Kd.C_alloc ?_ _) | (with_reducible refine Kd.C_drewN ?_ _) | (with_reducible refine Kd.C_drew ?_))); (case side2 => exact HC1.out); rintro e w' ⟨rfl, ⟨nd, rfl⟩⟩; refine ⟨_, rfl, ?_⟩) | ((with_reducible refine gate_builtin (b := .append) (xs := #[.tmp 15, .tmp 17]) rfl ?_); at_builtin; refine Kd.R_append (Kd.int .i64) (w0 := w) w.heap.size rfl (.tmp 15) (.tmp 17) 49 3 (.int .i64 0) 8 rfl Try.underlying49 info3 rfl (by decide) (by omega) u5 x5_1 x6_1 [.int .i64 x6_1] (fun _ => True) (fun _ => False) rfl rfl ?aP (fun _ hk => hk.elim) ?aF ?aO ?aB ?aS ?aL ?_; (case aP => exact rfl); (case aB => exact (by repeat (first | (with_reducible first | exact HB.out | apply below_alloc | apply pw_below_drewN | apply below_drew1) | exact HB.out))); (case aF => exact (fun _ _ => trivial)); (case aO => exact (by (with_reducible repeat (first | apply Kd.R_alloc | apply Kd.R_drewN | apply Kd.R_drew)); exact HO_5.out)); (case aS => exact (below_size (by repeat (first | (with_reducible first | exact HB.out | apply below_alloc | apply pw_below_drewN | apply below_drew1) | exact HB.out)))); (case aL => have := LMc6.out; omega); intro v207 w7 ho hb hg hat; rw [← Ny206.out] at ho; have n0_ := Aside0.mk (hb); have n1_ := Aside0.mk (ho); clear HB; clear HO_5; have HB := n0_; have HO208 := n1_; clear n0_ n1_; clear ho hb hg hat))
            go_roundg k1
            case measure => have := HK1.out; omega
            case rel => exact ⟨(y206), (wrap64 (x6_1 + 1)), (by first | rfl | (simp; done) | (simp [*]; done)), H', ⟨by have := HK1.out; omega⟩, ⟨by (with_reducible repeat (first | apply Kd.R_alloc | apply Kd.R_drewN | apply Kd.R_drew)); exact HO208.out⟩, ⟨by repeat (first | (with_reducible first | exact HB.out | apply below_alloc | apply pw_below_drewN | apply below_drew1) | exact HB.out)⟩⟩
          · rw [if_neg c6] at H
            exact absurd H (by simp)
        · replace c5 := Bool.eq_false_iff.mpr c5
          subst c5
          have H1 : (heliastlaw17_set.l0 k1 a0 l1 x5_1 (wrap64 (x6_1 + 1))) = some r := by rw [if_neg (show ¬ (false = true) by decide)] at H; exact H
          clear H
          have H := H1
          clear H1
          have H' := Aside0.mk H
          clear H
          go_wp2_with (first | ((with_reducible refine gate_callee (f := 24) rfl ?_); refine goesL_ (some 14) rfl rfl Try.func24 (by kernel_rfl) rfl #[.slice A1 l1.length c1, .int .i64 x6_1] rfl (by (try simp only [List.map_toArray, List.map_cons, List.map_nil]); first | done | rfl | (simp only [List.length_drop, List.length_take]; rfl)) ?_; (with_reducible refine (heliastref12_Has.calls k1 _ _ l1 x6_1 false _ ?side1 ?side2 A4.out).mono ?_); (case side1 => repeat (first | exact (Kd.C_below HR1.out HB.out) | (with_reducible refine Kd.C_alloc ?_ _) | (with_reducible refine Kd.C_drewN ?_ _) | (with_reducible refine Kd.C_drew ?_))); (case side2 => exact HC1.out); rintro e w' ⟨rfl, ⟨nd, rfl⟩⟩; refine ⟨_, rfl, ?_⟩))
          go_roundg k1
          case measure => have := HK1.out; omega
          case rel => exact ⟨(x5_1), (wrap64 (x6_1 + 1)), (by first | rfl | (simp; done) | (simp [*]; done)), H', ⟨by have := HK1.out; omega⟩, ⟨by (with_reducible repeat (first | apply Kd.R_alloc | apply Kd.R_drewN | apply Kd.R_drew)); exact HO_5.out⟩, ⟨by repeat (first | (with_reducible first | exact HB.out | apply below_alloc | apply pw_below_drewN | apply below_drew1) | exact HB.out)⟩⟩
      · rw [if_neg c3] at H
        have c3b0 : decide (x6_1 < a0) = false := decide_eq_false c3
        clear c3
        obtain rfl := Option.some.inj H
        go_wp2
        go_ret
        exact ⟨_, by first | rfl | (simp [errW_none, errW_some] <;> rfl) | (simp [*, errW_none, errW_some] <;> rfl), by (with_reducible repeat (first | apply Kd.R_alloc | apply Kd.R_drewN | apply Kd.R_drew)); exact HO_5.out, by repeat (first | (with_reducible first | exact HB.out | apply below_alloc | apply pw_below_drewN | apply below_drew1) | exact HB.out)⟩
def heliastlaw17_Some.l0 : Nat → List Int → Int → List Int → Int → Option (List Int)
  | 0, _, _, _, _ => none
  | k + 1, x0, x1, x5, x6 => if x6 < (x0.length : Int) then (if x6 < 20 then (if 0 ≤ x6 then (if (wrap64 (x1 + 2)) = 0 then (none) else (if x5.length < 17592186044416 then (heliastlaw17_Some.l0 k x0 x1 (x5 ++ [wrap64 ((Int.tmod (wrap64 (rd x0 x6)) (wrap64 (x1 + 2))) - 1)]) (wrap64 (x6 + 1))) else (none))) else (none)) else (some x5)) else (some x5)
def heliastlaw17_Some.f (k : Nat) (l0 : List Int) (a1 : Int) : Option (List Int) := heliastlaw17_Some.l0 k l0 a1 ([] : List Int) 0
theorem heliastlaw17_Some.mono_l : ∀ k, (∀ y0 y1 y2 y3, LeO (heliastlaw17_Some.l0 k y0 y1 y2 y3) (heliastlaw17_Some.l0 (k + 1) y0 y1 y2 y3))
  | 0 => fun _ _ _ _ r h => by simp [heliastlaw17_Some.l0] at h
  | k + 1 => by
    have ih0 := heliastlaw17_Some.mono_l k
    · intro y0 y1 y2 y3
      unfold heliastlaw17_Some.l0
      repeat' first
      | (with_reducible exact ih0 _ _ _ _)
      | (with_reducible exact LeO.refl _)
      | (with_reducible exact LeO.none _)
      | (with_reducible refine LeO.ite ?_ ?_)
      | (with_reducible refine LeO.bind ?_ (fun _ => ?_))
      | exact ih0 _ _ _ _
      | exact LeO.none _
      | refine LeO.ite ?_ ?_
      | refine LeO.bind ?_ (fun _ => ?_)
theorem heliastlaw17_Some.mono : ∀ a0 a1 k, LeO (heliastlaw17_Some.f k a0 a1) (heliastlaw17_Some.f (k + 1) a0 a1) := by
  intro a0 a1 k
  have ih0 := heliastlaw17_Some.mono_l k
  unfold heliastlaw17_Some.f
  repeat' first
      | (with_reducible exact ih0 _ _ _ _)
      | (with_reducible exact LeO.refl _)
      | (with_reducible exact LeO.none _)
      | (with_reducible refine LeO.ite ?_ ?_)
      | (with_reducible refine LeO.bind ?_ (fun _ => ?_))
      | exact ih0 _ _ _ _
      | exact LeO.none _
      | refine LeO.ite ?_ ?_
      | refine LeO.bind ?_ (fun _ => ?_)
set_option maxHeartbeats 8000000 in
set_option maxRecDepth 100000 in
theorem heliastlaw17_Some.calls (k : Nat) (A0 : Option Addr) (c0 : Nat) (l0 : List Int) (a1 : Int) (r : List Int) (w : World) (hr0 : Kd.C (Kd.int .u8) w A0 l0.length l0) (hc0 : l0.length ≤ c0) (h : heliastlaw17_Some.f k l0 a1 = some r) :
    Calls Try.prog 29 #[.slice A0 l0.length c0, .int .i64 a1] w fun e w' => ∃ v0_ : Value, e = .returned (v0_) ∧ Kd.R (Kd.int .i64) 3 w' w.heap.size (fun _ => True) v0_ r ∧ Below w.heap.size w w' := by
  have HR0 := Aside0.mk hr0
  have HC0 := Aside0.mk hc0
  clear hr0 hc0
  have HB := Aside0.mk (Below.refl w.heap.size w)
  have H : (heliastlaw17_Some.l0 k l0 a1 ([] : List Int) 0) = some r := h
  clear h
  have H' := Aside0.mk H
  clear H
  go_enter Try.func29, Try.ntmps29
  go_wp2
  go_loopg [5, 6] k (fun kq v5 v6 w' => ∃ (x5_1 : List Int) (x6_1 : Int), v6 = .int .i64 x6_1 ∧ Aside0 (heliastlaw17_Some.l0 kq l0 a1 x5_1 x6_1 = some r) ∧ Aside0 (kq ≤ k) ∧ Aside0 (Kd.R (Kd.int .i64) 3 w' w.heap.size (fun _ => True) v5 x5_1) ∧ Aside0 (Below w.heap.size w w'))
  case atStart => exact ⟨(([] : List Int)), (0), (by first | rfl | (simp; done) | (simp [*]; done)), H', ⟨Nat.le_refl _⟩, ⟨by first | exact Kd.R_nil _ _ _ _ _ | exact Kd.N_nil _ _ _ _ _ | exact Kd.V_nil _ _ _ _ _ | exact Kd.Q_nil _ _ _ _ _ | exact Kd.S_nil _ _ _ _ _⟩, ⟨by repeat (first | (with_reducible first | exact HB.out | apply below_alloc | apply pw_below_drewN | apply below_drew1) | exact HB.out)⟩⟩
  case round =>
    clear H'
    try clear c2
    try clear p2
    obtain ⟨x5_1, x6_1, rfl, HA, HK1, HO_5, HB⟩ := hrel
    cases gk with
    | zero => exact absurd HA.out (by simp [heliastlaw17_Some.l0])
    | succ k1 =>
      have H := HA.out
      clear HA
      simp only [heliastlaw17_Some.l0] at H
      by_cases c3 : x6_1 < (l0.length : Int)
      · rw [if_pos c3] at H
        have c3b0 : decide (x6_1 < (l0.length : Int)) = true := decide_eq_true c3
        clear c3
        by_cases c4 : x6_1 < 20
        · rw [if_pos c4] at H
          have c4b0 : decide (x6_1 < 20) = true := decide_eq_true c4
          clear c4
          by_cases c5 : 0 ≤ x6_1
          · rw [if_pos c5] at H
            have c5b0 : decide (0 ≤ x6_1) = true := decide_eq_true c5
            clear c5
            by_cases c6 : (wrap64 (a1 + 2)) = 0
            · rw [if_pos c6] at H
              exact absurd H (by simp)
            · rw [if_neg c6] at H
              have c6b0 : ((wrap64 (a1 + 2)) == 0) = false := beq_eq_false_iff_ne.mpr c6
              have c6b1 : ((wrap64 (a1 + 2)) != 0) = true := bne_iff_ne.mpr c6
              by_cases c7 : x5_1.length < 17592186044416
              · rw [if_pos c7] at H
                have LMc7 := Aside0.mk c7
                clear c7
                obtain ⟨y210, hy210⟩ : ∃ y_ : List Int, y_ = (x5_1 ++ [wrap64 ((Int.tmod (wrap64 (rd l0 x6_1)) (wrap64 (a1 + 2))) - 1)]) := ⟨_, rfl⟩
                replace H : (heliastlaw17_Some.l0 k1 l0 a1 y210 (wrap64 (x6_1 + 1))) = some r := by first | (rw [hy210]; with_reducible exact H) | (have H2_ := (Option.bind_some _ _).symm.trans H; rw [hy210]; with_reducible exact H2_) | (have H2_ := (Option.bind_some _ _).symm.trans H; with_reducible exact H2_) | with_reducible exact H | (rw [hy210]; exact H) | exact H
                have Ny210 := Aside0.mk hy210
                clear hy210
                have H' := Aside0.mk H
                clear H
                have p209 : 0 ≤ (x6_1 : Int) := of_decide_eq_true (by first | (with_reducible assumption) | assumption)
                have q209 : x6_1 < (l0.length : Int) := of_decide_eq_true (by first | (with_reducible assumption) | assumption)
                obtain ⟨ad209, e209, hx209_0⟩ := Kd.at_int HR0.out x6_1 p209 q209
                cases e209
                replace hx209_0 := (HB.out.cell (World.block_lt_of_cell? w _ hx209_0)).trans hx209_0
                replace p209 := eq_true p209
                replace q209 := eq_true q209
                go_wp2_with (first | ((with_reducible refine gate_builtin (b := .append) (xs := #[.tmp 17, .tmp 27]) rfl ?_); at_builtin; refine Kd.R_append (Kd.int .i64) (w0 := w) w.heap.size rfl (.tmp 17) (.tmp 27) 49 3 (.int .i64 0) 8 rfl Try.underlying49 info3 rfl (by decide) (by omega) u5 x5_1 (wrap64 ((Int.tmod (wrap64 (rd l0 x6_1)) (wrap64 (a1 + 2))) - 1)) [.int .i64 (wrap64 ((Int.tmod (wrap64 (rd l0 x6_1)) (wrap64 (a1 + 2))) - 1))] (fun _ => True) (fun _ => False) rfl rfl ?aP (fun _ hk => hk.elim) ?aF ?aO ?aB ?aS ?aL ?_; (case aP => exact rfl); (case aB => exact (by repeat (first | (with_reducible first | exact HB.out | apply below_alloc | apply pw_below_drewN | apply below_drew1) | exact HB.out))); (case aF => exact (fun _ _ => trivial)); (case aO => exact (by (with_reducible repeat (first | apply Kd.R_alloc | apply Kd.R_drewN | apply Kd.R_drew)); exact HO_5.out)); (case aS => exact (below_size (by repeat (first | (with_reducible first | exact HB.out | apply below_alloc | apply pw_below_drewN | apply below_drew1) | exact HB.out)))); (case aL => have := LMc7.out; omega); intro v211 w8 ho hb hg hat; rw [← Ny210.out] at ho; have n0_ := Aside0.mk (hb); have n1_ := Aside0.mk (ho); clear HB; clear HO_5; have HB := n0_; have HO212 := n1_; clear n0_ n1_; clear ho hb hg hat))
                go_roundg k1
                case measure => have := HK1.out; omega
                case rel => exact ⟨(y210), (wrap64 (x6_1 + 1)), (by first | rfl | (simp; done) | (simp [*]; done)), H', ⟨by have := HK1.out; omega⟩, ⟨by (with_reducible repeat (first | apply Kd.R_alloc | apply Kd.R_drewN | apply Kd.R_drew)); exact HO212.out⟩, ⟨by repeat (first | (with_reducible first | exact HB.out | apply below_alloc | apply pw_below_drewN | apply below_drew1) | exact HB.out)⟩⟩
              · rw [if_neg c7] at H
                exact absurd H (by simp)
          · rw [if_neg c5] at H
            exact absurd H (by simp)
        · rw [if_neg c4] at H
          have c4b0 : decide (x6_1 < 20) = false := decide_eq_false c4
          clear c4
          obtain rfl := Option.some.inj H
          go_wp2
          go_ret
          exact ⟨_, by first | rfl | (simp [errW_none, errW_some] <;> rfl) | (simp [*, errW_none, errW_some] <;> rfl), by (with_reducible repeat (first | apply Kd.R_alloc | apply Kd.R_drewN | apply Kd.R_drew)); exact HO_5.out, by repeat (first | (with_reducible first | exact HB.out | apply below_alloc | apply pw_below_drewN | apply below_drew1) | exact HB.out)⟩
      · rw [if_neg c3] at H
        have c3b0 : decide (x6_1 < (l0.length : Int)) = false := decide_eq_false c3
        clear c3
        obtain rfl := Option.some.inj H
        go_wp2
        go_ret
        exact ⟨_, by first | rfl | (simp [errW_none, errW_some] <;> rfl) | (simp [*, errW_none, errW_some] <;> rfl), by (with_reducible repeat (first | apply Kd.R_alloc | apply Kd.R_drewN | apply Kd.R_drew)); exact HO_5.out, by repeat (first | (with_reducible first | exact HB.out | apply below_alloc | apply pw_below_drewN | apply below_drew1) | exact HB.out)⟩
mutual
def heliastlaw17_near.l0 : Nat → List Int → List Int → Int → Option (Int)
  | 0, _, _, _ => none
  | k + 1, x3, x9, x10 => if x10 < (x9.length : Int) then (heliastlaw17_near.l1 k x3 x9 x10 0) else (some (x3.length : Int))
def heliastlaw17_near.l1 : Nat → List Int → List Int → Int → Int → Option (Int)
  | 0, _, _, _, _ => none
  | k + 1, x3, x9, x10, x11 => if x11 < (x3.length : Int) then (if 0 ≤ x11 then (if 0 ≤ x10 then (if x10 < (x9.length : Int) then (if (rd x3 x11) = (rd x9 x10) then (some x11) else (heliastlaw17_near.l1 k x3 x9 x10 (wrap64 (x11 + 1)))) else (none)) else (none)) else (none)) else (heliastlaw17_near.l0 k x3 x9 (wrap64 (x10 + 1)))
end
def heliastlaw17_near.f (k : Nat) (l0 : List (S34)) (l1 : List (List Int)) (a2 : Int) (l3 : List Int) : Option (Int) := (order_Mainline.f l0 l1 a2).bind fun t213 => (heliastlaw17_near.l0 k l3 t213 0)
theorem heliastlaw17_near.mono_l : ∀ k, (∀ y0 y1 y2, LeO (heliastlaw17_near.l0 k y0 y1 y2) (heliastlaw17_near.l0 (k + 1) y0 y1 y2)) ∧ (∀ y0 y1 y2 y3, LeO (heliastlaw17_near.l1 k y0 y1 y2 y3) (heliastlaw17_near.l1 (k + 1) y0 y1 y2 y3))
  | 0 => ⟨fun _ _ _ r h => by simp [heliastlaw17_near.l0] at h, fun _ _ _ _ r h => by simp [heliastlaw17_near.l1] at h⟩
  | k + 1 => by
    obtain ⟨ih0, ih1⟩ := heliastlaw17_near.mono_l k
    refine ⟨?_, ?_⟩
    · intro y0 y1 y2
      unfold heliastlaw17_near.l0
      repeat' first
      | (with_reducible exact ih0 _ _ _)
      | (with_reducible exact ih1 _ _ _ _)
      | (with_reducible exact LeO.refl _)
      | (with_reducible exact LeO.none _)
      | (with_reducible refine LeO.ite ?_ ?_)
      | (with_reducible refine LeO.bind ?_ (fun _ => ?_))
      | exact ih0 _ _ _
      | exact ih1 _ _ _ _
      | exact LeO.none _
      | refine LeO.ite ?_ ?_
      | refine LeO.bind ?_ (fun _ => ?_)
    · intro y0 y1 y2 y3
      unfold heliastlaw17_near.l1
      repeat' first
      | (with_reducible exact ih0 _ _ _)
      | (with_reducible exact ih1 _ _ _ _)
      | (with_reducible exact LeO.refl _)
      | (with_reducible exact LeO.none _)
      | (with_reducible refine LeO.ite ?_ ?_)
      | (with_reducible refine LeO.bind ?_ (fun _ => ?_))
      | exact ih0 _ _ _
      | exact ih1 _ _ _ _
      | exact LeO.none _
      | refine LeO.ite ?_ ?_
      | refine LeO.bind ?_ (fun _ => ?_)
theorem heliastlaw17_near.mono : ∀ a0 a1 a2 a3 k, LeO (heliastlaw17_near.f k a0 a1 a2 a3) (heliastlaw17_near.f (k + 1) a0 a1 a2 a3) := by
  intro a0 a1 a2 a3 k
  obtain ⟨ih0, ih1⟩ := heliastlaw17_near.mono_l k
  unfold heliastlaw17_near.f
  repeat' first
      | (with_reducible exact ih0 _ _ _)
      | (with_reducible exact ih1 _ _ _ _)
      | (with_reducible exact LeO.refl _)
      | (with_reducible exact LeO.none _)
      | (with_reducible refine LeO.ite ?_ ?_)
      | (with_reducible refine LeO.bind ?_ (fun _ => ?_))
      | exact ih0 _ _ _
      | exact ih1 _ _ _ _
      | exact LeO.none _
      | refine LeO.ite ?_ ?_
      | refine LeO.bind ?_ (fun _ => ?_)
set_option maxHeartbeats 8000000 in
set_option maxRecDepth 100000 in
theorem heliastlaw17_near.calls (k : Nat) (A0 : Option Addr) (c0 : Nat) (l0 : List (S34)) (A1 : Option Addr) (c1 : Nat) (l1 : List (List Int)) (a2 : Int) (A3 : Option Addr) (c3 : Nat) (l3 : List Int) (r : Int) (w : World) (hr0 : Kd.C k34 w A0 l0.length l0) (hc0 : l0.length ≤ c0) (hr1 : Kd.C (Kd.slice 3 (Kd.int .i64)) w A1 l1.length l1) (hc1 : l1.length ≤ c1) (hr3 : Kd.C (Kd.int .i64) w A3 l3.length l3) (hc3 : l3.length ≤ c3) (h : heliastlaw17_near.f k l0 l1 a2 l3 = some r) :
    Calls Try.prog 35 #[.slice A0 l0.length c0, .slice A1 l1.length c1, .int .i64 a2, .slice A3 l3.length c3] w fun e w' => e = .returned (.int .i64 r) ∧ Below w.heap.size w w' := by
  have HR0 := Aside0.mk hr0
  have HC0 := Aside0.mk hc0
  clear hr0 hc0
  have HR1 := Aside0.mk hr1
  have HC1 := Aside0.mk hc1
  clear hr1 hc1
  have HR3 := Aside0.mk hr3
  have HC3 := Aside0.mk hc3
  clear hr3 hc3
  have HB := Aside0.mk (Below.refl w.heap.size w)
  have H : ((order_Mainline.f l0 l1 a2).bind fun t213 => (heliastlaw17_near.l0 k l3 t213 0)) = some r := h
  clear h
  replace H := Option.bind_eq_some_iff.mp H
  obtain ⟨t213, A50, H⟩ := H
  replace H : (heliastlaw17_near.l0 k l3 t213 0) = some r := H
  have A5 := Aside0.mk A50
  clear A50
  have H' := Aside0.mk H
  clear H
  go_enter Try.func35, Try.ntmps35
  go_wp2_with (first | (go_at_call 19; (with_reducible refine (order_Mainline.calls _ _ l0 _ _ l1 a2 t213 _ ?side1 ?side2 ?side3 ?side4 A5.out).mono ?_); (case side1 => repeat (first | exact HR0.out | (with_reducible refine Kd.C_alloc ?_ _) | (with_reducible refine Kd.C_drewN ?_ _) | (with_reducible refine Kd.C_drew ?_))); (case side2 => exact HC0.out); (case side3 => repeat (first | exact HR1.out | (with_reducible refine Kd.C_alloc ?_ _) | (with_reducible refine Kd.C_drewN ?_ _) | (with_reducible refine Kd.C_drew ?_))); (case side4 => exact HC1.out); rintro e w6 ⟨v214, rfl, ho0, hb⟩; have n0_ := Aside0.mk (Kd.R_lower ho0 (below_size (by repeat (first | (with_reducible first | exact HB.out | apply below_alloc | apply pw_below_drewN | apply below_drew1) | exact HB.out)))); have n1_ := Aside0.mk (below_step (by repeat (first | (with_reducible first | exact HB.out | apply below_alloc | apply pw_below_drewN | apply below_drew1) | exact HB.out)) hb); clear HB; have HO215 := n0_; have HB := n1_; clear n0_ n1_; (try clear hb); (try clear hb2); (try clear hk); (try clear hi); (try clear ho0)))
  repeat (go_quiet (first | (go_at_call 19; (with_reducible refine (order_Mainline.calls _ _ l0 _ _ l1 a2 t213 _ ?side1 ?side2 ?side3 ?side4 A5.out).mono ?_); (case side1 => repeat (first | exact HR0.out | (with_reducible refine Kd.C_alloc ?_ _) | (with_reducible refine Kd.C_drewN ?_ _) | (with_reducible refine Kd.C_drew ?_))); (case side2 => exact HC0.out); (case side3 => repeat (first | exact HR1.out | (with_reducible refine Kd.C_alloc ?_ _) | (with_reducible refine Kd.C_drewN ?_ _) | (with_reducible refine Kd.C_drew ?_))); (case side4 => exact HC1.out); rintro e w6 ⟨v214, rfl, ho0, hb⟩; have n0_ := Aside0.mk (Kd.R_lower ho0 (below_size (by repeat (first | (with_reducible first | exact HB.out | apply below_alloc | apply pw_below_drewN | apply below_drew1) | exact HB.out)))); have n1_ := Aside0.mk (below_step (by repeat (first | (with_reducible first | exact HB.out | apply below_alloc | apply pw_below_drewN | apply below_drew1) | exact HB.out)) hb); clear HB; have HO215 := n0_; have HB := n1_; clear n0_ n1_; (try clear hb); (try clear hb2); (try clear hk); (try clear hi); (try clear ho0))); try go_wp2_with (first | (go_at_call 19; (with_reducible refine (order_Mainline.calls _ _ l0 _ _ l1 a2 t213 _ ?side1 ?side2 ?side3 ?side4 A5.out).mono ?_); (case side1 => repeat (first | exact HR0.out | (with_reducible refine Kd.C_alloc ?_ _) | (with_reducible refine Kd.C_drewN ?_ _) | (with_reducible refine Kd.C_drew ?_))); (case side2 => exact HC0.out); (case side3 => repeat (first | exact HR1.out | (with_reducible refine Kd.C_alloc ?_ _) | (with_reducible refine Kd.C_drewN ?_ _) | (with_reducible refine Kd.C_drew ?_))); (case side4 => exact HC1.out); rintro e w6 ⟨v214, rfl, ho0, hb⟩; have n0_ := Aside0.mk (Kd.R_lower ho0 (below_size (by repeat (first | (with_reducible first | exact HB.out | apply below_alloc | apply pw_below_drewN | apply below_drew1) | exact HB.out)))); have n1_ := Aside0.mk (below_step (by repeat (first | (with_reducible first | exact HB.out | apply below_alloc | apply pw_below_drewN | apply below_drew1) | exact HB.out)) hb); clear HB; have HO215 := n0_; have HB := n1_; clear n0_ n1_; (try clear hb); (try clear hb2); (try clear hk); (try clear hi); (try clear ho0))))
  go_loopg [10] k (fun kq v10 w' => ∃ (x10_1 : Int), v10 = .int .i64 x10_1 ∧ Aside0 (heliastlaw17_near.l0 kq l3 t213 x10_1 = some r) ∧ Aside0 (kq ≤ k) ∧ Aside0 (Kd.R (Kd.int .i64) 3 w' w.heap.size (fun _ => True) v214 t213) ∧ Aside0 (Below w.heap.size w w'))
  case atStart => exact ⟨(0), (by first | rfl | (simp; done) | (simp [*]; done)), H', ⟨Nat.le_refl _⟩, ⟨by (with_reducible repeat (first | apply Kd.R_alloc | apply Kd.R_drewN | apply Kd.R_drew)); exact HO215.out⟩, ⟨by repeat (first | (with_reducible first | exact HB.out | apply below_alloc | apply pw_below_drewN | apply below_drew1) | exact HB.out)⟩⟩
  case round =>
    clear H'
    try clear c1
    try clear p2
    try clear c3
    obtain ⟨x10_1, rfl, HA, HK1, HO_9, HB⟩ := hrel
    cases gk with
    | zero => exact absurd HA.out (by simp [heliastlaw17_near.l0])
    | succ k1 =>
      have H := HA.out
      clear HA
      simp only [heliastlaw17_near.l0] at H
      by_cases c7 : x10_1 < (t213.length : Int)
      · rw [if_pos c7] at H
        have c7b0 : decide (x10_1 < (t213.length : Int)) = true := decide_eq_true c7
        clear c7
        have H' := Aside0.mk H
        clear H
        obtain ⟨Ao8, co8, eo8⟩ := Kd.R_slice HO_9.out
        subst eo8
        go_wp2
        repeat (go_quiet (fail); try go_wp2)
        go_loopg [11] k1 (fun kq v11 w' => ∃ (x11_2 : Int), v11 = .int .i64 x11_2 ∧ Aside0 (heliastlaw17_near.l1 kq l3 t213 x10_1 x11_2 = some r) ∧ Aside0 (kq ≤ k1) ∧ Aside0 (Kd.R (Kd.int .i64) 3 w' w.heap.size (fun _ => True) (.slice Ao8 t213.length co8) t213) ∧ Aside0 (Below w.heap.size w w'))
        case atStart => exact ⟨(0), (by first | rfl | (simp; done) | (simp [*]; done)), H', ⟨Nat.le_refl _⟩, ⟨by (with_reducible repeat (first | apply Kd.R_alloc | apply Kd.R_drewN | apply Kd.R_drew)); exact HO_9.out⟩, ⟨by repeat (first | (with_reducible first | exact HB.out | apply below_alloc | apply pw_below_drewN | apply below_drew1) | exact HB.out)⟩⟩
        case round =>
          clear H'
          try clear c1
          try clear p2
          try clear c3
          try clear c7
          try clear c7b0
          try clear p2
          obtain ⟨x11_2, rfl, HA, HK2, HO_9, HB⟩ := hrel
          cases gk with
          | zero => exact absurd HA.out (by simp [heliastlaw17_near.l1])
          | succ k2 =>
            have H := HA.out
            clear HA
            simp only [heliastlaw17_near.l1] at H
            by_cases c9 : x11_2 < (l3.length : Int)
            · rw [if_pos c9] at H
              have c9b0 : decide (x11_2 < (l3.length : Int)) = true := decide_eq_true c9
              clear c9
              by_cases c10 : 0 ≤ x11_2
              · rw [if_pos c10] at H
                have c10b0 : decide (0 ≤ x11_2) = true := decide_eq_true c10
                clear c10
                by_cases c11 : 0 ≤ x10_1
                · rw [if_pos c11] at H
                  have c11b0 : decide (0 ≤ x10_1) = true := decide_eq_true c11
                  clear c11
                  by_cases c12 : x10_1 < (t213.length : Int)
                  · rw [if_pos c12] at H
                    have c12b0 : decide (x10_1 < (t213.length : Int)) = true := decide_eq_true c12
                    clear c12
                    by_cases c13 : (rd l3 x11_2) = (rd t213 x10_1)
                    · rw [if_pos c13] at H
                      have c13b0 : ((rd l3 x11_2) == (rd t213 x10_1)) = true := beq_iff_eq.mpr c13
                      have c13b1 : ((rd l3 x11_2) != (rd t213 x10_1)) = false := bne_eq_false_iff_eq.mpr c13
                      clear c13
                      obtain rfl := Option.some.inj H
                      have p216 : 0 ≤ (x11_2 : Int) := of_decide_eq_true (by first | (with_reducible assumption) | assumption)
                      have q216 : x11_2 < (l3.length : Int) := of_decide_eq_true (by first | (with_reducible assumption) | assumption)
                      obtain ⟨ad216, e216, hx216_0⟩ := Kd.at_int HR3.out x11_2 p216 q216
                      cases e216
                      replace hx216_0 := (HB.out.cell (World.block_lt_of_cell? w _ hx216_0)).trans hx216_0
                      replace p216 := eq_true p216
                      replace q216 := eq_true q216
                      have p217 : 0 ≤ (x10_1 : Int) := of_decide_eq_true (by first | (with_reducible assumption) | assumption)
                      have q217 : x10_1 < (t213.length : Int) := of_decide_eq_true (by first | (with_reducible assumption) | assumption)
                      obtain ⟨ad217, e217, hx217_0⟩ := Kd.at_int (Kd.R_reads' HO_9.out).2.2 x10_1 p217 q217
                      cases e217
                      replace p217 := eq_true p217
                      replace q217 := eq_true q217
                      go_wp2
                      repeat (go_quiet (fail); try go_wp2)
                      go_ret
                      exact ⟨by first | rfl | (simp [errW_none, errW_some] <;> rfl) | (simp [*, errW_none, errW_some] <;> rfl), by repeat (first | (with_reducible first | exact HB.out | apply below_alloc | apply pw_below_drewN | apply below_drew1) | exact HB.out)⟩
                    · rw [if_neg c13] at H
                      have c13b0 : ((rd l3 x11_2) == (rd t213 x10_1)) = false := beq_eq_false_iff_ne.mpr c13
                      have c13b1 : ((rd l3 x11_2) != (rd t213 x10_1)) = true := bne_iff_ne.mpr c13
                      have H' := Aside0.mk H
                      clear H
                      have p216 : 0 ≤ (x11_2 : Int) := of_decide_eq_true (by first | (with_reducible assumption) | assumption)
                      have q216 : x11_2 < (l3.length : Int) := of_decide_eq_true (by first | (with_reducible assumption) | assumption)
                      obtain ⟨ad216, e216, hx216_0⟩ := Kd.at_int HR3.out x11_2 p216 q216
                      cases e216
                      replace hx216_0 := (HB.out.cell (World.block_lt_of_cell? w _ hx216_0)).trans hx216_0
                      replace p216 := eq_true p216
                      replace q216 := eq_true q216
                      have p217 : 0 ≤ (x10_1 : Int) := of_decide_eq_true (by first | (with_reducible assumption) | assumption)
                      have q217 : x10_1 < (t213.length : Int) := of_decide_eq_true (by first | (with_reducible assumption) | assumption)
                      obtain ⟨ad217, e217, hx217_0⟩ := Kd.at_int (Kd.R_reads' HO_9.out).2.2 x10_1 p217 q217
                      cases e217
                      replace p217 := eq_true p217
                      replace q217 := eq_true q217
                      go_wp2
                      repeat (go_quiet (fail); try go_wp2)
                      go_roundg k2
                      case measure => have := HK1.out; have := HK2.out; omega
                      case rel => exact ⟨(wrap64 (x11_2 + 1)), (by first | rfl | (simp; done) | (simp [*]; done)), H', ⟨by have := HK1.out; have := HK2.out; omega⟩, ⟨by (with_reducible repeat (first | apply Kd.R_alloc | apply Kd.R_drewN | apply Kd.R_drew)); exact HO_9.out⟩, ⟨by repeat (first | (with_reducible first | exact HB.out | apply below_alloc | apply pw_below_drewN | apply below_drew1) | exact HB.out)⟩⟩
                  · rw [if_neg c12] at H
                    exact absurd H (by simp)
                · rw [if_neg c11] at H
                  exact absurd H (by simp)
              · rw [if_neg c10] at H
                exact absurd H (by simp)
            · rw [if_neg c9] at H
              have c9b0 : decide (x11_2 < (l3.length : Int)) = false := decide_eq_false c9
              clear c9
              have H' := Aside0.mk H
              clear H
              go_wp2
              repeat (go_quiet (fail); try go_wp2)
              go_roundg k2
              case measure => have := HK1.out; have := HK2.out; omega
              case rel => exact ⟨(wrap64 (x10_1 + 1)), (by first | rfl | (simp; done) | (simp [*]; done)), H', ⟨by have := HK1.out; have := HK2.out; omega⟩, ⟨by (with_reducible repeat (first | apply Kd.R_alloc | apply Kd.R_drewN | apply Kd.R_drew)); exact HO_9.out⟩, ⟨by repeat (first | (with_reducible first | exact HB.out | apply below_alloc | apply pw_below_drewN | apply below_drew1) | exact HB.out)⟩⟩
      · rw [if_neg c7] at H
        have c7b0 : decide (x10_1 < (t213.length : Int)) = false := decide_eq_false c7
        clear c7
        obtain rfl := Option.some.inj H
        obtain ⟨Ao14, co14, eo14⟩ := Kd.R_slice HO_9.out
        subst eo14
        go_wp2
        repeat (go_quiet (fail); try go_wp2)
        go_ret
        exact ⟨by first | rfl | (simp [errW_none, errW_some] <;> rfl) | (simp [*, errW_none, errW_some] <;> rfl), by repeat (first | (with_reducible first | exact HB.out | apply below_alloc | apply pw_below_drewN | apply below_drew1) | exact HB.out)⟩
end Go.Proofs.Ytmdjknkhjimgeaa.S
end
section
namespace Go.Proofs.Ytmdjknkhjimgeaa.S
open Go.RowKit Go.Proofs.YtmdjknkhjimgeaaW.PrintWords Go.Proofs.YtmdjknkhjimgeaaW.PrintLast Go.Proofs.YtmdjknkhjimgeaaW.PrintMore
attribute [local go_sem] max2_int min2_int max_two min_two max_three min_three max_four min_four
set_option linter.unusedVariables false
set_option linter.unusedSimpArgs false
def heliastlaw17_sooner.f (l0 : List (S34)) (a1 : Int) (a2 : Int) : Option (Bool) := if 0 ≤ a1 then (if a1 < (l0.length : Int) then (if 0 ≤ a2 then (if a2 < (l0.length : Int) then (if ((rd_T34 l0 a1).f9) = ((rd_T34 l0 a2).f9) then (if ((rd_T34 l0 a1).f0).toList = ((rd_T34 l0 a2).f0).toList then (some (decide (a1 < a2))) else (some (Op.bytesLess (((rd_T34 l0 a1).f0).toList) (((rd_T34 l0 a2).f0).toList)))) else (some (decide (((rd_T34 l0 a1).f9) < ((rd_T34 l0 a2).f9))))) else (none)) else (none)) else (none)) else (none)
set_option maxHeartbeats 8000000 in
set_option maxRecDepth 100000 in
theorem heliastlaw17_sooner.calls (A0 : Option Addr) (c0 : Nat) (l0 : List (S34)) (a1 : Int) (a2 : Int) (r : Bool) (w : World) (hr0 : Kd.C k34 w A0 l0.length l0) (hc0 : l0.length ≤ c0) (h : heliastlaw17_sooner.f l0 a1 a2 = some r) :
    Calls Try.prog 36 #[.slice A0 l0.length c0, .int .i64 a1, .int .i64 a2] w fun e w' => e = .returned (.bool r) ∧ Drawn0 w w' := by
  have HR0 := Aside0.mk hr0
  have HC0 := Aside0.mk hc0
  clear hr0 hc0
  have H : (if 0 ≤ a1 then (if a1 < (l0.length : Int) then (if 0 ≤ a2 then (if a2 < (l0.length : Int) then (if ((rd_T34 l0 a1).f9) = ((rd_T34 l0 a2).f9) then (if ((rd_T34 l0 a1).f0).toList = ((rd_T34 l0 a2).f0).toList then (some (decide (a1 < a2))) else (some (Op.bytesLess (((rd_T34 l0 a1).f0).toList) (((rd_T34 l0 a2).f0).toList)))) else (some (decide (((rd_T34 l0 a1).f9) < ((rd_T34 l0 a2).f9))))) else (none)) else (none)) else (none)) else (none)) = some r := h
  clear h
  by_cases c4 : 0 ≤ a1
  · rw [if_pos c4] at H
    have c4b0 : decide (0 ≤ a1) = true := decide_eq_true c4
    clear c4
    by_cases c5 : a1 < (l0.length : Int)
    · rw [if_pos c5] at H
      have c5b0 : decide (a1 < (l0.length : Int)) = true := decide_eq_true c5
      clear c5
      by_cases c6 : 0 ≤ a2
      · rw [if_pos c6] at H
        have c6b0 : decide (0 ≤ a2) = true := decide_eq_true c6
        clear c6
        by_cases c7 : a2 < (l0.length : Int)
        · rw [if_pos c7] at H
          have c7b0 : decide (a2 < (l0.length : Int)) = true := decide_eq_true c7
          clear c7
          by_cases c8 : ((rd_T34 l0 a1).f9) = ((rd_T34 l0 a2).f9)
          · rw [if_pos c8] at H
            have c8b0 : (((rd_T34 l0 a1).f9) == ((rd_T34 l0 a2).f9)) = true := beq_iff_eq.mpr c8
            have c8b1 : (((rd_T34 l0 a1).f9) != ((rd_T34 l0 a2).f9)) = false := bne_eq_false_iff_eq.mpr c8
            clear c8
            by_cases c9 : ((rd_T34 l0 a1).f0).toList = ((rd_T34 l0 a2).f0).toList
            · rw [if_pos c9] at H
              have c9b0 : (((rd_T34 l0 a1).f0).toList == ((rd_T34 l0 a2).f0).toList) = true := beq_iff_eq.mpr c9
              have c9b1 : (((rd_T34 l0 a1).f0).toList != ((rd_T34 l0 a2).f0).toList) = false := bne_eq_false_iff_eq.mpr c9
              clear c9
              obtain rfl := Option.some.inj H
              have p218 : 0 ≤ (a1 : Int) := of_decide_eq_true (by first | (with_reducible assumption) | assumption)
              have q218 : a1 < (l0.length : Int) := of_decide_eq_true (by first | (with_reducible assumption) | assumption)
              obtain ⟨ad218, A218_6, c218_6, A218_7, c218_7, A218_13, c218_13, A218_14, c218_14, e218, hx218_0, hx218_1, hx218_2, hx218_3, hx218_4, hx218_5, hx218_6, hx218_7, hx218_8, hx218_9, hx218_10, hx218_11, hx218_12, hx218_13, hx218_14, hl218_6, hi218_6, hl218_7, hi218_7, hl218_13, hi218_13, hl218_14, hi218_14⟩ := at_T34 HR0.out a1 p218 q218
              cases e218
              have HR218_6 := Aside0.mk hi218_6
              have HC218_6 := Aside0.mk hl218_6
              clear hi218_6 hl218_6
              have HR218_7 := Aside0.mk hi218_7
              have HC218_7 := Aside0.mk hl218_7
              clear hi218_7 hl218_7
              have HR218_13 := Aside0.mk hi218_13
              have HC218_13 := Aside0.mk hl218_13
              clear hi218_13 hl218_13
              have HR218_14 := Aside0.mk hi218_14
              have HC218_14 := Aside0.mk hl218_14
              clear hi218_14 hl218_14
              replace p218 := eq_true p218
              replace q218 := eq_true q218
              have p219 : 0 ≤ (a2 : Int) := of_decide_eq_true (by first | (with_reducible assumption) | assumption)
              have q219 : a2 < (l0.length : Int) := of_decide_eq_true (by first | (with_reducible assumption) | assumption)
              obtain ⟨ad219, A219_6, c219_6, A219_7, c219_7, A219_13, c219_13, A219_14, c219_14, e219, hx219_0, hx219_1, hx219_2, hx219_3, hx219_4, hx219_5, hx219_6, hx219_7, hx219_8, hx219_9, hx219_10, hx219_11, hx219_12, hx219_13, hx219_14, hl219_6, hi219_6, hl219_7, hi219_7, hl219_13, hi219_13, hl219_14, hi219_14⟩ := at_T34 HR0.out a2 p219 q219
              obtain rfl : ad218 = ad219 := (by injection e219)
              have HR219_6 := Aside0.mk hi219_6
              have HC219_6 := Aside0.mk hl219_6
              clear hi219_6 hl219_6
              have HR219_7 := Aside0.mk hi219_7
              have HC219_7 := Aside0.mk hl219_7
              clear hi219_7 hl219_7
              have HR219_13 := Aside0.mk hi219_13
              have HC219_13 := Aside0.mk hl219_13
              clear hi219_13 hl219_13
              have HR219_14 := Aside0.mk hi219_14
              have HC219_14 := Aside0.mk hl219_14
              clear hi219_14 hl219_14
              replace p219 := eq_true p219
              replace q219 := eq_true q219
              have p220 : 0 ≤ (a1 : Int) := of_decide_eq_true (by first | (with_reducible assumption) | assumption)
              have q220 : a1 < (l0.length : Int) := of_decide_eq_true (by first | (with_reducible assumption) | assumption)
              obtain ⟨ad220, A220_6, c220_6, A220_7, c220_7, A220_13, c220_13, A220_14, c220_14, e220, hx220_0, hx220_1, hx220_2, hx220_3, hx220_4, hx220_5, hx220_6, hx220_7, hx220_8, hx220_9, hx220_10, hx220_11, hx220_12, hx220_13, hx220_14, hl220_6, hi220_6, hl220_7, hi220_7, hl220_13, hi220_13, hl220_14, hi220_14⟩ := at_T34 HR0.out a1 p220 q220
              obtain rfl : ad218 = ad220 := (by injection e220)
              have HR220_6 := Aside0.mk hi220_6
              have HC220_6 := Aside0.mk hl220_6
              clear hi220_6 hl220_6
              have HR220_7 := Aside0.mk hi220_7
              have HC220_7 := Aside0.mk hl220_7
              clear hi220_7 hl220_7
              have HR220_13 := Aside0.mk hi220_13
              have HC220_13 := Aside0.mk hl220_13
              clear hi220_13 hl220_13
              have HR220_14 := Aside0.mk hi220_14
              have HC220_14 := Aside0.mk hl220_14
              clear hi220_14 hl220_14
              replace p220 := eq_true p220
              replace q220 := eq_true q220
              have ea_ := Option.some.inj (hx218_6.symm.trans hx220_6)
              injection ea_ with ea_ en_ ec_
              subst ea_
              subst ec_
              clear en_
              have ea_ := Option.some.inj (hx218_7.symm.trans hx220_7)
              injection ea_ with ea_ en_ ec_
              subst ea_
              subst ec_
              clear en_
              have ea_ := Option.some.inj (hx218_13.symm.trans hx220_13)
              injection ea_ with ea_ en_ ec_
              subst ea_
              subst ec_
              clear en_
              have ea_ := Option.some.inj (hx218_14.symm.trans hx220_14)
              injection ea_ with ea_ en_ ec_
              subst ea_
              subst ec_
              clear en_
              have p221 : 0 ≤ (a2 : Int) := of_decide_eq_true (by first | (with_reducible assumption) | assumption)
              have q221 : a2 < (l0.length : Int) := of_decide_eq_true (by first | (with_reducible assumption) | assumption)
              obtain ⟨ad221, A221_6, c221_6, A221_7, c221_7, A221_13, c221_13, A221_14, c221_14, e221, hx221_0, hx221_1, hx221_2, hx221_3, hx221_4, hx221_5, hx221_6, hx221_7, hx221_8, hx221_9, hx221_10, hx221_11, hx221_12, hx221_13, hx221_14, hl221_6, hi221_6, hl221_7, hi221_7, hl221_13, hi221_13, hl221_14, hi221_14⟩ := at_T34 HR0.out a2 p221 q221
              obtain rfl : ad218 = ad221 := (by injection e221)
              have HR221_6 := Aside0.mk hi221_6
              have HC221_6 := Aside0.mk hl221_6
              clear hi221_6 hl221_6
              have HR221_7 := Aside0.mk hi221_7
              have HC221_7 := Aside0.mk hl221_7
              clear hi221_7 hl221_7
              have HR221_13 := Aside0.mk hi221_13
              have HC221_13 := Aside0.mk hl221_13
              clear hi221_13 hl221_13
              have HR221_14 := Aside0.mk hi221_14
              have HC221_14 := Aside0.mk hl221_14
              clear hi221_14 hl221_14
              replace p221 := eq_true p221
              replace q221 := eq_true q221
              have ea_ := Option.some.inj (hx219_6.symm.trans hx221_6)
              injection ea_ with ea_ en_ ec_
              subst ea_
              subst ec_
              clear en_
              have ea_ := Option.some.inj (hx219_7.symm.trans hx221_7)
              injection ea_ with ea_ en_ ec_
              subst ea_
              subst ec_
              clear en_
              have ea_ := Option.some.inj (hx219_13.symm.trans hx221_13)
              injection ea_ with ea_ en_ ec_
              subst ea_
              subst ec_
              clear en_
              have ea_ := Option.some.inj (hx219_14.symm.trans hx221_14)
              injection ea_ with ea_ en_ ec_
              subst ea_
              subst ec_
              clear en_
              go_enter Try.func36, Try.ntmps36
              go_wp2
              repeat (go_quiet (fail); try go_wp2)
              go_ret
              exact ⟨by first | rfl | (simp; done) | (simp [*]; done), by repeat (first | exact Drawn0.refl _ | apply Drawn0.step)⟩
            · rw [if_neg c9] at H
              have c9b0 : (((rd_T34 l0 a1).f0).toList == ((rd_T34 l0 a2).f0).toList) = false := beq_eq_false_iff_ne.mpr c9
              have c9b1 : (((rd_T34 l0 a1).f0).toList != ((rd_T34 l0 a2).f0).toList) = true := bne_iff_ne.mpr c9
              obtain rfl := Option.some.inj H
              have p218 : 0 ≤ (a1 : Int) := of_decide_eq_true (by first | (with_reducible assumption) | assumption)
              have q218 : a1 < (l0.length : Int) := of_decide_eq_true (by first | (with_reducible assumption) | assumption)
              obtain ⟨ad218, A218_6, c218_6, A218_7, c218_7, A218_13, c218_13, A218_14, c218_14, e218, hx218_0, hx218_1, hx218_2, hx218_3, hx218_4, hx218_5, hx218_6, hx218_7, hx218_8, hx218_9, hx218_10, hx218_11, hx218_12, hx218_13, hx218_14, hl218_6, hi218_6, hl218_7, hi218_7, hl218_13, hi218_13, hl218_14, hi218_14⟩ := at_T34 HR0.out a1 p218 q218
              cases e218
              have HR218_6 := Aside0.mk hi218_6
              have HC218_6 := Aside0.mk hl218_6
              clear hi218_6 hl218_6
              have HR218_7 := Aside0.mk hi218_7
              have HC218_7 := Aside0.mk hl218_7
              clear hi218_7 hl218_7
              have HR218_13 := Aside0.mk hi218_13
              have HC218_13 := Aside0.mk hl218_13
              clear hi218_13 hl218_13
              have HR218_14 := Aside0.mk hi218_14
              have HC218_14 := Aside0.mk hl218_14
              clear hi218_14 hl218_14
              replace p218 := eq_true p218
              replace q218 := eq_true q218
              have p219 : 0 ≤ (a2 : Int) := of_decide_eq_true (by first | (with_reducible assumption) | assumption)
              have q219 : a2 < (l0.length : Int) := of_decide_eq_true (by first | (with_reducible assumption) | assumption)
              obtain ⟨ad219, A219_6, c219_6, A219_7, c219_7, A219_13, c219_13, A219_14, c219_14, e219, hx219_0, hx219_1, hx219_2, hx219_3, hx219_4, hx219_5, hx219_6, hx219_7, hx219_8, hx219_9, hx219_10, hx219_11, hx219_12, hx219_13, hx219_14, hl219_6, hi219_6, hl219_7, hi219_7, hl219_13, hi219_13, hl219_14, hi219_14⟩ := at_T34 HR0.out a2 p219 q219
              obtain rfl : ad218 = ad219 := (by injection e219)
              have HR219_6 := Aside0.mk hi219_6
              have HC219_6 := Aside0.mk hl219_6
              clear hi219_6 hl219_6
              have HR219_7 := Aside0.mk hi219_7
              have HC219_7 := Aside0.mk hl219_7
              clear hi219_7 hl219_7
              have HR219_13 := Aside0.mk hi219_13
              have HC219_13 := Aside0.mk hl219_13
              clear hi219_13 hl219_13
              have HR219_14 := Aside0.mk hi219_14
              have HC219_14 := Aside0.mk hl219_14
              clear hi219_14 hl219_14
              replace p219 := eq_true p219
              replace q219 := eq_true q219
              have p220 : 0 ≤ (a1 : Int) := of_decide_eq_true (by first | (with_reducible assumption) | assumption)
              have q220 : a1 < (l0.length : Int) := of_decide_eq_true (by first | (with_reducible assumption) | assumption)
              obtain ⟨ad220, A220_6, c220_6, A220_7, c220_7, A220_13, c220_13, A220_14, c220_14, e220, hx220_0, hx220_1, hx220_2, hx220_3, hx220_4, hx220_5, hx220_6, hx220_7, hx220_8, hx220_9, hx220_10, hx220_11, hx220_12, hx220_13, hx220_14, hl220_6, hi220_6, hl220_7, hi220_7, hl220_13, hi220_13, hl220_14, hi220_14⟩ := at_T34 HR0.out a1 p220 q220
              obtain rfl : ad218 = ad220 := (by injection e220)
              have HR220_6 := Aside0.mk hi220_6
              have HC220_6 := Aside0.mk hl220_6
              clear hi220_6 hl220_6
              have HR220_7 := Aside0.mk hi220_7
              have HC220_7 := Aside0.mk hl220_7
              clear hi220_7 hl220_7
              have HR220_13 := Aside0.mk hi220_13
              have HC220_13 := Aside0.mk hl220_13
              clear hi220_13 hl220_13
              have HR220_14 := Aside0.mk hi220_14
              have HC220_14 := Aside0.mk hl220_14
              clear hi220_14 hl220_14
              replace p220 := eq_true p220
              replace q220 := eq_true q220
              have ea_ := Option.some.inj (hx218_6.symm.trans hx220_6)
              injection ea_ with ea_ en_ ec_
              subst ea_
              subst ec_
              clear en_
              have ea_ := Option.some.inj (hx218_7.symm.trans hx220_7)
              injection ea_ with ea_ en_ ec_
              subst ea_
              subst ec_
              clear en_
              have ea_ := Option.some.inj (hx218_13.symm.trans hx220_13)
              injection ea_ with ea_ en_ ec_
              subst ea_
              subst ec_
              clear en_
              have ea_ := Option.some.inj (hx218_14.symm.trans hx220_14)
              injection ea_ with ea_ en_ ec_
              subst ea_
              subst ec_
              clear en_
              have p221 : 0 ≤ (a2 : Int) := of_decide_eq_true (by first | (with_reducible assumption) | assumption)
              have q221 : a2 < (l0.length : Int) := of_decide_eq_true (by first | (with_reducible assumption) | assumption)
              obtain ⟨ad221, A221_6, c221_6, A221_7, c221_7, A221_13, c221_13, A221_14, c221_14, e221, hx221_0, hx221_1, hx221_2, hx221_3, hx221_4, hx221_5, hx221_6, hx221_7, hx221_8, hx221_9, hx221_10, hx221_11, hx221_12, hx221_13, hx221_14, hl221_6, hi221_6, hl221_7, hi221_7, hl221_13, hi221_13, hl221_14, hi221_14⟩ := at_T34 HR0.out a2 p221 q221
              obtain rfl : ad218 = ad221 := (by injection e221)
              have HR221_6 := Aside0.mk hi221_6
              have HC221_6 := Aside0.mk hl221_6
              clear hi221_6 hl221_6
              have HR221_7 := Aside0.mk hi221_7
              have HC221_7 := Aside0.mk hl221_7
              clear hi221_7 hl221_7
              have HR221_13 := Aside0.mk hi221_13
              have HC221_13 := Aside0.mk hl221_13
              clear hi221_13 hl221_13
              have HR221_14 := Aside0.mk hi221_14
              have HC221_14 := Aside0.mk hl221_14
              clear hi221_14 hl221_14
              replace p221 := eq_true p221
              replace q221 := eq_true q221
              have ea_ := Option.some.inj (hx219_6.symm.trans hx221_6)
              injection ea_ with ea_ en_ ec_
              subst ea_
              subst ec_
              clear en_
              have ea_ := Option.some.inj (hx219_7.symm.trans hx221_7)
              injection ea_ with ea_ en_ ec_
              subst ea_
              subst ec_
              clear en_
              have ea_ := Option.some.inj (hx219_13.symm.trans hx221_13)
              injection ea_ with ea_ en_ ec_
              subst ea_
              subst ec_
              clear en_
              have ea_ := Option.some.inj (hx219_14.symm.trans hx221_14)
              injection ea_ with ea_ en_ ec_
              subst ea_
              subst ec_
              clear en_
              have p222 : 0 ≤ (a1 : Int) := of_decide_eq_true (by first | (with_reducible assumption) | assumption)
              have q222 : a1 < (l0.length : Int) := of_decide_eq_true (by first | (with_reducible assumption) | assumption)
              obtain ⟨ad222, A222_6, c222_6, A222_7, c222_7, A222_13, c222_13, A222_14, c222_14, e222, hx222_0, hx222_1, hx222_2, hx222_3, hx222_4, hx222_5, hx222_6, hx222_7, hx222_8, hx222_9, hx222_10, hx222_11, hx222_12, hx222_13, hx222_14, hl222_6, hi222_6, hl222_7, hi222_7, hl222_13, hi222_13, hl222_14, hi222_14⟩ := at_T34 HR0.out a1 p222 q222
              obtain rfl : ad218 = ad222 := (by injection e222)
              have HR222_6 := Aside0.mk hi222_6
              have HC222_6 := Aside0.mk hl222_6
              clear hi222_6 hl222_6
              have HR222_7 := Aside0.mk hi222_7
              have HC222_7 := Aside0.mk hl222_7
              clear hi222_7 hl222_7
              have HR222_13 := Aside0.mk hi222_13
              have HC222_13 := Aside0.mk hl222_13
              clear hi222_13 hl222_13
              have HR222_14 := Aside0.mk hi222_14
              have HC222_14 := Aside0.mk hl222_14
              clear hi222_14 hl222_14
              replace p222 := eq_true p222
              replace q222 := eq_true q222
              have ea_ := Option.some.inj (hx218_6.symm.trans hx222_6)
              injection ea_ with ea_ en_ ec_
              subst ea_
              subst ec_
              clear en_
              have ea_ := Option.some.inj (hx218_7.symm.trans hx222_7)
              injection ea_ with ea_ en_ ec_
              subst ea_
              subst ec_
              clear en_
              have ea_ := Option.some.inj (hx218_13.symm.trans hx222_13)
              injection ea_ with ea_ en_ ec_
              subst ea_
              subst ec_
              clear en_
              have ea_ := Option.some.inj (hx218_14.symm.trans hx222_14)
              injection ea_ with ea_ en_ ec_
              subst ea_
              subst ec_
              clear en_
              have p223 : 0 ≤ (a2 : Int) := of_decide_eq_true (by first | (with_reducible assumption) | assumption)
              have q223 : a2 < (l0.length : Int) := of_decide_eq_true (by first | (with_reducible assumption) | assumption)
              obtain ⟨ad223, A223_6, c223_6, A223_7, c223_7, A223_13, c223_13, A223_14, c223_14, e223, hx223_0, hx223_1, hx223_2, hx223_3, hx223_4, hx223_5, hx223_6, hx223_7, hx223_8, hx223_9, hx223_10, hx223_11, hx223_12, hx223_13, hx223_14, hl223_6, hi223_6, hl223_7, hi223_7, hl223_13, hi223_13, hl223_14, hi223_14⟩ := at_T34 HR0.out a2 p223 q223
              obtain rfl : ad218 = ad223 := (by injection e223)
              have HR223_6 := Aside0.mk hi223_6
              have HC223_6 := Aside0.mk hl223_6
              clear hi223_6 hl223_6
              have HR223_7 := Aside0.mk hi223_7
              have HC223_7 := Aside0.mk hl223_7
              clear hi223_7 hl223_7
              have HR223_13 := Aside0.mk hi223_13
              have HC223_13 := Aside0.mk hl223_13
              clear hi223_13 hl223_13
              have HR223_14 := Aside0.mk hi223_14
              have HC223_14 := Aside0.mk hl223_14
              clear hi223_14 hl223_14
              replace p223 := eq_true p223
              replace q223 := eq_true q223
              have ea_ := Option.some.inj (hx219_6.symm.trans hx223_6)
              injection ea_ with ea_ en_ ec_
              subst ea_
              subst ec_
              clear en_
              have ea_ := Option.some.inj (hx219_7.symm.trans hx223_7)
              injection ea_ with ea_ en_ ec_
              subst ea_
              subst ec_
              clear en_
              have ea_ := Option.some.inj (hx219_13.symm.trans hx223_13)
              injection ea_ with ea_ en_ ec_
              subst ea_
              subst ec_
              clear en_
              have ea_ := Option.some.inj (hx219_14.symm.trans hx223_14)
              injection ea_ with ea_ en_ ec_
              subst ea_
              subst ec_
              clear en_
              go_enter Try.func36, Try.ntmps36
              go_wp2
              repeat (go_quiet (fail); try go_wp2)
              go_ret
              exact ⟨by first | rfl | (simp; done) | (simp [*]; done), by repeat (first | exact Drawn0.refl _ | apply Drawn0.step)⟩
          · rw [if_neg c8] at H
            have c8b0 : (((rd_T34 l0 a1).f9) == ((rd_T34 l0 a2).f9)) = false := beq_eq_false_iff_ne.mpr c8
            have c8b1 : (((rd_T34 l0 a1).f9) != ((rd_T34 l0 a2).f9)) = true := bne_iff_ne.mpr c8
            obtain rfl := Option.some.inj H
            have p218 : 0 ≤ (a1 : Int) := of_decide_eq_true (by first | (with_reducible assumption) | assumption)
            have q218 : a1 < (l0.length : Int) := of_decide_eq_true (by first | (with_reducible assumption) | assumption)
            obtain ⟨ad218, A218_6, c218_6, A218_7, c218_7, A218_13, c218_13, A218_14, c218_14, e218, hx218_0, hx218_1, hx218_2, hx218_3, hx218_4, hx218_5, hx218_6, hx218_7, hx218_8, hx218_9, hx218_10, hx218_11, hx218_12, hx218_13, hx218_14, hl218_6, hi218_6, hl218_7, hi218_7, hl218_13, hi218_13, hl218_14, hi218_14⟩ := at_T34 HR0.out a1 p218 q218
            cases e218
            have HR218_6 := Aside0.mk hi218_6
            have HC218_6 := Aside0.mk hl218_6
            clear hi218_6 hl218_6
            have HR218_7 := Aside0.mk hi218_7
            have HC218_7 := Aside0.mk hl218_7
            clear hi218_7 hl218_7
            have HR218_13 := Aside0.mk hi218_13
            have HC218_13 := Aside0.mk hl218_13
            clear hi218_13 hl218_13
            have HR218_14 := Aside0.mk hi218_14
            have HC218_14 := Aside0.mk hl218_14
            clear hi218_14 hl218_14
            replace p218 := eq_true p218
            replace q218 := eq_true q218
            have p219 : 0 ≤ (a2 : Int) := of_decide_eq_true (by first | (with_reducible assumption) | assumption)
            have q219 : a2 < (l0.length : Int) := of_decide_eq_true (by first | (with_reducible assumption) | assumption)
            obtain ⟨ad219, A219_6, c219_6, A219_7, c219_7, A219_13, c219_13, A219_14, c219_14, e219, hx219_0, hx219_1, hx219_2, hx219_3, hx219_4, hx219_5, hx219_6, hx219_7, hx219_8, hx219_9, hx219_10, hx219_11, hx219_12, hx219_13, hx219_14, hl219_6, hi219_6, hl219_7, hi219_7, hl219_13, hi219_13, hl219_14, hi219_14⟩ := at_T34 HR0.out a2 p219 q219
            obtain rfl : ad218 = ad219 := (by injection e219)
            have HR219_6 := Aside0.mk hi219_6
            have HC219_6 := Aside0.mk hl219_6
            clear hi219_6 hl219_6
            have HR219_7 := Aside0.mk hi219_7
            have HC219_7 := Aside0.mk hl219_7
            clear hi219_7 hl219_7
            have HR219_13 := Aside0.mk hi219_13
            have HC219_13 := Aside0.mk hl219_13
            clear hi219_13 hl219_13
            have HR219_14 := Aside0.mk hi219_14
            have HC219_14 := Aside0.mk hl219_14
            clear hi219_14 hl219_14
            replace p219 := eq_true p219
            replace q219 := eq_true q219
            have p224 : 0 ≤ (a1 : Int) := of_decide_eq_true (by first | (with_reducible assumption) | assumption)
            have q224 : a1 < (l0.length : Int) := of_decide_eq_true (by first | (with_reducible assumption) | assumption)
            obtain ⟨ad224, A224_6, c224_6, A224_7, c224_7, A224_13, c224_13, A224_14, c224_14, e224, hx224_0, hx224_1, hx224_2, hx224_3, hx224_4, hx224_5, hx224_6, hx224_7, hx224_8, hx224_9, hx224_10, hx224_11, hx224_12, hx224_13, hx224_14, hl224_6, hi224_6, hl224_7, hi224_7, hl224_13, hi224_13, hl224_14, hi224_14⟩ := at_T34 HR0.out a1 p224 q224
            obtain rfl : ad218 = ad224 := (by injection e224)
            have HR224_6 := Aside0.mk hi224_6
            have HC224_6 := Aside0.mk hl224_6
            clear hi224_6 hl224_6
            have HR224_7 := Aside0.mk hi224_7
            have HC224_7 := Aside0.mk hl224_7
            clear hi224_7 hl224_7
            have HR224_13 := Aside0.mk hi224_13
            have HC224_13 := Aside0.mk hl224_13
            clear hi224_13 hl224_13
            have HR224_14 := Aside0.mk hi224_14
            have HC224_14 := Aside0.mk hl224_14
            clear hi224_14 hl224_14
            replace p224 := eq_true p224
            replace q224 := eq_true q224
            have ea_ := Option.some.inj (hx218_6.symm.trans hx224_6)
            injection ea_ with ea_ en_ ec_
            subst ea_
            subst ec_
            clear en_
            have ea_ := Option.some.inj (hx218_7.symm.trans hx224_7)
            injection ea_ with ea_ en_ ec_
            subst ea_
            subst ec_
            clear en_
            have ea_ := Option.some.inj (hx218_13.symm.trans hx224_13)
            injection ea_ with ea_ en_ ec_
            subst ea_
            subst ec_
            clear en_
            have ea_ := Option.some.inj (hx218_14.symm.trans hx224_14)
            injection ea_ with ea_ en_ ec_
            subst ea_
            subst ec_
            clear en_
            have p225 : 0 ≤ (a2 : Int) := of_decide_eq_true (by first | (with_reducible assumption) | assumption)
            have q225 : a2 < (l0.length : Int) := of_decide_eq_true (by first | (with_reducible assumption) | assumption)
            obtain ⟨ad225, A225_6, c225_6, A225_7, c225_7, A225_13, c225_13, A225_14, c225_14, e225, hx225_0, hx225_1, hx225_2, hx225_3, hx225_4, hx225_5, hx225_6, hx225_7, hx225_8, hx225_9, hx225_10, hx225_11, hx225_12, hx225_13, hx225_14, hl225_6, hi225_6, hl225_7, hi225_7, hl225_13, hi225_13, hl225_14, hi225_14⟩ := at_T34 HR0.out a2 p225 q225
            obtain rfl : ad218 = ad225 := (by injection e225)
            have HR225_6 := Aside0.mk hi225_6
            have HC225_6 := Aside0.mk hl225_6
            clear hi225_6 hl225_6
            have HR225_7 := Aside0.mk hi225_7
            have HC225_7 := Aside0.mk hl225_7
            clear hi225_7 hl225_7
            have HR225_13 := Aside0.mk hi225_13
            have HC225_13 := Aside0.mk hl225_13
            clear hi225_13 hl225_13
            have HR225_14 := Aside0.mk hi225_14
            have HC225_14 := Aside0.mk hl225_14
            clear hi225_14 hl225_14
            replace p225 := eq_true p225
            replace q225 := eq_true q225
            have ea_ := Option.some.inj (hx219_6.symm.trans hx225_6)
            injection ea_ with ea_ en_ ec_
            subst ea_
            subst ec_
            clear en_
            have ea_ := Option.some.inj (hx219_7.symm.trans hx225_7)
            injection ea_ with ea_ en_ ec_
            subst ea_
            subst ec_
            clear en_
            have ea_ := Option.some.inj (hx219_13.symm.trans hx225_13)
            injection ea_ with ea_ en_ ec_
            subst ea_
            subst ec_
            clear en_
            have ea_ := Option.some.inj (hx219_14.symm.trans hx225_14)
            injection ea_ with ea_ en_ ec_
            subst ea_
            subst ec_
            clear en_
            go_enter Try.func36, Try.ntmps36
            go_wp2
            repeat (go_quiet (fail); try go_wp2)
            go_ret
            exact ⟨by first | rfl | (simp; done) | (simp [*]; done), by repeat (first | exact Drawn0.refl _ | apply Drawn0.step)⟩
        · rw [if_neg c7] at H
          exact absurd H (by simp)
      · rw [if_neg c6] at H
        exact absurd H (by simp)
    · rw [if_neg c5] at H
      exact absurd H (by simp)
  · rw [if_neg c4] at H
    exact absurd H (by simp)
end Go.Proofs.Ytmdjknkhjimgeaa.S
end
section
namespace Go.Proofs.Ytmdjknkhjimgeaa.S
open Go.RowKit Go.Proofs.YtmdjknkhjimgeaaW.PrintWords Go.Proofs.YtmdjknkhjimgeaaW.PrintLast Go.Proofs.YtmdjknkhjimgeaaW.PrintMore
attribute [local go_sem] max2_int min2_int max_two min_two max_three min_three max_four min_four
set_option linter.unusedVariables false
set_option linter.unusedSimpArgs false
open Go.Proofs.He
theorem hasD_evM (l : List Int) (n : Int) (hl : l.length < 9223372036854775807) : Ev (fun k => heliastref12_Has.f k l n) (decide (n ∈ l)) := by
  have h : ∀ (d i : Nat), l.length - i = d → (∀ (j : Nat), j < i → l[j]? ≠ some n) → Ev (fun k => heliastref12_Has.l0 k l n (i : Int)) (decide (n ∈ l)) := by
    intro d
    induction d with
    | zero =>
      intro i hd hn
      have e : decide (n ∈ l) = false := decide_eq_false (fun h => by
        obtain ⟨j, hj, e⟩ := List.getElem_of_mem h
        exact hn j (by omega) (by rw [List.getElem?_eq_getElem hj, e]))
      rw [e]
      exact Ev.step (f := fun _ => some false) (fun k => by show heliastref12_Has.l0 (k + 1) l n i = _; rw [heliastref12_Has.l0, if_neg (by omega)]) (Ev.now _)
    | succ d ih =>
      intro i hd hn
      by_cases e2 : rd l (i : Int) = n
      · have hi : l[i]? = some n := by rw [← e2, rd, Int.toNat_natCast, List.getD_eq_getElem?_getD, List.getElem?_eq_getElem (by omega)]; rfl
        have e : decide (n ∈ l) = true := decide_eq_true (List.mem_of_getElem? hi)
        rw [e]
        exact Ev.step (f := fun _ => some true) (fun k => by show heliastref12_Has.l0 (k + 1) l n i = _; rw [heliastref12_Has.l0, if_pos (by omega), if_pos (by omega), if_pos e2]) (Ev.now _)
      · refine Ev.step (fun k => by show heliastref12_Has.l0 (k + 1) l n i = _; rw [heliastref12_Has.l0, if_pos (by omega), if_pos (by omega), if_neg e2, show wrap64 ((i : Int) + 1) = ((i + 1 : Nat) : Int) by unfold wrap64; omega]) (ih (i + 1) (by omega) (fun j hj e => ?_))
        by_cases hji : j = i
        · subst hji
          exact e2 (by rw [rd, Int.toNat_natCast, List.getD_eq_getElem?_getD, e]; rfl)
        · exact hn j (by omega) e
  exact h _ 0 rfl (fun j hj => absurd hj (Nat.not_lt_zero _))
theorem set_evM (n : Nat) (xs : List Int) (hn : n ≤ 1000) (hx : xs.length < 1000000) : ∃ r : List Int, Ev (fun k => heliastlaw17_set.f k (n : Int) xs) r ∧ r.Pairwise (· < ·) ∧ (∀ x, x ∈ r ↔ x ∈ xs ∧ 0 ≤ x ∧ x < (n : Int)) ∧ r.length ≤ n := by
  have h : ∀ (d i : Nat) (o : List Int), n - i = d → i ≤ n → o.Pairwise (· < ·) → (∀ x, x ∈ o ↔ x ∈ xs ∧ 0 ≤ x ∧ x < (i : Int)) → o.length ≤ i → ∃ r : List Int, Ev (fun k => heliastlaw17_set.l0 k (n : Int) xs o (i : Int)) r ∧ r.Pairwise (· < ·) ∧ (∀ x, x ∈ r ↔ x ∈ xs ∧ 0 ≤ x ∧ x < (n : Int)) ∧ r.length ≤ n := by
    intro d
    induction d with
    | zero =>
      intro i o hd hi hp hm ho
      have e : i = n := by omega
      subst e
      exact ⟨o, Ev.step (f := fun _ => some o) (fun k => by show heliastlaw17_set.l0 (k + 1) _ xs o i = _; rw [heliastlaw17_set.l0, if_neg (by omega)]) (Ev.now _), hp, hm, ho⟩
    | succ d ih =>
      intro i o hd hi hp hm ho
      have hw : wrap64 ((i : Int) + 1) = ((i + 1 : Nat) : Int) := by unfold wrap64; omega
      have hb := hasD_evM xs (i : Int) (by omega)
      by_cases hc : (i : Int) ∈ xs
      · rw [decide_eq_true hc] at hb
        obtain ⟨r, hr, hq⟩ := ih (i + 1) (o ++ [(i : Int)]) (by omega) (by omega) (List.pairwise_append.2 ⟨hp, List.pairwise_singleton _ _, fun a ha b hb => by rw [List.mem_singleton.1 hb]; exact ((hm a).1 ha).2.2⟩) (fun x => by
          rw [List.mem_append, hm, List.mem_singleton]
          constructor
          · rintro (⟨h1, h2, h3⟩ | rfl)
            · exact ⟨h1, h2, by omega⟩
            · exact ⟨hc, by omega, by omega⟩
          · rintro ⟨h1, h2, h3⟩
            by_cases e : x = (i : Int)
            · exact .inr e
            · exact .inl ⟨h1, h2, by omega⟩) (by simp; omega)
        exact ⟨r, Ev.step (fun k => by show heliastlaw17_set.l0 (k + 1) _ xs o i = _; rw [heliastlaw17_set.l0, if_pos (by omega)]) (Ev.bind hb (Ev.congr (fun k => by rw [if_pos rfl, if_pos (by omega), hw]) hr)), hq⟩
      · rw [decide_eq_false hc] at hb
        obtain ⟨r, hr, hq⟩ := ih (i + 1) o (by omega) (by omega) hp (fun x => by
          rw [hm]
          constructor
          · rintro ⟨h1, h2, h3⟩; exact ⟨h1, h2, by omega⟩
          · rintro ⟨h1, h2, h3⟩
            by_cases e : x = (i : Int)
            · subst e; exact absurd h1 hc
            · exact ⟨h1, h2, by omega⟩) (by omega)
        exact ⟨r, Ev.step (fun k => by show heliastlaw17_set.l0 (k + 1) _ xs o i = _; rw [heliastlaw17_set.l0, if_pos (by omega)]) (Ev.bind hb (Ev.congr (fun k => by rw [if_neg (by decide), hw]) hr)), hq⟩
  obtain ⟨r, hr, hq⟩ := h n 0 [] rfl (Nat.zero_le _) List.Pairwise.nil (fun x => ⟨fun h => (nomatch h), fun h => by have := h.2.1; have := h.2.2; omega⟩) (Nat.le_refl _)
  exact ⟨r, Ev.congr (fun k => rfl) hr, hq⟩
theorem some_evM (ds : List Int) (n : Nat) (hn : n ≤ 1000) : ∃ r : List Int, Ev (fun k => heliastlaw17_Some.f k ds (n : Int)) r ∧ r.length ≤ 20 := by
  have hz : ¬ wrap64 ((n : Int) + 2) = 0 := by unfold wrap64; omega
  have h : ∀ (d i : Nat) (o : List Int), 20 - i = d → i ≤ 20 → o.length ≤ i → ∃ r : List Int, Ev (fun k => heliastlaw17_Some.l0 k ds (n : Int) o (i : Int)) r ∧ r.length ≤ 20 := by
    intro d
    induction d with
    | zero =>
      intro i o hd hi ho
      refine ⟨o, Ev.step (f := fun _ => some o) (fun k => ?_) (Ev.now _), by omega⟩
      show heliastlaw17_Some.l0 (k + 1) ds _ o i = _
      rw [heliastlaw17_Some.l0]
      by_cases h1 : (i : Int) < (ds.length : Int)
      · rw [if_pos h1, if_neg (by omega)]
      · rw [if_neg h1]
    | succ d ih =>
      intro i o hd hi ho
      by_cases h1 : (i : Int) < (ds.length : Int)
      · obtain ⟨r, hr, hq⟩ := ih (i + 1) (o ++ [wrap64 ((Int.tmod (wrap64 (rd ds (i : Int))) (wrap64 ((n : Int) + 2))) - 1)]) (by omega) (by omega) (by simp; omega)
        refine ⟨r, Ev.step (fun k => ?_) hr, hq⟩
        show heliastlaw17_Some.l0 (k + 1) ds _ o i = _
        rw [heliastlaw17_Some.l0, if_pos h1, if_pos (by omega), if_pos (by omega), if_neg hz, if_pos (by omega), show wrap64 ((i : Int) + 1) = ((i + 1 : Nat) : Int) from (by clear hz; unfold wrap64; omega)]
      · refine ⟨o, Ev.step (f := fun _ => some o) (fun k => ?_) (Ev.now _), by omega⟩
        show heliastlaw17_Some.l0 (k + 1) ds _ o i = _
        rw [heliastlaw17_Some.l0, if_neg h1]
  obtain ⟨r, hr, hq⟩ := h _ 0 [] rfl (Nat.zero_le _) (Nat.zero_le _)
  exact ⟨r, Ev.congr (fun k => rfl) hr, hq⟩
theorem bytePM {x : Int} (h : (Lit.int .u8 x).wf = true) : 0 ≤ x ∧ x < 256 := by
  simp only [Lit.wf, Bool.and_eq_true, decide_eq_true_eq] at h
  have h1 : (0 : Int) ≤ x := h.1
  have h2 : x ≤ (255 : Int) := h.2
  omega
theorem placesM_self {n : Nat} {A : List Int} (hA : A.Pairwise (· < ·)) (hin : ∀ x ∈ A, 0 ≤ x ∧ x < (n : Int)) : placesL n A = A := by
  refine rises_eq (riseL_spec _).1 hA (fun x => ?_)
  show x ∈ riseL _ ↔ _
  rw [(riseL_spec _).2, List.mem_filter]
  refine ⟨fun h => h.1, fun h => ⟨h, ?_⟩⟩
  have := hin x h
  unfold outP
  simp
  omega
theorem idxP {x : Int} {line : List Int} (n : Nat) (hn : n < line.length) (hx : line[n] = x) (h : ∀ j, j < n → ∀ y, line[j]? = some y → y ≠ x) : idxOf (fun y => decide (y = x)) line = (n : Int) :=
  idxOf_hit hn (fun j hj y hy => decide_eq_false (h j hj y hy)) (by rw [hx]; exact decide_eq_true rfl)
theorem near_row (line xs : List Int) (hl : line.length ≤ 100000) (hx : xs.length ≤ 100000) : Ev (fun k => heliastlaw17_near.l0 k line xs 0) (nearF line xs) := by
  have w64 : ∀ n : Nat, n ≤ 100000 → wrap64 ((n : Int) + 1) = ((n + 1 : Nat) : Int) := fun n hn => by unfold wrap64; omega
  have inner : ∀ (i : Nat), (hi : i < xs.length) → ∀ (d j : Nat), line.length - j = d → j ≤ line.length → (∀ m, m < j → ∀ y, line[m]? = some y → y ≠ xs[i]) → ∀ r, (xs[i] ∈ line → r = idxOf (fun y => decide (y = xs[i])) line) → (xs[i] ∉ line → Ev (fun k => heliastlaw17_near.l0 k line xs ((i + 1 : Nat) : Int)) r) → Ev (fun k => heliastlaw17_near.l1 k line xs (i : Int) (j : Int)) r := by
    intro i hi d
    induction d with
    | zero =>
      intro j hd hj hno r h1 h2
      have hnot : xs[i] ∉ line := fun hm => by
        obtain ⟨m, hm1, hm2⟩ := List.getElem_of_mem hm
        exact hno m (by omega) _ (List.getElem?_eq_getElem hm1) hm2
      exact Ev.step (fun k => by show heliastlaw17_near.l1 (k + 1) line xs i j = _; rw [heliastlaw17_near.l1, if_neg (by omega), w64 i (by omega)]) (h2 hnot)
    | succ d ih =>
      intro j hd hj hno r h1 h2
      have e1 : rd line (j : Int) = line[j] := by rw [rd, Int.toNat_natCast, List.getD_eq_getElem?_getD, List.getElem?_eq_getElem (by omega)]; rfl
      have e2 : rd xs (i : Int) = xs[i] := by rw [rd, Int.toNat_natCast, List.getD_eq_getElem?_getD, List.getElem?_eq_getElem hi]; rfl
      by_cases he : line[j] = xs[i]
      · have hr : r = (j : Int) := by rw [h1 (he ▸ List.getElem_mem _)]; exact idxP j (by omega) he hno
        rw [hr]
        exact Ev.step (f := fun _ => some (j : Int)) (fun k => by show heliastlaw17_near.l1 (k + 1) line xs i j = _; rw [heliastlaw17_near.l1, if_pos (by omega), if_pos (by omega), if_pos (by omega), if_pos (by omega), e1, e2, if_pos he]) (Ev.now _)
      · exact Ev.step (fun k => by show heliastlaw17_near.l1 (k + 1) line xs i j = _; rw [heliastlaw17_near.l1, if_pos (by omega), if_pos (by omega), if_pos (by omega), if_pos (by omega), e1, e2, if_neg he, w64 j (by omega)]) (ih (j + 1) (by omega) (by omega) (fun m hm y hy => by
          by_cases e : m = j
          · subst e; rw [List.getElem?_eq_getElem (by omega)] at hy; cases hy; exact he
          · exact hno m (by omega) y hy) r h1 h2)
  have outer : ∀ (d i : Nat), xs.length - i = d → i ≤ xs.length → Ev (fun k => heliastlaw17_near.l0 k line xs (i : Int)) (nearF line (xs.drop i)) := by
    intro d
    induction d with
    | zero =>
      intro i hd hi
      rw [List.drop_eq_nil_of_le (by omega)]
      exact Ev.step (f := fun _ => some (line.length : Int)) (fun k => by show heliastlaw17_near.l0 (k + 1) line xs i = _; rw [heliastlaw17_near.l0, if_neg (by omega)]) (Ev.now _)
    | succ d ih =>
      intro i hd hi
      rw [List.drop_eq_getElem_cons (by omega), nearF]
      refine Ev.step (fun k => by show heliastlaw17_near.l0 (k + 1) line xs i = _; rw [heliastlaw17_near.l0, if_pos (by omega)]; rfl) (inner i (by omega) _ 0 rfl (Nat.zero_le _) (fun m hm => absurd hm (Nat.not_lt_zero _)) _ (fun h => if_pos h) (fun h => ?_))
      rw [if_neg h]
      exact ih (i + 1) (by omega) (by omega)
  have h := outer _ 0 rfl (Nat.zero_le _)
  rw [List.drop_zero] at h
  exact h
theorem near_ev (l : List S34) (g : List (List Int)) (n : Int) (line : List Int) (hl : line.length ≤ 100000) (hL : l.length ≤ 100000) : Ev (fun k => heliastlaw17_near.f k l g n line) (nearF line (mainF l g n)) := by
  refine Ev.congr (fun k => ?_) (near_row line (mainF l g n) hl (Nat.le_trans (mainF_le l g n) hL))
  unfold heliastlaw17_near.f
  rw [order_Mainline.f, if_pos hL]
  rfl
theorem sooner_true {l : List S34} {num : Int → Int} {a b : Int} (ha : 0 ≤ a ∧ a < (l.length : Int)) (hb : 0 ≤ b ∧ b < (l.length : Int)) (h : TnLt (turnOf l num a) (turnOf l num b)) (hn : num a = num b) : heliastlaw17_sooner.f l a b = some true := by
  rw [heliastlaw17_sooner.f, if_pos ha.1, if_pos ha.2, if_pos hb.1, if_pos hb.2]
  have h : num b < num a ∨ num a = num b ∧ ((rd_T34 l a).f9 < (rd_T34 l b).f9 ∨ (rd_T34 l a).f9 = (rd_T34 l b).f9 ∧ ((rd_T34 l a).f0.toList < (rd_T34 l b).f0.toList ∨ (rd_T34 l a).f0.toList = (rd_T34 l b).f0.toList ∧ a < b)) := h
  rcases h with h | ⟨-, h⟩
  · omega
  rcases h with h | ⟨e, h⟩
  · rw [if_neg (by omega), decide_eq_true h]
  rw [if_pos e]
  rcases h with h | ⟨e2, h⟩
  · rw [if_neg (fun e2 => List.lt_irrefl _ (e2 ▸ h)), bytesLess_eq, decide_eq_true h]
  · rw [if_pos e2, decide_eq_true h]
theorem mained_next {l : List S34} {num : Int → Int} {A : List Int} (hA : A.Nodup) {i : Nat} {a b : Int} (ha : (sortedL l num A)[i]? = some a) (hb : (sortedL l num A)[i + 1]? = some b) : TnLt (turnOf l num a) (turnOf l num b) := by
  obtain ⟨h1, rfl⟩ := List.getElem?_eq_some_iff.1 ha
  obtain ⟨h2, rfl⟩ := List.getElem?_eq_some_iff.1 hb
  exact List.pairwise_iff_getElem.1 (sortedL_lt hA) i (i + 1) h1 h2 (by omega)
theorem num_le {l : List S34} {num : Int → Int} {a b : Int} (h : TnLt (turnOf l num a) (turnOf l num b)) : num b ≤ num a := by
  have h : num b < num a ∨ num a = num b ∧ _ := h
  rcases h with h | ⟨h, _⟩ <;> omega
theorem mod_topM (k n : Nat) (h : 0 < n) {top : Int} (ht : top = (k : Int) % (n : Int)) (hn : n ≤ 18) : wrap64 (Int.tmod (k : Int) (n : Int)) = top := by
  rw [Int.tmod_eq_emod_of_nonneg (by omega), ← ht]
  have h1 : 0 ≤ top := by rw [ht]; exact Int.emod_nonneg _ (by omega)
  have h2 : top < (n : Int) := by rw [ht]; exact Int.emod_lt_of_pos _ (by omega)
  clear ht
  unfold wrap64; omega
theorem ix_predM (i : Nat) (h0 : 1 ≤ i) (h : i ≤ 100) : wrap64 ((i : Int) - 1) = (i : Int) - 1 ∧ ((i : Int) - 1).toNat = i - 1 ∧ 0 ≤ (i : Int) - 1 := by
  refine ⟨?_, by omega, by omega⟩; unfold wrap64; omega
set_option maxHeartbeats 1500000 in
set_option maxRecDepth 100000 in
theorem law17_OrderMained.walk (A0 : Option Addr) (c0 : Nat) (cs : List Int) (A1 : Option Addr) (c1 : Nat) (ds : List Int) (k : Nat) (w : World) (hr0 : (Kd.int .u8).C w A0 cs.length cs) (hc0 : cs.length ≤ c0) (hcb : ∀ x ∈ cs, 0 ≤ x ∧ x < 256) (hr1 : (Kd.int .u8).C w A1 ds.length ds) (hc1 : ds.length ≤ c1) (hk : k < 256) :
    Calls Try.prog 8 #[.slice A0 cs.length c0, .slice A1 ds.length c1, .int .u8 (k : Int)] w fun e w' => e = .returned (.bool true) ∧ Below w.heap.size w w' := by
  have hu34 := Try.underlying34
  have HRM := Aside0.mk (Room.walk A0 c0 cs w hr0 hc0 hcb)
  have HR1 := Aside0.mk hr1
  have HC1 := Aside0.mk hc1
  clear hr0 hc0 hcb hr1 hc1
  go_enter Try.func8, Try.ntmps8
  go_upto_region 2 with (go_at_call 18; refine HRM.out.mono ?_; rintro e W1 ⟨l, g, AL, cL, AG, cG, rfl, hN, hG, hroom, hl0, hl18, hb1⟩; replace hN := Aside0.mk hN; replace hG := Aside0.mk hG; replace hroom := Aside0.mk hroom; replace hb1 := Aside0.mk hb1)
  have HCL := Aside0.mk (Kd.N_reads' hN.out)
  have HCG := Aside0.mk (Kd.N_reads' hG.out)
  clear HRM hN hG
  obtain ⟨top, htop⟩ : ∃ top : Int, top = (k : Int) % (l.length : Int) := ⟨_, rfl⟩
  have ht0 : 0 ≤ top := by rw [htop]; exact Int.emod_nonneg _ (by omega)
  have ht1 : top < (l.length : Int) := by rw [htop]; exact Int.emod_lt_of_pos _ (by omega)
  have hlz : 0 < (l.length : Int) := by omega
  have hlz2 : ¬ (l.length : Int) = 0 := by omega
  have HT := Aside0.mk htop
  clear htop
  have hwt : wrap64 (Int.tmod (k : Int) (l.length : Int)) = top := mod_topM k l.length hl0 HT.out hl18
  have hwt2 : Int.tmod (k : Int) (l.length : Int) = top := by rw [HT.out]; exact Int.tmod_eq_emod_of_nonneg (by omega)
  go_upto_region 3 with fail
  clear hwt hwt2
  obtain ⟨xs, hxe, hx20⟩ := some_evM ds l.length (by omega)
  obtain ⟨kx, hkx⟩ := hxe.rounds
  obtain ⟨A, hAe, hAr, hAm, hAl⟩ := set_evM l.length xs (by omega) (by omega)
  obtain ⟨kA, hkA⟩ := hAe.rounds
  have hAI : ∀ x ∈ A, 0 ≤ x ∧ x < (l.length : Int) := fun x hx => ((hAm x).1 hx).2
  have hA18 : A.length ≤ 18 := by omega
  have HSO : Aside0 (∀ W, Below w.heap.size w W → Calls Try.prog 29 #[.slice A1 ds.length c1, .int .i64 (l.length : Int)] W fun e w' => ∃ (B : Option Addr) (d : Nat), e = .returned (.slice B xs.length d) ∧ xs.length ≤ d ∧ (Kd.int .i64).C w' B xs.length xs ∧ Below W.heap.size W w') := ⟨fun W hW => (heliastlaw17_Some.calls kx A1 c1 ds _ xs W (Kd.C_below HR1.out hW) HC1.out hkx).mono (by
    rintro e w' ⟨v, rfl, hr, hb⟩
    obtain ⟨B, d, rfl, h1, h2⟩ := Kd.R_reads hr
    exact ⟨B, d, rfl, h1, h2, hb⟩)⟩
  have HSE : Aside0 (∀ (W : World) (B : Option Addr) (d : Nat), xs.length ≤ d → (Kd.int .i64).C W B xs.length xs → Calls Try.prog 28 #[.int .i64 (l.length : Int), .slice B xs.length d] W fun e w' => ∃ (B' : Option Addr) (d' : Nat), e = .returned (.slice B' A.length d') ∧ A.length ≤ d' ∧ (Kd.int .i64).C w' B' A.length A ∧ Below W.heap.size W w') := ⟨fun W B d h1 h2 => (heliastlaw17_set.calls kA _ B d xs A W h2 h1 hkA).mono (by
    rintro e w' ⟨v, rfl, hr, hb⟩
    obtain ⟨B, d, rfl, h1, h2⟩ := Kd.R_reads hr
    exact ⟨B, d, rfl, h1, h2, hb⟩)⟩
  have hpl := placesM_self hAr hAI
  have hnd : A.Nodup := hAr.imp (fun h => by omega)
  obtain ⟨line, hline⟩ : ∃ line, line = mainF l g top := ⟨_, rfl⟩
  have hl18' : line.length ≤ 18 := by rw [hline]; exact Nat.le_trans (mainF_le l g top) hl18
  obtain ⟨num, hnum⟩ : ∃ num : Int → Int, num = fun n => nearF line (mainF l g n) := ⟨_, rfl⟩
  obtain ⟨out, hout⟩ : ∃ out, out = sortedL l num A := ⟨_, rfl⟩
  have hml : mainedL l g A top = out := by rw [hout, hnum, hline]; unfold mainedL; rw [hpl]
  have hop : out.Perm A := by rw [hout]; exact sortedL_perm l num A
  have hol : out.length = A.length := hop.length_eq
  have HOM : Aside0 (∀ x ∈ out, x ∈ A) := ⟨fun x hx => hop.mem_iff.1 hx⟩
  have HOI : Aside0 (∀ x ∈ out, 0 ≤ x ∧ x < (l.length : Int)) := ⟨fun x hx => hAI x (hop.mem_iff.1 hx)⟩
  have HNX : Aside0 (∀ (i : Nat) (a b : Int), out[i]? = some a → out[i + 1]? = some b → TnLt (turnOf l num a) (turnOf l num b)) := ⟨fun i a b ha hb => by rw [hout] at ha hb; exact mained_next hnd ha hb⟩
  have HMA : Aside0 (∀ (W : World) (B : Option Addr) (d : Nat), Below W1.heap.size W1 W → (Kd.int .i64).C W B A.length A → Calls Try.prog 34 #[.slice AL l.length cL, .slice AG g.length cG, .slice B A.length d, .int .i64 top] W fun e w' => ∃ (B' : Option Addr) (d' : Nat), e = .returned (.slice B' out.length d') ∧ out.length ≤ d' ∧ (Kd.int .i64).C w' B' out.length out ∧ Below W.heap.size W w') := ⟨fun W B d hW hC => (order_Mained.walk AL cL l AG cG g B d A top W (Kd.C_below HCL.out.2.2 hW) (Kd.C_below HCG.out.2.2 hW) hC (by omega) (by omega)).mono (by
    rintro e w' ⟨v, rfl, hr, hb⟩
    rw [hml] at hr
    obtain ⟨B, d, rfl, h1, h2⟩ := Kd.R_reads hr
    exact ⟨B, d, rfl, h1, h2, hb⟩)⟩
  have HML : Aside0 (∀ (W : World), Below W1.heap.size W1 W → Calls Try.prog 19 #[.slice AL l.length cL, .slice AG g.length cG, .int .i64 top] W fun e w' => ∃ (B' : Option Addr) (d' : Nat), e = .returned (.slice B' line.length d') ∧ line.length ≤ d' ∧ (Kd.int .i64).C w' B' line.length line ∧ Below W.heap.size W w') := ⟨fun W hW => (order_Mainline.walk AL cL l AG cG g top W (Kd.C_below HCL.out.2.2 hW) (Kd.C_below HCG.out.2.2 hW) (by omega)).mono (by
    rintro e w' ⟨v, rfl, hr, hb⟩
    rw [← hline] at hr
    obtain ⟨B, d, rfl, h1, h2⟩ := Kd.R_reads hr
    exact ⟨B, d, rfl, h1, h2, hb⟩)⟩
  have HNE : Aside0 (∀ (n : Int) (W : World) (B : Option Addr) (d : Nat), Below W1.heap.size W1 W → (Kd.int .i64).C W B line.length line → line.length ≤ d → Calls Try.prog 35 #[.slice AL l.length cL, .slice AG g.length cG, .int .i64 n, .slice B line.length d] W fun e w' => e = .returned (.int .i64 (num n)) ∧ Below W.heap.size W w') := ⟨fun n W B d hW hC hd => by
    obtain ⟨kn, hkn⟩ := (near_ev l g n line (by omega) (by omega)).rounds
    have := heliastlaw17_near.calls kn AL cL l AG cG g n B d line _ W (Kd.C_below HCL.out.2.2 hW) HCL.out.2.1 (Kd.C_below HCG.out.2.2 hW) HCG.out.2.1 hC hd hkn
    rw [hnum]
    exact this⟩
  have HAL := Aside0.mk hol
  have HAA := Aside0.mk hAI
  clear hxe hkx hAe hkA hAr hAm hAl hpl hnd hline hnum hout hml hop hol hAI
  go_upto_region 4 with (first
    | (go_at_call 29; refine (HSO.out _ hb1.out).mono ?_; rintro e w2 ⟨B2, d2, rfl, hd2, hC2, hb2⟩; have HC2 := Aside0.mk hC2; have HD2 := Aside0.mk hd2; have HB2 := Aside0.mk hb2; clear hC2 hd2 hb2)
    | (go_at_call 28; refine (HSE.out _ B2 d2 HD2.out HC2.out).mono ?_; rintro e w3 ⟨B3, d3, rfl, hd3, hC3, hb3⟩; have HC3 := Aside0.mk hC3; have HD3 := Aside0.mk hd3; have HB3 := Aside0.mk (below_then HB2.out HB2.out.size hb3); clear hC3 hd3 hb3))
  go_upto_region 5 with (go_at_call 34; refine (HMA.out w3 B3 d3 HB3.out HC3.out).mono ?_; rintro e w4 ⟨B4, d4, rfl, hd4, hC4, hb4⟩; have HC4 := Aside0.mk hC4; have HD4 := Aside0.mk hd4; have HB4 := Aside0.mk hb4; clear hC4 hd4 hb4)
  have HBL4 := Aside0.mk (below_then HB3.out HB3.out.size HB4.out)
  go_upto_region 6 with (go_at_call 19; refine (HML.out w4 HBL4.out).mono ?_; rintro e w5 ⟨B5, d5, rfl, hd5, hC5, hb5⟩; have HC5 := Aside0.mk hC5; have HD5 := Aside0.mk hd5; have HB5 := Aside0.mk hb5; clear hC5 hd5 hb5)
  have HCA := Aside0.mk (Kd.C_below HC3.out (below_then HB4.out HB4.out.size HB5.out))
  have HCO := Aside0.mk (Kd.C_below HC4.out HB5.out)
  have HBL5 := Aside0.mk (below_then HBL4.out HBL4.out.size HB5.out)
  have hol : out.length = A.length := HAL.out
  have ho18 : out.length ≤ 18 := by omega
  have HOZ : Aside0 (((out.length : Int) == (A.length : Int)) = true) := ⟨by rw [hol]; exact beq_self_eq_true _⟩
  have hoz := HOZ.out
  have hoz2 : ((out.length : Int) != (A.length : Int)) = false := by unfold bne; rw [hoz]; rfl
  clear HSO HSE HC2 HD2 HB2 HMA HML HC3 HC4 HBL4 HB3 HB4 HB5 hol
  go_upto_block 0 with fail
  clear hoz hoz2
  go_cut [] (fun wx => Aside0 (Below w5.heap.size w5 wx))
  case first =>
    have HB0 := Aside0.mk (Below.refl w5.heap.size w5)
    clear HR1 HC1
    go_wp2_with fail
    go_loopg [13, 14, 15] out.length (fun gg v13 v14 v15 wr => ∃ i : Nat, i ≤ out.length ∧ out.length - i ≤ gg ∧ v13 = .int .i64 (i : Int) ∧ Aside0 (Below w5.heap.size w5 wr))
    case atStart => exact ⟨0, Nat.zero_le _, by omega, rfl, HB0⟩
    case round =>
      obtain ⟨i, hi, hgg, rfl, HB⟩ := hrel
      by_cases hlt : i < out.length
      · have hltz : (i : Int) < (out.length : Int) := by omega
        obtain ⟨ad, e, hx1⟩ := C_num HCO.out hlt
        cases e
        have hyo : out[i] ∈ out := List.getElem_mem hlt
        have hyi : out[i]? = some out[i] := List.getElem?_eq_getElem hlt
        obtain ⟨y, hy⟩ : ∃ y, y = out[i] := ⟨_, rfl⟩
        rw [← hy] at hx1 hyo hyi
        replace hx1 := pw_cell_below HB.out hx1
        have hhas : decide (y ∈ A) = true := decide_eq_true (HOM.out y hyo)
        obtain ⟨kh, hkh⟩ := (hasD_evM A y (by have := HCA.out.2.1; omega)).rounds
        rw [hhas] at hkh
        have HHA : Aside0 (Calls Try.prog 24 #[.slice B3 A.length d3, .int .i64 y] wr fun e w' => e = .returned (.bool true) ∧ Below wr.heap.size wr w') := ⟨(heliastref12_Has.calls kh B3 d3 A y true wr (Kd.C_below HCA.out HB.out) HD3.out hkh).mono (fun e w' h => ⟨h.1, h.2.below⟩)⟩
        have HYI := Aside0.mk hyi
        have HYO := Aside0.mk hyo
        clear hy hyo hyi hhas hkh
        have HX1 := Aside0.mk hx1
        by_cases h0 : i = 0
        · have hz : ((i : Int) == 0) = true := by rw [h0]; rfl
          clear hx1 h0
          have hx1 := HX1.out
          go_wp2_with (go_at_call 24; refine HHA.out.mono ?_; rintro e w6 ⟨rfl, hb6⟩; have HB6 := Aside0.mk (below_then HB.out HB.out.size hb6); clear hb6)
          go_roundg (out.length - (i + 1))
          case measure => omega
          case rel => exact ⟨i + 1, by omega, by omega, by go_num, HB6⟩
        · have hz : ((i : Int) == 0) = false := beq_eq_false_iff_ne.2 (by omega)
          have h1i : 1 ≤ i := by omega
          obtain ⟨ad1, e1, hx0⟩ := C_num HCO.out (show i - 1 < out.length by omega)
          cases e1
          have hxi : out[i - 1]? = some out[i - 1] := List.getElem?_eq_getElem _
          have hxo : out[i - 1] ∈ out := List.getElem_mem _
          obtain ⟨x, hx⟩ : ∃ x, x = out[i - 1] := ⟨_, rfl⟩
          rw [← hx] at hx0 hxi hxo
          replace hx0 := pw_cell_below HB.out hx0
          have hlaw := HNX.out (i - 1) x y hxi (by rw [show i - 1 + 1 = i by omega]; exact HYI.out)
          have hle := num_le hlaw
          have hso := fun e => sooner_true (HOI.out x hxo) (HOI.out y HYO.out) hlaw e
          have HNA := Aside0.mk (HNE.out x)
          have HNB := Aside0.mk (HNE.out y)
          obtain ⟨na, hna⟩ : ∃ na, na = num x := ⟨_, rfl⟩
          obtain ⟨nb, hnb⟩ : ∃ nb, nb = num y := ⟨_, rfl⟩
          rw [← hna] at hle hso HNA
          rw [← hnb] at hle hso HNB
          have hltz1 : (i : Int) - 1 < (out.length : Int) := by omega
          obtain ⟨hw1, ht1', hp1⟩ := ix_predM i h1i (by omega)
          have HX0 := Aside0.mk hx0
          have hbW0 := below_then HBL5.out HBL5.out.size HB.out
          have HBW0 := Aside0.mk hbW0
          have HCLI := Aside0.mk (Kd.C_below HC5.out HB.out)
          have HSO := Aside0.mk hso
          have hnlt : ¬ na < nb := by omega
          clear hx hxi hxo hlaw hna hnb hbW0 h0 hso
          go_upto_region 16 with (first
            | (go_at_call 24; refine HHA.out.mono ?_; rintro e w6 ⟨rfl, hb6⟩; have HB6 := Aside0.mk hb6; have hx0 := pw_cell_below hb6 HX0.out; have hx1 := pw_cell_below hb6 HX1.out; clear hb6)
            | (go_at_call 35; (with_reducible refine (HNA.out w6 B5 d5 (below_then HBW0.out HBW0.out.size HB6.out) (Kd.C_below HCLI.out HB6.out) HD5.out).mono ?_); rintro e w7 ⟨rfl, hb7⟩; have HB7 := Aside0.mk (below_then HB6.out HB6.out.size hb7); have hx0 := pw_cell_below HB7.out HX0.out; have hx1 := pw_cell_below HB7.out HX1.out; clear hb7)
            | (go_at_call 35; (with_reducible refine (HNB.out w7 B5 d5 (below_then HBW0.out HBW0.out.size HB7.out) (Kd.C_below HCLI.out HB7.out) HD5.out).mono ?_); rintro e w8 ⟨rfl, hb8⟩; have HB8 := Aside0.mk (below_then HB7.out HB7.out.size hb8); clear hb8))
          clear hx0 hx1
          have hx0 := pw_cell_below HB8.out HX0.out
          have hx1 := pw_cell_below HB8.out HX1.out
          have hltd : decide (na < nb) = false := decide_eq_false (by omega)
          have h1z : 1 ≤ (i : Int) := by omega
          clear HHA HNA HNB HNE HNX hltz1
          by_cases he : na = nb
          · have hbe : (na == nb) = true := beq_iff_eq.2 he
            have hq := HSO.out he
            have HSOO : Aside0 (∀ W, Below w8.heap.size w8 W → Calls Try.prog 36 #[.slice AL l.length cL, .int .i64 x, .int .i64 y] W fun e w' => e = .returned (.bool true) ∧ Below W.heap.size W w') := ⟨fun W hW => (heliastlaw17_sooner.calls AL cL l x y true W (Kd.C_below HCL.out.2.2 (below_then (below_then HBW0.out HBW0.out.size HB8.out) (below_then HBW0.out HBW0.out.size HB8.out).size hW)) HCL.out.2.1 hq).mono (fun e w' h => ⟨h.1, h.2.below⟩)⟩
            have hltz2 : (i : Int) - 1 < (out.length : Int) := by omega
            clear he hq
            refine start_ (n := 22) (S := fun w' => w'.cell? (ad.add (i - 1)) = some (.int .i64 x) ∧ w'.cell? (ad.add i) = some (.int .i64 y)) (ds := []) #[false, false, false, false, false, false, false, false, false, false, false, false, false, false, false, false, false, false, false, false, false, false] (by kernel_rfl) rfl rfl ⟨hx0, hx1⟩ (fun hHeld => ?_)
            refine pure_ (i := 0) (N := some 79) (v := ?_) (a' := ?_) #[true, false, false, false, false, false, false, false, false, false, false, false, false, false, false, false, false, false, false, false, false, false] rfl rfl (by kernel_rfl) (fun _ _ _ h => h) (Or.inl ⟨by rfl, ?_⟩) ?_ ?_
            rotate_left
            · intro w'
              go_simp
              with_reducible rfl
            rotate_left
            · simp only [Act.put, List.setIfInBounds_toArray, List.set_cons_zero, List.set_cons_succ, i64_w, i32_w]
              rfl
            refine pure_ (i := 1) (N := some 80) (v := ?_) (a' := ?_) #[true, true, false, false, false, false, false, false, false, false, false, false, false, false, false, false, false, false, false, false, false, false] rfl rfl (by kernel_rfl) (fun _ _ _ h => h) (Or.inl ⟨by rfl, ?_⟩) ?_ ?_
            rotate_left
            · intro w'
              go_simp
              with_reducible rfl
            rotate_left
            · simp only [Act.put, List.setIfInBounds_toArray, List.set_cons_zero, List.set_cons_succ, i64_w, i32_w]
              rfl
            refine pure_ (i := 2) (N := some 81) (v := ?_) (a' := ?_) #[true, true, true, false, false, false, false, false, false, false, false, false, false, false, false, false, false, false, false, false, false, false] rfl rfl (by kernel_rfl) (fun _ _ _ h => h) (Or.inl ⟨by rfl, ?_⟩) ?_ ?_
            rotate_left
            · intro w'
              go_simp
              with_reducible rfl
            rotate_left
            · simp only [Act.put, List.setIfInBounds_toArray, List.set_cons_zero, List.set_cons_succ, i64_w, i32_w]
              rfl
            refine pure_ (i := 3) (N := some 82) (v := ?_) (a' := ?_) #[true, true, true, true, false, false, false, false, false, false, false, false, false, false, false, false, false, false, false, false, false, false] rfl rfl (by kernel_rfl) (fun _ _ _ h => h) (Or.inl ⟨by rfl, ?_⟩) ?_ ?_
            rotate_left
            · intro w'
              go_simp
              with_reducible rfl
            rotate_left
            · simp only [Act.put, List.setIfInBounds_toArray, List.set_cons_zero, List.set_cons_succ, i64_w, i32_w]
              rfl
            refine pure_ (i := 4) (N := some 83) (v := ?_) (a' := ?_) #[true, true, true, true, true, false, false, false, false, false, false, false, false, false, false, false, false, false, false, false, false, false] rfl rfl (by kernel_rfl) (fun _ _ _ h => h) (Or.inl ⟨by rfl, ?_⟩) ?_ ?_
            rotate_left
            · intro w'
              go_simp
              with_reducible rfl
            rotate_left
            · simp only [Act.put, List.setIfInBounds_toArray, List.set_cons_zero, List.set_cons_succ, i64_w, i32_w]
              rfl
            refine pure_ (i := 5) (N := some 84) (v := ?_) (a' := ?_) #[true, true, true, true, true, true, false, false, false, false, false, false, false, false, false, false, false, false, false, false, false, false] rfl rfl (by kernel_rfl) (fun _ _ _ h => h) (Or.inl ⟨by rfl, ?_⟩) ?_ ?_
            rotate_left
            · intro w'
              go_simp
              with_reducible rfl
            rotate_left
            · simp only [Act.put, List.setIfInBounds_toArray, List.set_cons_zero, List.set_cons_succ, i64_w, i32_w]
              rfl
            refine pure_ (i := 6) (N := some 85) (v := ?_) (a' := ?_) #[true, true, true, true, true, true, true, false, false, false, false, false, false, false, false, false, false, false, false, false, false, false] rfl rfl (by kernel_rfl) (fun _ _ _ h => h) (Or.inl ⟨by rfl, ?_⟩) ?_ ?_
            rotate_left
            · intro w'
              go_simp
              with_reducible rfl
            rotate_left
            · simp only [Act.put, List.setIfInBounds_toArray, List.set_cons_zero, List.set_cons_succ, i64_w, i32_w]
              rfl
            refine pure_ (i := 7) (N := some 86) (v := ?_) (a' := ?_) #[true, true, true, true, true, true, true, true, false, false, false, false, false, false, false, false, false, false, false, false, false, false] rfl rfl (by kernel_rfl) (fun _ _ _ h => h) (Or.inl ⟨by rfl, ?_⟩) ?_ ?_
            rotate_left
            · intro w'
              go_simp
              with_reducible rfl
            rotate_left
            · simp only [Act.put, List.setIfInBounds_toArray, List.set_cons_zero, List.set_cons_succ, i64_w, i32_w]
              rfl
            refine pure_ (i := 8) (N := some 87) (v := ?_) (a' := ?_) #[true, true, true, true, true, true, true, true, true, false, false, false, false, false, false, false, false, false, false, false, false, false] rfl rfl (by kernel_rfl) (fun _ _ _ h => h) (Or.inl ⟨by rfl, ?_⟩) ?_ ?_
            rotate_left
            · intro w'
              go_simp
              with_reducible rfl
            rotate_left
            · simp only [Act.put, List.setIfInBounds_toArray, List.set_cons_zero, List.set_cons_succ, i64_w, i32_w]
              rfl
            refine pure_ (i := 9) (N := some 88) (v := ?_) (a' := ?_) #[true, true, true, true, true, true, true, true, true, true, false, false, false, false, false, false, false, false, false, false, false, false] rfl rfl (by kernel_rfl) (fun _ _ _ h => h) (Or.inl ⟨by rfl, ?_⟩) ?_ ?_
            rotate_left
            · intro w'
              go_simp
              with_reducible rfl
            rotate_left
            · simp only [Act.put, List.setIfInBounds_toArray, List.set_cons_zero, List.set_cons_succ, i64_w, i32_w]
              rfl
            refine pure_ (i := 10) (N := some 89) (v := ?_) (a' := ?_) #[true, true, true, true, true, true, true, true, true, true, true, false, false, false, false, false, false, false, false, false, false, false] rfl rfl (by kernel_rfl) (fun _ _ _ h => h) (Or.inl ⟨by rfl, ?_⟩) ?_ ?_
            rotate_left
            · intro w'
              go_simp
              with_reducible rfl
            rotate_left
            · simp only [Act.put, List.setIfInBounds_toArray, List.set_cons_zero, List.set_cons_succ, i64_w, i32_w]
              rfl
            refine pure_ (i := 11) (N := some 90) (v := ?_) (a' := ?_) #[true, true, true, true, true, true, true, true, true, true, true, true, false, false, false, false, false, false, false, false, false, false] rfl rfl (by kernel_rfl) (fun _ _ _ h => h) (Or.inl ⟨by rfl, ?_⟩) ?_ ?_
            rotate_left
            · intro w'
              go_simp
              with_reducible rfl
            rotate_left
            · simp only [Act.put, List.setIfInBounds_toArray, List.set_cons_zero, List.set_cons_succ, i64_w, i32_w]
              rfl
            refine pure_ (i := 12) (N := some 91) (v := ?_) (a' := ?_) #[true, true, true, true, true, true, true, true, true, true, true, true, true, false, false, false, false, false, false, false, false, false] rfl rfl (by kernel_rfl) (fun _ _ _ h => h) (Or.inl ⟨by rfl, ?_⟩) ?_ ?_
            rotate_left
            · intro w'
              go_simp
              with_reducible rfl
            rotate_left
            · simp only [Act.put, List.setIfInBounds_toArray, List.set_cons_zero, List.set_cons_succ, i64_w, i32_w]
              rfl
            refine pure_ (i := 14) (N := some 93) (v := ?_) (a' := ?_) #[true, true, true, true, true, true, true, true, true, true, true, true, true, false, true, false, false, false, false, false, false, false] rfl rfl (by kernel_rfl) (fun _ _ _ h => h) (Or.inl ⟨by rfl, ?_⟩) ?_ ?_
            rotate_left
            · intro w'
              go_simp
              with_reducible rfl
            rotate_left
            · simp only [Act.put, List.setIfInBounds_toArray, List.set_cons_zero, List.set_cons_succ, i64_w, i32_w]
              rfl
            refine pure_ (i := 15) (N := some 94) (v := ?_) (a' := ?_) #[true, true, true, true, true, true, true, true, true, true, true, true, true, false, true, true, false, false, false, false, false, false] rfl rfl (by kernel_rfl) (fun _ _ _ h => h) (Or.inl ⟨by rfl, ?_⟩) ?_ ?_
            rotate_left
            · intro w'
              go_simp
              with_reducible rfl
            rotate_left
            · simp only [Act.put, List.setIfInBounds_toArray, List.set_cons_zero, List.set_cons_succ, i64_w, i32_w]
              rfl
            refine pure_ (i := 16) (N := some 95) (v := ?_) (a' := ?_) #[true, true, true, true, true, true, true, true, true, true, true, true, true, false, true, true, true, false, false, false, false, false] rfl rfl (by kernel_rfl) (fun _ _ _ h => h) (Or.inl ⟨by rfl, ?_⟩) ?_ ?_
            rotate_left
            · intro w'
              go_simp
              with_reducible rfl
            rotate_left
            · simp only [Act.put, List.setIfInBounds_toArray, List.set_cons_zero, List.set_cons_succ, i64_w, i32_w]
              rfl
            refine take_ (i := 13) (N := some 92) (v := ?_) (a' := ?_) #[true, true, true, true, true, true, true, true, true, true, true, true, true, true, true, true, true, false, false, false, false, false] rfl rfl (by kernel_rfl) (fun _ _ _ h => h) (Or.inl ⟨by rfl, ?_⟩) hHeld ?_ ?_
            rotate_left
            · rintro w' ⟨s0, s1⟩
              go_simp
              with_reducible rfl
            rotate_left
            · simp only [Act.put, List.setIfInBounds_toArray, List.set_cons_zero, List.set_cons_succ, i64_w, i32_w]
              rfl
            refine take_ (i := 17) (N := some 96) (v := ?_) (a' := ?_) #[true, true, true, true, true, true, true, true, true, true, true, true, true, true, true, true, true, true, false, false, false, false] rfl rfl (by kernel_rfl) (fun _ _ _ h => h) (Or.inl ⟨by rfl, ?_⟩) hHeld ?_ ?_
            rotate_left
            · rintro w' ⟨s0, s1⟩
              go_simp
              with_reducible rfl
            rotate_left
            · simp only [Act.put, List.setIfInBounds_toArray, List.set_cons_zero, List.set_cons_succ, i64_w, i32_w]
              rfl
            refine one_ (i := 18) (N := some 97) #[true, true, true, true, true, true, true, true, true, true, true, true, true, true, true, true, true, true, true, false, false, false] rfl rfl (by kernel_rfl) (by decide) (fun K hK => ?_)
            refine goes_ Try.func36 (by kernel_rfl) rfl #[.slice AL l.length cL, .int .i64 x, .int .i64 y] (by rfl) rfl rfl (by simp only [List.map_toArray, List.map_cons, List.map_nil]; rfl) ?_
            with_reducible refine (HSOO.out _ (below_drew1 (Below.refl _ _))).mono ?_
            rintro e W5 ⟨rfl, hb5⟩
            refine ⟨_, rfl, ?_⟩
            refine hK.out _ _ ⟨(pw_cell_below hb5 hHeld.1), (pw_cell_below hb5 hHeld.2)⟩ (fun hHeld => ?_)
            clear hK K
            refine norm_ (a' := ?_) ?_ ?_
            rotate_left
            · show Act.put _ (some 97) _ = _
              simp only [Act.put, List.setIfInBounds_toArray, List.set_cons_zero, List.set_cons_succ, i64_w, i32_w]
              rfl
            refine pure_ (i := 19) (N := some 98) (v := ?_) (a' := ?_) #[true, true, true, true, true, true, true, true, true, true, true, true, true, true, true, true, true, true, true, true, false, false] rfl rfl (by kernel_rfl) (fun _ _ _ h => h) (Or.inl ⟨by rfl, ?_⟩) ?_ ?_
            rotate_left
            · intro w'
              go_simp
              with_reducible rfl
            rotate_left
            · simp only [Act.put, List.setIfInBounds_toArray, List.set_cons_zero, List.set_cons_succ, i64_w, i32_w]
              rfl
            refine pure_ (i := 20) (N := some 99) (v := ?_) (a' := ?_) #[true, true, true, true, true, true, true, true, true, true, true, true, true, true, true, true, true, true, true, true, true, false] rfl rfl (by kernel_rfl) (fun _ _ _ h => h) (Or.inl ⟨by rfl, ?_⟩) ?_ ?_
            rotate_left
            · intro w'
              go_simp
              with_reducible rfl
            rotate_left
            · simp only [Act.put, List.setIfInBounds_toArray, List.set_cons_zero, List.set_cons_succ, i64_w, i32_w]
              rfl
            refine pure_ (i := 21) (N := some 100) (v := ?_) (a' := ?_) #[true, true, true, true, true, true, true, true, true, true, true, true, true, true, true, true, true, true, true, true, true, true] rfl rfl (by kernel_rfl) (fun _ _ _ h => h) (Or.inl ⟨by rfl, ?_⟩) ?_ ?_
            rotate_left
            · intro w'
              go_simp
              with_reducible rfl
            rotate_left
            · simp only [Act.put, List.setIfInBounds_toArray, List.set_cons_zero, List.set_cons_succ, i64_w, i32_w]
              rfl
            refine done_ (by kernel_rfl) ?_

            have HB9 := Aside0.mk (below_then HB.out HB.out.size (below_then HB8.out HB8.out.size (below_then (below_drew1 (Below.refl w8.heap.size w8)) (Nat.le_refl _) hb5)))
            clear hHeld hb5 hx0 hx1
            go_wp2_with fail
            go_roundg (out.length - (i + 1))
            case measure => omega
            case rel => exact ⟨i + 1, by omega, by omega, by go_num, HB9⟩
          · have hbe : (na == nb) = false := beq_eq_false_iff_ne.2 he
            have HB9 := Aside0.mk (below_then HB.out HB.out.size (below_then HB8.out HB8.out.size (below_drew1 (Below.refl w8.heap.size w8))))
            clear he hx0 hx1
            refine start_ (n := 22) (S := fun w' => True) (ds := []) #[false, false, false, false, false, false, false, false, false, false, false, false, false, false, false, false, false, false, false, false, false, false] (by kernel_rfl) rfl rfl trivial (fun hHeld => ?_)
            refine pure_ (i := 0) (N := some 79) (v := ?_) (a' := ?_) #[true, false, false, false, false, false, false, false, false, false, false, false, false, false, false, false, false, false, false, false, false, false] rfl rfl (by kernel_rfl) (fun _ _ _ h => h) (Or.inl ⟨by rfl, ?_⟩) ?_ ?_
            rotate_left
            · intro w'
              go_simp
              with_reducible rfl
            rotate_left
            · simp only [Act.put, List.setIfInBounds_toArray, List.set_cons_zero, List.set_cons_succ, i64_w, i32_w]
              rfl
            refine pure_ (i := 1) (N := some 80) (v := ?_) (a' := ?_) #[true, true, false, false, false, false, false, false, false, false, false, false, false, false, false, false, false, false, false, false, false, false] rfl rfl (by kernel_rfl) (fun _ _ _ h => h) (Or.inl ⟨by rfl, ?_⟩) ?_ ?_
            rotate_left
            · intro w'
              go_simp
              with_reducible rfl
            rotate_left
            · simp only [Act.put, List.setIfInBounds_toArray, List.set_cons_zero, List.set_cons_succ, i64_w, i32_w]
              rfl
            refine pure_ (i := 2) (N := some 81) (v := ?_) (a' := ?_) #[true, true, true, false, false, false, false, false, false, false, false, false, false, false, false, false, false, false, false, false, false, false] rfl rfl (by kernel_rfl) (fun _ _ _ h => h) (Or.inl ⟨by rfl, ?_⟩) ?_ ?_
            rotate_left
            · intro w'
              go_simp
              with_reducible rfl
            rotate_left
            · simp only [Act.put, List.setIfInBounds_toArray, List.set_cons_zero, List.set_cons_succ, i64_w, i32_w]
              rfl
            refine pure_ (i := 3) (N := some 82) (v := ?_) (a' := ?_) #[true, true, true, true, false, false, false, false, false, false, false, false, false, false, false, false, false, false, false, false, false, false] rfl rfl (by kernel_rfl) (fun _ _ _ h => h) (Or.inl ⟨by rfl, ?_⟩) ?_ ?_
            rotate_left
            · intro w'
              go_simp
              with_reducible rfl
            rotate_left
            · simp only [Act.put, List.setIfInBounds_toArray, List.set_cons_zero, List.set_cons_succ, i64_w, i32_w]
              rfl
            refine pure_ (i := 4) (N := some 83) (v := ?_) (a' := ?_) #[true, true, true, true, true, false, false, false, false, false, false, false, false, false, false, false, false, false, false, false, false, false] rfl rfl (by kernel_rfl) (fun _ _ _ h => h) (Or.inl ⟨by rfl, ?_⟩) ?_ ?_
            rotate_left
            · intro w'
              go_simp
              with_reducible rfl
            rotate_left
            · simp only [Act.put, List.setIfInBounds_toArray, List.set_cons_zero, List.set_cons_succ, i64_w, i32_w]
              rfl
            refine pure_ (i := 5) (N := some 84) (v := ?_) (a' := ?_) #[true, true, true, true, true, true, false, false, false, false, false, false, false, false, false, false, false, false, false, false, false, false] rfl rfl (by kernel_rfl) (fun _ _ _ h => h) (Or.inl ⟨by rfl, ?_⟩) ?_ ?_
            rotate_left
            · intro w'
              go_simp
              with_reducible rfl
            rotate_left
            · simp only [Act.put, List.setIfInBounds_toArray, List.set_cons_zero, List.set_cons_succ, i64_w, i32_w]
              rfl
            refine pure_ (i := 6) (N := some 85) (v := ?_) (a' := ?_) #[true, true, true, true, true, true, true, false, false, false, false, false, false, false, false, false, false, false, false, false, false, false] rfl rfl (by kernel_rfl) (fun _ _ _ h => h) (Or.inl ⟨by rfl, ?_⟩) ?_ ?_
            rotate_left
            · intro w'
              go_simp
              with_reducible rfl
            rotate_left
            · simp only [Act.put, List.setIfInBounds_toArray, List.set_cons_zero, List.set_cons_succ, i64_w, i32_w]
              rfl
            refine pure_ (i := 7) (N := some 86) (v := ?_) (a' := ?_) #[true, true, true, true, true, true, true, true, false, false, false, false, false, false, false, false, false, false, false, false, false, false] rfl rfl (by kernel_rfl) (fun _ _ _ h => h) (Or.inl ⟨by rfl, ?_⟩) ?_ ?_
            rotate_left
            · intro w'
              go_simp
              with_reducible rfl
            rotate_left
            · simp only [Act.put, List.setIfInBounds_toArray, List.set_cons_zero, List.set_cons_succ, i64_w, i32_w]
              rfl
            refine pure_ (i := 8) (N := some 87) (v := undef) (a' := ?_) #[true, true, true, true, true, true, true, true, true, false, false, false, false, false, false, false, false, false, false, false, false, false] rfl rfl (by kernel_rfl) (fun _ _ _ h => h) (Or.inr ⟨by rfl, rfl⟩) ?_ ?_
            rotate_left
            · simp only [Act.put, List.setIfInBounds_toArray, List.set_cons_zero, List.set_cons_succ, i64_w, i32_w]
              rfl
            refine pure_ (i := 9) (N := some 88) (v := undef) (a' := ?_) #[true, true, true, true, true, true, true, true, true, true, false, false, false, false, false, false, false, false, false, false, false, false] rfl rfl (by kernel_rfl) (fun _ _ _ h => h) (Or.inr ⟨by rfl, rfl⟩) ?_ ?_
            rotate_left
            · simp only [Act.put, List.setIfInBounds_toArray, List.set_cons_zero, List.set_cons_succ, i64_w, i32_w]
              rfl
            refine pure_ (i := 10) (N := some 89) (v := undef) (a' := ?_) #[true, true, true, true, true, true, true, true, true, true, true, false, false, false, false, false, false, false, false, false, false, false] rfl rfl (by kernel_rfl) (fun _ _ _ h => h) (Or.inr ⟨by rfl, rfl⟩) ?_ ?_
            rotate_left
            · simp only [Act.put, List.setIfInBounds_toArray, List.set_cons_zero, List.set_cons_succ, i64_w, i32_w]
              rfl
            refine pure_ (i := 11) (N := some 90) (v := undef) (a' := ?_) #[true, true, true, true, true, true, true, true, true, true, true, true, false, false, false, false, false, false, false, false, false, false] rfl rfl (by kernel_rfl) (fun _ _ _ h => h) (Or.inr ⟨by rfl, rfl⟩) ?_ ?_
            rotate_left
            · simp only [Act.put, List.setIfInBounds_toArray, List.set_cons_zero, List.set_cons_succ, i64_w, i32_w]
              rfl
            refine pure_ (i := 12) (N := some 91) (v := undef) (a' := ?_) #[true, true, true, true, true, true, true, true, true, true, true, true, true, false, false, false, false, false, false, false, false, false] rfl rfl (by kernel_rfl) (fun _ _ _ h => h) (Or.inr ⟨by rfl, rfl⟩) ?_ ?_
            rotate_left
            · simp only [Act.put, List.setIfInBounds_toArray, List.set_cons_zero, List.set_cons_succ, i64_w, i32_w]
              rfl
            refine pure_ (i := 13) (N := some 92) (v := undef) (a' := ?_) #[true, true, true, true, true, true, true, true, true, true, true, true, true, true, false, false, false, false, false, false, false, false] rfl rfl (by kernel_rfl) (fun _ _ _ h => h) (Or.inr ⟨by rfl, rfl⟩) ?_ ?_
            rotate_left
            · simp only [Act.put, List.setIfInBounds_toArray, List.set_cons_zero, List.set_cons_succ, i64_w, i32_w]
              rfl
            refine pure_ (i := 14) (N := some 93) (v := undef) (a' := ?_) #[true, true, true, true, true, true, true, true, true, true, true, true, true, true, true, false, false, false, false, false, false, false] rfl rfl (by kernel_rfl) (fun _ _ _ h => h) (Or.inr ⟨by rfl, rfl⟩) ?_ ?_
            rotate_left
            · simp only [Act.put, List.setIfInBounds_toArray, List.set_cons_zero, List.set_cons_succ, i64_w, i32_w]
              rfl
            refine pure_ (i := 15) (N := some 94) (v := undef) (a' := ?_) #[true, true, true, true, true, true, true, true, true, true, true, true, true, true, true, true, false, false, false, false, false, false] rfl rfl (by kernel_rfl) (fun _ _ _ h => h) (Or.inr ⟨by rfl, rfl⟩) ?_ ?_
            rotate_left
            · simp only [Act.put, List.setIfInBounds_toArray, List.set_cons_zero, List.set_cons_succ, i64_w, i32_w]
              rfl
            refine pure_ (i := 16) (N := some 95) (v := undef) (a' := ?_) #[true, true, true, true, true, true, true, true, true, true, true, true, true, true, true, true, true, false, false, false, false, false] rfl rfl (by kernel_rfl) (fun _ _ _ h => h) (Or.inr ⟨by rfl, rfl⟩) ?_ ?_
            rotate_left
            · simp only [Act.put, List.setIfInBounds_toArray, List.set_cons_zero, List.set_cons_succ, i64_w, i32_w]
              rfl
            refine pure_ (i := 17) (N := some 96) (v := undef) (a' := ?_) #[true, true, true, true, true, true, true, true, true, true, true, true, true, true, true, true, true, true, false, false, false, false] rfl rfl (by kernel_rfl) (fun _ _ _ h => h) (Or.inr ⟨by rfl, rfl⟩) ?_ ?_
            rotate_left
            · simp only [Act.put, List.setIfInBounds_toArray, List.set_cons_zero, List.set_cons_succ, i64_w, i32_w]
              rfl
            refine pure_ (i := 18) (N := some 97) (v := undef) (a' := ?_) #[true, true, true, true, true, true, true, true, true, true, true, true, true, true, true, true, true, true, true, false, false, false] rfl rfl (by kernel_rfl) (fun _ _ _ h => h) (Or.inr ⟨by rfl, rfl⟩) ?_ ?_
            rotate_left
            · simp only [Act.put, List.setIfInBounds_toArray, List.set_cons_zero, List.set_cons_succ, i64_w, i32_w]
              rfl
            refine pure_ (i := 19) (N := some 98) (v := undef) (a' := ?_) #[true, true, true, true, true, true, true, true, true, true, true, true, true, true, true, true, true, true, true, true, false, false] rfl rfl (by kernel_rfl) (fun _ _ _ h => h) (Or.inr ⟨by rfl, rfl⟩) ?_ ?_
            rotate_left
            · simp only [Act.put, List.setIfInBounds_toArray, List.set_cons_zero, List.set_cons_succ, i64_w, i32_w]
              rfl
            refine pure_ (i := 20) (N := some 99) (v := ?_) (a' := ?_) #[true, true, true, true, true, true, true, true, true, true, true, true, true, true, true, true, true, true, true, true, true, false] rfl rfl (by kernel_rfl) (fun _ _ _ h => h) (Or.inl ⟨by rfl, ?_⟩) ?_ ?_
            rotate_left
            · intro w'
              go_simp
              with_reducible rfl
            rotate_left
            · simp only [Act.put, List.setIfInBounds_toArray, List.set_cons_zero, List.set_cons_succ, i64_w, i32_w]
              rfl
            refine pure_ (i := 21) (N := some 100) (v := ?_) (a' := ?_) #[true, true, true, true, true, true, true, true, true, true, true, true, true, true, true, true, true, true, true, true, true, true] rfl rfl (by kernel_rfl) (fun _ _ _ h => h) (Or.inl ⟨by rfl, ?_⟩) ?_ ?_
            rotate_left
            · intro w'
              go_simp
              with_reducible rfl
            rotate_left
            · simp only [Act.put, List.setIfInBounds_toArray, List.set_cons_zero, List.set_cons_succ, i64_w, i32_w]
              rfl
            refine done_ (by kernel_rfl) ?_

            go_wp2_with fail
            go_roundg (out.length - (i + 1))
            case measure => omega
            case rel => exact ⟨i + 1, by omega, by omega, by go_num, HB9⟩
      · have hltz : ¬ (i : Int) < (out.length : Int) := by omega
        go_wp2_with fail
        go_meet
        exact HB
  case rest =>
    have HB := hcut
    clear hcut
    have HKN := Aside0.mk law17_known.walk
    go_wp2_with (go_at_call 21; refine (HKN.out _).mono ?_; rintro e w6 ⟨rfl, hb6⟩; have HB6 := Aside0.mk (below_then HB.out HB.out.size hb6); clear hb6)
    go_ret
    exact ⟨rfl, below_then hb1.out hb1.out.size (below_then HBL5.out HBL5.out.size HB6.out)⟩
theorem heliastlaw17_OrderMained.calls (k : Nat) (A0 : Option Addr) (c0 : Nat) (l0 : List Int) (A1 : Option Addr) (c1 : Nat) (l1 : List Int) (a2 : Int) (r : Bool) (w : World) (hr0 : (Kd.int .u8).C w A0 l0.length l0) (hc0 : l0.length ≤ c0) (hr1 : (Kd.int .u8).C w A1 l1.length l1) (hc1 : l1.length ≤ c1)
    (h : (∀ x ∈ l0, (Lit.int .u8 x).wf = true) ∧ (Lit.int .u8 a2).wf = true) (hlaw : r = true) :
    Calls Try.prog 8 #[.slice A0 l0.length c0, .slice A1 l1.length c1, .int .u8 a2] w fun e w' => e = .returned (.bool r) ∧ Below w.heap.size w w' := by
  subst hlaw
  have ha := bytePM h.2
  obtain ⟨m, rfl⟩ : ∃ m : Nat, a2 = (m : Int) := ⟨a2.toNat, by omega⟩
  exact law17_OrderMained.walk A0 c0 l0 A1 c1 l1 m w hr0 hc0 (fun x hx => bytePM (h.1 x hx)) hr1 hc1 (by omega)
end Go.Proofs.Ytmdjknkhjimgeaa.S
end

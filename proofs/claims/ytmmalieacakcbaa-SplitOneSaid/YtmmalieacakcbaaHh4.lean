-- Written by heprint.py (this session's, over the kit's print.py): not trusted, Lean checks it.
import Derived.Test.YtmmalieacakcbaaHh0
import Derived.Test.YtmmalieacakcbaaHh1
import Derived.Test.YtmmalieacakcbaaHh2
import Derived.Test.YtmmalieacakcbaaHh3
namespace Go.Proofs.Ytmmalieacakcbaa.S
open Go.RowKit Go.Proofs.YtmmalieacakcbaaW.PrintWords Go.Proofs.YtmmalieacakcbaaW.PrintLast Go.Proofs.YtmmalieacakcbaaW.PrintMore
attribute [local go_sem] max2_int min2_int max_two min_two max_three min_three max_four min_four   -- for this text's walks alone
set_option linter.unusedVariables false
set_option linter.unusedSimpArgs false

attribute [local go_sem high] eqA69
/-! ### graph_Reach: function 39 -/
-- GIVEN heliast/graph.Reach making uses slices.Sort[[]int,int]
open Go.Proofs.He
noncomputable def setK : KK Try.prog 3 Int := intK Try.underlying3
abbrev OwnSet (w : World) (b : Nat) (M : List (Int × Unit)) : Prop := Own setK unitV w b M
theorem zero103 (w : World) : (zeroValue 103).run Try.prog w = .ok (.agg #[]) w := by kernel_rfl
set_option maxHeartbeats 1000000 in
theorem set_has.walk (b : Nat) (M : List (Int × Unit)) (x : Int) (w : World) (h : OwnSet w b M) (hx : (Lit.int .i64 x).wf = true) :
    Calls Try.prog 91 #[.map (some b), .int .i64 x] w fun e w' => e = .returned (.bool (decide (x ∈ M.map (·.1)))) ∧ w' = w.alloc (.cells #[] 103) := by
  go_enter Try.func91, Try.ntmps91
  go_wp2_with (first | (at_lookup; refine wpList_mhas rfl _ _ 121 rfl setK 103 Try.underlying121 (zero103 _) b M rfl h x rfl hx ?_) | go_in)
  go_ret
  exact ⟨rfl, rfl⟩
set_option maxHeartbeats 1000000 in
theorem set_put.walk (b : Nat) (M : List (Int × Unit)) (x : Int) (w : World) (h : OwnSet w b M) (hx : (Lit.int .i64 x).wf = true) (hn : M.length < maxLen) :
    Calls Try.prog 89 #[.map (some b), .int .i64 x] w fun e w' => e = .returned (.tuple #[]) ∧ OwnSet w' b (putM M x ()) ∧ w.grownBy w' (some b) := by
  go_enter Try.func89, Try.ntmps89
  go_wp2_with (first | (at_mapUpdate; refine wpList_mput rfl _ _ _ 121 rfl setK unitV 103 Try.underlying121 b M rfl h hn x () rfl rfl hx trivial ?_; intro w1 hown1 hgrow1) | go_in)
  go_end0
  exact ⟨rfl, hown1, hgrow1⟩
theorem length_putM {M : List (Int × Unit)} {x : Int} : (putM M x ()).length ≤ M.length + 1 := by
  unfold putM delM; rw [List.length_cons]; have := List.length_filter_le (fun p : Int × Unit => decide (p.1 ≠ x)) M; omega
theorem mem_take_succ (l : List Int) (j : Nat) (hj : j < l.length) (x : Int) : x ∈ l.take (j + 1) ↔ x ∈ l.take j ∨ x = rd l j := by
  have e : rd l j = l[j] := by simp [rd, hj]
  rw [List.take_succ_eq_append_getElem hj, List.mem_append, List.mem_singleton, e]
structure OfInv (g : List (List Int)) (l : List Int) (w : World) (b j : Nat) (M : List (Int × Unit)) : Prop where
  own : OwnSet w b M
  len : M.length ≤ j
  mem : ∀ x, x ∈ M.map (·.1) ↔ x ∈ l.take j ∧ 0 ≤ x ∧ x < g.length
theorem OfInv.skip {g : List (List Int)} {l : List Int} {w : World} {b j : Nat} {M : List (Int × Unit)} (h : OfInv g l w b j M) (hj : j < l.length) (hx : ¬ (0 ≤ rd l j ∧ rd l j < g.length)) : OfInv g l w b (j + 1) M :=
  ⟨h.own, by have := h.len; omega, fun x => by
    rw [h.mem, mem_take_succ l j hj]
    constructor
    · rintro ⟨h1, h2⟩; exact ⟨.inl h1, h2⟩
    · rintro ⟨h1 | h1, h2⟩
      · exact ⟨h1, h2⟩
      · subst h1; exact absurd h2 hx⟩
theorem OfInv.put {g : List (List Int)} {l : List Int} {w w' : World} {b j : Nat} {M : List (Int × Unit)} (h : OfInv g l w b j M) (hj : j < l.length) {x : Int} (hx : x = rd l j) (h0 : 0 ≤ x) (h1 : x < g.length) (ho : OwnSet w' b (putM M x ())) : OfInv g l w' b (j + 1) (putM M x ()) := by
  subst hx; exact
  ⟨ho, by have := h.len; have := length_putM (M := M) (x := rd l j); omega, fun x => by
    rw [keys_putM, h.mem, mem_take_succ l j hj]
    constructor
    · rintro (rfl | ⟨h1, h2⟩)
      · exact ⟨.inr rfl, h0, h1⟩
      · exact ⟨.inl h1, h2⟩
    · rintro ⟨h1 | h1, h2⟩
      · exact .inr ⟨h1, h2⟩
      · exact .inl h1⟩
set_option maxHeartbeats 4000000 in
set_option maxRecDepth 100000 in
theorem graph_of.walk (A0 : Option Addr) (c0 : Nat) (g : List (List Int)) (A1 : Option Addr) (c1 : Nat) (l : List Int) (w : World) (hg : g.length ≤ 9223372036854775807) (hr1 : Kd.C (Kd.int .i64) w A1 l.length l) :
    Calls Try.prog 88 #[.slice A0 g.length c0, .slice A1 l.length c1] w fun e w' => ∃ b M, e = .returned (.map (some b)) ∧ w.heap.size ≤ b ∧ OwnSet w' b M ∧ (∀ x, x ∈ M.map (·.1) ↔ x ∈ l ∧ 0 ≤ x ∧ x < g.length) ∧ Below w.heap.size w w' := by
  have hmm := @run_makeMap Try.prog
  have hlen : l.length ≤ 9223372036854775807 := hr1.2.1
  have HR1 := Aside0.mk hr1
  clear hr1
  have HO := Aside0.mk (show OfInv g l (w.alloc (.map #[] 0)) w.heap.size 0 [] from ⟨Own.made _ _ _, Nat.le_refl _, by simp⟩)
  have HB := Aside0.mk ((Below.refl w.heap.size w).alloc (Nat.le_refl _) (Obj.map #[] 0))
  go_enter Try.func88, Try.ntmps88
  go_wp2
  clear hmm
  go_loopw [11] (fun v wr => ∃ (j : Nat) (M : List (Int × Unit)), v = .int .i64 j ∧ j ≤ l.length ∧ Aside0 (OfInv g l wr w.heap.size j M) ∧ Aside0 (Below w.heap.size w wr)) (fun v _ => l.length - (intOf v).toNat)
  case atStart => exact ⟨0, [], rfl, Nat.zero_le _, HO, HB⟩
  case round =>
    clear HO HB
    obtain ⟨j, M, rfl, hj, HI, HB⟩ := hrel
    by_cases hlt : j < l.length
    · obtain ⟨ad, e, hx⟩ := Kd.at_int (Kd.C_below HR1.out HB.out) (j : Int) (by omega) (by omega)
      cases e
      obtain ⟨x, hxd⟩ : ∃ x, x = rd l j := ⟨_, rfl⟩
      rw [← hxd, Int.toNat_natCast] at hx
      have HX := Aside0.mk hxd
      clear hxd
      have hm : M.length < maxLen := by have := HI.out.len; unfold maxLen; omega
      by_cases h0 : 0 ≤ x
      · by_cases h1 : x < g.length
        · have hwf : (Lit.int .i64 x).wf = true := WalkArith.wf_i64 (by omega)
          have HP := Aside0.mk (fun W (hW : OwnSet W w.heap.size M) => set_put.walk w.heap.size M x W hW hwf hm)
          clear hwf hm
          go_wp2_with (first | (go_at_call 89; refine (HP.out _ HI.out.own).mono ?_; rintro e w1 ⟨rfl, ho1, hg1⟩) | go_in)
          have HB1 := Aside0.mk (HB.out.grown hg1 HB.out.size (fun k e => by cases e; exact Nat.le_refl _))
          go_roundw
          case rel => exact ⟨j + 1, _, by go_num, by omega, ⟨HI.out.put hlt HX.out h0 h1 ho1⟩, HB1⟩
          case measure => simp [intOf]; omega
        · go_wp2
          go_roundw
          case rel => exact ⟨j + 1, M, by go_num, by omega, ⟨HI.out.skip hlt (by rw [← HX.out]; omega)⟩, HB⟩
          case measure => simp [intOf]; omega
      · go_wp2
        go_roundw
        case rel => exact ⟨j + 1, M, by go_num, by omega, ⟨HI.out.skip hlt (by rw [← HX.out]; omega)⟩, HB⟩
        case measure => simp [intOf]; omega
    · have hjl : j = l.length := by omega
      go_wp2
      go_ret
      exact ⟨_, M, rfl, Nat.le_refl _, HI.out.own, fun x => by rw [HI.out.mem, hjl, List.take_length], HB.out⟩
structure RiseInv (M : List (Int × Unit)) (w : World) (b r base : Nat) (v : Value) (xs todo : List Int) : Prop where
  it : Iter setK unitV w b r M todo
  row : (Kd.int .i64).R 3 w base (fun _ => True) v xs
  nodup : xs.Nodup
  mem : ∀ x, x ∈ xs ↔ x ∈ M.map (·.1) ∧ x ∉ todo
  len : xs.length + todo.length = M.length
theorem RiseInv.step {M : List (Int × Unit)} {w w2 : World} {b r base : Nat} {v v2 : Value} {xs todo : List Int} (h : RiseInv M w b r base v xs todo) {x : Int} (hx : x ∈ todo)
    (hi : Iter setK unitV w2 b r M (strikeL todo x)) (hr : (Kd.int .i64).R 3 w2 base (fun _ => True) v2 (xs ++ [x])) : RiseInv M w2 b r base v2 (xs ++ [x]) (strikeL todo x) where
  it := hi
  row := hr
  nodup := List.nodup_append.2 ⟨h.nodup, by simp, fun a ha b hb e => by rw [List.mem_singleton.1 hb] at e; subst e; exact ((h.mem a).1 ha).2 hx⟩
  mem z := by
    rw [List.mem_append, List.mem_singleton, h.mem, mem_strikeL]
    by_cases e : z = x
    · subst e; simp [h.it.sub z hx]
    · simp [e]
  len := by have := h.len; have := length_strike1 h.it.nodup hx; rw [List.length_append]; simp; omega
set_option maxHeartbeats 4000000 in
set_option maxRecDepth 100000 in
theorem set_rising.walk (b : Nat) (M : List (Int × Unit)) (w : World) (h : OwnSet w b M) (hlim : M.length < 17592186044416) :
    Calls Try.prog 82 #[.map (some b)] w fun e w' => ∃ v ys, e = .returned v ∧ (Kd.int .i64).R 3 w' w.heap.size (fun _ => True) v ys ∧ ys.Pairwise (· < ·) ∧ (∀ x, x ∈ ys ↔ x ∈ M.map (·.1)) ∧ Below w.heap.size w w' := by
  have HO := Aside0.mk h
  clear h
  go_enter Try.func82, Try.ntmps82
  go_wp2_with (first | (at_range; refine wpList_mrange rfl _ 121 rfl setK unitV 103 Try.underlying121 b M rfl HO.out ?_; intro w0 hi0 hg0 hs0) | go_in)
  go_frame
  have hb0 : b < w.heap.size := HO.out.lt
  have H0 := Aside0.mk (show RiseInv M w0 b w.heap.size w.heap.size (.slice none 0 0) [] (M.map (·.1)) from ⟨hi0, Kd.R_nil _ _ _ _ _, by simp, by simp, by simp⟩)
  have HB := Aside0.mk ((Below.refl w.heap.size w).grown hg0 (Nat.le_refl _) (fun k e => by cases e))
  clear hi0 hg0 hs0
  go_loopw [3] (fun v wr => ∃ (xs todo : List Int), Aside0 (RiseInv M wr b w.heap.size w.heap.size v xs todo) ∧ Aside0 (Below w.heap.size w wr)) (fun _ wr => wr.rangeLeft b w.heap.size)
  case atStart => exact ⟨[], _, H0, HB⟩
  case round =>
    clear H0 HB
    obtain ⟨xs, todo, HI, HB⟩ := hrel
    go_wp2_with (first | (at_next; refine wpList_mnext rfl _ rfl setK unitV b w.heap.size M rfl HI.out.it ?_ ?_) | go_in)
    · intro ht
      subst ht
      have HS := Aside0.mk (sort_int.walk HI.out.row (by have := HI.out.len; omega))
      go_wp2_with (first | (go_at_call 76; refine HS.out.mono ?_; rintro e w1 ⟨rfl, hr1, hg1⟩) | go_in)
      go_ret
      refine ⟨_, _, rfl, hr1, sort_rises HI.out.nodup, fun x => ?_, HB.out.grown hg1 HB.out.size (fun k e => ?_)⟩
      · rw [(List.mergeSort_perm _ _).mem_iff, HI.out.mem]; simp
      · exact own_base (Kd.R_own HI.out.row).choose_spec k e
    · intro x y w1 hx hxM hi1 hlt1 hg1 hs1 hen
      have hen' : (Instr.entry (.pointer (some ⟨w.heap.size, 0, none⟩))).run Try.prog w1 = .ok (.tuple #[.int .i64 x, .agg #[]]) w1 := hen
      clear hen
      have hrv : some w.heap.size ≠ u3.ownBlock := fun e => by
        obtain ⟨inner, ho⟩ := Kd.R_own HI.out.row
        obtain ⟨cells, hc⟩ := own_typed ho _ e.symm
        exact HI.out.it.off hc rfl
      have hbv : some b ≠ u3.ownBlock := fun e => by
        obtain ⟨inner, ho⟩ := Kd.R_own HI.out.row
        obtain ⟨cells, hc⟩ := own_typed ho _ e.symm
        exact HI.out.it.own.off hc rfl
      have HBV := Aside0.mk hbv
      have HRV := Aside0.mk hrv
      have HR1 := Aside0.mk (Kd.R_grown1 HI.out.row rfl hg1 hrv)
      have HB1 := Aside0.mk (HB.out.grown hg1 HB.out.size (fun k e => by cases e; exact Nat.le_refl _))
      have HG1 := Aside0.mk hlt1
      have HI1 := Aside0.mk hi1
      have HX := Aside0.mk hx
      have hl : (xs.length + 1) * 8 ≤ 140737488355328 := by have := HI.out.len; omega
      have HL := Aside0.mk hl
      have HSZ := Aside0.mk (show w.heap.size ≤ w1.heap.size from HB1.out.size)
      clear hg1 hlt1 hi1 hx hxM hl hs1 hrv hbv
      go_wp2_with (first | (at_builtin; refine Kd.R_append (Kd.int .i64) (w0 := w) w.heap.size rfl _ _ 65 3 (.int .i64 0) 8 rfl Try.underlying65 info3 rfl (by decide) (by omega) u3 xs x [.int .i64 x] (fun _ => True) (fun _ => False) rfl rfl rfl (fun _ hk => hk.elim) (fun _ _ => trivial) HR1.out HB1.out HSZ.out HL.out ?_; intro v2 w2 hr2 hb2 hg2 hat2) | go_in)
      go_roundw
      case rel => exact ⟨_, _, ⟨HI.out.step HX.out (HI1.out.grown hg2 HBV.out HRV.out) hr2⟩, ⟨hb2⟩⟩
      case measure => rw [HI1.out.left_grown hg2 HBV.out HRV.out]; exact HG1.out
structure ReachInv (g : List (List Int)) (l : List Int) (w : World) (b base : Nat) (v : Value) (L : List Int) (M : List (Int × Unit)) : Prop where
  own : OwnSet w b M
  row : (Kd.int .i64).R 3 w base (fun _ => True) v L
  nodup : L.Nodup
  sub : ∀ x ∈ L, x ∈ M.map (·.1)
  sound : ∀ x ∈ M.map (·.1), Rch g l x
  start : ∀ x ∈ l, 0 ≤ x → x < g.length → x ∈ M.map (·.1)
  closed : ∀ a ∈ M.map (·.1), a ∉ L → ∀ c, goesTo g a c → c ∈ M.map (·.1)
structure RoundInv (g : List (List Int)) (l : List Int) (w : World) (b base : Nat) (v : Value) (L : List Int) (M : List (Int × Unit)) (n : Int) (j : Nat) : Prop where
  own : OwnSet w b M
  row : (Kd.int .i64).R 3 w base (fun _ => True) v L
  nodup : L.Nodup
  sub : ∀ x ∈ L, x ∈ M.map (·.1)
  sound : ∀ x ∈ M.map (·.1), Rch g l x
  start : ∀ x ∈ l, 0 ≤ x → x < g.length → x ∈ M.map (·.1)
  at_n : n ∈ M.map (·.1)
  closed : ∀ a ∈ M.map (·.1), a ∉ L → a ≠ n → ∀ c, goesTo g a c → c ∈ M.map (·.1)
  part : ∀ i, i < j → ∀ c, c = rd (g.getD n.toNat []) i → 0 ≤ c → c < n → c ∈ M.map (·.1)
theorem mem_rd {l : List Int} {c : Int} (h : c ∈ l) : ∃ i : Nat, i < l.length ∧ c = rd l i := by
  obtain ⟨i, hi, rfl⟩ := List.getElem_of_mem h
  exact ⟨i, hi, by simp [rd, hi]⟩
theorem rd_mem {l : List Int} {i : Nat} (h : i < l.length) : rd l i ∈ l := by
  have : rd l i = l[i] := by simp [rd, h]
  rw [this]; exact List.getElem_mem h
theorem small_set {g : List (List Int)} {l : List Int} {w : World} {b : Nat} {M : List (Int × Unit)} (ho : OwnSet w b M) (hs : ∀ x ∈ M.map (·.1), Rch g l x) : M.length ≤ (rchL g l).length := by
  have := ho.nodup.length_le_of_subset (l₂ := rchL g l) (fun x hx => mem_rchL.2 (hs x hx))
  simpa using this
theorem small_rch (g : List (List Int)) (l : List Int) : (rchL g l).length ≤ g.length := by
  unfold rchL pickL
  exact Nat.le_trans (List.length_filter_le _ _) (by simp)
theorem ReachInv.pop {g : List (List Int)} {l : List Int} {w : World} {b base : Nat} {v v' : Value} {L : List Int} {n : Int} {M : List (Int × Unit)} (h : ReachInv g l w b base v (L ++ [n]) M) (hr : (Kd.int .i64).R 3 w base (fun _ => True) v' L) : RoundInv g l w b base v' L M n 0 where
  own := h.own
  row := hr
  nodup := (List.nodup_append.1 h.nodup).1
  sub x hx := h.sub x (List.mem_append_left _ hx)
  sound := h.sound
  start := h.start
  at_n := h.sub n (by simp)
  closed a ha hL hn := h.closed a ha (by simp [hL, hn])
  part i hi := absurd hi (Nat.not_lt_zero _)
theorem RoundInv.done {g : List (List Int)} {l : List Int} {w : World} {b base : Nat} {v : Value} {L : List Int} {n : Int} {M : List (Int × Unit)} {j : Nat} (h : RoundInv g l w b base v L M n j) (hj : (g.getD n.toNat []).length ≤ j) : ReachInv g l w b base v L M where
  own := h.own
  row := h.row
  nodup := h.nodup
  sub := h.sub
  sound := h.sound
  start := h.start
  closed a ha hL c hc := by
    by_cases e : a = n
    · subst e
      obtain ⟨i, hi, rfl⟩ := mem_rd hc.2.1
      exact h.part i (by omega) _ rfl hc.2.2.1 hc.2.2.2
    · exact h.closed a ha hL e c hc
theorem RoundInv.skip {g : List (List Int)} {l : List Int} {w : World} {b base : Nat} {v : Value} {L : List Int} {n : Int} {M : List (Int × Unit)} {j : Nat} (h : RoundInv g l w b base v L M n j) {x : Int} (hx : x = rd (g.getD n.toNat []) j) (hs : 0 ≤ x → x < n → x ∈ M.map (·.1))
    {w' : World} (ho : OwnSet w' b M) (hr : (Kd.int .i64).R 3 w' base (fun _ => True) v L) : RoundInv g l w' b base v L M n (j + 1) where
  own := ho
  row := hr
  nodup := h.nodup
  sub := h.sub
  sound := h.sound
  start := h.start
  at_n := h.at_n
  closed := h.closed
  part i hi c hc h0 h1 := by
    by_cases e : i = j
    · subst e; rw [← hx] at hc; subst hc; exact hs h0 h1
    · exact h.part i (by omega) c hc h0 h1
theorem RoundInv.push {g : List (List Int)} {l : List Int} {w : World} {b base : Nat} {v v' : Value} {L : List Int} {n : Int} {M : List (Int × Unit)} {j : Nat} (h : RoundInv g l w b base v L M n j) {x : Int} (hx : x = rd (g.getD n.toNat []) j) (hj : j < (g.getD n.toNat []).length) (h0 : 0 ≤ x) (h1 : x < n) (hn : x ∉ M.map (·.1))
    {w' : World} (ho : OwnSet w' b (putM M x ())) (hr : (Kd.int .i64).R 3 w' base (fun _ => True) v' (L ++ [x])) : RoundInv g l w' b base v' (L ++ [x]) (putM M x ()) n (j + 1) where
  own := ho
  row := hr
  nodup := List.nodup_append.2 ⟨h.nodup, by simp, fun a ha c hc e => by rw [List.mem_singleton.1 hc] at e; subst e; exact hn (h.sub a ha)⟩
  sub z hz := by
    rw [keys_putM]
    rcases List.mem_append.1 hz with hz | hz
    · exact .inr (h.sub z hz)
    · exact .inl (List.mem_singleton.1 hz)
  sound z hz := by
    rcases keys_putM.1 hz with rfl | hz
    · exact .step (h.sound n h.at_n) ⟨(h.sound n h.at_n).valid.1, by rw [hx]; exact rd_mem hj, h0, h1⟩
    · exact h.sound z hz
  start z hz h2 h3 := keys_putM.2 (.inr (h.start z hz h2 h3))
  at_n := keys_putM.2 (.inr h.at_n)
  closed a ha hL hna c hc := by
    rcases keys_putM.1 ha with rfl | ha
    · exact absurd (by simp) hL
    · exact keys_putM.2 (.inr (h.closed a ha (fun h' => hL (List.mem_append_left _ h')) hna c hc))
  part i hi c hc h2 h3 := by
    rw [keys_putM]
    by_cases e : i = j
    · subst e; rw [← hx] at hc; exact .inl hc
    · exact .inr (h.part i (by omega) c hc h2 h3)
theorem ReachInv.all {g : List (List Int)} {l : List Int} {w : World} {b base : Nat} {v : Value} {M : List (Int × Unit)} (h : ReachInv g l w b base v [] M) (x : Int) : x ∈ M.map (·.1) ↔ Rch g l x := by
  refine ⟨h.sound x, fun hx => ?_⟩
  induction hx with
  | base h1 h2 h3 => exact h.start _ h1 h2 h3
  | step h1 h2 ih => exact h.closed _ ih (by simp) _ h2
set_option maxHeartbeats 8000000 in
set_option maxRecDepth 100000 in
theorem graph_reach.walk (A0 : Option Addr) (c0 : Nat) (g : List (List Int)) (A1 : Option Addr) (c1 : Nat) (l : List Int) (w : World) (hr0 : Kd.C (Kd.slice 3 (Kd.int .i64)) w A0 g.length g) (hr1 : Kd.C (Kd.int .i64) w A1 l.length l) (hlim : g.length < 17592186044416) :
    Calls Try.prog 81 #[.slice A0 g.length c0, .slice A1 l.length c1] w fun e w' => ∃ b M, e = .returned (.map (some b)) ∧ w.heap.size ≤ b ∧ OwnSet w' b M ∧ (∀ x, x ∈ M.map (·.1) ↔ Rch g l x) ∧ Below w.heap.size w w' := by
  have HR0 := Aside0.mk hr0
  have HR1 := Aside0.mk hr1
  clear hr0 hr1
  go_enter Try.func81, Try.ntmps81
  go_wp2_with fail
  refine (graph_of.walk A0 c0 g A1 c1 l w (by omega) HR1.out).mono ?_
  rintro e w1 ⟨b, M1, rfl, hb, ho1, hm1, hb1⟩
  have HM1 := Aside0.mk hm1
  have HO1 := Aside0.mk ho1
  have HB1 := Aside0.mk hb1
  have HBB := Aside0.mk hb
  have hs1 : M1.length ≤ g.length := by
    have := ho1.nodup.length_le_of_subset (l₂ := rchL g l) (fun x hx => mem_rchL.2 (by obtain ⟨h1, h2, h3⟩ := (hm1 x).1 hx; exact .base h1 h2 h3))
    have h' := small_rch g l
    simp at this; omega
  clear hm1 ho1 hb1 hb
  go_wp2_with fail
  refine (set_rising.walk b M1 w1 HO1.out (by omega)).mono ?_
  rintro e w2 ⟨v, ys, rfl, hr2, hp2, hm2, hb2⟩
  have HI := Aside0.mk (show ReachInv g l w2 b w.heap.size v ys M1 from {
    own := HO1.out.below hb2
    row := Kd.R_lower hr2 HB1.out.size
    nodup := hp2.imp (fun h => by omega)
    sub := fun x hx => (hm2 x).1 hx
    sound := fun x hx => by obtain ⟨h1, h2, h3⟩ := (HM1.out x).1 hx; exact .base h1 h2 h3
    start := fun x h1 h2 h3 => (HM1.out x).2 ⟨h1, h2, h3⟩
    closed := fun a ha hL => absurd ((hm2 a).2 ha) hL })
  have HB := Aside0.mk (below_then HB1.out HB1.out.size hb2)
  clear hr2 hp2 hm2 hb2 HM1 HO1 HB1 hs1
  go_wp2
  go_loopg [6] (2 * ((rchL g l).length - M1.length) + ys.length) (fun kq v6 wr => ∃ (L : List Int) (M : List (Int × Unit)), Aside0 (ReachInv g l wr b w.heap.size v6 L M) ∧ Aside0 (2 * ((rchL g l).length - M.length) + L.length ≤ kq) ∧ Aside0 (Below w.heap.size w wr))
  case atStart => exact ⟨ys, M1, HI, ⟨Nat.le_refl _⟩, HB⟩
  case round =>
    clear HI HB
    obtain ⟨L, M, HI, HK, HB⟩ := hrel
    rcases List.eq_nil_or_concat L with hL | ⟨L', n, hL⟩
    · subst hL
      obtain ⟨A, c, rfl⟩ := Kd.R_slice HI.out.row
      go_wp2
      go_ret
      exact ⟨b, M, rfl, HBB.out, HI.out.own, HI.out.all, HB.out⟩
    · rw [List.concat_eq_append] at hL
      subst hL
      obtain ⟨gb, cap, hv, hc, hcell, hrow⟩ := row_last HI.out.row
      subst hv
      have HP := Aside0.mk (HI.out.pop hrow)
      have hnv := (HI.out.sound n (HI.out.sub n (by simp))).valid
      have hn0 := hnv.1
      have hn1 := hnv.2
      clear hnv hrow
      have hLm : L'.length + 1 ≤ 9223372036854775807 := by
        have h1 := HI.out.nodup.length_le_of_subset (l₂ := rchL g l) (fun x hx => mem_rchL.2 (HI.out.sound x (HI.out.sub x hx)))
        have h2 := small_rch g l
        simp at h1; omega
      obtain ⟨ad, Ar, cr, e, hrx, hrl, hrc⟩ := at_row HR0.out n hn0 hn1
      cases e
      replace hrx := (HB.out.cell (World.block_lt_of_cell? w _ hrx)).trans hrx
      obtain ⟨ns, hns⟩ : ∃ ns, ns = g.getD n.toNat [] := ⟨_, rfl⟩
      rw [← hns] at hrx hrl hrc
      have HN := Aside0.mk hns
      have HRC := Aside0.mk hrc
      have hnl : ns.length ≤ 9223372036854775807 := hrc.2.1
      clear hns hrc hrl
      obtain ⟨i0, hi0, hzz⟩ := Option.map_eq_some_iff.1 info3
      simp only [Prod.mk.injEq] at hzz
      have hcut := cut_up (P := Try.prog) 65 3 Try.underlying65 hi0 (some ⟨gb, 0, none⟩) (L'.length + 1) cap L'.length (L'.length : Int) rfl (by omega)
      clear hi0 hzz
      obtain ⟨ko, rfl⟩ : ∃ k, gk = k + 1 := ⟨gk - 1, by have := HK.out; simp at this; omega⟩
      have HK1 := Aside0.mk (show 2 * ((rchL g l).length - M.length) + L'.length ≤ ko by have := HK.out; simp at this; omega)
      clear HK HI
      go_wp2
      go_loopg [6, 34] ns.length (fun kq v6 v34 w3 => ∃ (L : List Int) (M : List (Int × Unit)) (j : Nat), v34 = .int .i64 j ∧ j ≤ ns.length ∧ Aside0 (RoundInv g l w3 b w.heap.size v6 L M n j) ∧ Aside0 (ns.length - j ≤ kq) ∧ Aside0 (2 * ((rchL g l).length - M.length) + L.length ≤ ko) ∧ Aside0 (Below w.heap.size w w3))
      case atStart => exact ⟨L', M, 0, rfl, Nat.zero_le _, HP, ⟨by omega⟩, HK1, HB⟩
      case round =>
        clear HP HK1 HB hcell hcut hc hrx
        obtain ⟨L, M, j, rfl, hj, HI, HJ, HK, HB⟩ := hrel
        by_cases hlt : j < ns.length
        · obtain ⟨ad2, e, hx⟩ := Kd.at_int (Kd.C_below HRC.out HB.out) (j : Int) (by omega) (by omega)
          cases e
          obtain ⟨x, hxd⟩ : ∃ x, x = rd ns j := ⟨_, rfl⟩
          rw [← hxd, Int.toNat_natCast] at hx
          have HX := Aside0.mk (hxd.trans (by rw [HN.out]) : x = rd (g.getD n.toNat []) j)
          clear hxd
          by_cases h0 : 0 ≤ x
          · by_cases h1 : x < n
            · have hwf : (Lit.int .i64 x).wf = true := WalkArith.wf_i64 (by omega)
              by_cases hin : x ∈ M.map (·.1)
              · have HH := Aside0.mk (fun W (hW : OwnSet W b M) => (set_has.walk b M x W hW hwf).mono (R' := fun e w' => e = .returned (.bool true) ∧ w' = W.alloc (.cells #[] 103)) (fun _ _ h => by rw [decide_eq_true hin] at h; exact h))
                have HIN := Aside0.mk hin
                clear hin hwf
                go_wp2_with (first | (go_at_call 91; refine (HH.out _ HI.out.own).mono ?_; rintro e w4 ⟨rfl, rfl⟩) | go_in)
                go_roundg (ns.length - (j + 1))
                case measure => have := HJ.out; omega
                case rel => exact ⟨L, M, j + 1, by go_num, by omega, ⟨HI.out.skip HX.out (fun _ _ => HIN.out) (HI.out.own.below ((Below.refl _ _).alloc (Nat.le_refl _) _)) (Kd.R_below HI.out.row ((Below.refl _ _).alloc (Nat.le_refl _) _))⟩, ⟨Nat.le_refl _⟩, HK, ⟨below_alloc HB.out _⟩⟩
              · have HH := Aside0.mk (fun W (hW : OwnSet W b M) => (set_has.walk b M x W hW hwf).mono (R' := fun e w' => e = .returned (.bool false) ∧ w' = W.alloc (.cells #[] 103)) (fun _ _ h => by rw [decide_eq_false hin] at h; exact h))
                have hsm := small_set HI.out.own HI.out.sound
                have hsr := small_rch g l
                have HP := Aside0.mk (fun W (hW : OwnSet W b M) => set_put.walk b M x W hW hwf (by unfold maxLen; omega))
                have HIN := Aside0.mk hin
                have hLm : L.length ≤ g.length := by
                  have h1 := HI.out.nodup.length_le_of_subset (l₂ := rchL g l) (fun x hx => mem_rchL.2 (HI.out.sound x (HI.out.sub x hx)))
                  omega
                have hll : (L.length + 1) * 8 ≤ 140737488355328 := by omega
                have HLL := Aside0.mk hll
                have hlp : (putM M x ()).length = M.length + 1 := by
                  have : delM M x = M := List.filter_eq_self.2 (fun p hp => by simp; rintro rfl; exact hin (List.mem_map.2 ⟨p, hp, rfl⟩))
                  unfold putM; rw [this, List.length_cons]
                have HLP := Aside0.mk hlp
                have hs2 : M.length + 1 ≤ (rchL g l).length := by
                  rw [← hlp]
                  have hnd := nodup_putM HI.out.own.nodup x ()
                  have := hnd.length_le_of_subset (l₂ := rchL g l) (fun z hz => mem_rchL.2 (by
                    rcases keys_putM.1 hz with rfl | hz
                    · exact .step (HI.out.sound n HI.out.at_n) ⟨hn0, by rw [HX.out]; exact rd_mem (by rw [← HN.out]; exact hlt), h0, h1⟩
                    · exact HI.out.sound z hz))
                  simpa using this
                have HS2 := Aside0.mk hs2
                clear hin hwf hsm hsr hLm hll hlp hs2
                go_wp2_with (go_at_call 91; refine (HH.out _ HI.out.own).mono ?_; rintro e w4 ⟨rfl, rfl⟩)
                have HO4 := Aside0.mk (HI.out.own.below ((Below.refl _ _).alloc (Nat.le_refl _) (.cells #[] 103)))
                have HR4 := Aside0.mk (Kd.R_below HI.out.row ((Below.refl _ _).alloc (Nat.le_refl _) (.cells #[] 103)))
                have HB4 := Aside0.mk (below_alloc HB.out (.cells #[] 103))
                go_wp2_with fail
                refine (HP.out _ HO4.out).mono ?_
                rintro e w5 ⟨rfl, ho5, hg5⟩
                have hbv : some b ≠ u6.ownBlock := fun e => by
                  obtain ⟨inner, ho⟩ := Kd.R_own HR4.out
                  obtain ⟨cells, hc⟩ := own_typed ho _ e.symm
                  exact HO4.out.off hc rfl
                have HBV := Aside0.mk hbv
                have HR5 := Aside0.mk (Kd.R_grown1 HR4.out rfl hg5 hbv)
                have HO5 := Aside0.mk ho5
                have HB5 := Aside0.mk (HB4.out.grown hg5 HB4.out.size (fun k e => by cases e; exact HBB.out))
                have HSZ := Aside0.mk (show w.heap.size ≤ w5.heap.size from HB5.out.size)
                clear hbv ho5 hg5
                go_wp2_with (first | (at_builtin; refine Kd.R_append (Kd.int .i64) (w0 := w) w.heap.size rfl _ _ 65 3 (.int .i64 0) 8 rfl Try.underlying65 info3 rfl (by decide) (by omega) u6 L x [.int .i64 x] (fun _ => True) (fun _ => False) rfl rfl rfl (fun _ hk => hk.elim) (fun _ _ => trivial) HR5.out HB5.out HSZ.out HLL.out ?_; intro v2 w6 hr2 hb2 hg2 hat2) | go_in)
                go_roundg (ns.length - (j + 1))
                case measure => have := HJ.out; omega
                case rel => exact ⟨L ++ [x], putM M x (), j + 1, by go_num, by omega, ⟨HI.out.push HX.out (by rw [← HN.out]; exact hlt) h0 h1 HIN.out (HO5.out.grown hg2 HBV.out) hr2⟩, ⟨Nat.le_refl _⟩, ⟨by rw [HLP.out, List.length_append]; have := HS2.out; have := HK.out; simp; omega⟩, ⟨hb2⟩⟩
            · go_wp2
              go_roundg (ns.length - (j + 1))
              case measure => have := HJ.out; omega
              case rel => exact ⟨L, M, j + 1, by go_num, by omega, ⟨HI.out.skip HX.out (fun _ h => by omega) HI.out.own HI.out.row⟩, ⟨Nat.le_refl _⟩, HK, HB⟩
          · go_wp2
            go_roundg (ns.length - (j + 1))
            case measure => have := HJ.out; omega
            case rel => exact ⟨L, M, j + 1, by go_num, by omega, ⟨HI.out.skip HX.out (fun h => by omega) HI.out.own HI.out.row⟩, ⟨Nat.le_refl _⟩, HK, HB⟩
        · go_wp2
          go_roundg ko
          case measure => omega
          case rel => exact ⟨L, M, ⟨HI.out.done (by rw [← HN.out]; omega)⟩, HK, HB⟩
set_option maxHeartbeats 2000000 in
theorem graph_Reach.walk (A0 : Option Addr) (c0 : Nat) (g : List (List Int)) (A1 : Option Addr) (c1 : Nat) (l : List Int) (w : World) (hr0 : Kd.C (Kd.slice 3 (Kd.int .i64)) w A0 g.length g) (hr1 : Kd.C (Kd.int .i64) w A1 l.length l) (hlim : g.length < 17592186044416) :
    Calls Try.prog 39 #[.slice A0 g.length c0, .slice A1 l.length c1] w fun e w' => ∃ v, e = .returned v ∧ (Kd.int .i64).R 3 w' w.heap.size (fun _ => True) v (rchL g l) ∧ Below w.heap.size w w' := by
  have HR0 := Aside0.mk hr0
  have HR1 := Aside0.mk hr1
  clear hr0 hr1
  go_enter Try.func39, Try.ntmps39
  go_wp2_with fail
  refine (graph_reach.walk A0 c0 g A1 c1 l w HR0.out HR1.out hlim).mono ?_
  rintro e w1 ⟨b, M1, rfl, hb, ho1, hm1, hb1⟩
  have HM1 := Aside0.mk hm1
  have HO1 := Aside0.mk ho1
  have HB1 := Aside0.mk hb1
  have hsm := small_set ho1 (fun x hx => (hm1 x).1 hx)
  have hsr := small_rch g l
  clear hm1 ho1 hb1 hb
  go_wp2_with fail
  refine (set_rising.walk b M1 w1 HO1.out (by omega)).mono ?_
  rintro e w2 ⟨v, ys, rfl, hr2, hp2, hm2, hb2⟩
  have HE := Aside0.mk (show ys = rchL g l from rises_eq hp2 (pickL_rises g _) (fun x => by rw [hm2, HM1.out]; exact (mem_rchL (g := g) (l := l)).symm))
  have HR2 := Aside0.mk (Kd.R_lower hr2 HB1.out.size)
  have HB2 := Aside0.mk (below_then HB1.out HB1.out.size hb2)
  clear hr2 hp2 hm2 hb2
  go_wp2
  go_ret
  exact ⟨v, rfl, by rw [← HE.out]; exact HR2.out, HB2.out⟩
def graph_Reach.f (g : List (List Int)) (l : List Int) : Option (List Int) := if g.length < 17592186044416 then some (rchL g l) else none
theorem graph_Reach.calls (A0 : Option Addr) (c0 : Nat) (l0 : List (List Int)) (A1 : Option Addr) (c1 : Nat) (l1 : List Int) (r : List Int) (w : World) (hr0 : Kd.C (Kd.slice 3 (Kd.int .i64)) w A0 l0.length l0) (hc0 : l0.length ≤ c0) (hr1 : Kd.C (Kd.int .i64) w A1 l1.length l1) (hc1 : l1.length ≤ c1) (h : graph_Reach.f l0 l1 = some r) :
    Calls Try.prog 39 #[.slice A0 l0.length c0, .slice A1 l1.length c1] w fun e w' => ∃ v0_ : Value, e = .returned (v0_) ∧ (Kd.int .i64).R 3 w' w.heap.size (fun _ => True) v0_ r ∧ Below w.heap.size w w' := by
  unfold graph_Reach.f at h
  split at h
  · obtain rfl := Option.some.inj h
    exact graph_Reach.walk A0 c0 l0 A1 c1 l1 w hr0 hr1 ‹_›
  · cases h

/-! ### split_Chains: function 38 -/
-- GIVEN heliast/split.Chains making uses heliast/split.rising uses heliast/split.count[int] uses heliast/state.Places uses heliast/graph.Reach
open Go.Proofs.He
def chainRows (g : List (List Int)) (l : List (List S69)) : List (List Int) := l.map fun s => rchL g (placesL s)
def chainsL (g : List (List Int)) (l : List (List S69)) : List Int := riseL ((chainRows g l).flatten.filter fun x => decide (((chainRows g l).flatten.count x : Int) < (l.length : Int)))
theorem chains_eq {zs : List Int} {n : Int} {ys : List Int} (hy : ∀ z, z ∈ ys ↔ ∃ x ∈ zs, (@List.count _ instBEqOfDecidableEq x zs : Int) < n ∧ id x = z) : riseL ys = riseL (zs.filter fun x => decide ((zs.count x : Int) < n)) := by
  refine riseL_eq (fun z => ?_)
  rw [hy, List.mem_filter]
  constructor
  · rintro ⟨x, h1, h2, rfl⟩
    exact ⟨h1, by rw [decide_eq_true_iff]; exact h2⟩
  · rintro ⟨h1, h2⟩
    rw [decide_eq_true_iff] at h2
    exact ⟨z, h1, h2, rfl⟩
theorem chain_flat (g : List (List Int)) : ∀ (l : List (List S69)), (chainRows g l).flatten.length ≤ l.length * g.length
  | [] => by simp [chainRows]
  | s :: l => by
    have h1 := chain_flat g l
    have h2 := small_rch g (placesL s)
    unfold chainRows at *
    rw [List.map_cons, List.flatten_cons, List.length_append, List.length_cons, Nat.succ_mul]; omega
theorem rch_range {g : List (List Int)} {l : List Int} {x : Int} (h : x ∈ rchL g l) : 0 ≤ x ∧ x < g.length := by
  unfold rchL pickL at h
  obtain ⟨n, hn, rfl⟩ := List.mem_map.1 (List.mem_filter.1 h).1
  have := List.mem_range.1 hn
  show 0 ≤ (n : Int) ∧ (n : Int) < g.length
  omega
abbrev FewI (C : List (Int × Int)) (w : World) (b r base : Nat) (n : Int) (v : Value) (ys : List Int) (todo : List Int) : Prop := Few cntIK Try.underlying3 id C w b r base n v ys todo
set_option maxHeartbeats 8000000 in
set_option maxRecDepth 100000 in
theorem split_Chains.walk (A0 : Option Addr) (c0 : Nat) (g : List (List Int)) (A1 : Option Addr) (c1 : Nat) (l : List (List S69)) (w : World) (hr0 : Kd.C (Kd.slice 3 (Kd.int .i64)) w A0 g.length g) (hr1 : Kd.C (Kd.slice 69 k69) w A1 l.length l)
    (hlim : l.flatten.length < 3518437208883) (hg : g.length < 17592186044416) (hlg : l.length * g.length < 3518437208883) (hll : l.length < 3518437208883) :
    Calls Try.prog 38 #[.slice A0 g.length c0, .slice A1 l.length c1] w fun e w' => ∃ v, e = .returned v ∧ (Kd.int .i64).R 3 w' w.heap.size (fun _ => True) v (chainsL g l) ∧ Below w.heap.size w w' := by
  have hlen : l.length ≤ 9223372036854775807 := hr1.2.1
  have HR0 := Aside0.mk hr0
  have HR1 := Aside0.mk hr1
  have HLIM := Aside0.mk hlim
  have HLG := Aside0.mk hlg
  clear hr0 hr1 hlim hlg
  go_enter Try.func38, Try.ntmps38
  go_wp2
  go_loopw [5, 13] (fun v5 v13 wr => ∃ i : Nat, v13 = .int .i64 i ∧ i ≤ l.length ∧ Aside0 (Kd.R (Kd.slice 3 (Kd.int .i64)) 65 wr w.heap.size (fun _ => True) v5 (chainRows g (l.take i))) ∧ Aside0 (Below w.heap.size w wr)) (fun _ v _ => l.length - (intOf v).toNat)
  case atStart => exact ⟨0, rfl, Nat.zero_le _, ⟨Kd.R_nil _ _ _ _ _⟩, ⟨Below.refl _ _⟩⟩
  case round =>
    obtain ⟨i, rfl, hi, HR, HB⟩ := hrel
    by_cases hlt : i < l.length
    · obtain ⟨ad, Ar, cr, e, hrx, hrl, hrc⟩ := at_rows HR1.out (i : Int) (by omega) (by omega)
      cases e
      replace hrx := (HB.out.cell (World.block_lt_of_cell? w _ hrx)).trans hrx
      rw [Int.toNat_natCast] at hrx hrl hrc
      have hml := readTo_length (xs := l) i (l.getD i []).length
      have hns2 : l.getD i [] = l[i] := by simp [List.getD_eq_getElem?_getD, hlt]
      obtain ⟨ns, hns⟩ : ∃ ns, ns = l.getD i [] := ⟨_, rfl⟩
      rw [← hns] at hrx hrl hrc hml
      have hnl : ns.length < 3518437208883 := by have := HLIM.out; unfold readTo at hml; rw [← hns, List.take_length, List.length_append] at hml; omega
      have HX := Aside0.mk (show chainRows g (l.take (i + 1)) = chainRows g (l.take i) ++ [rchL g (placesL ns)] from by
        unfold chainRows
        rw [List.take_succ_eq_append_getElem hlt, List.map_append, hns, hns2]; rfl)
      have HP := Aside0.mk (state_Places.walk Ar cr ns _ (Kd.C_below hrc HB.out) (by omega))
      clear hrc hrl hml hns hns2
      go_wp2_with fail
      (with_reducible refine HP.out.mono ?_)
      rintro e w1 ⟨v1, rfl, hr1, hb1⟩
      have HB1 := Aside0.mk (below_then HB.out HB.out.size hb1)
      have HRA := Aside0.mk (Kd.R_below HR.out hb1)
      obtain ⟨A2, c2, rfl, hc2, hC2⟩ := Kd.R_reads hr1
      have HG := Aside0.mk (graph_Reach.walk A0 c0 g A2 c2 (placesL ns) w1 (Kd.C_below HR0.out HB1.out) hC2 hg)
      clear hr1 hb1 hc2 hC2
      go_wp2_with fail
      (with_reducible refine HG.out.mono ?_)
      rintro e w2 ⟨v2, rfl, hr2, hb2⟩
      have HB2 := Aside0.mk (below_then HB1.out HB1.out.size hb2)
      have HRB := Aside0.mk (Kd.R_below HRA.out hb2)
      have HR2 := Aside0.mk (Kd.R_mono (Kd.R_lower (Kd.R_bound hr2) HB1.out.size) (ok' := fun k => some k ≠ u5.ownBlock) (fun k hk e => by
        obtain ⟨inner, ho⟩ := Kd.R_own HRA.out
        have := own_lt ho k e.symm
        have := hk.2.1; omega))
      have HL := Aside0.mk (show ((chainRows g (l.take i)).length + 1) * 24 ≤ 140737488355328 from by unfold chainRows; rw [List.length_map, List.length_take]; omega)
      obtain ⟨A3, c3, hv3⟩ := Kd.R_slice hr2
      subst hv3
      clear hr2 hb2
      go_wp2_with (first | (at_builtin; refine Kd.R_append (Kd.slice 3 (Kd.int .i64)) (w0 := w) w.heap.size rfl _ _ 74 65 (.slice none 0 0) 24 rfl Try.underlying74 info65 rfl (by decide) (by omega) u5 (chainRows g (l.take i)) (rchL g (placesL ns)) [.slice A3 (rchL g (placesL ns)).length c3] (fun _ => True) (fun k => some k ≠ u5.ownBlock) rfl (by first | rfl | (go_simp; done) | (simp [World.alloc, Act.eval]; done)) ⟨_, rfl, HR2.out⟩ (fun _ hk => ⟨trivial, hk⟩) (fun _ _ => trivial) HRB.out HB2.out HB2.out.size HL.out ?_; intro v4 w4 hr4 hb4 hg4 hat4) | go_in)
      go_roundw
      case rel => exact ⟨i + 1, by go_num, by omega, ⟨by rw [HX.out]; exact hr4⟩, ⟨hb4⟩⟩
      case measure => simp [intOf]; omega
    · have hil : i = l.length := by omega
      have hr9 := HR.out
      rw [hil, List.take_length] at hr9
      obtain ⟨A5, c5, hv5, hc5, hC5⟩ := Kd.R_reads hr9
      subst hv5
      have hcn := chain_flat g l
      have hlg := HLG.out
      have HWF := Aside0.mk (show ∀ x ∈ (chainRows g l).flatten, (Lit.int .i64 x).wf = true from fun x hx => by
        obtain ⟨r, hr, hx⟩ := List.mem_flatten.1 hx
        unfold chainRows at hr
        obtain ⟨s, _, rfl⟩ := List.mem_map.1 hr
        have := rch_range hx
        exact WalkArith.wf_i64 (by omega))
      have hrl : (chainRows g l).length = l.length := by simp [chainRows]
      obtain ⟨rows, hrows⟩ : ∃ rows, rows = chainRows g l := ⟨_, rfl⟩
      rw [← hrows] at hC5 hc5 hcn HWF hrl
      have HROWS := Aside0.mk hrows
      have HCC := Aside0.mk (split_count_int.walk A5 c5 rows _ hC5 HWF.out (by omega))
      have HCN := Aside0.mk (show rows.flatten.length < 3518437208883 from by omega)
      clear hr9 hC5 hc5 hcn hrows HR hlg hrl
      rw [← HROWS.out]
      go_wp2_with fail
      (with_reducible refine HCC.out.mono ?_)
      rintro e w1 ⟨b, C, rfl, hb, hC, hb1⟩
      have HB1 := Aside0.mk (below_then HB.out HB.out.size hb1)
      have HC := Aside0.mk hC
      have hcl := hC.len
      have HCL := Aside0.mk (show C.length < 3518437208883 from by have := HCN.out; omega)
      clear hC hb1 hcl HCC
      go_wp2_with (first | (at_range; refine wpList_mrange rfl _ 118 rfl cntIK (intV Try.underlying3) 3 Try.underlying118 b C rfl HC.out.own ?_; intro w2 hi0 hg0 hs0) | go_in)
      go_frame
      generalize hrI : w1.heap.size = rI at hi0 ⊢
      have HBR := Aside0.mk (show w.heap.size ≤ rI from by rw [← hrI]; exact HB1.out.size)
      have H0 := Aside0.mk (show FewI C w2 b rI w.heap.size l.length (.slice none 0 0) [] (C.map (·.1)) from ⟨hi0, Kd.R_nil _ _ _ _ _, fun z => ⟨fun h => by simp at h, fun ⟨p, h1, h2, _⟩ => absurd (List.mem_map.2 ⟨p, h1, rfl⟩) h2⟩, by simp⟩)
      have HB := Aside0.mk (HB1.out.grown hg0 HB1.out.size (fun k e => by cases e))
      clear hrI hi0 hg0 hs0 HB1 hb
      go_loopw [8] (fun v wr => ∃ (ys : List Int) (todo : List Int), Aside0 (FewI C wr b rI w.heap.size l.length v ys todo) ∧ Aside0 (Below w.heap.size w wr)) (fun _ wr => wr.rangeLeft b rI)
      case atStart => exact ⟨[], _, H0, HB⟩
      case round =>
        clear H0 HB
        obtain ⟨ys, todo, HI, HB⟩ := hrel
        go_wp2_with (first | (at_next; refine wpList_mnext rfl _ rfl cntIK (intV Try.underlying3) b rI C rfl HI.out.it ?_ ?_) | go_in)
        · intro ht
          subst ht
          have HY := Aside0.mk (show riseL ys = chainsL g l from by have := chains_eq (HI.out.done HC.out); rw [this, HROWS.out]; rfl)
          have hyl : ys.length < 3518437208883 := by have := HI.out.len; have := HCL.out; simp at *; omega
          obtain ⟨Ay, cy, hv3, hyc, hry⟩ := Kd.R_reads HI.out.row
          subst hv3
          have hb9 := below_alloc (Below.refl wr.heap.size wr) (Obj.cells #[.slice Ay ys.length cy] 65)
          have HRS := Aside0.mk (split_rising.walk (some ⟨wr.heap.size, 0, none⟩) 1 [ys] _ (C_lit_rows (t := 65) [(Ay, cy, ys)] (heap_alloc_new wr (Obj.cells #[.slice Ay ys.length cy] 65)) (fun q hq => by rw [List.mem_singleton.1 hq]; exact ⟨hyc, Kd.C_below hry hb9⟩) (by simp)) (by simp; omega))
          have HB9 := Aside0.mk (below_then HB.out HB.out.size hb9)
          clear hry hyc hb9 hyl
          go_wp2_with (go_at_call 75; refine HRS.out.mono ?_; rintro e w9 ⟨v9, rfl, hr9, hb9⟩)
          go_ret
          refine ⟨_, rfl, ?_, below_then HB9.out HB9.out.size hb9⟩
          rw [← HY.out]
          have := Kd.R_lower hr9 HB9.out.size
          simpa using this
        · intro x y w4 hx hxM hi1 hlt1 hg1 hs1 hen
          have hen' : (Instr.entry (.pointer (some ⟨rI, 0, none⟩))).run Try.prog w4 = .ok (.tuple #[.int .i64 x, .int .i64 y]) w4 := hen
          clear hen
          have hrv : some rI ≠ u8.ownBlock := iter_ne_row HI.out.it HI.out.row
          have hbv : some b ≠ u8.ownBlock := own_ne_row HI.out.it.own HI.out.row
          have HBV := Aside0.mk hbv
          have HRV := Aside0.mk hrv
          have HR4 := Aside0.mk (Kd.R_grown1 HI.out.row rfl hg1 hrv)
          have HB4 := Aside0.mk (HB.out.grown hg1 HB.out.size (fun k e => by cases e; exact HBR.out))
          have HG1 := Aside0.mk hlt1
          have HI1 := Aside0.mk hi1
          have HX := Aside0.mk hx
          have HXM := Aside0.mk hxM
          have hl : (ys.length + 1) * 8 ≤ 140737488355328 := by have := HI.out.len; have := HCL.out; omega
          have HL := Aside0.mk hl
          clear hg1 hlt1 hi1 hx hxM hl hs1 hrv hbv
          by_cases hy : y < (l.length : Int)
          · go_wp2_with (first | (at_builtin; refine Kd.R_append (Kd.int .i64) (w0 := w) w.heap.size rfl _ _ 65 3 (.int .i64 0) 8 rfl Try.underlying65 info3 rfl (by decide) (by omega) u8 ys x [.int .i64 x] (fun _ => True) (fun _ => False) rfl (by first | rfl | (go_simp; done) | (simp [World.alloc, Act.eval]; done)) rfl (fun _ hk => hk.elim) (fun _ _ => trivial) HR4.out HB4.out HB4.out.size HL.out ?_; intro v2 w5 hr2 hb2 hg2 hat2) | go_in)
            go_roundw
            case rel => exact ⟨_, _, ⟨HI.out.yes HX.out HXM.out hy (HI1.out.grown hg2 HBV.out HRV.out) hr2⟩, ⟨hb2⟩⟩
            case measure => rw [HI1.out.left_grown hg2 HBV.out HRV.out]; exact HG1.out
          · go_wp2
            go_roundw
            case rel => exact ⟨_, _, ⟨HI.out.no HX.out HXM.out hy HI1.out HR4.out⟩, HB4⟩
            case measure => exact HG1.out
def SplitFits (g : List (List Int)) (l : List (List S69)) : Prop := l.flatten.length < 3518437208883 ∧ g.length < 17592186044416 ∧ l.length * g.length < 3518437208883 ∧ l.length < 3518437208883
instance (g : List (List Int)) (l : List (List S69)) : Decidable (SplitFits g l) := inferInstanceAs (Decidable (_ ∧ _ ∧ _ ∧ _))
def split_Chains.f (g : List (List Int)) (l : List (List S69)) : Option (List Int) := if SplitFits g l then some (chainsL g l) else none
theorem split_Chains.calls (A0 : Option Addr) (c0 : Nat) (l0 : List (List Int)) (A1 : Option Addr) (c1 : Nat) (l1 : List (List S69)) (r : List Int) (w : World) (hr0 : Kd.C (Kd.slice 3 (Kd.int .i64)) w A0 l0.length l0) (hc0 : l0.length ≤ c0) (hr1 : Kd.C (Kd.slice 69 k69) w A1 l1.length l1) (hc1 : l1.length ≤ c1) (h : split_Chains.f l0 l1 = some r) :
    Calls Try.prog 38 #[.slice A0 l0.length c0, .slice A1 l1.length c1] w fun e w' => ∃ v0_ : Value, e = .returned (v0_) ∧ (Kd.int .i64).R 3 w' w.heap.size (fun _ => True) v0_ r ∧ Below w.heap.size w w' := by
  unfold split_Chains.f at h
  split at h
  · rename_i hc
    obtain rfl := Option.some.inj h
    exact split_Chains.walk A0 c0 l0 A1 c1 l1 w hr0 hr1 hc.1 hc.2.1 hc.2.2.1 hc.2.2.2
  · cases h

/-! ### split_Both: function 44 -/
-- GIVEN heliast/split.Both making uses heliast/split.Apart uses heliast/split.Chains
open Go.Proofs.He
def bothL (g : List (List Int)) (l : List (List S69)) : List Int := riseL (apartL l ++ chainsL g l)
set_option maxHeartbeats 4000000 in
set_option maxRecDepth 100000 in
theorem split_Both.walk (A0 : Option Addr) (c0 : Nat) (g : List (List Int)) (A1 : Option Addr) (c1 : Nat) (l : List (List S69)) (w : World) (hr0 : Kd.C (Kd.slice 3 (Kd.int .i64)) w A0 g.length g) (hr1 : Kd.C (Kd.slice 69 k69) w A1 l.length l) (hwf : ∀ x ∈ l.flatten, EOk x)
    (hlim : l.flatten.length < 3518437208883) (hg : g.length < 17592186044416) (hlg : l.length * g.length < 3518437208883) (hll : l.length < 3518437208883) :
    Calls Try.prog 44 #[.slice A0 g.length c0, .slice A1 l.length c1] w fun e w' => ∃ v, e = .returned v ∧ (Kd.int .i64).R 3 w' w.heap.size (fun _ => True) v (bothL g l) ∧ Below w.heap.size w w' := by
  have HA := Aside0.mk (split_Apart.walk A1 c1 l w hr1 hwf hlim)
  have HCH := Aside0.mk (fun W (hb : Below w.heap.size w W) => split_Chains.walk A0 c0 g A1 c1 l W (Kd.C_below hr0 hb) (Kd.C_below hr1 hb) hlim hg hlg hll)
  have hal : (apartL l).length ≤ l.flatten.length := by
    unfold apartL; refine Nat.le_trans (riseL_length _) ?_; rw [List.length_map]; exact List.length_filter_le _ _
  have hcl : (chainsL g l).length ≤ l.length * g.length := by
    unfold chainsL; exact Nat.le_trans (riseL_length _) (Nat.le_trans (List.length_filter_le _ _) (chain_flat g l))
  obtain ⟨a, ha⟩ : ∃ a, a = apartL l := ⟨_, rfl⟩
  obtain ⟨c, hc⟩ : ∃ c, c = chainsL g l := ⟨_, rfl⟩
  have HE := Aside0.mk (show bothL g l = riseL (a ++ c) from by rw [ha, hc]; rfl)
  rw [← ha] at HA hal
  rw [← hc] at HCH hcl
  have HS := Aside0.mk (show a.length + c.length < 17592186044416 from by omega)
  clear hr0 hr1 hwf hal hcl ha hc
  go_enter Try.func44, Try.ntmps44
  go_wp2_with fail
  (with_reducible refine HA.out.mono ?_)
  rintro e w1 ⟨v1, rfl, hr1, hb1⟩
  have HB1 := Aside0.mk hb1
  have HR1 := Aside0.mk hr1
  obtain ⟨A3, c3, rfl⟩ := Kd.R_slice hr1
  have HC2 := Aside0.mk (HCH.out w1 hb1)
  clear hr1 hb1 HA HCH
  go_wp2_with fail
  (with_reducible refine HC2.out.mono ?_)
  rintro e w2 ⟨v2, rfl, hr2, hb2⟩
  obtain ⟨A4, c4, rfl, hc4, hC4⟩ := Kd.R_reads hr2
  have h3 := (Kd.R_reads' (Kd.R_below HR1.out hb2)).2
  have HB2 := Aside0.mk (below_then HB1.out HB1.out.size hb2)
  have hb9 := below_alloc (Below.refl w2.heap.size w2) (Obj.cells #[.slice A3 a.length c3, .slice A4 c.length c4] 65)
  have HRS := Aside0.mk (split_rising.walk (some ⟨w2.heap.size, 0, none⟩) 2 [a, c] _ (C_lit_rows (t := 65) [(A3, c3, a), (A4, c4, c)] (heap_alloc_new w2 (Obj.cells #[.slice A3 a.length c3, .slice A4 c.length c4] 65)) (fun q hq => by
    rcases List.mem_cons.1 hq with rfl | hq
    · exact ⟨h3.1, Kd.C_below h3.2 hb9⟩
    · rw [List.mem_singleton.1 hq]; exact ⟨hc4, Kd.C_below hC4 hb9⟩) (by simp)) (by have := HS.out; simp; omega))
  have HB9 := Aside0.mk (below_then HB2.out HB2.out.size hb9)
  clear hr2 hb2 hC4 hc4 h3 hb9 HC2
  go_wp2_with (go_at_call 75; refine HRS.out.mono ?_; rintro e w9 ⟨v9, rfl, hr9, hb9⟩)
  go_ret
  refine ⟨_, rfl, ?_, below_then HB9.out HB9.out.size hb9⟩
  rw [HE.out]
  have := Kd.R_lower hr9 HB9.out.size
  simpa using this
def split_Both.f (g : List (List Int)) (l : List (List S69)) : Option (List Int) := if SplitFits g l ∧ (∀ x ∈ l.flatten, EOk x) then some (bothL g l) else none
theorem split_Both.calls (A0 : Option Addr) (c0 : Nat) (l0 : List (List Int)) (A1 : Option Addr) (c1 : Nat) (l1 : List (List S69)) (r : List Int) (w : World) (hr0 : Kd.C (Kd.slice 3 (Kd.int .i64)) w A0 l0.length l0) (hc0 : l0.length ≤ c0) (hr1 : Kd.C (Kd.slice 69 k69) w A1 l1.length l1) (hc1 : l1.length ≤ c1) (h : split_Both.f l0 l1 = some r) :
    Calls Try.prog 44 #[.slice A0 l0.length c0, .slice A1 l1.length c1] w fun e w' => ∃ v0_ : Value, e = .returned (v0_) ∧ (Kd.int .i64).R 3 w' w.heap.size (fun _ => True) v0_ r ∧ Below w.heap.size w w' := by
  unfold split_Both.f at h
  split at h
  · rename_i hc
    obtain rfl := Option.some.inj h
    exact split_Both.walk A0 c0 l0 A1 c1 l1 w hr0 hr1 hc.2 hc.1.1 hc.1.2.1 hc.1.2.2.1 hc.1.2.2.2
  · cases h

/-! ### api_Entry_95: function 95 -/
def api_Entry_95.l0 : Nat → List (S69) → List (S69) → Int → Int → Option (Bool)
  | 0, _, _, _, _ => none
  | k + 1, x0, x1, x12, x13 => if x13 < x12 then (if 0 ≤ x13 then (if x13 < (x0.length : Int) then (if x13 < (x1.length : Int) then (if (!((((rd_T69 x0 x13).f0).toList) == (((rd_T69 x1 x13).f0).toList)) || (!((((rd_T69 x0 x13).f1).toList) == (((rd_T69 x1 x13).f1).toList)) || (!(((rd_T69 x0 x13).f2) == ((rd_T69 x1 x13).f2))))) = true then (some false) else (api_Entry_95.l0 k x0 x1 x12 (wrap64 (x13 + 1)))) else (none)) else (none)) else (none)) else (some true)
def api_Entry_95.f (k : Nat) (l0 : List (S69)) (l1 : List (S69)) : Option (Bool) := if (l0.length : Int) = (l1.length : Int) then (api_Entry_95.l0 k l0 l1 (l0.length : Int) 0) else (some false)
theorem api_Entry_95.mono_l : ∀ k, (∀ y0 y1 y2 y3, LeO (api_Entry_95.l0 k y0 y1 y2 y3) (api_Entry_95.l0 (k + 1) y0 y1 y2 y3))
  | 0 => fun _ _ _ _ r h => by simp [api_Entry_95.l0] at h
  | k + 1 => by
    have ih0 := api_Entry_95.mono_l k
    · intro y0 y1 y2 y3
      unfold api_Entry_95.l0
      repeat' first
      | (with_reducible exact ih0 _ _ _ _)
      | (with_reducible exact LeO.refl _)
      | (with_reducible exact LeO.none _)
      | (with_reducible refine LeO.ite ?_ ?_)
      | (with_reducible refine LeO.bind ?_ (fun _ => ?_))
      | exact ih0 _ _ _ _
      | exact LeO.none _
      | refine LeO.ite ?_ ?_
      | refine LeO.bind ?_ (fun _ => ?_)
theorem api_Entry_95.mono : ∀ a0 a1 k, LeO (api_Entry_95.f k a0 a1) (api_Entry_95.f (k + 1) a0 a1) := by
  intro a0 a1 k
  have ih0 := api_Entry_95.mono_l k
  unfold api_Entry_95.f
  repeat' first
      | (with_reducible exact ih0 _ _ _ _)
      | (with_reducible exact LeO.refl _)
      | (with_reducible exact LeO.none _)
      | (with_reducible refine LeO.ite ?_ ?_)
      | (with_reducible refine LeO.bind ?_ (fun _ => ?_))
      | exact ih0 _ _ _ _
      | exact LeO.none _
      | refine LeO.ite ?_ ?_
      | refine LeO.bind ?_ (fun _ => ?_)
set_option maxHeartbeats 8000000 in
set_option maxRecDepth 100000 in
theorem api_Entry_95.calls (k : Nat) (A0 : Option Addr) (c0 : Nat) (l0 : List (S69)) (A1 : Option Addr) (c1 : Nat) (l1 : List (S69)) (r : Bool) (w : World) (hr0 : Kd.C k69 w A0 l0.length l0) (hc0 : l0.length ≤ c0) (hr1 : Kd.C k69 w A1 l1.length l1) (hc1 : l1.length ≤ c1) (h : api_Entry_95.f k l0 l1 = some r) :
    Calls Try.prog 95 #[.slice A0 l0.length c0, .slice A1 l1.length c1] w fun e w' => e = .returned (.bool r) ∧ Drawn0 w w' := by
  have hu69 := Try.underlying69
  have HR0 := Aside0.mk hr0
  have HC0 := Aside0.mk hc0
  clear hr0 hc0
  have HR1 := Aside0.mk hr1
  have HC1 := Aside0.mk hc1
  clear hr1 hc1
  have H : (if (l0.length : Int) = (l1.length : Int) then (api_Entry_95.l0 k l0 l1 (l0.length : Int) 0) else (some false)) = some r := h
  clear h
  by_cases c3 : (l0.length : Int) = (l1.length : Int)
  · rw [if_pos c3] at H
    have c3b0 : ((l0.length : Int) == (l1.length : Int)) = true := beq_iff_eq.mpr c3
    have c3b1 : ((l0.length : Int) != (l1.length : Int)) = false := bne_eq_false_iff_eq.mpr c3
    have c3b2 : (l0.length == l1.length) = true := by first | simpa using c3 | (simp at c3 ⊢; omega)
    clear c3
    have H' := Aside0.mk H
    clear H
    go_enter Try.func95, Try.ntmps95
    go_wp2
    repeat (go_quiet (fail); try go_wp2)
    go_loopg [13] k (fun kq v13 w' => ∃ (x13_1 : Int), v13 = .int .i64 x13_1 ∧ Aside0 (api_Entry_95.l0 kq l0 l1 (l0.length : Int) x13_1 = some r) ∧ Aside0 (kq ≤ k) ∧ Drawn0 w w')
    case atStart => exact ⟨(0), (by first | rfl | (simp; done) | (simp [*]; done)), H', ⟨Nat.le_refl _⟩, by repeat (first | exact Drawn0.refl _ | apply Drawn0.step)⟩
    case round =>
      clear H'
      try clear c1
      try clear p2
      try clear c3
      try clear c3b0
      try clear c3b1
      try clear c3b2
      obtain ⟨x13_1, rfl, HA, HK1, ⟨m1, rfl⟩⟩ := hrel
      cases gk with
      | zero => exact absurd HA.out (by simp [api_Entry_95.l0])
      | succ k1 =>
        have H := HA.out
        clear HA
        simp only [api_Entry_95.l0] at H
        by_cases c4 : x13_1 < (l0.length : Int)
        · rw [if_pos c4] at H
          have c4b0 : decide (x13_1 < (l0.length : Int)) = true := decide_eq_true c4
          clear c4
          by_cases c5 : 0 ≤ x13_1
          · rw [if_pos c5] at H
            have c5b0 : decide (0 ≤ x13_1) = true := decide_eq_true c5
            clear c5
            by_cases c6 : x13_1 < (l0.length : Int)
            · rw [if_pos c6] at H
              have c6b0 : decide (x13_1 < (l0.length : Int)) = true := decide_eq_true c6
              clear c6
              by_cases c7 : x13_1 < (l1.length : Int)
              · rw [if_pos c7] at H
                have c7b0 : decide (x13_1 < (l1.length : Int)) = true := decide_eq_true c7
                clear c7
                by_cases c8 : (!((((rd_T69 l0 x13_1).f0).toList) == (((rd_T69 l1 x13_1).f0).toList)) || (!((((rd_T69 l0 x13_1).f1).toList) == (((rd_T69 l1 x13_1).f1).toList)) || (!(((rd_T69 l0 x13_1).f2) == ((rd_T69 l1 x13_1).f2))))) = true
                · rw [if_pos c8] at H
                  have c8b0 : (!((((rd_T69 l0 x13_1).f0).toList) == (((rd_T69 l1 x13_1).f0).toList)) || (!((((rd_T69 l0 x13_1).f1).toList) == (((rd_T69 l1 x13_1).f1).toList)) || (!(((rd_T69 l0 x13_1).f2) == ((rd_T69 l1 x13_1).f2))))) = true := c8
                  clear c8
                  obtain rfl := Option.some.inj H
                  have p105 : 0 ≤ (x13_1 : Int) := of_decide_eq_true (by first | (with_reducible assumption) | assumption)
                  have q105 : x13_1 < (l0.length : Int) := of_decide_eq_true (by first | (with_reducible assumption) | assumption)
                  obtain ⟨ad105, e105, hx105_0, hx105_1, hx105_2⟩ := at_T69 HR0.out x13_1 p105 q105
                  cases e105
                  replace p105 := eq_true p105
                  replace q105 := eq_true q105
                  have p106 : 0 ≤ (x13_1 : Int) := of_decide_eq_true (by first | (with_reducible assumption) | assumption)
                  have q106 : x13_1 < (l1.length : Int) := of_decide_eq_true (by first | (with_reducible assumption) | assumption)
                  obtain ⟨ad106, e106, hx106_0, hx106_1, hx106_2⟩ := at_T69 HR1.out x13_1 p106 q106
                  cases e106
                  replace p106 := eq_true p106
                  replace q106 := eq_true q106
                  go_wp2
                  repeat (go_quiet (fail); try go_wp2)
                  go_ret
                  exact ⟨by first | rfl | (simp; done) | (simp [*]; done), by repeat (first | exact Drawn0.refl _ | apply Drawn0.step)⟩
                · rw [if_neg c8] at H
                  have c8b0 : (!((((rd_T69 l0 x13_1).f0).toList) == (((rd_T69 l1 x13_1).f0).toList)) || (!((((rd_T69 l0 x13_1).f1).toList) == (((rd_T69 l1 x13_1).f1).toList)) || (!(((rd_T69 l0 x13_1).f2) == ((rd_T69 l1 x13_1).f2))))) = false := by simpa using c8
                  clear c8
                  have H' := Aside0.mk H
                  clear H
                  have p105 : 0 ≤ (x13_1 : Int) := of_decide_eq_true (by first | (with_reducible assumption) | assumption)
                  have q105 : x13_1 < (l0.length : Int) := of_decide_eq_true (by first | (with_reducible assumption) | assumption)
                  obtain ⟨ad105, e105, hx105_0, hx105_1, hx105_2⟩ := at_T69 HR0.out x13_1 p105 q105
                  cases e105
                  replace p105 := eq_true p105
                  replace q105 := eq_true q105
                  have p106 : 0 ≤ (x13_1 : Int) := of_decide_eq_true (by first | (with_reducible assumption) | assumption)
                  have q106 : x13_1 < (l1.length : Int) := of_decide_eq_true (by first | (with_reducible assumption) | assumption)
                  obtain ⟨ad106, e106, hx106_0, hx106_1, hx106_2⟩ := at_T69 HR1.out x13_1 p106 q106
                  cases e106
                  replace p106 := eq_true p106
                  replace q106 := eq_true q106
                  go_wp2
                  repeat (go_quiet (fail); try go_wp2)
                  go_roundg k1
                  case measure => have := HK1.out; omega
                  case rel => exact ⟨(wrap64 (x13_1 + 1)), (by first | rfl | (simp; done) | (simp [*]; done)), H', ⟨by have := HK1.out; omega⟩, by repeat (first | exact Drawn0.refl _ | apply Drawn0.step)⟩
              · rw [if_neg c7] at H
                exact absurd H (by simp)
            · rw [if_neg c6] at H
              exact absurd H (by simp)
          · rw [if_neg c5] at H
            exact absurd H (by simp)
        · rw [if_neg c4] at H
          have c4b0 : decide (x13_1 < (l0.length : Int)) = false := decide_eq_false c4
          clear c4
          obtain rfl := Option.some.inj H
          go_wp2
          repeat (go_quiet (fail); try go_wp2)
          go_ret
          exact ⟨by first | rfl | (simp; done) | (simp [*]; done), by repeat (first | exact Drawn0.refl _ | apply Drawn0.step)⟩
  · rw [if_neg c3] at H
    have c3b0 : ((l0.length : Int) == (l1.length : Int)) = false := beq_eq_false_iff_ne.mpr c3
    have c3b1 : ((l0.length : Int) != (l1.length : Int)) = true := bne_iff_ne.mpr c3
    have c3b2 : (l0.length == l1.length) = false := by first | simpa using c3 | (simp at c3 ⊢; omega)
    obtain rfl := Option.some.inj H
    go_enter Try.func95, Try.ntmps95
    go_wp2
    repeat (go_quiet (fail); try go_wp2)
    go_ret
    exact ⟨by first | rfl | (simp; done) | (simp [*]; done), by repeat (first | exact Drawn0.refl _ | apply Drawn0.step)⟩

/-! ### state_Same: function 49 -/
def state_Same.f (k : Nat) (l0 : List (S69)) (l1 : List (S69)) : Option (Bool) := (api_Entry_95.f k l0 l1).bind fun t107 => (some t107)
theorem state_Same.mono : ∀ a0 a1 k, LeO (state_Same.f k a0 a1) (state_Same.f (k + 1) a0 a1) := by
  intro a0 a1 k
  unfold state_Same.f
  repeat' first
      | (with_reducible exact api_Entry_95.mono _ _ _)
      | (with_reducible exact LeO.refl _)
      | (with_reducible exact LeO.none _)
      | (with_reducible refine LeO.ite ?_ ?_)
      | (with_reducible refine LeO.bind ?_ (fun _ => ?_))
      | exact api_Entry_95.mono _ _ _
      | exact LeO.none _
      | refine LeO.ite ?_ ?_
      | refine LeO.bind ?_ (fun _ => ?_)
set_option maxHeartbeats 8000000 in
set_option maxRecDepth 100000 in
theorem state_Same.calls (k : Nat) (A0 : Option Addr) (c0 : Nat) (l0 : List (S69)) (A1 : Option Addr) (c1 : Nat) (l1 : List (S69)) (r : Bool) (w : World) (hr0 : Kd.C k69 w A0 l0.length l0) (hc0 : l0.length ≤ c0) (hr1 : Kd.C k69 w A1 l1.length l1) (hc1 : l1.length ≤ c1) (h : state_Same.f k l0 l1 = some r) :
    Calls Try.prog 49 #[.slice A0 l0.length c0, .slice A1 l1.length c1] w fun e w' => e = .returned (.bool r) ∧ Drawn0 w w' := by
  have HR0 := Aside0.mk hr0
  have HC0 := Aside0.mk hc0
  clear hr0 hc0
  have HR1 := Aside0.mk hr1
  have HC1 := Aside0.mk hc1
  clear hr1 hc1
  have H : ((api_Entry_95.f k l0 l1).bind fun t107 => (some t107)) = some r := h
  clear h
  replace H := Option.bind_eq_some_iff.mp H
  obtain ⟨t107, A30, H⟩ := H
  replace H : (some t107) = some r := H
  have A3 := Aside0.mk A30
  clear A30
  obtain rfl := Option.some.inj H
  go_enter Try.func49, Try.ntmps49
  go_wp2_with (first | ((with_reducible refine gate_callee (f := 95) rfl ?_); refine goesL_ (some 7) rfl rfl Try.func95 (by kernel_rfl) rfl #[.slice A0 l0.length c0, .slice A1 l1.length c1] rfl (by (try simp only [List.map_toArray, List.map_cons, List.map_nil]); first | done | rfl | (simp only [List.length_drop, List.length_take]; rfl)) ?_; (with_reducible refine (api_Entry_95.calls k _ _ l0 _ _ l1 t107 _ ?side1 ?side2 ?side3 ?side4 A3.out).mono ?_); (case side1 => repeat (first | exact HR0.out | (with_reducible refine Kd.C_alloc ?_ _) | (with_reducible refine Kd.C_drewN ?_ _) | (with_reducible refine Kd.C_drew ?_))); (case side2 => exact HC0.out); (case side3 => repeat (first | exact HR1.out | (with_reducible refine Kd.C_alloc ?_ _) | (with_reducible refine Kd.C_drewN ?_ _) | (with_reducible refine Kd.C_drew ?_))); (case side4 => exact HC1.out); rintro e w' ⟨rfl, ⟨nd, rfl⟩⟩; refine ⟨_, rfl, ?_⟩))
  go_ret
  exact ⟨by first | rfl | (simp; done) | (simp [*]; done), by repeat (first | exact Drawn0.refl _ | apply Drawn0.step)⟩

end Go.Proofs.Ytmmalieacakcbaa.S

/- Parts of the walk and of the plain law, joined for this claim alone by a program of this session. -/
import Derived.Test.YtmdjknkhjimgeaaTk1
import Derived.Test.YtmdjknkhjimgeaaTk0
import Derived.Test.YtmdjknkhjimgeaaTk2
import Derived.Test.YtmdjknkhjimgeaaTk3
import Derived.Test.YtmdjknkhjimgeaaTk4
section
namespace Go.Proofs.Ytmdjknkhjimgeaa.S
open Go.RowKit Go.Proofs.YtmdjknkhjimgeaaW.PrintWords Go.Proofs.YtmdjknkhjimgeaaW.PrintLast Go.Proofs.YtmdjknkhjimgeaaW.PrintMore
attribute [local go_sem] max2_int min2_int max_two min_two max_three min_three max_four min_four
set_option linter.unusedVariables false
set_option linter.unusedSimpArgs false
open Go.Proofs.He
noncomputable def setK : KK Try.prog 3 Int := intK Try.underlying3
abbrev OwnSet (w : World) (b : Nat) (M : List (Int × Unit)) : Prop := Go.Proofs.He.Own setK unitV w b M
theorem zero89 (w : World) : (zeroValue 89).run Try.prog w = .ok (.agg #[]) w := by kernel_rfl
set_option maxHeartbeats 1000000 in
theorem set_has.walk (b : Nat) (M : List (Int × Unit)) (x : Int) (w : World) (h : OwnSet w b M) (hx : (Lit.int .i64 x).wf = true) :
    Calls Try.prog 114 #[.map (some b), .int .i64 x] w fun e w' => e = .returned (.bool (decide (x ∈ M.map (·.1)))) ∧ w' = w.alloc (.cells #[] 89) := by
  go_enter Try.func114, Try.ntmps114
  go_wp2_with (first | (at_lookup; refine wpList_mhas rfl _ _ 140 rfl setK 89 Try.underlying140 (zero89 _) b M rfl h x rfl hx ?_) | go_in)
  go_ret
  exact ⟨rfl, rfl⟩
set_option maxHeartbeats 1000000 in
theorem set_put.walk (b : Nat) (M : List (Int × Unit)) (x : Int) (w : World) (h : OwnSet w b M) (hx : (Lit.int .i64 x).wf = true) (hn : M.length < maxLen) :
    Calls Try.prog 115 #[.map (some b), .int .i64 x] w fun e w' => e = .returned (.tuple #[]) ∧ OwnSet w' b (putM M x ()) ∧ w.grownBy w' (some b) := by
  go_enter Try.func115, Try.ntmps115
  go_wp2_with (first | (at_mapUpdate; refine wpList_mput rfl _ _ _ 140 rfl setK unitV 89 Try.underlying140 b M rfl h hn x () rfl rfl hx trivial ?_; intro w1 hown1 hgrow1) | go_in)
  go_end0
  exact ⟨rfl, hown1, hgrow1⟩
theorem length_putM {M : List (Int × Unit)} {x : Int} : (putM M x ()).length ≤ M.length + 1 := by
  unfold putM delM; rw [List.length_cons]; have := List.length_filter_le (fun p : Int × Unit => decide (p.1 ≠ x)) M; omega
theorem mem_take_succ (l : List Int) (j : Nat) (hj : j < l.length) (x : Int) : x ∈ l.take (j + 1) ↔ x ∈ l.take j ∨ x = rd l j := by
  have e : rd l j = l[j] := by simp [rd, hj]
  rw [List.take_succ_eq_append_getElem hj, List.mem_append, List.mem_singleton, e]
structure OfInv (g : List (List Int)) (l : List Int) (w : World) (b j : Nat) (M : List (Int × Unit)) : Prop where
  own : OwnSet w b M
  len : M.length ≤ j
  mem : ∀ x, x ∈ M.map (·.1) ↔ x ∈ l.take j ∧ 0 ≤ x ∧ x < g.length
theorem OfInv.skip {g : List (List Int)} {l : List Int} {w : World} {b j : Nat} {M : List (Int × Unit)} (h : OfInv g l w b j M) (hj : j < l.length) (hx : ¬ (0 ≤ rd l j ∧ rd l j < g.length)) : OfInv g l w b (j + 1) M :=
  ⟨h.own, by have := h.len; omega, fun x => by
    rw [h.mem, mem_take_succ l j hj]
    constructor
    · rintro ⟨h1, h2⟩; exact ⟨.inl h1, h2⟩
    · rintro ⟨h1 | h1, h2⟩
      · exact ⟨h1, h2⟩
      · subst h1; exact absurd h2 hx⟩
theorem OfInv.put {g : List (List Int)} {l : List Int} {w w' : World} {b j : Nat} {M : List (Int × Unit)} (h : OfInv g l w b j M) (hj : j < l.length) {x : Int} (hx : x = rd l j) (h0 : 0 ≤ x) (h1 : x < g.length) (ho : OwnSet w' b (putM M x ())) : OfInv g l w' b (j + 1) (putM M x ()) := by
  subst hx; exact
  ⟨ho, by have := h.len; have := length_putM (M := M) (x := rd l j); omega, fun x => by
    rw [keys_putM, h.mem, mem_take_succ l j hj]
    constructor
    · rintro (rfl | ⟨h1, h2⟩)
      · exact ⟨.inr rfl, h0, h1⟩
      · exact ⟨.inl h1, h2⟩
    · rintro ⟨h1 | h1, h2⟩
      · exact .inr ⟨h1, h2⟩
      · exact .inl h1⟩
set_option maxHeartbeats 4000000 in
set_option maxRecDepth 100000 in
theorem graph_of.walk (A0 : Option Addr) (c0 : Nat) (g : List (List Int)) (A1 : Option Addr) (c1 : Nat) (l : List Int) (w : World) (hg : g.length ≤ 9223372036854775807) (hr1 : Kd.C (Kd.int .i64) w A1 l.length l) :
    Calls Try.prog 113 #[.slice A0 g.length c0, .slice A1 l.length c1] w fun e w' => ∃ b M, e = .returned (.map (some b)) ∧ w.heap.size ≤ b ∧ OwnSet w' b M ∧ (∀ x, x ∈ M.map (·.1) ↔ x ∈ l ∧ 0 ≤ x ∧ x < g.length) ∧ Below w.heap.size w w' := by
  have hmm := @run_makeMap Try.prog
  have hlen : l.length ≤ 9223372036854775807 := hr1.2.1
  have HR1 := Aside0.mk hr1
  clear hr1
  have HO := Aside0.mk (show OfInv g l (w.alloc (.map #[] 0)) w.heap.size 0 [] from ⟨Go.Proofs.He.Own.made _ _ _, Nat.le_refl _, by simp⟩)
  have HB := Aside0.mk ((Below.refl w.heap.size w).alloc (Nat.le_refl _) (Obj.map #[] 0))
  go_enter Try.func113, Try.ntmps113
  go_wp2
  clear hmm
  go_loopw [11] (fun v wr => ∃ (j : Nat) (M : List (Int × Unit)), v = .int .i64 j ∧ j ≤ l.length ∧ Aside0 (OfInv g l wr w.heap.size j M) ∧ Aside0 (Below w.heap.size w wr)) (fun v _ => l.length - (intOf v).toNat)
  case atStart => exact ⟨0, [], rfl, Nat.zero_le _, HO, HB⟩
  case round =>
    clear HO HB
    obtain ⟨j, M, rfl, hj, HI, HB⟩ := hrel
    by_cases hlt : j < l.length
    · obtain ⟨ad, e, hx⟩ := Kd.at_int (Kd.C_below HR1.out HB.out) (j : Int) (by omega) (by omega)
      cases e
      obtain ⟨x, hxd⟩ : ∃ x, x = rd l j := ⟨_, rfl⟩
      rw [← hxd, Int.toNat_natCast] at hx
      have HX := Aside0.mk hxd
      clear hxd
      have hm : M.length < maxLen := by have := HI.out.len; unfold maxLen; omega
      by_cases h0 : 0 ≤ x
      · by_cases h1 : x < g.length
        · have hwf : (Lit.int .i64 x).wf = true := WalkArith.wf_i64 (by omega)
          have HP := Aside0.mk (fun W (hW : OwnSet W w.heap.size M) => set_put.walk w.heap.size M x W hW hwf hm)
          clear hwf hm
          go_wp2_with (first | (go_at_call 115; refine (HP.out _ HI.out.own).mono ?_; rintro e w1 ⟨rfl, ho1, hg1⟩) | go_in)
          have HB1 := Aside0.mk (HB.out.grown hg1 HB.out.size (fun k e => by cases e; exact Nat.le_refl _))
          go_roundw
          case rel => exact ⟨j + 1, _, by go_num, by omega, ⟨HI.out.put hlt HX.out h0 h1 ho1⟩, HB1⟩
          case measure => simp [intOf]; omega
        · go_wp2
          go_roundw
          case rel => exact ⟨j + 1, M, by go_num, by omega, ⟨HI.out.skip hlt (by rw [← HX.out]; omega)⟩, HB⟩
          case measure => simp [intOf]; omega
      · go_wp2
        go_roundw
        case rel => exact ⟨j + 1, M, by go_num, by omega, ⟨HI.out.skip hlt (by rw [← HX.out]; omega)⟩, HB⟩
        case measure => simp [intOf]; omega
    · have hjl : j = l.length := by omega
      go_wp2
      go_ret
      exact ⟨_, M, rfl, Nat.le_refl _, HI.out.own, fun x => by rw [HI.out.mem, hjl, List.take_length], HB.out⟩
structure RiseInv (M : List (Int × Unit)) (w : World) (b r base : Nat) (v : Value) (xs todo : List Int) : Prop where
  it : Iter setK unitV w b r M todo
  row : (Kd.int .i64).R 3 w base (fun _ => True) v xs
  nodup : xs.Nodup
  mem : ∀ x, x ∈ xs ↔ x ∈ M.map (·.1) ∧ x ∉ todo
  len : xs.length + todo.length = M.length
theorem RiseInv.step {M : List (Int × Unit)} {w w2 : World} {b r base : Nat} {v v2 : Value} {xs todo : List Int} (h : RiseInv M w b r base v xs todo) {x : Int} (hx : x ∈ todo)
    (hi : Iter setK unitV w2 b r M (strikeL todo x)) (hr : (Kd.int .i64).R 3 w2 base (fun _ => True) v2 (xs ++ [x])) : RiseInv M w2 b r base v2 (xs ++ [x]) (strikeL todo x) where
  it := hi
  row := hr
  nodup := List.nodup_append.2 ⟨h.nodup, by simp, fun a ha b hb e => by rw [List.mem_singleton.1 hb] at e; subst e; exact ((h.mem a).1 ha).2 hx⟩
  mem z := by
    rw [List.mem_append, List.mem_singleton, h.mem, mem_strikeL]
    by_cases e : z = x
    · subst e; simp [h.it.sub z hx]
    · simp [e]
  len := by have := h.len; have := length_strike1 h.it.nodup hx; rw [List.length_append]; simp; omega
set_option maxHeartbeats 4000000 in
set_option maxRecDepth 100000 in
theorem set_rising.walk (b : Nat) (M : List (Int × Unit)) (w : World) (h : OwnSet w b M) (hlim : M.length < 17592186044416) :
    Calls Try.prog 99 #[.map (some b)] w fun e w' => ∃ v ys, e = .returned v ∧ (Kd.int .i64).R 3 w' w.heap.size (fun _ => True) v ys ∧ ys.Pairwise (· < ·) ∧ (∀ x, x ∈ ys ↔ x ∈ M.map (·.1)) ∧ Below w.heap.size w w' := by
  have HO := Aside0.mk h
  clear h
  go_enter Try.func99, Try.ntmps99
  go_wp2_with (first | (at_range; refine wpList_mrange rfl _ 140 rfl setK unitV 89 Try.underlying140 b M rfl HO.out ?_; intro w0 hi0 hg0 hs0) | go_in)
  go_frame
  have hb0 : b < w.heap.size := HO.out.lt
  have H0 := Aside0.mk (show RiseInv M w0 b w.heap.size w.heap.size (.slice none 0 0) [] (M.map (·.1)) from ⟨hi0, Kd.R_nil _ _ _ _ _, by simp, by simp, by simp⟩)
  have HB := Aside0.mk ((Below.refl w.heap.size w).grown hg0 (Nat.le_refl _) (fun k e => by cases e))
  clear hi0 hg0 hs0
  go_loopw [3] (fun v wr => ∃ (xs todo : List Int), Aside0 (RiseInv M wr b w.heap.size w.heap.size v xs todo) ∧ Aside0 (Below w.heap.size w wr)) (fun _ wr => wr.rangeLeft b w.heap.size)
  case atStart => exact ⟨[], _, H0, HB⟩
  case round =>
    clear H0 HB
    obtain ⟨xs, todo, HI, HB⟩ := hrel
    go_wp2_with (first | (at_next; refine wpList_mnext rfl _ rfl setK unitV b w.heap.size M rfl HI.out.it ?_ ?_) | go_in)
    · intro ht
      subst ht
      have HS := Aside0.mk (sort_int.walk HI.out.row (by have := HI.out.len; omega))
      go_wp2_with (first | (go_at_call 95; refine HS.out.mono ?_; rintro e w1 ⟨rfl, hr1, hg1⟩) | go_in)
      go_ret
      refine ⟨_, _, rfl, hr1, sort_rises HI.out.nodup, fun x => ?_, HB.out.grown hg1 HB.out.size (fun k e => ?_)⟩
      · rw [(List.mergeSort_perm _ _).mem_iff, HI.out.mem]; simp
      · exact own_base (Kd.R_own HI.out.row).choose_spec k e
    · intro x y w1 hx hxM hi1 hlt1 hg1 hs1 hen
      have hen' : (Instr.entry (.pointer (some ⟨w.heap.size, 0, none⟩))).run Try.prog w1 = .ok (.tuple #[.int .i64 x, .agg #[]]) w1 := hen
      clear hen
      have hrv : some w.heap.size ≠ u3.ownBlock := fun e => by
        obtain ⟨inner, ho⟩ := Kd.R_own HI.out.row
        obtain ⟨cells, hc⟩ := own_typed ho _ e.symm
        exact HI.out.it.off hc rfl
      have hbv : some b ≠ u3.ownBlock := fun e => by
        obtain ⟨inner, ho⟩ := Kd.R_own HI.out.row
        obtain ⟨cells, hc⟩ := own_typed ho _ e.symm
        exact HI.out.it.own.off hc rfl
      have HBV := Aside0.mk hbv
      have HRV := Aside0.mk hrv
      have HR1 := Aside0.mk (Kd.R_grown1 HI.out.row rfl hg1 hrv)
      have HB1 := Aside0.mk (HB.out.grown hg1 HB.out.size (fun k e => by cases e; exact Nat.le_refl _))
      have HG1 := Aside0.mk hlt1
      have HI1 := Aside0.mk hi1
      have HX := Aside0.mk hx
      have hl : (xs.length + 1) * 8 ≤ 140737488355328 := by have := HI.out.len; omega
      have HL := Aside0.mk hl
      have HSZ := Aside0.mk (show w.heap.size ≤ w1.heap.size from HB1.out.size)
      clear hg1 hlt1 hi1 hx hxM hl hs1 hrv hbv
      go_wp2_with (first | (at_builtin; refine Kd.R_append (Kd.int .i64) (w0 := w) w.heap.size rfl _ _ 49 3 (.int .i64 0) 8 rfl Try.underlying49 info3 rfl (by decide) (by omega) u3 xs x [.int .i64 x] (fun _ => True) (fun _ => False) rfl rfl rfl (fun _ hk => hk.elim) (fun _ _ => trivial) HR1.out HB1.out HSZ.out HL.out ?_; intro v2 w2 hr2 hb2 hg2 hat2) | go_in)
      go_roundw
      case rel => exact ⟨_, _, ⟨HI.out.step HX.out (HI1.out.grown hg2 HBV.out HRV.out) hr2⟩, ⟨hb2⟩⟩
      case measure => rw [HI1.out.left_grown hg2 HBV.out HRV.out]; exact HG1.out
structure ReachInv (g : List (List Int)) (l : List Int) (w : World) (b base : Nat) (v : Value) (L : List Int) (M : List (Int × Unit)) : Prop where
  own : OwnSet w b M
  row : (Kd.int .i64).R 3 w base (fun _ => True) v L
  nodup : L.Nodup
  sub : ∀ x ∈ L, x ∈ M.map (·.1)
  sound : ∀ x ∈ M.map (·.1), Rch g l x
  start : ∀ x ∈ l, 0 ≤ x → x < g.length → x ∈ M.map (·.1)
  closed : ∀ a ∈ M.map (·.1), a ∉ L → ∀ c, goesTo g a c → c ∈ M.map (·.1)
structure RoundInv (g : List (List Int)) (l : List Int) (w : World) (b base : Nat) (v : Value) (L : List Int) (M : List (Int × Unit)) (n : Int) (j : Nat) : Prop where
  own : OwnSet w b M
  row : (Kd.int .i64).R 3 w base (fun _ => True) v L
  nodup : L.Nodup
  sub : ∀ x ∈ L, x ∈ M.map (·.1)
  sound : ∀ x ∈ M.map (·.1), Rch g l x
  start : ∀ x ∈ l, 0 ≤ x → x < g.length → x ∈ M.map (·.1)
  at_n : n ∈ M.map (·.1)
  closed : ∀ a ∈ M.map (·.1), a ∉ L → a ≠ n → ∀ c, goesTo g a c → c ∈ M.map (·.1)
  part : ∀ i, i < j → ∀ c, c = rd (g.getD n.toNat []) i → 0 ≤ c → c < n → c ∈ M.map (·.1)
theorem mem_rd {l : List Int} {c : Int} (h : c ∈ l) : ∃ i : Nat, i < l.length ∧ c = rd l i := by
  obtain ⟨i, hi, rfl⟩ := List.getElem_of_mem h
  exact ⟨i, hi, by simp [rd, hi]⟩
theorem rd_mem {l : List Int} {i : Nat} (h : i < l.length) : rd l i ∈ l := by
  have : rd l i = l[i] := by simp [rd, h]
  rw [this]; exact List.getElem_mem h
theorem small_set {g : List (List Int)} {l : List Int} {w : World} {b : Nat} {M : List (Int × Unit)} (ho : OwnSet w b M) (hs : ∀ x ∈ M.map (·.1), Rch g l x) : M.length ≤ (rchL g l).length := by
  have := ho.nodup.length_le_of_subset (l₂ := rchL g l) (fun x hx => mem_rchL.2 (hs x hx))
  simpa using this
theorem small_rch (g : List (List Int)) (l : List Int) : (rchL g l).length ≤ g.length := by
  unfold rchL pickL
  exact Nat.le_trans (List.length_filter_le _ _) (by simp)
theorem ReachInv.pop {g : List (List Int)} {l : List Int} {w : World} {b base : Nat} {v v' : Value} {L : List Int} {n : Int} {M : List (Int × Unit)} (h : ReachInv g l w b base v (L ++ [n]) M) (hr : (Kd.int .i64).R 3 w base (fun _ => True) v' L) : RoundInv g l w b base v' L M n 0 where
  own := h.own
  row := hr
  nodup := (List.nodup_append.1 h.nodup).1
  sub x hx := h.sub x (List.mem_append_left _ hx)
  sound := h.sound
  start := h.start
  at_n := h.sub n (by simp)
  closed a ha hL hn := h.closed a ha (by simp [hL, hn])
  part i hi := absurd hi (Nat.not_lt_zero _)
theorem RoundInv.done {g : List (List Int)} {l : List Int} {w : World} {b base : Nat} {v : Value} {L : List Int} {n : Int} {M : List (Int × Unit)} {j : Nat} (h : RoundInv g l w b base v L M n j) (hj : (g.getD n.toNat []).length ≤ j) : ReachInv g l w b base v L M where
  own := h.own
  row := h.row
  nodup := h.nodup
  sub := h.sub
  sound := h.sound
  start := h.start
  closed a ha hL c hc := by
    by_cases e : a = n
    · subst e
      obtain ⟨i, hi, rfl⟩ := mem_rd hc.2.1
      exact h.part i (by omega) _ rfl hc.2.2.1 hc.2.2.2
    · exact h.closed a ha hL e c hc
theorem RoundInv.skip {g : List (List Int)} {l : List Int} {w : World} {b base : Nat} {v : Value} {L : List Int} {n : Int} {M : List (Int × Unit)} {j : Nat} (h : RoundInv g l w b base v L M n j) {x : Int} (hx : x = rd (g.getD n.toNat []) j) (hs : 0 ≤ x → x < n → x ∈ M.map (·.1))
    {w' : World} (ho : OwnSet w' b M) (hr : (Kd.int .i64).R 3 w' base (fun _ => True) v L) : RoundInv g l w' b base v L M n (j + 1) where
  own := ho
  row := hr
  nodup := h.nodup
  sub := h.sub
  sound := h.sound
  start := h.start
  at_n := h.at_n
  closed := h.closed
  part i hi c hc h0 h1 := by
    by_cases e : i = j
    · subst e; rw [← hx] at hc; subst hc; exact hs h0 h1
    · exact h.part i (by omega) c hc h0 h1
theorem RoundInv.push {g : List (List Int)} {l : List Int} {w : World} {b base : Nat} {v v' : Value} {L : List Int} {n : Int} {M : List (Int × Unit)} {j : Nat} (h : RoundInv g l w b base v L M n j) {x : Int} (hx : x = rd (g.getD n.toNat []) j) (hj : j < (g.getD n.toNat []).length) (h0 : 0 ≤ x) (h1 : x < n) (hn : x ∉ M.map (·.1))
    {w' : World} (ho : OwnSet w' b (putM M x ())) (hr : (Kd.int .i64).R 3 w' base (fun _ => True) v' (L ++ [x])) : RoundInv g l w' b base v' (L ++ [x]) (putM M x ()) n (j + 1) where
  own := ho
  row := hr
  nodup := List.nodup_append.2 ⟨h.nodup, by simp, fun a ha c hc e => by rw [List.mem_singleton.1 hc] at e; subst e; exact hn (h.sub a ha)⟩
  sub z hz := by
    rw [keys_putM]
    rcases List.mem_append.1 hz with hz | hz
    · exact .inr (h.sub z hz)
    · exact .inl (List.mem_singleton.1 hz)
  sound z hz := by
    rcases keys_putM.1 hz with rfl | hz
    · exact .step (h.sound n h.at_n) ⟨(h.sound n h.at_n).valid.1, by rw [hx]; exact rd_mem hj, h0, h1⟩
    · exact h.sound z hz
  start z hz h2 h3 := keys_putM.2 (.inr (h.start z hz h2 h3))
  at_n := keys_putM.2 (.inr h.at_n)
  closed a ha hL hna c hc := by
    rcases keys_putM.1 ha with rfl | ha
    · exact absurd (by simp) hL
    · exact keys_putM.2 (.inr (h.closed a ha (fun h' => hL (List.mem_append_left _ h')) hna c hc))
  part i hi c hc h2 h3 := by
    rw [keys_putM]
    by_cases e : i = j
    · subst e; rw [← hx] at hc; exact .inl hc
    · exact .inr (h.part i (by omega) c hc h2 h3)
theorem ReachInv.all {g : List (List Int)} {l : List Int} {w : World} {b base : Nat} {v : Value} {M : List (Int × Unit)} (h : ReachInv g l w b base v [] M) (x : Int) : x ∈ M.map (·.1) ↔ Rch g l x := by
  refine ⟨h.sound x, fun hx => ?_⟩
  induction hx with
  | base h1 h2 h3 => exact h.start _ h1 h2 h3
  | step h1 h2 ih => exact h.closed _ ih (by simp) _ h2
set_option maxHeartbeats 8000000 in
set_option maxRecDepth 100000 in
theorem graph_reach.walk (A0 : Option Addr) (c0 : Nat) (g : List (List Int)) (A1 : Option Addr) (c1 : Nat) (l : List Int) (w : World) (hr0 : Kd.C (Kd.slice 3 (Kd.int .i64)) w A0 g.length g) (hr1 : Kd.C (Kd.int .i64) w A1 l.length l) (hlim : g.length < 17592186044416) :
    Calls Try.prog 98 #[.slice A0 g.length c0, .slice A1 l.length c1] w fun e w' => ∃ b M, e = .returned (.map (some b)) ∧ w.heap.size ≤ b ∧ OwnSet w' b M ∧ (∀ x, x ∈ M.map (·.1) ↔ Rch g l x) ∧ Below w.heap.size w w' := by
  have HR0 := Aside0.mk hr0
  have HR1 := Aside0.mk hr1
  clear hr0 hr1
  go_enter Try.func98, Try.ntmps98
  go_wp2_with fail
  refine (graph_of.walk A0 c0 g A1 c1 l w (by omega) HR1.out).mono ?_
  rintro e w1 ⟨b, M1, rfl, hb, ho1, hm1, hb1⟩
  have HM1 := Aside0.mk hm1
  have HO1 := Aside0.mk ho1
  have HB1 := Aside0.mk hb1
  have HBB := Aside0.mk hb
  have hs1 : M1.length ≤ g.length := by
    have := ho1.nodup.length_le_of_subset (l₂ := rchL g l) (fun x hx => mem_rchL.2 (by obtain ⟨h1, h2, h3⟩ := (hm1 x).1 hx; exact .base h1 h2 h3))
    have h' := small_rch g l
    simp at this; omega
  clear hm1 ho1 hb1 hb
  go_wp2_with fail
  refine (set_rising.walk b M1 w1 HO1.out (by omega)).mono ?_
  rintro e w2 ⟨v, ys, rfl, hr2, hp2, hm2, hb2⟩
  have HI := Aside0.mk (show ReachInv g l w2 b w.heap.size v ys M1 from {
    own := HO1.out.below hb2
    row := Kd.R_lower hr2 HB1.out.size
    nodup := hp2.imp (fun h => by omega)
    sub := fun x hx => (hm2 x).1 hx
    sound := fun x hx => by obtain ⟨h1, h2, h3⟩ := (HM1.out x).1 hx; exact .base h1 h2 h3
    start := fun x h1 h2 h3 => (HM1.out x).2 ⟨h1, h2, h3⟩
    closed := fun a ha hL => absurd ((hm2 a).2 ha) hL })
  have HB := Aside0.mk (below_then HB1.out HB1.out.size hb2)
  clear hr2 hp2 hm2 hb2 HM1 HO1 HB1 hs1
  go_wp2
  go_loopg [6] (2 * ((rchL g l).length - M1.length) + ys.length) (fun kq v6 wr => ∃ (L : List Int) (M : List (Int × Unit)), Aside0 (ReachInv g l wr b w.heap.size v6 L M) ∧ Aside0 (2 * ((rchL g l).length - M.length) + L.length ≤ kq) ∧ Aside0 (Below w.heap.size w wr))
  case atStart => exact ⟨ys, M1, HI, ⟨Nat.le_refl _⟩, HB⟩
  case round =>
    clear HI HB
    obtain ⟨L, M, HI, HK, HB⟩ := hrel
    rcases List.eq_nil_or_concat L with hL | ⟨L', n, hL⟩
    · subst hL
      obtain ⟨A, c, rfl⟩ := Kd.R_slice HI.out.row
      go_wp2
      go_ret
      exact ⟨b, M, rfl, HBB.out, HI.out.own, HI.out.all, HB.out⟩
    · rw [List.concat_eq_append] at hL
      subst hL
      obtain ⟨gb, cap, hv, hc, hcell, hrow⟩ := row_last HI.out.row
      subst hv
      have HP := Aside0.mk (HI.out.pop hrow)
      have hnv := (HI.out.sound n (HI.out.sub n (by simp))).valid
      have hn0 := hnv.1
      have hn1 := hnv.2
      clear hnv hrow
      have hLm : L'.length + 1 ≤ 9223372036854775807 := by
        have h1 := HI.out.nodup.length_le_of_subset (l₂ := rchL g l) (fun x hx => mem_rchL.2 (HI.out.sound x (HI.out.sub x hx)))
        have h2 := small_rch g l
        simp at h1; omega
      obtain ⟨ad, Ar, cr, e, hrx, hrl, hrc⟩ := at_row HR0.out n hn0 hn1
      cases e
      replace hrx := (HB.out.cell (World.block_lt_of_cell? w _ hrx)).trans hrx
      obtain ⟨ns, hns⟩ : ∃ ns, ns = g.getD n.toNat [] := ⟨_, rfl⟩
      rw [← hns] at hrx hrl hrc
      have HN := Aside0.mk hns
      have HRC := Aside0.mk hrc
      have hnl : ns.length ≤ 9223372036854775807 := hrc.2.1
      clear hns hrc hrl
      obtain ⟨i0, hi0, hzz⟩ := Option.map_eq_some_iff.1 info3
      simp only [Prod.mk.injEq] at hzz
      have hcut := cut_up (P := Try.prog) 49 3 Try.underlying49 hi0 (some ⟨gb, 0, none⟩) (L'.length + 1) cap L'.length (L'.length : Int) rfl (by omega)
      clear hi0 hzz
      obtain ⟨ko, rfl⟩ : ∃ k, gk = k + 1 := ⟨gk - 1, by have := HK.out; simp at this; omega⟩
      have HK1 := Aside0.mk (show 2 * ((rchL g l).length - M.length) + L'.length ≤ ko by have := HK.out; simp at this; omega)
      clear HK HI
      go_wp2
      go_loopg [6, 34] ns.length (fun kq v6 v34 w3 => ∃ (L : List Int) (M : List (Int × Unit)) (j : Nat), v34 = .int .i64 j ∧ j ≤ ns.length ∧ Aside0 (RoundInv g l w3 b w.heap.size v6 L M n j) ∧ Aside0 (ns.length - j ≤ kq) ∧ Aside0 (2 * ((rchL g l).length - M.length) + L.length ≤ ko) ∧ Aside0 (Below w.heap.size w w3))
      case atStart => exact ⟨L', M, 0, rfl, Nat.zero_le _, HP, ⟨by omega⟩, HK1, HB⟩
      case round =>
        clear HP HK1 HB hcell hcut hc hrx
        obtain ⟨L, M, j, rfl, hj, HI, HJ, HK, HB⟩ := hrel
        by_cases hlt : j < ns.length
        · obtain ⟨ad2, e, hx⟩ := Kd.at_int (Kd.C_below HRC.out HB.out) (j : Int) (by omega) (by omega)
          cases e
          obtain ⟨x, hxd⟩ : ∃ x, x = rd ns j := ⟨_, rfl⟩
          rw [← hxd, Int.toNat_natCast] at hx
          have HX := Aside0.mk (hxd.trans (by rw [HN.out]) : x = rd (g.getD n.toNat []) j)
          clear hxd
          by_cases h0 : 0 ≤ x
          · by_cases h1 : x < n
            · have hwf : (Lit.int .i64 x).wf = true := WalkArith.wf_i64 (by omega)
              by_cases hin : x ∈ M.map (·.1)
              · have HH := Aside0.mk (fun W (hW : OwnSet W b M) => (set_has.walk b M x W hW hwf).mono (R' := fun e w' => e = .returned (.bool true) ∧ w' = W.alloc (.cells #[] 89)) (fun _ _ h => by rw [decide_eq_true hin] at h; exact h))
                have HIN := Aside0.mk hin
                clear hin hwf
                go_wp2_with (first | (go_at_call 114; refine (HH.out _ HI.out.own).mono ?_; rintro e w4 ⟨rfl, rfl⟩) | go_in)
                go_roundg (ns.length - (j + 1))
                case measure => have := HJ.out; omega
                case rel => exact ⟨L, M, j + 1, by go_num, by omega, ⟨HI.out.skip HX.out (fun _ _ => HIN.out) (HI.out.own.below ((Below.refl _ _).alloc (Nat.le_refl _) _)) (Kd.R_below HI.out.row ((Below.refl _ _).alloc (Nat.le_refl _) _))⟩, ⟨Nat.le_refl _⟩, HK, ⟨below_alloc HB.out _⟩⟩
              · have HH := Aside0.mk (fun W (hW : OwnSet W b M) => (set_has.walk b M x W hW hwf).mono (R' := fun e w' => e = .returned (.bool false) ∧ w' = W.alloc (.cells #[] 89)) (fun _ _ h => by rw [decide_eq_false hin] at h; exact h))
                have hsm := small_set HI.out.own HI.out.sound
                have hsr := small_rch g l
                have HP := Aside0.mk (fun W (hW : OwnSet W b M) => set_put.walk b M x W hW hwf (by unfold maxLen; omega))
                have HIN := Aside0.mk hin
                have hLm : L.length ≤ g.length := by
                  have h1 := HI.out.nodup.length_le_of_subset (l₂ := rchL g l) (fun x hx => mem_rchL.2 (HI.out.sound x (HI.out.sub x hx)))
                  omega
                have hll : (L.length + 1) * 8 ≤ 140737488355328 := by omega
                have HLL := Aside0.mk hll
                have hlp : (putM M x ()).length = M.length + 1 := by
                  have : delM M x = M := List.filter_eq_self.2 (fun p hp => by simp; rintro rfl; exact hin (List.mem_map.2 ⟨p, hp, rfl⟩))
                  unfold putM; rw [this, List.length_cons]
                have HLP := Aside0.mk hlp
                have hs2 : M.length + 1 ≤ (rchL g l).length := by
                  rw [← hlp]
                  have hnd := nodup_putM HI.out.own.nodup x ()
                  have := hnd.length_le_of_subset (l₂ := rchL g l) (fun z hz => mem_rchL.2 (by
                    rcases keys_putM.1 hz with rfl | hz
                    · exact .step (HI.out.sound n HI.out.at_n) ⟨hn0, by rw [HX.out]; exact rd_mem (by rw [← HN.out]; exact hlt), h0, h1⟩
                    · exact HI.out.sound z hz))
                  simpa using this
                have HS2 := Aside0.mk hs2
                clear hin hwf hsm hsr hLm hll hlp hs2
                go_wp2_with (go_at_call 114; refine (HH.out _ HI.out.own).mono ?_; rintro e w4 ⟨rfl, rfl⟩)
                have HO4 := Aside0.mk (HI.out.own.below ((Below.refl _ _).alloc (Nat.le_refl _) (.cells #[] 89)))
                have HR4 := Aside0.mk (Kd.R_below HI.out.row ((Below.refl _ _).alloc (Nat.le_refl _) (.cells #[] 89)))
                have HB4 := Aside0.mk (below_alloc HB.out (.cells #[] 89))
                go_wp2_with fail
                refine (HP.out _ HO4.out).mono ?_
                rintro e w5 ⟨rfl, ho5, hg5⟩
                have hbv : some b ≠ u6.ownBlock := fun e => by
                  obtain ⟨inner, ho⟩ := Kd.R_own HR4.out
                  obtain ⟨cells, hc⟩ := own_typed ho _ e.symm
                  exact HO4.out.off hc rfl
                have HBV := Aside0.mk hbv
                have HR5 := Aside0.mk (Kd.R_grown1 HR4.out rfl hg5 hbv)
                have HO5 := Aside0.mk ho5
                have HB5 := Aside0.mk (HB4.out.grown hg5 HB4.out.size (fun k e => by cases e; exact HBB.out))
                have HSZ := Aside0.mk (show w.heap.size ≤ w5.heap.size from HB5.out.size)
                clear hbv ho5 hg5
                go_wp2_with (first | (at_builtin; refine Kd.R_append (Kd.int .i64) (w0 := w) w.heap.size rfl _ _ 49 3 (.int .i64 0) 8 rfl Try.underlying49 info3 rfl (by decide) (by omega) u6 L x [.int .i64 x] (fun _ => True) (fun _ => False) rfl rfl rfl (fun _ hk => hk.elim) (fun _ _ => trivial) HR5.out HB5.out HSZ.out HLL.out ?_; intro v2 w6 hr2 hb2 hg2 hat2) | go_in)
                go_roundg (ns.length - (j + 1))
                case measure => have := HJ.out; omega
                case rel => exact ⟨L ++ [x], putM M x (), j + 1, by go_num, by omega, ⟨HI.out.push HX.out (by rw [← HN.out]; exact hlt) h0 h1 HIN.out (HO5.out.grown hg2 HBV.out) hr2⟩, ⟨Nat.le_refl _⟩, ⟨by rw [HLP.out, List.length_append]; have := HS2.out; have := HK.out; simp; omega⟩, ⟨hb2⟩⟩
            · go_wp2
              go_roundg (ns.length - (j + 1))
              case measure => have := HJ.out; omega
              case rel => exact ⟨L, M, j + 1, by go_num, by omega, ⟨HI.out.skip HX.out (fun _ h => by omega) HI.out.own HI.out.row⟩, ⟨Nat.le_refl _⟩, HK, HB⟩
          · go_wp2
            go_roundg (ns.length - (j + 1))
            case measure => have := HJ.out; omega
            case rel => exact ⟨L, M, j + 1, by go_num, by omega, ⟨HI.out.skip HX.out (fun h => by omega) HI.out.own HI.out.row⟩, ⟨Nat.le_refl _⟩, HK, HB⟩
        · go_wp2
          go_roundg ko
          case measure => omega
          case rel => exact ⟨L, M, ⟨HI.out.done (by rw [← HN.out]; omega)⟩, HK, HB⟩
set_option maxHeartbeats 2000000 in
theorem graph_Reach.walk (A0 : Option Addr) (c0 : Nat) (g : List (List Int)) (A1 : Option Addr) (c1 : Nat) (l : List Int) (w : World) (hr0 : Kd.C (Kd.slice 3 (Kd.int .i64)) w A0 g.length g) (hr1 : Kd.C (Kd.int .i64) w A1 l.length l) (hlim : g.length < 17592186044416) :
    Calls Try.prog 65 #[.slice A0 g.length c0, .slice A1 l.length c1] w fun e w' => ∃ v, e = .returned v ∧ (Kd.int .i64).R 3 w' w.heap.size (fun _ => True) v (rchL g l) ∧ Below w.heap.size w w' := by
  have HR0 := Aside0.mk hr0
  have HR1 := Aside0.mk hr1
  clear hr0 hr1
  go_enter Try.func65, Try.ntmps65
  go_wp2_with fail
  refine (graph_reach.walk A0 c0 g A1 c1 l w HR0.out HR1.out hlim).mono ?_
  rintro e w1 ⟨b, M1, rfl, hb, ho1, hm1, hb1⟩
  have HM1 := Aside0.mk hm1
  have HO1 := Aside0.mk ho1
  have HB1 := Aside0.mk hb1
  have hsm := small_set ho1 (fun x hx => (hm1 x).1 hx)
  have hsr := small_rch g l
  clear hm1 ho1 hb1 hb
  go_wp2_with fail
  refine (set_rising.walk b M1 w1 HO1.out (by omega)).mono ?_
  rintro e w2 ⟨v, ys, rfl, hr2, hp2, hm2, hb2⟩
  have HE := Aside0.mk (show ys = rchL g l from rises_eq hp2 (pickL_rises g _) (fun x => by rw [hm2, HM1.out]; exact (mem_rchL (g := g) (l := l)).symm))
  have HR2 := Aside0.mk (Kd.R_lower hr2 HB1.out.size)
  have HB2 := Aside0.mk (below_then HB1.out HB1.out.size hb2)
  clear hr2 hp2 hm2 hb2
  go_wp2
  go_ret
  exact ⟨v, rfl, by rw [← HE.out]; exact HR2.out, HB2.out⟩
def graph_Reach.f (g : List (List Int)) (l : List Int) : Option (List Int) := if g.length < 17592186044416 then some (rchL g l) else none
theorem graph_Reach.calls (A0 : Option Addr) (c0 : Nat) (l0 : List (List Int)) (A1 : Option Addr) (c1 : Nat) (l1 : List Int) (r : List Int) (w : World) (hr0 : Kd.C (Kd.slice 3 (Kd.int .i64)) w A0 l0.length l0) (hc0 : l0.length ≤ c0) (hr1 : Kd.C (Kd.int .i64) w A1 l1.length l1) (hc1 : l1.length ≤ c1) (h : graph_Reach.f l0 l1 = some r) :
    Calls Try.prog 65 #[.slice A0 l0.length c0, .slice A1 l1.length c1] w fun e w' => ∃ v0_ : Value, e = .returned (v0_) ∧ (Kd.int .i64).R 3 w' w.heap.size (fun _ => True) v0_ r ∧ Below w.heap.size w w' := by
  unfold graph_Reach.f at h
  split at h
  · obtain rfl := Option.some.inj h
    exact graph_Reach.walk A0 c0 l0 A1 c1 l1 w hr0 hr1 ‹_›
  · cases h
open Go.Proofs.He
set_option maxHeartbeats 2000000 in
set_option maxRecDepth 100000 in
theorem indexI.walk (A0 : Option Addr) (c0 : Nat) (l : List Int) (x : Int) (w : World) (hr0 : Kd.C (Kd.int .i64) w A0 l.length l) :
    Calls Try.prog 72 #[.slice A0 l.length c0, .int .i64 x] w fun e w' => ∃ r : Int, e = .returned (.int .i64 r) ∧ w = w' ∧ (0 ≤ r ↔ x ∈ l) := by
  have HR := Aside0.mk hr0
  have hl : l.length ≤ 9223372036854775807 := hr0.2.1
  clear hr0
  go_enter Try.func72, Try.ntmps72
  go_wp2
  go_loopg [5, 8] l.length (fun gg v5 v8 wr => ∃ i : Nat, i ≤ l.length ∧ l.length - i ≤ gg ∧ v8 = .int .i64 (i : Int) ∧ w = wr ∧ Aside0 (∀ (j : Nat) (y : Int), j < i → l[j]? = some y → y ≠ x))
  case atStart => exact ⟨0, Nat.zero_le _, by omega, rfl, rfl, ⟨fun j y hj => absurd hj (Nat.not_lt_zero _)⟩⟩
  case round =>
    obtain ⟨i, hi, hgg, rfl, rfl, HN⟩ := hrel
    by_cases hlt : i < l.length
    · have hltz : (i : Int) < (l.length : Int) := by omega
      obtain ⟨ad, e, hx⟩ := C_num HR.out hlt
      cases e
      obtain ⟨y, hy⟩ : ∃ y, y = l[i] := ⟨_, rfl⟩
      rw [← hy] at hx
      have HY : Aside0 (l[i]? = some y) := ⟨by rw [hy]; exact List.getElem?_eq_getElem hlt⟩
      clear hy
      by_cases he : x = y
      · have hb : (x == y) = true := beq_iff_eq.2 he
        have HE := Aside0.mk he
        clear he
        go_wp2
        go_ret
        exact ⟨(i : Int), rfl, rfl, fun _ => by rw [HE.out]; exact List.mem_of_getElem? HY.out, fun _ => by omega⟩
      · have hb : (x == y) = false := beq_eq_false_iff_ne.2 he
        have HN2 : Aside0 (∀ (j : Nat) (z : Int), j < i + 1 → l[j]? = some z → z ≠ x) := ⟨fun j z hj hz => by
          by_cases e : j = i
          · subst e; rw [HY.out] at hz; cases hz; exact fun e => he e.symm
          · exact HN.out j z (by omega) hz⟩
        clear he HN
        go_wp2
        go_roundg (l.length - (i + 1))
        case measure => omega
        case rel => exact ⟨i + 1, by omega, by omega, by go_num, rfl, HN2⟩
    · have hltz : ¬ (i : Int) < (l.length : Int) := by omega
      have HI : Aside0 (i = l.length) := ⟨by omega⟩
      go_wp2
      go_ret
      refine ⟨-1, rfl, rfl, fun h => by omega, fun h => ?_⟩
      obtain ⟨j, hj, e⟩ := List.getElem_of_mem h
      exact absurd e (HN.out j _ (by rw [HI.out]; exact hj) (List.getElem?_eq_getElem hj))
set_option maxHeartbeats 2000000 in
set_option maxRecDepth 100000 in
theorem containsI.walk (A0 : Option Addr) (c0 : Nat) (l : List Int) (x : Int) (w : World) (hr0 : Kd.C (Kd.int .i64) w A0 l.length l) :
    Calls Try.prog 67 #[.slice A0 l.length c0, .int .i64 x] w fun e w' => e = .returned (.bool (decide (x ∈ l))) ∧ w = w' := by
  have HI := Aside0.mk (indexI.walk A0 c0 l x w hr0)
  obtain ⟨b, hb⟩ : ∃ b, b = decide (x ∈ l) := ⟨_, rfl⟩
  rw [← hb]
  have HBB := Aside0.mk hb
  clear hr0 hb
  go_enter Try.func67, Try.ntmps67
  go_wp2_with (go_at_call 72; refine HI.out.mono ?_; rintro e w1 ⟨r, rfl, rfl, hr⟩; replace hr := Aside0.mk hr)
  go_ret
  refine ⟨?_, rfl⟩
  show Ending.returned (.bool (decide (0 ≤ r))) = _
  rw [HBB.out, decide_eq_decide.2 hr.out]
open Go.Proofs.He
theorem grown_of_below {W W' : World} (h : Below W.heap.size W W') : W.grownBy W' none := ⟨h.os, h.tape, h.output, h.size, fun k hk _ => h.block k hk⟩
set_option maxHeartbeats 2000000 in
set_option maxRecDepth 100000 in
theorem powers_1.walk (AL : Option Addr) (cL : Nat) (l : List SEv) (b : Nat) (x : Int) (p : Bool) (W : World) (hb : W.cell? ⟨b, 0, none⟩ = some (.slice AL l.length cL)) (hC : Kd.C k34 W AL l.length l) (h0 : 0 ≤ x) (h1 : x < (l.length : Int)) (hp : PowOf (rd_T34 l x) p) :
    Calls Try.prog 64 #[.int .i64 x, .pointer (some ⟨b, 0, none⟩)] W fun e w' => e = .returned (.bool (!p)) ∧ Below W.heap.size W w' := by
  have hu34 := Try.underlying34
  obtain ⟨ad, A6, c6, A7, c7, A13, c13, A14, c14, e, y0, y1, y2, y3, y4, y5, y6, y7, y8, y9, y10, y11, y12, y13, y14, l6, g6, l7, g7, l13, g13, l14, g14⟩ := at_T34 hC x h0 h1
  subst e
  obtain ⟨ev, hev⟩ : ∃ ev, ev = rd_T34 l x := ⟨_, rfl⟩
  rw [← hev] at y0 y1 y2 y3 y4 y5 y6 y7 y8 y9 y10 y11 y12 y13 y14 l13 g13 l14 g14 hp
  have HP := Aside0.mk (hp A6 c6 A7 c7 A13 c13 A14 c14 W g13 l13 g14 l14)
  clear hC l6 g6 l7 g7 l13 g13 l14 g14 hev hp
  go_enter Try.func64, Try.ntmps64
  go_wp2_with (go_at_call 31; refine HP.out.mono ?_; rintro e w2 ⟨rfl, hb2⟩; replace hb2 := Aside0.mk hb2)
  go_ret
  exact ⟨rfl, hb2.out⟩
set_option maxHeartbeats 2000000 in
set_option maxRecDepth 100000 in
theorem powers_2.walk (A : Option Addr) (c : Nat) (met : List Int) (b : Nat) (x : Int) (W : World) (hb : W.cell? ⟨b, 0, none⟩ = some (.slice A met.length c)) (hC : Kd.C (Kd.int .i64) W A met.length met) :
    Calls Try.prog 66 #[.int .i64 x, .pointer (some ⟨b, 0, none⟩)] W fun e w' => e = .returned (.bool (!decide (x ∈ met))) ∧ W = w' := by
  have HC := Aside0.mk (containsI.walk A c met x W hC)
  obtain ⟨q, hq⟩ : ∃ q, q = decide (x ∈ met) := ⟨_, rfl⟩
  rw [← hq] at HC ⊢
  clear hC hq
  go_enter Try.func66, Try.ntmps66
  go_wp2_with (go_at_call 67; refine HC.out.mono ?_; rintro e w2 ⟨rfl, rfl⟩)
  go_ret
  exact ⟨rfl, rfl⟩
def powersL (n : Nat) (g : List (List Int)) (pw : Int → Bool) (some_ : List Int) : List Int := (placesL n some_).filter fun x => decide (x ∈ rchL g ((placesL n some_).filter pw))
theorem placesL_len (n : Nat) (xs : List Int) : (placesL n xs).length ≤ xs.length := Nat.le_trans (riseL_length _) (List.length_filter_le _ _)
theorem placesL_mem {n : Nat} {xs : List Int} {x : Int} : x ∈ placesL n xs ↔ x ∈ xs ∧ 0 ≤ x ∧ x < (n : Int) := by
  show x ∈ riseL _ ↔ _
  rw [(riseL_spec _).2, List.mem_filter]
  unfold outP
  constructor
  · rintro ⟨h1, h2⟩
    simp at h2
    exact ⟨h1, by omega, by omega⟩
  · rintro ⟨h1, h2, h3⟩
    refine ⟨h1, ?_⟩
    simp
    omega
set_option maxHeartbeats 2000000 in
set_option maxRecDepth 100000 in
theorem order_Powers.walk (AL : Option Addr) (cL : Nat) (l : List SEv) (AG : Option Addr) (cG : Nat) (g : List (List Int)) (A1 : Option Addr) (c1 : Nat) (xs : List Int) (pw : Int → Bool) (w : World) (hL : Kd.C k34 w AL l.length l) (hG : Kd.C (Kd.slice 3 (Kd.int .i64)) w AG g.length g) (hgc : g.length ≤ cG) (hX : Kd.C (Kd.int .i64) w A1 xs.length xs) (hlim : xs.length ≤ 1000000) (hgl : g.length < 17592186044416) (hpw : ∀ x : Int, 0 ≤ x → x < (l.length : Int) → PowOf (rd_T34 l x) (pw x)) :
    Calls Try.prog 30 #[.slice AL l.length cL, .slice AG g.length cG, .slice A1 xs.length c1] w fun e w' => ∃ v, e = .returned v ∧ Kd.R (Kd.int .i64) 3 w' w.heap.size (fun _ => True) v (powersL l.length g pw xs) ∧ Below w.heap.size w w' := by
  have hmf : ∀ (fn : Fn) (first cap : Array Value) (w : World), (Instr.makeFunc fn first cap).run Try.prog w = .ok (.func fn first cap) w := fun _ _ _ _ => rfl
  have hlen := placesL_len l.length xs
  have HLEN := Aside0.mk hlen
  obtain ⟨all, hall⟩ : ∃ all, all = placesL l.length xs := ⟨_, rfl⟩
  have HIN : Aside0 (∀ x ∈ all, 0 ≤ x ∧ x < (l.length : Int)) := ⟨fun x hx => (placesL_mem.1 (by rw [← hall]; exact hx)).2⟩
  have HPL := Aside0.mk (fun (W : World) (hb : Below w.heap.size w W) => places.walk AL l.length cL A1 c1 xs W (Kd.C_below hX hb) hlim)
  rw [← hall] at HPL HLEN
  have HALL := Aside0.mk hall
  have HL := Aside0.mk hL
  have HG := Aside0.mk hG
  have HGC := Aside0.mk hgc
  have HPW := Aside0.mk hpw
  clear hL hG hgc hX hpw hall hlen
  go_enter Try.func30, Try.ntmps30
  go_upto_region 1 with fail
  generalize hw1 : w.alloc _ = W1
  have hb1 : Below w.heap.size w W1 := by rw [← hw1]; exact (Below.refl _ _).alloc (Nat.le_refl _) _
  have hx1 : W1.heap[w.heap.size]? = some (.cells #[.slice AL l.length cL] 45 (0, 0)) := by rw [← hw1]; exact heap_alloc_new w _
  have hc1 := blk_cell hx1 0
  have HB1 := Aside0.mk hb1
  have HX1 := Aside0.mk hx1
  clear hw1 hb1 hx1
  go_upto_region 2 with (go_at_call 61; refine (HPL.out _ HB1.out).mono ?_; rintro e w2 ⟨v2, rfl, hr2, hb2⟩; obtain ⟨A2, c2, rfl⟩ := Kd.R_slice hr2; have HB2 := Aside0.mk (below_then HB1.out HB1.out.size hb2); have HX2 := Aside0.mk ((hb2.block _ (blk_lt HX1.out)).trans HX1.out); have HR2 := Aside0.mk (Kd.R_mono (Kd.R_bound hr2) (ok' := fun k => W1.heap.size ≤ k ∧ k < w2.heap.size) (fun k hk => ⟨hk.2.1, hk.2.2.1⟩)); have HS2 := Aside0.mk hb2.size; clear hr2 hb2)
  have HCL := Aside0.mk (cloneI.walk A2 c2 all w2 (Kd.R_reads' HR2.out).2.2 (by have := HLEN.out; omega))
  go_upto_region 3 with (go_at_call 63; refine HCL.out.mono ?_; rintro e w3 ⟨v3, rfl, hr3, hb3⟩; obtain ⟨A3, c3, rfl⟩ := Kd.R_slice hr3; have HB3 := Aside0.mk (below_then HB2.out HB2.out.size hb3); have HX3 := Aside0.mk ((hb3.block _ (blk_lt HX2.out)).trans HX2.out); have HR3 := Aside0.mk hr3; have HA3 := Aside0.mk (Kd.R_below HR2.out hb3); have HS3 := Aside0.mk hb3.size; clear hr3 hb3)
  have hbx : w.heap.size < w2.heap.size := blk_lt HX2.out
  have hdf := slices_DeleteFunc_int.calls 64 #[] #[.pointer (some ⟨w.heap.size, 0, none⟩)] (enters_of Try.func64 (by kernel_rfl) rfl) (fun x => !pw x) HR3.out (fun x W hx hg => by
    have h4 : W.cell? ⟨w.heap.size, 0, none⟩ = some (.slice AL l.length cL) := hg.cell (blk_cell HX3.out 0) (fun e => by have h5 : w2.heap.size ≤ w.heap.size := Kd.R_base HR3.out _ e.symm; omega)
    have hbW : Below w.heap.size w W := grown_below HB3.out HB3.out.size (Kd.R_lower HR3.out HB2.out.size) hg
    exact (powers_1.walk AL cL l w.heap.size x (pw x) W h4 (Kd.C_below HL.out hbW) (HIN.out x hx).1 (HIN.out x hx).2 (HPW.out x (HIN.out x hx).1 (HIN.out x hx).2)).mono (fun e w' h => ⟨h.1, grown_of_below h.2⟩))
  refine hdf.mono ?_
  rintro e w4 ⟨v4, rfl, hr4, hg4⟩
  have hown : (all.filter fun x => !(!pw x)) = all.filter pw := by congr 1; funext x; exact Bool.not_not _
  rw [hown] at hr4
  obtain ⟨own, howe⟩ : ∃ own, own = all.filter pw := ⟨_, rfl⟩
  rw [← howe] at hr4
  have HOWE := Aside0.mk howe
  obtain ⟨A4, c4, rfl⟩ := Kd.R_slice hr4
  have HB4 := Aside0.mk (grown_below HB3.out HB3.out.size (Kd.R_lower HR3.out HB2.out.size) hg4)
  have HA4 := Aside0.mk (Kd.R_grown HA3.out hg4 (fun k hk e => by have h5 : w2.heap.size ≤ k := Kd.R_base HR3.out _ e.symm; have := hk.2; omega))
  have HS4 := Aside0.mk hg4.size
  have HRE := Aside0.mk (graph_Reach.calls AG cG g A4 c4 own (rchL g own) w4 (Kd.C_below HG.out HB4.out) HGC.out (Kd.R_reads' hr4).2.2 (Kd.R_reads' hr4).2.1 (by unfold graph_Reach.f; rw [if_pos hgl]))
  obtain ⟨met, hmet⟩ : ∃ met, met = rchL g own := ⟨_, rfl⟩
  rw [← hmet] at HRE
  have HMET := Aside0.mk hmet
  clear hdf hown howe hr4 hg4 hmet HCL HPL HR2 HR3 HA3 HX2 HX3 HX1 hc1
  go_upto_region 4 with (go_at_call 65; refine HRE.out.mono ?_; rintro e w5 ⟨v5, rfl, hr5, hb5⟩; obtain ⟨A5, c5, rfl⟩ := Kd.R_slice hr5; have HB5 := Aside0.mk (below_then HB4.out HB4.out.size hb5); have HR5 := Aside0.mk hr5; have HA5 := Aside0.mk (Kd.R_below HA4.out hb5); have HS5 := Aside0.mk hb5.size; clear hr5 hb5)
  generalize hw6 : w5.alloc _ = W6
  have hb6 : Below w5.heap.size w5 W6 := by rw [← hw6]; exact (Below.refl _ _).alloc (Nat.le_refl _) _
  have HX6 : Aside0 (W6.heap[w5.heap.size]? = some (.cells #[.slice A5 met.length c5] 49 (0, 0))) := ⟨by rw [← hw6]; exact heap_alloc_new w5 _⟩
  have HB6 := Aside0.mk (below_then HB5.out HB5.out.size hb6)
  have HA6 := Aside0.mk (Kd.R_below HA5.out hb6)
  have HR6 := Aside0.mk (Kd.R_mono (Kd.R_bound (Kd.R_below HR5.out hb6)) (ok' := fun k => w4.heap.size ≤ k) (fun k hk => hk.2.1))
  have hs26 : w2.heap.size ≤ w4.heap.size := by have := HS3.out; have := HS4.out; omega
  have hs46 : w4.heap.size ≤ w5.heap.size := HS5.out
  clear hw6 hb6 HA5 HR5 HRE HA4
  have hdf := slices_DeleteFunc_int.calls 66 #[] #[.pointer (some ⟨w5.heap.size, 0, none⟩)] (enters_of Try.func66 (by kernel_rfl) rfl) (fun x => !decide (x ∈ met)) HA6.out (fun x W hx hg => by
    have h4 : W.cell? ⟨w5.heap.size, 0, none⟩ = some (.slice A5 met.length c5) := hg.cell (blk_cell HX6.out 0) (fun e => by have h5 : w5.heap.size < w2.heap.size := (HA6.out.1 _ e.symm).2; omega)
    have h5 := Kd.R_grown HR6.out hg (fun k hk e => by have h5 := (HA6.out.1 _ e.symm).2; have h6 : w4.heap.size ≤ k := hk; omega)
    exact (powers_2.walk A5 c5 met w5.heap.size x W h4 (Kd.R_reads' h5).2.2).mono (fun e w' h => ⟨h.1, h.2 ▸ World.grownBy.refl _ _⟩))
  go_wp2_with (go_at_call 62; refine hdf.mono ?_; rintro e w7 ⟨v7, rfl, hr7, hg7⟩; have HR7 := Aside0.mk hr7; have HB7 := Aside0.mk (grown_below HB6.out HB6.out.size (Kd.R_lower HA6.out HB1.out.size) hg7); clear hr7 hg7; obtain ⟨A7, c7, rfl⟩ := Kd.R_slice HR7.out)
  go_ret
  refine ⟨_, rfl, ?_, HB7.out⟩
  have hres : powersL l.length g pw xs = all.filter fun x => !(!decide (x ∈ met)) := by
    unfold powersL
    rw [← HALL.out, HMET.out, HOWE.out]
    congr 1
    funext x
    exact (Bool.not_not _).symm
  rw [hres]
  have h8 := Kd.R_mono (Kd.R_lower HR7.out HB1.out.size) (ok' := fun _ => True) (fun _ _ => trivial)
  simpa using h8
def graph_Past.f (l0 : List (List Int)) (a1 : Int) : Option (List Int) := if a1 < 0 then (some ([] : List Int)) else (if a1 ≥ (l0.length : Int) then (some ([] : List Int)) else (if 0 ≤ a1 then (if a1 < (l0.length : Int) then ((graph_Reach.f l0 (rd_L11 l0 a1)).bind fun t206 => (some t206)) else (none)) else (none)))
set_option maxHeartbeats 8000000 in
set_option maxRecDepth 100000 in
theorem graph_Past.calls (A0 : Option Addr) (c0 : Nat) (l0 : List (List Int)) (a1 : Int) (r : List Int) (w : World) (hr0 : Kd.C (Kd.slice 3 (Kd.int .i64)) w A0 l0.length l0) (hc0 : l0.length ≤ c0) (h : graph_Past.f l0 a1 = some r) :
    Calls Try.prog 32 #[.slice A0 l0.length c0, .int .i64 a1] w fun e w' => ∃ v0_ : Value, e = .returned (v0_) ∧ Kd.R (Kd.int .i64) 3 w' w.heap.size (fun _ => True) v0_ r ∧ Below w.heap.size w w' := by
  have HR0 := Aside0.mk hr0
  have HC0 := Aside0.mk hc0
  clear hr0 hc0
  have HB := Aside0.mk (Below.refl w.heap.size w)
  have H : (if a1 < 0 then (some ([] : List Int)) else (if a1 ≥ (l0.length : Int) then (some ([] : List Int)) else (if 0 ≤ a1 then (if a1 < (l0.length : Int) then ((graph_Reach.f l0 (rd_L11 l0 a1)).bind fun t206 => (some t206)) else (none)) else (none)))) = some r := h
  clear h
  by_cases c3 : a1 < 0
  · rw [if_pos c3] at H
    have c3b0 : decide (a1 < 0) = true := decide_eq_true c3
    clear c3
    obtain rfl := Option.some.inj H
    go_enter Try.func32, Try.ntmps32
    go_wp2
    go_ret
    exact ⟨_, by first | rfl | (simp [errW_none, errW_some] <;> rfl) | (simp [*, errW_none, errW_some] <;> rfl), by first | exact Kd.R_nil _ _ _ _ _ | exact Kd.N_nil _ _ _ _ _ | exact Kd.V_nil _ _ _ _ _ | exact Kd.Q_nil _ _ _ _ _ | exact Kd.S_nil _ _ _ _ _, by repeat (first | (with_reducible first | exact HB.out | apply below_alloc | apply pw_below_drewN | apply below_drew1) | exact HB.out)⟩
  · rw [if_neg c3] at H
    have c3b0 : decide (a1 < 0) = false := decide_eq_false c3
    clear c3
    by_cases c4 : a1 ≥ (l0.length : Int)
    · rw [if_pos c4] at H
      have c4b0 : decide ((l0.length : Int) ≤ a1) = true := decide_eq_true c4
      clear c4
      obtain rfl := Option.some.inj H
      go_enter Try.func32, Try.ntmps32
      go_wp2
      go_ret
      exact ⟨_, by first | rfl | (simp [errW_none, errW_some] <;> rfl) | (simp [*, errW_none, errW_some] <;> rfl), by first | exact Kd.R_nil _ _ _ _ _ | exact Kd.N_nil _ _ _ _ _ | exact Kd.V_nil _ _ _ _ _ | exact Kd.Q_nil _ _ _ _ _ | exact Kd.S_nil _ _ _ _ _, by repeat (first | (with_reducible first | exact HB.out | apply below_alloc | apply pw_below_drewN | apply below_drew1) | exact HB.out)⟩
    · rw [if_neg c4] at H
      have c4b0 : decide ((l0.length : Int) ≤ a1) = false := decide_eq_false c4
      clear c4
      by_cases c5 : 0 ≤ a1
      · rw [if_pos c5] at H
        have c5b0 : decide (0 ≤ a1) = true := decide_eq_true c5
        clear c5
        by_cases c6 : a1 < (l0.length : Int)
        · rw [if_pos c6] at H
          have c6b0 : decide (a1 < (l0.length : Int)) = true := decide_eq_true c6
          clear c6
          replace H := Option.bind_eq_some_iff.mp H
          obtain ⟨t206, A70, H⟩ := H
          replace H : (some t206) = some r := H
          have A7 := Aside0.mk A70
          clear A70
          obtain rfl := Option.some.inj H
          have p205 : 0 ≤ (a1 : Int) := of_decide_eq_true (by first | (with_reducible assumption) | assumption)
          have q205 : a1 < (l0.length : Int) := of_decide_eq_true (by first | (with_reducible assumption) | assumption)
          obtain ⟨ad205, A205_0, c205_0, e205, hx205_0, hl205_0, hi205_0⟩ := at_L11 HR0.out a1 p205 q205
          cases e205
          have HR205_0 := Aside0.mk hi205_0
          have HC205_0 := Aside0.mk hl205_0
          clear hi205_0 hl205_0
          replace p205 := eq_true p205
          replace q205 := eq_true q205
          go_enter Try.func32, Try.ntmps32
          go_wp2_with (first | ((with_reducible refine gate_callee (f := 65) rfl ?_); refine goesL_ (some 18) rfl rfl Try.func65 (by kernel_rfl) rfl #[.slice (some ad205) l0.length c0, .slice A205_0 (rd_L11 l0 a1).length c205_0] rfl (by (try simp only [List.map_toArray, List.map_cons, List.map_nil]); first | done | rfl | (simp only [List.length_drop, List.length_take]; rfl)) ?_; (with_reducible refine (graph_Reach.calls _ _ l0 _ _ (rd_L11 l0 a1) t206 _ ?side1 ?side2 ?side3 ?side4 A7.out).mono ?_); (case side1 => repeat (first | exact HR0.out | (with_reducible refine Kd.C_alloc ?_ _) | (with_reducible refine Kd.C_drewN ?_ _) | (with_reducible refine Kd.C_drew ?_))); (case side2 => exact HC0.out); (case side3 => repeat (first | exact HR205_0.out | (with_reducible refine Kd.C_alloc ?_ _) | (with_reducible refine Kd.C_drewN ?_ _) | (with_reducible refine Kd.C_drew ?_))); (case side4 => exact HC205_0.out); rintro e w8 ⟨v207, rfl, ho0, hb⟩; refine ⟨_, rfl, ?_⟩; have n0_ := Aside0.mk (Kd.R_lower ho0 (below_size (by repeat (first | (with_reducible first | exact HB.out | apply below_alloc | apply pw_below_drewN | apply below_drew1) | exact HB.out)))); have n1_ := Aside0.mk (below_step (by repeat (first | (with_reducible first | exact HB.out | apply below_alloc | apply pw_below_drewN | apply below_drew1) | exact HB.out)) hb); clear HB; have HO208 := n0_; have HB := n1_; clear n0_ n1_; (try clear hb); (try clear hb2); (try clear hk); (try clear hi); (try clear ho0)))
          go_ret
          exact ⟨_, by first | rfl | (simp [errW_none, errW_some] <;> rfl) | (simp [*, errW_none, errW_some] <;> rfl), by (with_reducible repeat (first | apply Kd.R_alloc | apply Kd.R_drewN | apply Kd.R_drew)); exact HO208.out, by repeat (first | (with_reducible first | exact HB.out | apply below_alloc | apply pw_below_drewN | apply below_drew1) | exact HB.out)⟩
        · rw [if_neg c6] at H
          exact absurd H (by simp)
      · rw [if_neg c5] at H
        exact absurd H (by simp)
def heliastlaw17_set.l0 : Nat → Int → List Int → List Int → Int → Option (List Int)
  | 0, _, _, _, _ => none
  | k + 1, x0, x1, x5, x6 => if x6 < x0 then ((heliastref12_Has.f k x1 x6).bind fun t209 => (if t209 = true then (if x5.length < 17592186044416 then (heliastlaw17_set.l0 k x0 x1 (x5 ++ [x6]) (wrap64 (x6 + 1))) else (none)) else (heliastlaw17_set.l0 k x0 x1 x5 (wrap64 (x6 + 1))))) else (some x5)
def heliastlaw17_set.f (k : Nat) (a0 : Int) (l1 : List Int) : Option (List Int) := heliastlaw17_set.l0 k a0 l1 ([] : List Int) 0
theorem heliastlaw17_set.mono_l : ∀ k, (∀ y0 y1 y2 y3, LeO (heliastlaw17_set.l0 k y0 y1 y2 y3) (heliastlaw17_set.l0 (k + 1) y0 y1 y2 y3))
  | 0 => fun _ _ _ _ r h => by simp [heliastlaw17_set.l0] at h
  | k + 1 => by
    have ih0 := heliastlaw17_set.mono_l k
    · intro y0 y1 y2 y3
      unfold heliastlaw17_set.l0
      repeat' first
      | (with_reducible exact ih0 _ _ _ _)
      | (with_reducible exact heliastref12_Has.mono _ _ _)
      | (with_reducible exact LeO.refl _)
      | (with_reducible exact LeO.none _)
      | (with_reducible refine LeO.ite ?_ ?_)
      | (with_reducible refine LeO.bind ?_ (fun _ => ?_))
      | exact ih0 _ _ _ _
      | exact heliastref12_Has.mono _ _ _
      | exact LeO.none _
      | refine LeO.ite ?_ ?_
      | refine LeO.bind ?_ (fun _ => ?_)
theorem heliastlaw17_set.mono : ∀ a0 a1 k, LeO (heliastlaw17_set.f k a0 a1) (heliastlaw17_set.f (k + 1) a0 a1) := by
  intro a0 a1 k
  have ih0 := heliastlaw17_set.mono_l k
  unfold heliastlaw17_set.f
  repeat' first
      | (with_reducible exact ih0 _ _ _ _)
      | (with_reducible exact heliastref12_Has.mono _ _ _)
      | (with_reducible exact LeO.refl _)
      | (with_reducible exact LeO.none _)
      | (with_reducible refine LeO.ite ?_ ?_)
      | (with_reducible refine LeO.bind ?_ (fun _ => ?_))
      | exact ih0 _ _ _ _
      | exact heliastref12_Has.mono _ _ _
      | exact LeO.none _
      | refine LeO.ite ?_ ?_
      | refine LeO.bind ?_ (fun _ => ?_)
set_option maxHeartbeats 8000000 in
set_option maxRecDepth 100000 in
theorem heliastlaw17_set.calls (k : Nat) (a0 : Int) (A1 : Option Addr) (c1 : Nat) (l1 : List Int) (r : List Int) (w : World) (hr1 : Kd.C (Kd.int .i64) w A1 l1.length l1) (hc1 : l1.length ≤ c1) (h : heliastlaw17_set.f k a0 l1 = some r) :
    Calls Try.prog 28 #[.int .i64 a0, .slice A1 l1.length c1] w fun e w' => ∃ v0_ : Value, e = .returned (v0_) ∧ Kd.R (Kd.int .i64) 3 w' w.heap.size (fun _ => True) v0_ r ∧ Below w.heap.size w w' := by
  have HR1 := Aside0.mk hr1
  have HC1 := Aside0.mk hc1
  clear hr1 hc1
  have HB := Aside0.mk (Below.refl w.heap.size w)
  have H : (heliastlaw17_set.l0 k a0 l1 ([] : List Int) 0) = some r := h
  clear h
  have H' := Aside0.mk H
  clear H
  go_enter Try.func28, Try.ntmps28
  go_wp2
  go_loopg [5, 6] k (fun kq v5 v6 w' => ∃ (x5_1 : List Int) (x6_1 : Int), v6 = .int .i64 x6_1 ∧ Aside0 (heliastlaw17_set.l0 kq a0 l1 x5_1 x6_1 = some r) ∧ Aside0 (kq ≤ k) ∧ Aside0 (Kd.R (Kd.int .i64) 3 w' w.heap.size (fun _ => True) v5 x5_1) ∧ Aside0 (Below w.heap.size w w'))
  case atStart => exact ⟨(([] : List Int)), (0), (by first | rfl | (simp; done) | (simp [*]; done)), H', ⟨Nat.le_refl _⟩, ⟨by first | exact Kd.R_nil _ _ _ _ _ | exact Kd.N_nil _ _ _ _ _ | exact Kd.V_nil _ _ _ _ _ | exact Kd.Q_nil _ _ _ _ _ | exact Kd.S_nil _ _ _ _ _⟩, ⟨by repeat (first | (with_reducible first | exact HB.out | apply below_alloc | apply pw_below_drewN | apply below_drew1) | exact HB.out)⟩⟩
  case round =>
    clear H'
    try clear c1
    try clear c2
    try clear p2
    obtain ⟨x5_1, x6_1, rfl, HA, HK1, HO_5, HB⟩ := hrel
    cases gk with
    | zero => exact absurd HA.out (by simp [heliastlaw17_set.l0])
    | succ k1 =>
      have H := HA.out
      clear HA
      simp only [heliastlaw17_set.l0] at H
      by_cases c3 : x6_1 < a0
      · rw [if_pos c3] at H
        have c3b0 : decide (x6_1 < a0) = true := decide_eq_true c3
        clear c3
        replace H := Option.bind_eq_some_iff.mp H
        obtain ⟨t209, A40, H⟩ := H
        replace H : (if t209 = true then (if x5_1.length < 17592186044416 then (heliastlaw17_set.l0 k1 a0 l1 (x5_1 ++ [x6_1]) (wrap64 (x6_1 + 1))) else (none)) else (heliastlaw17_set.l0 k1 a0 l1 x5_1 (wrap64 (x6_1 + 1)))) = some r := H
        have A4 := Aside0.mk A40
        clear A40
        by_cases c5 : t209 = true
        · subst c5
          have H1 : (if x5_1.length < 17592186044416 then (heliastlaw17_set.l0 k1 a0 l1 (x5_1 ++ [x6_1]) (wrap64 (x6_1 + 1))) else (none)) = some r := by rw [if_pos rfl] at H; exact H
          clear H
          have H := H1
          clear H1
          by_cases c6 : x5_1.length < 17592186044416
          · rw [if_pos c6] at H
            have LMc6 := Aside0.mk c6
            clear c6
            obtain ⟨y210, hy210⟩ : ∃ y_ : List Int, y_ = (x5_1 ++ [x6_1]) := ⟨_, rfl⟩
            replace H : (heliastlaw17_set.l0 k1 a0 l1 y210 (wrap64 (x6_1 + 1))) = some r := by first | (rw [hy210]; with_reducible exact H) | (have H2_ := (Option.bind_some _ _).symm.trans H; rw [hy210]; with_reducible exact H2_) | (have H2_ := (Option.bind_some _ _).symm.trans H; with_reducible exact H2_) | with_reducible exact H | (rw [hy210]; exact H) | exact H
            have Ny210 := Aside0.mk hy210
            clear hy210
            have H' := Aside0.mk H
            clear H
            go_wp2_with (first | ((with_reducible refine gate_callee (f := 24) rfl ?_); refine goesL_ (some 14) rfl rfl Try.func24 (by kernel_rfl) rfl #[.slice A1 l1.length c1, .int .i64 x6_1] rfl (by (try simp only [List.map_toArray, List.map_cons, List.map_nil]); first | done | rfl | (simp only [List.length_drop, List.length_take]; rfl)) ?_; (with_reducible refine (heliastref12_Has.calls k1 _ _ l1 x6_1 true _ ?side1 ?side2 A4.out).mono ?_); (case side1 => repeat (first | exact (Kd.C_below HR1.out HB.out) | (with_reducible refine Kd.C_alloc ?_ _) | (with_reducible refine Kd.C_drewN ?_ _) | (with_reducible refine Kd.C_drew ?_))); (case side2 => exact HC1.out); rintro e w' ⟨rfl, ⟨nd, rfl⟩⟩; refine ⟨_, rfl, ?_⟩) | ((with_reducible refine gate_builtin (b := .append) (xs := #[.tmp 15, .tmp 17]) rfl ?_); at_builtin; refine Kd.R_append (Kd.int .i64) (w0 := w) w.heap.size rfl (.tmp 15) (.tmp 17) 49 3 (.int .i64 0) 8 rfl Try.underlying49 info3 rfl (by decide) (by omega) u5 x5_1 x6_1 [.int .i64 x6_1] (fun _ => True) (fun _ => False) rfl rfl ?aP (fun _ hk => hk.elim) ?aF ?aO ?aB ?aS ?aL ?_; (case aP => exact rfl); (case aB => exact (by repeat (first | (with_reducible first | exact HB.out | apply below_alloc | apply pw_below_drewN | apply below_drew1) | exact HB.out))); (case aF => exact (fun _ _ => trivial)); (case aO => exact (by (with_reducible repeat (first | apply Kd.R_alloc | apply Kd.R_drewN | apply Kd.R_drew)); exact HO_5.out)); (case aS => exact (below_size (by repeat (first | (with_reducible first | exact HB.out | apply below_alloc | apply pw_below_drewN | apply below_drew1) | exact HB.out)))); (case aL => have := LMc6.out; omega); intro v211 w7 ho hb hg hat; rw [← Ny210.out] at ho; have n0_ := Aside0.mk (hb); have n1_ := Aside0.mk (ho); clear HB; clear HO_5; have HB := n0_; have HO212 := n1_; clear n0_ n1_; clear ho hb hg hat))
            go_roundg k1
            case measure => have := HK1.out; omega
            case rel => exact ⟨(y210), (wrap64 (x6_1 + 1)), (by first | rfl | (simp; done) | (simp [*]; done)), H', ⟨by have := HK1.out; omega⟩, ⟨by (with_reducible repeat (first | apply Kd.R_alloc | apply Kd.R_drewN | apply Kd.R_drew)); exact HO212.out⟩, ⟨by repeat (first | (with_reducible first | exact HB.out | apply below_alloc | apply pw_below_drewN | apply below_drew1) | exact HB.out)⟩⟩
          · rw [if_neg c6] at H
            exact absurd H (by simp)
        · replace c5 := Bool.eq_false_iff.mpr c5
          subst c5
          have H1 : (heliastlaw17_set.l0 k1 a0 l1 x5_1 (wrap64 (x6_1 + 1))) = some r := by rw [if_neg (show ¬ (false = true) by decide)] at H; exact H
          clear H
          have H := H1
          clear H1
          have H' := Aside0.mk H
          clear H
          go_wp2_with (first | ((with_reducible refine gate_callee (f := 24) rfl ?_); refine goesL_ (some 14) rfl rfl Try.func24 (by kernel_rfl) rfl #[.slice A1 l1.length c1, .int .i64 x6_1] rfl (by (try simp only [List.map_toArray, List.map_cons, List.map_nil]); first | done | rfl | (simp only [List.length_drop, List.length_take]; rfl)) ?_; (with_reducible refine (heliastref12_Has.calls k1 _ _ l1 x6_1 false _ ?side1 ?side2 A4.out).mono ?_); (case side1 => repeat (first | exact (Kd.C_below HR1.out HB.out) | (with_reducible refine Kd.C_alloc ?_ _) | (with_reducible refine Kd.C_drewN ?_ _) | (with_reducible refine Kd.C_drew ?_))); (case side2 => exact HC1.out); rintro e w' ⟨rfl, ⟨nd, rfl⟩⟩; refine ⟨_, rfl, ?_⟩))
          go_roundg k1
          case measure => have := HK1.out; omega
          case rel => exact ⟨(x5_1), (wrap64 (x6_1 + 1)), (by first | rfl | (simp; done) | (simp [*]; done)), H', ⟨by have := HK1.out; omega⟩, ⟨by (with_reducible repeat (first | apply Kd.R_alloc | apply Kd.R_drewN | apply Kd.R_drew)); exact HO_5.out⟩, ⟨by repeat (first | (with_reducible first | exact HB.out | apply below_alloc | apply pw_below_drewN | apply below_drew1) | exact HB.out)⟩⟩
      · rw [if_neg c3] at H
        have c3b0 : decide (x6_1 < a0) = false := decide_eq_false c3
        clear c3
        obtain rfl := Option.some.inj H
        go_wp2
        go_ret
        exact ⟨_, by first | rfl | (simp [errW_none, errW_some] <;> rfl) | (simp [*, errW_none, errW_some] <;> rfl), by (with_reducible repeat (first | apply Kd.R_alloc | apply Kd.R_drewN | apply Kd.R_drew)); exact HO_5.out, by repeat (first | (with_reducible first | exact HB.out | apply below_alloc | apply pw_below_drewN | apply below_drew1) | exact HB.out)⟩
end Go.Proofs.Ytmdjknkhjimgeaa.S
end
section
namespace Go.Proofs.Ytmdjknkhjimgeaa.S
open Go.RowKit Go.Proofs.YtmdjknkhjimgeaaW.PrintWords Go.Proofs.YtmdjknkhjimgeaaW.PrintLast Go.Proofs.YtmdjknkhjimgeaaW.PrintMore
attribute [local go_sem] max2_int min2_int max_two min_two max_three min_three max_four min_four
set_option linter.unusedVariables false
set_option linter.unusedSimpArgs false
def heliastlaw17_Some.l0 : Nat → List Int → Int → List Int → Int → Option (List Int)
  | 0, _, _, _, _ => none
  | k + 1, x0, x1, x5, x6 => if x6 < (x0.length : Int) then (if x6 < 20 then (if 0 ≤ x6 then (if (wrap64 (x1 + 2)) = 0 then (none) else (if x5.length < 17592186044416 then (heliastlaw17_Some.l0 k x0 x1 (x5 ++ [wrap64 ((Int.tmod (wrap64 (rd x0 x6)) (wrap64 (x1 + 2))) - 1)]) (wrap64 (x6 + 1))) else (none))) else (none)) else (some x5)) else (some x5)
def heliastlaw17_Some.f (k : Nat) (l0 : List Int) (a1 : Int) : Option (List Int) := heliastlaw17_Some.l0 k l0 a1 ([] : List Int) 0
theorem heliastlaw17_Some.mono_l : ∀ k, (∀ y0 y1 y2 y3, LeO (heliastlaw17_Some.l0 k y0 y1 y2 y3) (heliastlaw17_Some.l0 (k + 1) y0 y1 y2 y3))
  | 0 => fun _ _ _ _ r h => by simp [heliastlaw17_Some.l0] at h
  | k + 1 => by
    have ih0 := heliastlaw17_Some.mono_l k
    · intro y0 y1 y2 y3
      unfold heliastlaw17_Some.l0
      repeat' first
      | (with_reducible exact ih0 _ _ _ _)
      | (with_reducible exact LeO.refl _)
      | (with_reducible exact LeO.none _)
      | (with_reducible refine LeO.ite ?_ ?_)
      | (with_reducible refine LeO.bind ?_ (fun _ => ?_))
      | exact ih0 _ _ _ _
      | exact LeO.none _
      | refine LeO.ite ?_ ?_
      | refine LeO.bind ?_ (fun _ => ?_)
theorem heliastlaw17_Some.mono : ∀ a0 a1 k, LeO (heliastlaw17_Some.f k a0 a1) (heliastlaw17_Some.f (k + 1) a0 a1) := by
  intro a0 a1 k
  have ih0 := heliastlaw17_Some.mono_l k
  unfold heliastlaw17_Some.f
  repeat' first
      | (with_reducible exact ih0 _ _ _ _)
      | (with_reducible exact LeO.refl _)
      | (with_reducible exact LeO.none _)
      | (with_reducible refine LeO.ite ?_ ?_)
      | (with_reducible refine LeO.bind ?_ (fun _ => ?_))
      | exact ih0 _ _ _ _
      | exact LeO.none _
      | refine LeO.ite ?_ ?_
      | refine LeO.bind ?_ (fun _ => ?_)
set_option maxHeartbeats 8000000 in
set_option maxRecDepth 100000 in
theorem heliastlaw17_Some.calls (k : Nat) (A0 : Option Addr) (c0 : Nat) (l0 : List Int) (a1 : Int) (r : List Int) (w : World) (hr0 : Kd.C (Kd.int .u8) w A0 l0.length l0) (hc0 : l0.length ≤ c0) (h : heliastlaw17_Some.f k l0 a1 = some r) :
    Calls Try.prog 29 #[.slice A0 l0.length c0, .int .i64 a1] w fun e w' => ∃ v0_ : Value, e = .returned (v0_) ∧ Kd.R (Kd.int .i64) 3 w' w.heap.size (fun _ => True) v0_ r ∧ Below w.heap.size w w' := by
  have HR0 := Aside0.mk hr0
  have HC0 := Aside0.mk hc0
  clear hr0 hc0
  have HB := Aside0.mk (Below.refl w.heap.size w)
  have H : (heliastlaw17_Some.l0 k l0 a1 ([] : List Int) 0) = some r := h
  clear h
  have H' := Aside0.mk H
  clear H
  go_enter Try.func29, Try.ntmps29
  go_wp2
  go_loopg [5, 6] k (fun kq v5 v6 w' => ∃ (x5_1 : List Int) (x6_1 : Int), v6 = .int .i64 x6_1 ∧ Aside0 (heliastlaw17_Some.l0 kq l0 a1 x5_1 x6_1 = some r) ∧ Aside0 (kq ≤ k) ∧ Aside0 (Kd.R (Kd.int .i64) 3 w' w.heap.size (fun _ => True) v5 x5_1) ∧ Aside0 (Below w.heap.size w w'))
  case atStart => exact ⟨(([] : List Int)), (0), (by first | rfl | (simp; done) | (simp [*]; done)), H', ⟨Nat.le_refl _⟩, ⟨by first | exact Kd.R_nil _ _ _ _ _ | exact Kd.N_nil _ _ _ _ _ | exact Kd.V_nil _ _ _ _ _ | exact Kd.Q_nil _ _ _ _ _ | exact Kd.S_nil _ _ _ _ _⟩, ⟨by repeat (first | (with_reducible first | exact HB.out | apply below_alloc | apply pw_below_drewN | apply below_drew1) | exact HB.out)⟩⟩
  case round =>
    clear H'
    try clear c2
    try clear p2
    obtain ⟨x5_1, x6_1, rfl, HA, HK1, HO_5, HB⟩ := hrel
    cases gk with
    | zero => exact absurd HA.out (by simp [heliastlaw17_Some.l0])
    | succ k1 =>
      have H := HA.out
      clear HA
      simp only [heliastlaw17_Some.l0] at H
      by_cases c3 : x6_1 < (l0.length : Int)
      · rw [if_pos c3] at H
        have c3b0 : decide (x6_1 < (l0.length : Int)) = true := decide_eq_true c3
        clear c3
        by_cases c4 : x6_1 < 20
        · rw [if_pos c4] at H
          have c4b0 : decide (x6_1 < 20) = true := decide_eq_true c4
          clear c4
          by_cases c5 : 0 ≤ x6_1
          · rw [if_pos c5] at H
            have c5b0 : decide (0 ≤ x6_1) = true := decide_eq_true c5
            clear c5
            by_cases c6 : (wrap64 (a1 + 2)) = 0
            · rw [if_pos c6] at H
              exact absurd H (by simp)
            · rw [if_neg c6] at H
              have c6b0 : ((wrap64 (a1 + 2)) == 0) = false := beq_eq_false_iff_ne.mpr c6
              have c6b1 : ((wrap64 (a1 + 2)) != 0) = true := bne_iff_ne.mpr c6
              by_cases c7 : x5_1.length < 17592186044416
              · rw [if_pos c7] at H
                have LMc7 := Aside0.mk c7
                clear c7
                obtain ⟨y214, hy214⟩ : ∃ y_ : List Int, y_ = (x5_1 ++ [wrap64 ((Int.tmod (wrap64 (rd l0 x6_1)) (wrap64 (a1 + 2))) - 1)]) := ⟨_, rfl⟩
                replace H : (heliastlaw17_Some.l0 k1 l0 a1 y214 (wrap64 (x6_1 + 1))) = some r := by first | (rw [hy214]; with_reducible exact H) | (have H2_ := (Option.bind_some _ _).symm.trans H; rw [hy214]; with_reducible exact H2_) | (have H2_ := (Option.bind_some _ _).symm.trans H; with_reducible exact H2_) | with_reducible exact H | (rw [hy214]; exact H) | exact H
                have Ny214 := Aside0.mk hy214
                clear hy214
                have H' := Aside0.mk H
                clear H
                have p213 : 0 ≤ (x6_1 : Int) := of_decide_eq_true (by first | (with_reducible assumption) | assumption)
                have q213 : x6_1 < (l0.length : Int) := of_decide_eq_true (by first | (with_reducible assumption) | assumption)
                obtain ⟨ad213, e213, hx213_0⟩ := Kd.at_int HR0.out x6_1 p213 q213
                cases e213
                replace hx213_0 := (HB.out.cell (World.block_lt_of_cell? w _ hx213_0)).trans hx213_0
                replace p213 := eq_true p213
                replace q213 := eq_true q213
                go_wp2_with (first | ((with_reducible refine gate_builtin (b := .append) (xs := #[.tmp 17, .tmp 27]) rfl ?_); at_builtin; refine Kd.R_append (Kd.int .i64) (w0 := w) w.heap.size rfl (.tmp 17) (.tmp 27) 49 3 (.int .i64 0) 8 rfl Try.underlying49 info3 rfl (by decide) (by omega) u5 x5_1 (wrap64 ((Int.tmod (wrap64 (rd l0 x6_1)) (wrap64 (a1 + 2))) - 1)) [.int .i64 (wrap64 ((Int.tmod (wrap64 (rd l0 x6_1)) (wrap64 (a1 + 2))) - 1))] (fun _ => True) (fun _ => False) rfl rfl ?aP (fun _ hk => hk.elim) ?aF ?aO ?aB ?aS ?aL ?_; (case aP => exact rfl); (case aB => exact (by repeat (first | (with_reducible first | exact HB.out | apply below_alloc | apply pw_below_drewN | apply below_drew1) | exact HB.out))); (case aF => exact (fun _ _ => trivial)); (case aO => exact (by (with_reducible repeat (first | apply Kd.R_alloc | apply Kd.R_drewN | apply Kd.R_drew)); exact HO_5.out)); (case aS => exact (below_size (by repeat (first | (with_reducible first | exact HB.out | apply below_alloc | apply pw_below_drewN | apply below_drew1) | exact HB.out)))); (case aL => have := LMc7.out; omega); intro v215 w8 ho hb hg hat; rw [← Ny214.out] at ho; have n0_ := Aside0.mk (hb); have n1_ := Aside0.mk (ho); clear HB; clear HO_5; have HB := n0_; have HO216 := n1_; clear n0_ n1_; clear ho hb hg hat))
                go_roundg k1
                case measure => have := HK1.out; omega
                case rel => exact ⟨(y214), (wrap64 (x6_1 + 1)), (by first | rfl | (simp; done) | (simp [*]; done)), H', ⟨by have := HK1.out; omega⟩, ⟨by (with_reducible repeat (first | apply Kd.R_alloc | apply Kd.R_drewN | apply Kd.R_drew)); exact HO216.out⟩, ⟨by repeat (first | (with_reducible first | exact HB.out | apply below_alloc | apply pw_below_drewN | apply below_drew1) | exact HB.out)⟩⟩
              · rw [if_neg c7] at H
                exact absurd H (by simp)
          · rw [if_neg c5] at H
            exact absurd H (by simp)
        · rw [if_neg c4] at H
          have c4b0 : decide (x6_1 < 20) = false := decide_eq_false c4
          clear c4
          obtain rfl := Option.some.inj H
          go_wp2
          go_ret
          exact ⟨_, by first | rfl | (simp [errW_none, errW_some] <;> rfl) | (simp [*, errW_none, errW_some] <;> rfl), by (with_reducible repeat (first | apply Kd.R_alloc | apply Kd.R_drewN | apply Kd.R_drew)); exact HO_5.out, by repeat (first | (with_reducible first | exact HB.out | apply below_alloc | apply pw_below_drewN | apply below_drew1) | exact HB.out)⟩
      · rw [if_neg c3] at H
        have c3b0 : decide (x6_1 < (l0.length : Int)) = false := decide_eq_false c3
        clear c3
        obtain rfl := Option.some.inj H
        go_wp2
        go_ret
        exact ⟨_, by first | rfl | (simp [errW_none, errW_some] <;> rfl) | (simp [*, errW_none, errW_some] <;> rfl), by (with_reducible repeat (first | apply Kd.R_alloc | apply Kd.R_drewN | apply Kd.R_drew)); exact HO_5.out, by repeat (first | (with_reducible first | exact HB.out | apply below_alloc | apply pw_below_drewN | apply below_drew1) | exact HB.out)⟩
open Go.Proofs.He
theorem placesL_self {n : Nat} {A : List Int} (hA : A.Pairwise (· < ·)) (hin : ∀ x ∈ A, 0 ≤ x ∧ x < (n : Int)) : placesL n A = A :=
  rises_eq (riseL_spec _).1 hA (fun x => ⟨fun h => (placesL_mem.1 h).1, fun h => placesL_mem.2 ⟨h, hin x h⟩⟩)
theorem powers_mem {n : Nat} {g : List (List Int)} {pw : Int → Bool} {A : List Int} (hA : A.Pairwise (· < ·)) (hin : ∀ x ∈ A, 0 ≤ x ∧ x < (n : Int)) {x : Int} : x ∈ powersL n g pw A ↔ x ∈ A ∧ Rch g (A.filter pw) x := by
  unfold powersL
  rw [placesL_self hA hin, List.mem_filter, decide_eq_true_eq, mem_rchL]
theorem Rch_firstE {g : List (List Int)} (hg : ∀ n, n < g.length → ∀ x ∈ g.getD n [], 0 ≤ x ∧ x < (n : Int)) {l : List Int} {x : Int} : Rch g l x ↔ (x ∈ l ∧ 0 ≤ x ∧ x < g.length) ∨ ∃ y ∈ l, (0 ≤ y ∧ y < g.length) ∧ Rch g (g.getD y.toNat []) x := by
  have goes : ∀ {a b : Int}, 0 ≤ a → a < g.length → b ∈ g.getD a.toNat [] → goesTo g a b := fun h0 h1 hb => ⟨h0, hb, (hg _ (by omega) _ hb).1, by have := (hg _ (by omega) _ hb).2; omega⟩
  constructor
  · intro h
    induction h with
    | base h1 h2 h3 => exact .inl ⟨h1, h2, h3⟩
    | @step a b h1 h2 ih =>
      rcases ih with ⟨ha, h3, h4⟩ | ⟨y, hy, hv, hr⟩
      · exact .inr ⟨a, ha, ⟨h3, h4⟩, .base h2.2.1 h2.2.2.1 (by have := h2.2.2.2; omega)⟩
      · exact .inr ⟨y, hy, hv, .step hr h2⟩
  · rintro (⟨h1, h2, h3⟩ | ⟨y, hy, hv, hr⟩)
    · exact .base h1 h2 h3
    · exact hr.mono (fun z h1 h2 h3 => .step (.base hy hv.1 hv.2) (goes hv.1 hv.2 h1))
theorem powers_want {n : Nat} {g : List (List Int)} (hg : ∀ n, n < g.length → ∀ x ∈ g.getD n [], 0 ≤ x ∧ x < (n : Int)) (hgl : g.length = n) {pw : Int → Bool} {A : List Int} (hA : A.Pairwise (· < ·)) (hin : ∀ x ∈ A, 0 ≤ x ∧ x < (n : Int)) {x : Int} (hx : x ∈ A) :
    x ∈ powersL n g pw A ↔ pw x = true ∨ ∃ y ∈ A, pw y = true ∧ x ∈ rchL g (g.getD y.toNat []) := by
  rw [powers_mem hA hin, Rch_firstE hg]
  constructor
  · rintro ⟨_, ⟨h, _⟩ | ⟨y, hy, _, h⟩⟩
    · exact .inl (List.mem_filter.1 h).2
    · exact .inr ⟨y, (List.mem_filter.1 hy).1, (List.mem_filter.1 hy).2, mem_rchL.2 h⟩
  · rintro (h | ⟨y, hy, hp, h⟩)
    · exact ⟨hx, .inl ⟨List.mem_filter.2 ⟨hx, h⟩, (hin x hx).1, by have := (hin x hx).2; omega⟩⟩
    · exact ⟨hx, .inr ⟨y, List.mem_filter.2 ⟨hy, hp⟩, ⟨(hin y hy).1, by have := (hin y hy).2; omega⟩, mem_rchL.1 h⟩⟩
theorem powers_rise {n : Nat} {g : List (List Int)} {pw : Int → Bool} {A : List Int} (hA : A.Pairwise (· < ·)) (hin : ∀ x ∈ A, 0 ≤ x ∧ x < (n : Int)) : (powersL n g pw A).Pairwise (· < ·) ∧ (∀ x ∈ powersL n g pw A, 0 ≤ x ∧ x < (n : Int)) ∧ (powersL n g pw A).length ≤ A.length := by
  have e : powersL n g pw A = A.filter fun x => decide (x ∈ rchL g (A.filter pw)) := by unfold powersL; rw [placesL_self hA hin]
  refine ⟨by rw [e]; exact hA.filter _, fun x hx => hin x ((powers_mem hA hin).1 hx).1, by rw [e]; exact List.length_filter_le _ _⟩
theorem powers_again {n : Nat} {g : List (List Int)} (hgl : g.length = n) {pw : Int → Bool} {A : List Int} (hA : A.Pairwise (· < ·)) (hin : ∀ x ∈ A, 0 ≤ x ∧ x < (n : Int)) : powersL n g pw (powersL n g pw A) = powersL n g pw A := by
  obtain ⟨h1, h2, _⟩ := powers_rise (g := g) (pw := pw) hA hin
  refine rises_eq (powers_rise h1 h2).1 h1 (fun x => ?_)
  rw [powers_mem h1 h2]
  refine ⟨fun h => h.1, fun h => ⟨h, ?_⟩⟩
  refine Rch.mono (fun y hy h0 hl => ?_) ((powers_mem hA hin).1 h).2
  exact .base (List.mem_filter.2 ⟨(powers_mem hA hin).2 ⟨(List.mem_filter.1 hy).1, .base hy h0 hl⟩, (List.mem_filter.1 hy).2⟩) h0 hl
theorem hasD_ev (l : List Int) (n : Int) (hl : l.length < 9223372036854775807) : Ev (fun k => heliastref12_Has.f k l n) (decide (n ∈ l)) := by
  have h : ∀ (d i : Nat), l.length - i = d → (∀ (j : Nat), j < i → l[j]? ≠ some n) → Ev (fun k => heliastref12_Has.l0 k l n (i : Int)) (decide (n ∈ l)) := by
    intro d
    induction d with
    | zero =>
      intro i hd hn
      have e : decide (n ∈ l) = false := decide_eq_false (fun h => by
        obtain ⟨j, hj, e⟩ := List.getElem_of_mem h
        exact hn j (by omega) (by rw [List.getElem?_eq_getElem hj, e]))
      rw [e]
      exact Ev.step (f := fun _ => some false) (fun k => by show heliastref12_Has.l0 (k + 1) l n i = _; rw [heliastref12_Has.l0, if_neg (by omega)]) (Ev.now _)
    | succ d ih =>
      intro i hd hn
      by_cases e2 : rd l (i : Int) = n
      · have hi : l[i]? = some n := by rw [← e2, rd, Int.toNat_natCast, List.getD_eq_getElem?_getD, List.getElem?_eq_getElem (by omega)]; rfl
        have e : decide (n ∈ l) = true := decide_eq_true (List.mem_of_getElem? hi)
        rw [e]
        exact Ev.step (f := fun _ => some true) (fun k => by show heliastref12_Has.l0 (k + 1) l n i = _; rw [heliastref12_Has.l0, if_pos (by omega), if_pos (by omega), if_pos e2]) (Ev.now _)
      · refine Ev.step (fun k => by show heliastref12_Has.l0 (k + 1) l n i = _; rw [heliastref12_Has.l0, if_pos (by omega), if_pos (by omega), if_neg e2, show wrap64 ((i : Int) + 1) = ((i + 1 : Nat) : Int) by unfold wrap64; omega]) (ih (i + 1) (by omega) (fun j hj e => ?_))
        by_cases hji : j = i
        · subst hji
          exact e2 (by rw [rd, Int.toNat_natCast, List.getD_eq_getElem?_getD, e]; rfl)
        · exact hn j (by omega) e
  exact h _ 0 rfl (fun j hj => absurd hj (Nat.not_lt_zero _))
theorem set_ev (n : Nat) (xs : List Int) (hn : n ≤ 1000) (hx : xs.length < 1000000) : ∃ r : List Int, Ev (fun k => heliastlaw17_set.f k (n : Int) xs) r ∧ r.Pairwise (· < ·) ∧ (∀ x, x ∈ r ↔ x ∈ xs ∧ 0 ≤ x ∧ x < (n : Int)) ∧ r.length ≤ n := by
  have h : ∀ (d i : Nat) (o : List Int), n - i = d → i ≤ n → o.Pairwise (· < ·) → (∀ x, x ∈ o ↔ x ∈ xs ∧ 0 ≤ x ∧ x < (i : Int)) → o.length ≤ i → ∃ r : List Int, Ev (fun k => heliastlaw17_set.l0 k (n : Int) xs o (i : Int)) r ∧ r.Pairwise (· < ·) ∧ (∀ x, x ∈ r ↔ x ∈ xs ∧ 0 ≤ x ∧ x < (n : Int)) ∧ r.length ≤ n := by
    intro d
    induction d with
    | zero =>
      intro i o hd hi hp hm ho
      have e : i = n := by omega
      subst e
      exact ⟨o, Ev.step (f := fun _ => some o) (fun k => by show heliastlaw17_set.l0 (k + 1) _ xs o i = _; rw [heliastlaw17_set.l0, if_neg (by omega)]) (Ev.now _), hp, hm, ho⟩
    | succ d ih =>
      intro i o hd hi hp hm ho
      have hw : wrap64 ((i : Int) + 1) = ((i + 1 : Nat) : Int) := by unfold wrap64; omega
      have hb := hasD_ev xs (i : Int) (by omega)
      by_cases hc : (i : Int) ∈ xs
      · rw [decide_eq_true hc] at hb
        obtain ⟨r, hr, hq⟩ := ih (i + 1) (o ++ [(i : Int)]) (by omega) (by omega) (List.pairwise_append.2 ⟨hp, List.pairwise_singleton _ _, fun a ha b hb => by rw [List.mem_singleton.1 hb]; exact ((hm a).1 ha).2.2⟩) (fun x => by
          rw [List.mem_append, hm, List.mem_singleton]
          constructor
          · rintro (⟨h1, h2, h3⟩ | rfl)
            · exact ⟨h1, h2, by omega⟩
            · exact ⟨hc, by omega, by omega⟩
          · rintro ⟨h1, h2, h3⟩
            by_cases e : x = (i : Int)
            · exact .inr e
            · exact .inl ⟨h1, h2, by omega⟩) (by simp; omega)
        exact ⟨r, Ev.step (fun k => by show heliastlaw17_set.l0 (k + 1) _ xs o i = _; rw [heliastlaw17_set.l0, if_pos (by omega)]) (Ev.bind hb (Ev.congr (fun k => by rw [if_pos rfl, if_pos (by omega), hw]) hr)), hq⟩
      · rw [decide_eq_false hc] at hb
        obtain ⟨r, hr, hq⟩ := ih (i + 1) o (by omega) (by omega) hp (fun x => by
          rw [hm]
          constructor
          · rintro ⟨h1, h2, h3⟩; exact ⟨h1, h2, by omega⟩
          · rintro ⟨h1, h2, h3⟩
            by_cases e : x = (i : Int)
            · subst e; exact absurd h1 hc
            · exact ⟨h1, h2, by omega⟩) (by omega)
        exact ⟨r, Ev.step (fun k => by show heliastlaw17_set.l0 (k + 1) _ xs o i = _; rw [heliastlaw17_set.l0, if_pos (by omega)]) (Ev.bind hb (Ev.congr (fun k => by rw [if_neg (by decide), hw]) hr)), hq⟩
  obtain ⟨r, hr, hq⟩ := h n 0 [] rfl (Nat.zero_le _) List.Pairwise.nil (fun x => ⟨fun h => (nomatch h), fun h => by have := h.2.1; have := h.2.2; omega⟩) (Nat.le_refl _)
  exact ⟨r, Ev.congr (fun k => rfl) hr, hq⟩
theorem some_ev (ds : List Int) (n : Nat) (hn : n ≤ 1000) : ∃ r : List Int, Ev (fun k => heliastlaw17_Some.f k ds (n : Int)) r ∧ r.length ≤ 20 := by
  have hz : ¬ wrap64 ((n : Int) + 2) = 0 := by unfold wrap64; omega
  have h : ∀ (d i : Nat) (o : List Int), 20 - i = d → i ≤ 20 → o.length ≤ i → ∃ r : List Int, Ev (fun k => heliastlaw17_Some.l0 k ds (n : Int) o (i : Int)) r ∧ r.length ≤ 20 := by
    intro d
    induction d with
    | zero =>
      intro i o hd hi ho
      refine ⟨o, Ev.step (f := fun _ => some o) (fun k => ?_) (Ev.now _), by omega⟩
      show heliastlaw17_Some.l0 (k + 1) ds _ o i = _
      rw [heliastlaw17_Some.l0]
      by_cases h1 : (i : Int) < (ds.length : Int)
      · rw [if_pos h1, if_neg (by omega)]
      · rw [if_neg h1]
    | succ d ih =>
      intro i o hd hi ho
      by_cases h1 : (i : Int) < (ds.length : Int)
      · obtain ⟨r, hr, hq⟩ := ih (i + 1) (o ++ [wrap64 ((Int.tmod (wrap64 (rd ds (i : Int))) (wrap64 ((n : Int) + 2))) - 1)]) (by omega) (by omega) (by simp; omega)
        refine ⟨r, Ev.step (fun k => ?_) hr, hq⟩
        show heliastlaw17_Some.l0 (k + 1) ds _ o i = _
        rw [heliastlaw17_Some.l0, if_pos h1, if_pos (by omega), if_pos (by omega), if_neg hz, if_pos (by omega), show wrap64 ((i : Int) + 1) = ((i + 1 : Nat) : Int) from (by clear hz; unfold wrap64; omega)]
      · refine ⟨o, Ev.step (f := fun _ => some o) (fun k => ?_) (Ev.now _), by omega⟩
        show heliastlaw17_Some.l0 (k + 1) ds _ o i = _
        rw [heliastlaw17_Some.l0, if_neg h1]
  obtain ⟨r, hr, hq⟩ := h _ 0 [] rfl (Nat.zero_le _) (Nat.zero_le _)
  exact ⟨r, Ev.congr (fun k => rfl) hr, hq⟩
theorem same_self_ev (l : List Int) (hl : l.length < 9223372036854775807) : Ev (fun k => heliastref12_Same.f k l l) true := by
  have h : ∀ (d i : Nat), l.length - i = d → Ev (fun k => heliastref12_Same.l0 k l l (i : Int)) true := by
    intro d
    induction d with
    | zero =>
      intro i hd
      exact Ev.step (f := fun _ => some true) (fun k => by show heliastref12_Same.l0 (k + 1) l l i = _; rw [heliastref12_Same.l0, if_neg (by omega)]) (Ev.now _)
    | succ d ih =>
      intro i hd
      exact Ev.step (fun k => by show heliastref12_Same.l0 (k + 1) l l i = _; rw [heliastref12_Same.l0, if_pos (by omega), if_pos (by omega), if_pos (by omega), if_pos rfl, show wrap64 ((i : Int) + 1) = ((i + 1 : Nat) : Int) by unfold wrap64; omega]) (ih (i + 1) (by omega))
  exact Ev.congr (fun k => by show heliastref12_Same.f k l l = _; rw [heliastref12_Same.f, if_pos rfl]; rfl) (h _ 0 rfl)
theorem past_in (g : List (List Int)) (y : Int) (h0 : 0 ≤ y) (h1 : y < (g.length : Int)) (hg : g.length < 17592186044416) : graph_Past.f g y = some (rchL g (g.getD y.toNat [])) := by
  rw [graph_Past.f, if_neg (by omega), if_neg (by omega), if_pos h0, if_pos h1, graph_Reach.f, if_pos hg]; rfl
theorem DqP.dm : ∀ (d : Nat) (v : SVl), Dq d v → Dm d v
  | 0, _, h => h
  | d + 1, v, h => ⟨h.1, h.2.1, fun y hy => DqP.dm d y (h.2.2 y hy)⟩
theorem rchL_len (g : List (List Int)) (l : List Int) : (rchL g l).length ≤ g.length := by
  unfold rchL pickL
  exact Nat.le_trans (List.length_filter_le _ _) (by simp)
def wantJ (g : List (List Int)) (pw : Int → Bool) (A : List Int) (n : Int) (j : Nat) : Bool := pw n || (A.take j).any fun y => pw y && decide (n ∈ rchL g (g.getD y.toNat []))
theorem wantJ_succ {g : List (List Int)} {pw : Int → Bool} {A : List Int} {n y : Int} {j : Nat} (h : A[j]? = some y) : wantJ g pw A n (j + 1) = (wantJ g pw A n j || (pw y && decide (n ∈ rchL g (g.getD y.toNat [])))) := by
  unfold wantJ
  rw [List.take_add_one, h, Option.toList_some, List.any_append, Bool.or_assoc]
  simp
theorem wantJ_all {g : List (List Int)} {pw : Int → Bool} {A : List Int} {n : Int} : wantJ g pw A n A.length = decide (pw n = true ∨ ∃ y ∈ A, pw y = true ∧ n ∈ rchL g (g.getD y.toNat [])) := by
  unfold wantJ
  rw [List.take_length]
  rw [Bool.eq_iff_iff, decide_eq_true_eq, Bool.or_eq_true, List.any_eq_true]
  simp only [Bool.and_eq_true, decide_eq_true_eq]
set_option maxHeartbeats 1500000 in
set_option maxRecDepth 100000 in
theorem law17_OrderPowers.walk (A0 : Option Addr) (c0 : Nat) (cs : List Int) (A1 : Option Addr) (c1 : Nat) (ds : List Int) (w : World) (hr0 : (Kd.int .u8).C w A0 cs.length cs) (hc0 : cs.length ≤ c0) (hcb : ∀ x ∈ cs, 0 ≤ x ∧ x < 256) (hr1 : (Kd.int .u8).C w A1 ds.length ds) (hc1 : ds.length ≤ c1) :
    Calls Try.prog 7 #[.slice A0 cs.length c0, .slice A1 ds.length c1] w fun e w' => e = .returned (.bool true) ∧ Below w.heap.size w w' := by
  have hu34 := Try.underlying34
  have HRM := Aside0.mk (Room.walk A0 c0 cs w hr0 hc0 hcb)
  have HR1 := Aside0.mk hr1
  have HC1 := Aside0.mk hc1
  clear hr0 hc0 hcb hr1 hc1
  go_enter Try.func7, Try.ntmps7
  go_upto_region 2 with (go_at_call 18; refine HRM.out.mono ?_; rintro e W1 ⟨l, g, AL, cL, AG, cG, rfl, hN, hG, hroom, hl0, hl18, hb1⟩; replace hN := Aside0.mk hN; replace hG := Aside0.mk hG; replace hroom := Aside0.mk hroom; replace hb1 := Aside0.mk hb1)
  have HCL := Aside0.mk (Kd.N_reads' hN.out)
  have HCG := Aside0.mk (Kd.N_reads' hG.out)
  clear HRM hN hG
  have HGL := Aside0.mk hroom.out.len
  have HBK : Aside0 (∀ n, n < g.length → ∀ x ∈ g.getD n [], 0 ≤ x ∧ x < (n : Int)) := ⟨fun n hn x hx => hroom.out.edges n _ (by rw [List.getD_eq_getElem?_getD, List.getElem?_eq_getElem hn]; rfl) x hx⟩
  have hpx : ∀ x : Int, ∃ b : Bool, 0 ≤ x → x < (l.length : Int) → PowOf (rd_T34 l x) b := fun x => by
    by_cases h : 0 ≤ x ∧ x < (l.length : Int)
    · obtain ⟨b, hb⟩ := Power.any (rd_T34 l x) (DqP.dm _ _ (hroom.out.deep _ (by show l.getD _ _ ∈ l; rw [List.getD_eq_getElem?_getD, List.getElem?_eq_getElem (by omega)]; exact List.getElem_mem _))) (by decide)
      exact ⟨b, fun _ _ => hb⟩
    · exact ⟨false, fun h0 h1 => absurd ⟨h0, h1⟩ h⟩
  obtain ⟨pw, hpw⟩ : ∃ pw : Int → Bool, ∀ x, 0 ≤ x → x < (l.length : Int) → PowOf (rd_T34 l x) (pw x) := ⟨fun x => Classical.choose (hpx x), fun x => Classical.choose_spec (hpx x)⟩
  have HPW := Aside0.mk hpw
  obtain ⟨xs, hxe, hx20⟩ := some_ev ds l.length (by omega)
  obtain ⟨kx, hkx⟩ := hxe.rounds
  obtain ⟨A, hAe, hAr, hAm, hAl⟩ := set_ev l.length xs (by omega) (by omega)
  obtain ⟨kA, hkA⟩ := hAe.rounds
  have HAR := Aside0.mk hAr
  have HAI : Aside0 (∀ x ∈ A, 0 ≤ x ∧ x < (l.length : Int)) := ⟨fun x hx => ((hAm x).1 hx).2⟩
  have hA18 : A.length ≤ 18 := by omega
  have HSO : Aside0 (∀ W, Below w.heap.size w W → Calls Try.prog 29 #[.slice A1 ds.length c1, .int .i64 (l.length : Int)] W fun e w' => ∃ (B : Option Addr) (d : Nat), e = .returned (.slice B xs.length d) ∧ xs.length ≤ d ∧ (Kd.int .i64).C w' B xs.length xs ∧ Below W.heap.size W w') := ⟨fun W hW => (heliastlaw17_Some.calls kx A1 c1 ds _ xs W (Kd.C_below HR1.out hW) HC1.out hkx).mono (by
    rintro e w' ⟨v, rfl, hr, hb⟩
    obtain ⟨B, d, rfl, h1, h2⟩ := Kd.R_reads hr
    exact ⟨B, d, rfl, h1, h2, hb⟩)⟩
  have HSE : Aside0 (∀ (W : World) (B : Option Addr) (d : Nat), xs.length ≤ d → (Kd.int .i64).C W B xs.length xs → Calls Try.prog 28 #[.int .i64 (l.length : Int), .slice B xs.length d] W fun e w' => ∃ (B' : Option Addr) (d' : Nat), e = .returned (.slice B' A.length d') ∧ A.length ≤ d' ∧ (Kd.int .i64).C w' B' A.length A ∧ Below W.heap.size W w') := ⟨fun W B d h1 h2 => (heliastlaw17_set.calls kA _ B d xs A W h2 h1 hkA).mono (by
    rintro e w' ⟨v, rfl, hr, hb⟩
    obtain ⟨B, d, rfl, h1, h2⟩ := Kd.R_reads hr
    exact ⟨B, d, rfl, h1, h2, hb⟩)⟩
  obtain ⟨out, hout⟩ : ∃ out, out = powersL l.length g pw A := ⟨_, rfl⟩
  have hwant := fun x (hx : x ∈ A) => powers_want HBK.out HGL.out hAr HAI.out (pw := pw) hx
  obtain ⟨ho1, ho2, ho3⟩ := powers_rise (g := g) (pw := pw) hAr HAI.out
  have hag := powers_again HGL.out hAr HAI.out (pw := pw)
  rw [← hout] at ho1 ho2 ho3 hag
  have HWA : Aside0 (∀ x ∈ A, decide (x ∈ out) = wantJ g pw A x A.length) := ⟨fun x hx => by rw [wantJ_all, hout]; exact decide_eq_decide.2 (hwant x hx)⟩
  have HPO : Aside0 (∀ (W : World) (ys zs : List Int) (B : Option Addr) (d : Nat), Below W1.heap.size W1 W → ys.length ≤ 18 → (Kd.int .i64).C W B ys.length ys → powersL l.length g pw ys = zs → Calls Try.prog 30 #[.slice AL l.length cL, .slice AG g.length cG, .slice B ys.length d] W fun e w' => ∃ (B' : Option Addr) (d' : Nat), e = .returned (.slice B' zs.length d') ∧ zs.length ≤ d' ∧ (Kd.int .i64).C w' B' zs.length zs ∧ Below W.heap.size W w') := ⟨fun W ys zs B d hW hl hC hz => (order_Powers.walk AL cL l AG cG g B d ys pw W (Kd.C_below HCL.out.2.2 hW) (Kd.C_below HCG.out.2.2 hW) HCG.out.2.1 hC (by omega) (by have := HGL.out; omega) HPW.out).mono (by
    rintro e w' ⟨v, rfl, hr, hb⟩
    rw [hz] at hr
    obtain ⟨B, d, rfl, h1, h2⟩ := Kd.R_reads hr
    exact ⟨B, d, rfl, h1, h2, hb⟩)⟩
  have HO1 := Aside0.mk ho1
  have HO2 := Aside0.mk ho2
  have HAG := Aside0.mk hag
  have HOU := Aside0.mk hout
  have HO3 := Aside0.mk ho3
  have HOL : Aside0 (out.length ≤ 18) := ⟨by omega⟩
  clear hxe hkx hAe hkA hAr hAm hAl hpx hpw hwant ho1 ho2 ho3 hag hout
  go_upto_region 3 with (first
    | (go_at_call 29; refine (HSO.out _ hb1.out).mono ?_; rintro e w2 ⟨B2, d2, rfl, hd2, hC2, hb2⟩; have HC2 := Aside0.mk hC2; have HD2 := Aside0.mk hd2; have HB2 := Aside0.mk hb2; clear hC2 hd2 hb2)
    | (go_at_call 28; refine (HSE.out _ B2 d2 HD2.out HC2.out).mono ?_; rintro e w3 ⟨B3, d3, rfl, hd3, hC3, hb3⟩; have HC3 := Aside0.mk hC3; have HB3 := Aside0.mk (below_then HB2.out HB2.out.size hb3); clear hC3 hd3 hb3))
  have HPA := Aside0.mk (HPO.out w3 A out B3 d3 HB3.out hA18 HC3.out HOU.out.symm)
  clear HSO HSE HC2 HD2 HB2 HOU
  go_upto_block 0 with (go_at_call 30; refine HPA.out.mono ?_; rintro e w4 ⟨B4, d4, rfl, hd4, hC4, hb4⟩; have HC4 := Aside0.mk hC4; have HD4 := Aside0.mk hd4; have HB4 := Aside0.mk hb4; clear hC4 hd4 hb4)
  have HCA := Aside0.mk (Kd.C_below HC3.out HB4.out)
  have HBL4 := Aside0.mk (below_then HB3.out HB3.out.size HB4.out)
  clear HPA HC3 HB3 HB4
  go_cut [] (fun wx => Aside0 (Below w4.heap.size w4 wx))
  case first =>
    have HB0 := Aside0.mk (Below.refl w4.heap.size w4)
    clear HPO HR1 HC1 HAG HO1 HO2 HO3
    go_wp2_with fail
    go_loopg [9] A.length (fun gg v9 wr => ∃ i : Nat, i ≤ A.length ∧ A.length - i ≤ gg ∧ v9 = .int .i64 (i : Int) ∧ Aside0 (Below w4.heap.size w4 wr))
    case atStart => exact ⟨0, Nat.zero_le _, by omega, rfl, HB0⟩
    case round =>
      obtain ⟨i, hi, hgg, rfl, HB⟩ := hrel
      by_cases hlt : i < A.length
      · have hltz : (i : Int) < (A.length : Int) := by omega
        obtain ⟨ad, e, hx0⟩ := C_num HCA.out hlt
        cases e
        have hnA : A[i] ∈ A := List.getElem_mem hlt
        obtain ⟨n, hn⟩ : ∃ n, n = A[i] := ⟨_, rfl⟩
        rw [← hn] at hx0 hnA
        obtain ⟨hn0, hn1⟩ := HAI.out n hnA
        replace hx0 := pw_cell_below HB.out hx0
        have hbW := below_then HBL4.out HBL4.out.size HB.out
        obtain ⟨ad3, A6, c6, A7, c7, A13, c13, A14, c14, e, y0, y1, y2, y3, y4, y5, y6, y7, y8, y9, y10, y11, y12, y13, y14, l6, g6, l7, g7, l13, g13, l14, g14⟩ := at_T34 HCL.out.2.2 n hn0 hn1
        cases e
        replace y0 := pw_cell_below hbW y0
        replace y1 := pw_cell_below hbW y1
        replace y2 := pw_cell_below hbW y2
        replace y3 := pw_cell_below hbW y3
        replace y4 := pw_cell_below hbW y4
        replace y5 := pw_cell_below hbW y5
        replace y6 := pw_cell_below hbW y6
        replace y7 := pw_cell_below hbW y7
        replace y8 := pw_cell_below hbW y8
        replace y9 := pw_cell_below hbW y9
        replace y10 := pw_cell_below hbW y10
        replace y11 := pw_cell_below hbW y11
        replace y12 := pw_cell_below hbW y12
        replace y13 := pw_cell_below hbW y13
        replace y14 := pw_cell_below hbW y14
        have HP := Aside0.mk (HPW.out n hn0 hn1 A6 c6 A7 c7 A13 c13 A14 c14 wr (Kd.C_below g13 hbW) l13 (Kd.C_below g14 hbW) l14)
        clear l6 g6 l7 g7 l13 g13 l14 g14
        have HNA := Aside0.mk hnA
        clear hn hnA hbW
        go_upto_block 2 with (go_at_call 31; refine HP.out.mono ?_; rintro e w5 ⟨rfl, hb5⟩; have HB5 := Aside0.mk (below_then HB.out HB.out.size hb5); clear hb5)
        clear hx0 HP y0 y1 y2 y3 y4 y5 y6 y7 y8 y9 y10 y11 y12 y13 y14
        go_cut [11] from 29 to 75 (fun s11 wx => s11 = .bool (wantJ g pw A n A.length) ∧ Aside0 (Below w4.heap.size w4 wx))
        case first =>
          have hw0 : pw n = wantJ g pw A n 0 := by unfold wantJ; simp
          have HW0 := Aside0.mk hw0
          clear hw0
          go_wp2_with fail
          go_loopg [11, 12] A.length (fun gg v11 v12 wr2 => ∃ (j : Nat) (b : Bool), j ≤ A.length ∧ A.length - j ≤ gg ∧ v12 = .int .i64 (j : Int) ∧ v11 = .bool b ∧ Aside0 (b = wantJ g pw A n j) ∧ Aside0 (Below w4.heap.size w4 wr2))
          case atStart => exact ⟨0, pw n, Nat.zero_le _, by omega, rfl, rfl, HW0, HB5⟩
          case round =>
            obtain ⟨j, b, hj, hgg2, rfl, rfl, HW, HBJ⟩ := hrel
            by_cases hlt2 : j < A.length
            · have hltz2 : (j : Int) < (A.length : Int) := by omega
              have hyA : A[j] ∈ A := List.getElem_mem hlt2
              obtain ⟨ad2, e, hx2⟩ := C_num HCA.out hlt2
              cases e
              have HS2 := Aside0.mk (wantJ_succ (g := g) (pw := pw) (n := n) (List.getElem?_eq_getElem hlt2))
              obtain ⟨y, hy⟩ : ∃ y, y = A[j] := ⟨_, rfl⟩
              rw [← hy] at hx2 hyA HS2
              obtain ⟨hy0, hy1⟩ := HAI.out y hyA
              clear hy hyA
              replace hx2 := pw_cell_below HBJ.out hx2
              rcases b with _ | _
              · have hbW := below_then HBL4.out HBL4.out.size HBJ.out
                obtain ⟨ad3, A6, c6, A7, c7, A13, c13, A14, c14, e, y0, y1, y2, y3, y4, y5, y6, y7, y8, y9, y10, y11, y12, y13, y14, l6, g6, l7, g7, l13, g13, l14, g14⟩ := at_T34 HCL.out.2.2 y hy0 hy1
                cases e
                replace y0 := pw_cell_below hbW y0
                replace y1 := pw_cell_below hbW y1
                replace y2 := pw_cell_below hbW y2
                replace y3 := pw_cell_below hbW y3
                replace y4 := pw_cell_below hbW y4
                replace y5 := pw_cell_below hbW y5
                replace y6 := pw_cell_below hbW y6
                replace y7 := pw_cell_below hbW y7
                replace y8 := pw_cell_below hbW y8
                replace y9 := pw_cell_below hbW y9
                replace y10 := pw_cell_below hbW y10
                replace y11 := pw_cell_below hbW y11
                replace y12 := pw_cell_below hbW y12
                replace y13 := pw_cell_below hbW y13
                replace y14 := pw_cell_below hbW y14
                have HP := Aside0.mk (HPW.out y hy0 hy1 A6 c6 A7 c7 A13 c13 A14 c14 wr (Kd.C_below g13 hbW) l13 (Kd.C_below g14 hbW) l14)
                clear l6 g6 l7 g7 l13 g13 l14 g14
                obtain ⟨py, hpy⟩ : ∃ py, py = pw y := ⟨_, rfl⟩
                rw [← hpy] at HP HS2
                have HBW := Aside0.mk hbW
                clear hpy hbW
                rcases py with _ | _
                · have HQ : Aside0 (false = wantJ g pw A n (j + 1)) := ⟨by rw [HS2.out, ← HW.out]; rfl⟩
                  go_wp2_with (go_at_call 31; refine HP.out.mono ?_; rintro e w6 ⟨rfl, hb6⟩; have HB6 := Aside0.mk (below_then HBJ.out HBJ.out.size hb6); clear hb6)
                  go_roundg (A.length - (j + 1))
                  case measure => omega
                  case rel => exact ⟨j + 1, false, by omega, by omega, by go_num, rfl, HQ, HB6⟩
                · obtain ⟨pl, hpl⟩ : ∃ pl, pl = rchL g (g.getD y.toNat []) := ⟨_, rfl⟩
                  rw [← hpl] at HS2
                  obtain ⟨q, hq⟩ : ∃ q, q = decide (n ∈ pl) := ⟨_, rfl⟩
                  rw [← hq] at HS2
                  have HQ : Aside0 (q = wantJ g pw A n (j + 1)) := ⟨by rw [HS2.out, ← HW.out]; rfl⟩
                  have hyg : y < (g.length : Int) := by have := HGL.out; omega
                  have hgl2 : g.length < 17592186044416 := by have := HGL.out; omega
                  have HPS : Aside0 (∀ W, Below W1.heap.size W1 W → Calls Try.prog 32 #[.slice AG g.length cG, .int .i64 y] W fun e w' => ∃ (B : Option Addr) (d : Nat), e = .returned (.slice B pl.length d) ∧ pl.length ≤ d ∧ (Kd.int .i64).C w' B pl.length pl ∧ Below W.heap.size W w') := ⟨fun W hW => (graph_Past.calls AG cG g y pl W (Kd.C_below HCG.out.2.2 hW) HCG.out.2.1 (by rw [hpl]; exact past_in g y hy0 hyg hgl2)).mono (by
                    rintro e w' ⟨v, rfl, hr, hb⟩
                    obtain ⟨B, d, rfl, h1, h2⟩ := Kd.R_reads hr
                    exact ⟨B, d, rfl, h1, h2, hb⟩)⟩
                  have hpll : pl.length < 9223372036854775807 := by rw [hpl]; exact Nat.lt_of_le_of_lt (rchL_len g _) (by omega)
                  obtain ⟨kh, hkh⟩ := (hasD_ev pl n hpll).rounds
                  rw [← hq] at hkh
                  have HHA : Aside0 (∀ (W : World) (B : Option Addr) (d : Nat), pl.length ≤ d → (Kd.int .i64).C W B pl.length pl → Calls Try.prog 24 #[.slice B pl.length d, .int .i64 n] W fun e w' => e = .returned (.bool q) ∧ Below W.heap.size W w') := ⟨fun W B d h1 h2 => (heliastref12_Has.calls kh B d pl n q W h2 h1 hkh).mono (fun e w' h => ⟨h.1, h.2.below⟩)⟩
                  have HX2 := Aside0.mk hx2
                  clear hpl hq hkh hyg hgl2 hpll
                  go_wp2_with (first
                    | (go_at_call 31; refine HP.out.mono ?_; rintro e w6 ⟨rfl, hb6⟩; have HB6 := Aside0.mk (below_then HBJ.out HBJ.out.size hb6); have hx6 := pw_cell_below hb6 HX2.out; have HBW6 := Aside0.mk (below_then HBW.out HBW.out.size hb6); clear hb6)
                    | (go_at_call 32; refine (HPS.out _ HBW6.out).mono ?_; rintro e w7 ⟨B7, d7, rfl, hd7, hC7, hb7⟩; have HB7 := Aside0.mk (below_then HB6.out HB6.out.size hb7); have HC7 := Aside0.mk hC7; have HD7 := Aside0.mk hd7; clear hb7 hC7 hd7)
                    | (go_at_call 24; refine (HHA.out _ B7 d7 HD7.out HC7.out).mono ?_; rintro e w8 ⟨rfl, hb8⟩; have HB8 := Aside0.mk (below_then HB7.out HB7.out.size hb8); clear hb8))
                  go_roundg (A.length - (j + 1))
                  case measure => omega
                  case rel => exact ⟨j + 1, q, by omega, by omega, by go_num, rfl, HQ, HB8⟩
              · have HQ : Aside0 (true = wantJ g pw A n (j + 1)) := ⟨by rw [HS2.out, ← HW.out]; rfl⟩
                go_wp2_with fail
                go_roundg (A.length - (j + 1))
                case measure => omega
                case rel => exact ⟨j + 1, true, by omega, by omega, by go_num, rfl, HQ, HBJ⟩
            · have hltz2 : ¬ (j : Int) < (A.length : Int) := by omega
              have HJ : Aside0 (j = A.length) := ⟨by omega⟩
              go_wp2_with fail
              go_meet
              exact ⟨by rw [HW.out, HJ.out], HBJ⟩
        case rest =>
          obtain ⟨rfl, HB6⟩ := hcut
          obtain ⟨q, hq⟩ : ∃ q, q = wantJ g pw A n A.length := ⟨_, rfl⟩
          have hdo : decide (n ∈ out) = q := by rw [hq]; exact HWA.out n HNA.out
          have hol : out.length < 9223372036854775807 := by have := HC4.out.2.1; have := HOL.out; omega
          obtain ⟨kh, hkh⟩ := (hasD_ev out n hol).rounds
          rw [hdo] at hkh
          have HHO : Aside0 (∀ W, Below w4.heap.size w4 W → Calls Try.prog 24 #[.slice B4 out.length d4, .int .i64 n] W fun e w' => e = .returned (.bool q) ∧ Below W.heap.size W w') := ⟨fun W hW => (heliastref12_Has.calls kh B4 d4 out n q W (Kd.C_below HC4.out hW) HD4.out hkh).mono (fun e w' h => ⟨h.1, h.2.below⟩)⟩
          rw [← hq]
          clear hq hdo hol hkh
          go_wp2_with (go_at_call 24; refine (HHO.out _ HB6.out).mono ?_; rintro e w7 ⟨rfl, hb7⟩; have HB7 := Aside0.mk (below_then HB6.out HB6.out.size hb7); clear hb7)
          go_roundg (A.length - (i + 1))
          case measure => omega
          case rel => exact ⟨i + 1, by omega, by omega, by go_num, HB7⟩
      · have hltz : ¬ (i : Int) < (A.length : Int) := by omega
        go_wp2_with fail
        go_meet
        exact HB
  case rest =>
    have HB := hcut
    clear hcut
    obtain ⟨r, hre, hrr, hrm, -⟩ := set_ev l.length out (by omega) (by have := HO3.out; omega)
    have hro : r = out := rises_eq hrr HO1.out (fun x => by rw [hrm]; exact ⟨fun h => h.1, fun h => ⟨h, HO2.out x h⟩⟩)
    subst hro
    obtain ⟨ks, hks⟩ := hre.rounds
    obtain ⟨kq, hkq⟩ := (same_self_ev r (by have := HO3.out; omega)).rounds
    have HSE2 : Aside0 (∀ W, Below w4.heap.size w4 W → Calls Try.prog 28 #[.int .i64 (l.length : Int), .slice B4 r.length d4] W fun e w' => ∃ (B' : Option Addr) (d' : Nat), e = .returned (.slice B' r.length d') ∧ r.length ≤ d' ∧ (Kd.int .i64).C w' B' r.length r ∧ Below W.heap.size W w') := ⟨fun W hW => (heliastlaw17_set.calls ks _ B4 d4 r r W (Kd.C_below HC4.out hW) HD4.out hks).mono (by
      rintro e w' ⟨v, rfl, hr, hb⟩
      obtain ⟨B, d, rfl, h1, h2⟩ := Kd.R_reads hr
      exact ⟨B, d, rfl, h1, h2, hb⟩)⟩
    have HSA : Aside0 (∀ (W : World) (B : Option Addr) (d : Nat), Below w4.heap.size w4 W → r.length ≤ d → (Kd.int .i64).C W B r.length r → Calls Try.prog 33 #[.slice B r.length d, .slice B4 r.length d4] W fun e w' => e = .returned (.bool true) ∧ Below W.heap.size W w') := ⟨fun W B d hW h1 h2 => (heliastref12_Same.calls kq B d r B4 d4 r true W h2 h1 (Kd.C_below HC4.out hW) HD4.out hkq).mono (fun e w' h => ⟨h.1, h.2.below⟩)⟩
    have HPZ : Aside0 (∀ W, Below w4.heap.size w4 W → Calls Try.prog 30 #[.slice AL l.length cL, .slice AG g.length cG, .slice B4 r.length d4] W fun e w' => ∃ (B' : Option Addr) (d' : Nat), e = .returned (.slice B' r.length d') ∧ r.length ≤ d' ∧ (Kd.int .i64).C w' B' r.length r ∧ Below W.heap.size W w') := ⟨fun W hW => HPO.out W r r B4 d4 (below_then HBL4.out HBL4.out.size hW) (by have := HO3.out; omega) (Kd.C_below HC4.out hW) HAG.out⟩
    have HKN := Aside0.mk law17_known.walk
    have hle : (r.length : Int) ≤ (A.length : Int) := by have := HO3.out; omega
    clear hre hrr hrm hks hkq HPO HWA
    go_wp2_with (first
      | (go_at_call 21; refine (HKN.out _).mono ?_; rintro e w5 ⟨rfl, hb5⟩; have HB5 := Aside0.mk (below_then HB.out HB.out.size hb5); clear hb5)
      | (go_at_call 28; refine (HSE2.out _ HB5.out).mono ?_; rintro e w6 ⟨B6, d6, rfl, hd6, hC6, hb6⟩; have HB6 := Aside0.mk (below_then HB5.out HB5.out.size hb6); have HC6 := Aside0.mk hC6; have HD6 := Aside0.mk hd6; clear hb6 hC6 hd6)
      | (go_at_call 33; (with_reducible refine (HSA.out _ B6 d6 HB6.out HD6.out HC6.out).mono ?_); rintro e w7 ⟨rfl, hb7⟩; have HB7 := Aside0.mk (below_then HB6.out HB6.out.size hb7); clear hb7)
      | (go_at_call 30; refine (HPZ.out _ HB7.out).mono ?_; rintro e w8 ⟨B8, d8, rfl, hd8, hC8, hb8⟩; have HB8 := Aside0.mk (below_then HB7.out HB7.out.size hb8); have HC8 := Aside0.mk hC8; have HD8 := Aside0.mk hd8; clear hb8 hC8 hd8)
      | (go_at_call 33; (with_reducible refine (HSA.out _ B8 d8 HB8.out HD8.out HC8.out).mono ?_); rintro e w9 ⟨rfl, hb9⟩; have HB9 := Aside0.mk (below_then HB8.out HB8.out.size hb9); clear hb9))
    go_ret
    exact ⟨rfl, below_then hb1.out hb1.out.size (below_then HBL4.out HBL4.out.size HB9.out)⟩
theorem byteP {x : Int} (h : (Lit.int .u8 x).wf = true) : 0 ≤ x ∧ x < 256 := by
  simp only [Lit.wf, Bool.and_eq_true, decide_eq_true_eq] at h
  have h1 : (0 : Int) ≤ x := h.1
  have h2 : x ≤ (255 : Int) := h.2
  omega
theorem heliastlaw17_OrderPowers.calls (k : Nat) (A0 : Option Addr) (c0 : Nat) (l0 : List Int) (A1 : Option Addr) (c1 : Nat) (l1 : List Int) (r : Bool) (w : World) (hr0 : (Kd.int .u8).C w A0 l0.length l0) (hc0 : l0.length ≤ c0) (hr1 : (Kd.int .u8).C w A1 l1.length l1) (hc1 : l1.length ≤ c1)
    (h : ∀ x ∈ l0, (Lit.int .u8 x).wf = true) (hlaw : r = true) :
    Calls Try.prog 7 #[.slice A0 l0.length c0, .slice A1 l1.length c1] w fun e w' => e = .returned (.bool r) ∧ Below w.heap.size w w' := by
  subst hlaw
  exact law17_OrderPowers.walk A0 c0 l0 A1 c1 l1 w hr0 hc0 (fun x hx => byteP (h x hx)) hr1 hc1
end Go.Proofs.Ytmdjknkhjimgeaa.S
end

/- Parts of the walk and of the plain law, joined for this claim alone by a program of this session. -/
import Derived.Test.YtmdjknkhjimgeaaGreatTb1
import Derived.Test.YtmdjknkhjimgeaaGreatTb0
import Derived.Test.YtmdjknkhjimgeaaGreatTb2
import Derived.Test.YtmdjknkhjimgeaaGreatTb3
import Derived.Test.YtmdjknkhjimgeaaGreatTb4
section
namespace Go.Proofs.YtmdjknkhjimgeaaGreat.S
open Go.RowKit Go.Proofs.YtmdjknkhjimgeaaGreatW.PrintWords Go.Proofs.YtmdjknkhjimgeaaGreatW.PrintLast Go.Proofs.YtmdjknkhjimgeaaGreatW.PrintMore
attribute [local go_sem] max2_int min2_int max_two min_two max_three min_three max_four min_four
set_option linter.unusedVariables false
set_option linter.unusedSimpArgs false
open Go.Proofs.He
noncomputable def setK : KK Tryz.prog 3 Int := intK Tryz.underlying3
abbrev OwnSet (w : World) (b : Nat) (M : List (Int × Unit)) : Prop := Go.Proofs.He.Own setK unitV w b M
theorem zero130 (w : World) : (zeroValue 130).run Tryz.prog w = .ok (.agg #[]) w := by kernel_rfl
set_option maxHeartbeats 1000000 in
theorem set_has.walk (b : Nat) (M : List (Int × Unit)) (x : Int) (w : World) (h : OwnSet w b M) (hx : (Lit.int .i64 x).wf = true) :
    Calls Tryz.prog 73 #[.map (some b), .int .i64 x] w fun e w' => e = .returned (.bool (decide (x ∈ M.map (·.1)))) ∧ w' = w.alloc (.cells #[] 130) := by
  go_enter Tryz.func73, Tryz.ntmps73
  go_wp2_with (first | (at_lookup; refine wpList_mhas rfl _ _ 96 rfl setK 130 Tryz.underlying96 (zero130 _) b M rfl h x rfl hx ?_) | go_in)
  go_ret
  exact ⟨rfl, rfl⟩
set_option maxHeartbeats 1000000 in
theorem set_put.walk (b : Nat) (M : List (Int × Unit)) (x : Int) (w : World) (h : OwnSet w b M) (hx : (Lit.int .i64 x).wf = true) (hn : M.length < maxLen) :
    Calls Tryz.prog 104 #[.map (some b), .int .i64 x] w fun e w' => e = .returned (.tuple #[]) ∧ OwnSet w' b (putM M x ()) ∧ w.grownBy w' (some b) := by
  go_enter Tryz.func104, Tryz.ntmps104
  go_wp2_with (first | (at_mapUpdate; refine wpList_mput rfl _ _ _ 96 rfl setK unitV 130 Tryz.underlying96 b M rfl h hn x () rfl rfl hx trivial ?_; intro w1 hown1 hgrow1) | go_in)
  go_end0
  exact ⟨rfl, hown1, hgrow1⟩
theorem length_putM {M : List (Int × Unit)} {x : Int} : (putM M x ()).length ≤ M.length + 1 := by
  unfold putM delM; rw [List.length_cons]; have := List.length_filter_le (fun p : Int × Unit => decide (p.1 ≠ x)) M; omega
theorem mem_take_succ (l : List Int) (j : Nat) (hj : j < l.length) (x : Int) : x ∈ l.take (j + 1) ↔ x ∈ l.take j ∨ x = rd l j := by
  have e : rd l j = l[j] := by simp [rd, hj]
  rw [List.take_succ_eq_append_getElem hj, List.mem_append, List.mem_singleton, e]
structure OfInv (g : List (List Int)) (l : List Int) (w : World) (b j : Nat) (M : List (Int × Unit)) : Prop where
  own : OwnSet w b M
  len : M.length ≤ j
  mem : ∀ x, x ∈ M.map (·.1) ↔ x ∈ l.take j ∧ 0 ≤ x ∧ x < g.length
theorem OfInv.skip {g : List (List Int)} {l : List Int} {w : World} {b j : Nat} {M : List (Int × Unit)} (h : OfInv g l w b j M) (hj : j < l.length) (hx : ¬ (0 ≤ rd l j ∧ rd l j < g.length)) : OfInv g l w b (j + 1) M :=
  ⟨h.own, by have := h.len; omega, fun x => by
    rw [h.mem, mem_take_succ l j hj]
    constructor
    · rintro ⟨h1, h2⟩; exact ⟨.inl h1, h2⟩
    · rintro ⟨h1 | h1, h2⟩
      · exact ⟨h1, h2⟩
      · subst h1; exact absurd h2 hx⟩
theorem OfInv.put {g : List (List Int)} {l : List Int} {w w' : World} {b j : Nat} {M : List (Int × Unit)} (h : OfInv g l w b j M) (hj : j < l.length) {x : Int} (hx : x = rd l j) (h0 : 0 ≤ x) (h1 : x < g.length) (ho : OwnSet w' b (putM M x ())) : OfInv g l w' b (j + 1) (putM M x ()) := by
  subst hx; exact
  ⟨ho, by have := h.len; have := length_putM (M := M) (x := rd l j); omega, fun x => by
    rw [keys_putM, h.mem, mem_take_succ l j hj]
    constructor
    · rintro (rfl | ⟨h1, h2⟩)
      · exact ⟨.inr rfl, h0, h1⟩
      · exact ⟨.inl h1, h2⟩
    · rintro ⟨h1 | h1, h2⟩
      · exact .inr ⟨h1, h2⟩
      · exact .inl h1⟩
set_option maxHeartbeats 4000000 in
set_option maxRecDepth 100000 in
theorem graph_of.walk (A0 : Option Addr) (c0 : Nat) (g : List (List Int)) (A1 : Option Addr) (c1 : Nat) (l : List Int) (w : World) (hg : g.length ≤ 9223372036854775807) (hr1 : Kd.C (Kd.int .i64) w A1 l.length l) :
    Calls Tryz.prog 71 #[.slice A0 g.length c0, .slice A1 l.length c1] w fun e w' => ∃ b M, e = .returned (.map (some b)) ∧ w.heap.size ≤ b ∧ OwnSet w' b M ∧ (∀ x, x ∈ M.map (·.1) ↔ x ∈ l ∧ 0 ≤ x ∧ x < g.length) ∧ Below w.heap.size w w' := by
  have hmm := @run_makeMap Tryz.prog
  have hlen : l.length ≤ 9223372036854775807 := hr1.2.1
  have HR1 := Aside0.mk hr1
  clear hr1
  have HO := Aside0.mk (show OfInv g l (w.alloc (.map #[] 0)) w.heap.size 0 [] from ⟨Go.Proofs.He.Own.made _ _ _, Nat.le_refl _, by simp⟩)
  have HB := Aside0.mk ((Below.refl w.heap.size w).alloc (Nat.le_refl _) (Obj.map #[] 0))
  go_enter Tryz.func71, Tryz.ntmps71
  go_wp2
  clear hmm
  go_loopw [11] (fun v wr => ∃ (j : Nat) (M : List (Int × Unit)), v = .int .i64 j ∧ j ≤ l.length ∧ Aside0 (OfInv g l wr w.heap.size j M) ∧ Aside0 (Below w.heap.size w wr)) (fun v _ => l.length - (intOf v).toNat)
  case atStart => exact ⟨0, [], rfl, Nat.zero_le _, HO, HB⟩
  case round =>
    clear HO HB
    obtain ⟨j, M, rfl, hj, HI, HB⟩ := hrel
    by_cases hlt : j < l.length
    · obtain ⟨ad, e, hx⟩ := Kd.at_int (Kd.C_below HR1.out HB.out) (j : Int) (by omega) (by omega)
      cases e
      obtain ⟨x, hxd⟩ : ∃ x, x = rd l j := ⟨_, rfl⟩
      rw [← hxd, Int.toNat_natCast] at hx
      have HX := Aside0.mk hxd
      clear hxd
      have hm : M.length < maxLen := by have := HI.out.len; unfold maxLen; omega
      by_cases h0 : 0 ≤ x
      · by_cases h1 : x < g.length
        · have hwf : (Lit.int .i64 x).wf = true := WalkArith.wf_i64 (by omega)
          have HP := Aside0.mk (fun W (hW : OwnSet W w.heap.size M) => set_put.walk w.heap.size M x W hW hwf hm)
          clear hwf hm
          go_wp2_with (first | (go_at_call 104; refine (HP.out _ HI.out.own).mono ?_; rintro e w1 ⟨rfl, ho1, hg1⟩) | go_in)
          have HB1 := Aside0.mk (HB.out.grown hg1 HB.out.size (fun k e => by cases e; exact Nat.le_refl _))
          go_roundw
          case rel => exact ⟨j + 1, _, by go_num, by omega, ⟨HI.out.put hlt HX.out h0 h1 ho1⟩, HB1⟩
          case measure => simp [intOf]; omega
        · go_wp2
          go_roundw
          case rel => exact ⟨j + 1, M, by go_num, by omega, ⟨HI.out.skip hlt (by rw [← HX.out]; omega)⟩, HB⟩
          case measure => simp [intOf]; omega
      · go_wp2
        go_roundw
        case rel => exact ⟨j + 1, M, by go_num, by omega, ⟨HI.out.skip hlt (by rw [← HX.out]; omega)⟩, HB⟩
        case measure => simp [intOf]; omega
    · have hjl : j = l.length := by omega
      go_wp2
      go_ret
      exact ⟨_, M, rfl, Nat.le_refl _, HI.out.own, fun x => by rw [HI.out.mem, hjl, List.take_length], HB.out⟩
structure RiseInv (M : List (Int × Unit)) (w : World) (b r base : Nat) (v : Value) (xs todo : List Int) : Prop where
  it : Iter setK unitV w b r M todo
  row : (Kd.int .i64).R 3 w base (fun _ => True) v xs
  nodup : xs.Nodup
  mem : ∀ x, x ∈ xs ↔ x ∈ M.map (·.1) ∧ x ∉ todo
  len : xs.length + todo.length = M.length
theorem RiseInv.step {M : List (Int × Unit)} {w w2 : World} {b r base : Nat} {v v2 : Value} {xs todo : List Int} (h : RiseInv M w b r base v xs todo) {x : Int} (hx : x ∈ todo)
    (hi : Iter setK unitV w2 b r M (strikeL todo x)) (hr : (Kd.int .i64).R 3 w2 base (fun _ => True) v2 (xs ++ [x])) : RiseInv M w2 b r base v2 (xs ++ [x]) (strikeL todo x) where
  it := hi
  row := hr
  nodup := List.nodup_append.2 ⟨h.nodup, by simp, fun a ha b hb e => by rw [List.mem_singleton.1 hb] at e; subst e; exact ((h.mem a).1 ha).2 hx⟩
  mem z := by
    rw [List.mem_append, List.mem_singleton, h.mem, mem_strikeL]
    by_cases e : z = x
    · subst e; simp [h.it.sub z hx]
    · simp [e]
  len := by have := h.len; have := length_strike1 h.it.nodup hx; rw [List.length_append]; simp; omega
set_option maxHeartbeats 4000000 in
set_option maxRecDepth 100000 in
theorem set_rising.walk (b : Nat) (M : List (Int × Unit)) (w : World) (h : OwnSet w b M) (hlim : M.length < 17592186044416) :
    Calls Tryz.prog 78 #[.map (some b)] w fun e w' => ∃ v ys, e = .returned v ∧ (Kd.int .i64).R 3 w' w.heap.size (fun _ => True) v ys ∧ ys.Pairwise (· < ·) ∧ (∀ x, x ∈ ys ↔ x ∈ M.map (·.1)) ∧ Below w.heap.size w w' := by
  have HO := Aside0.mk h
  clear h
  go_enter Tryz.func78, Tryz.ntmps78
  go_wp2_with (first | (at_range; refine wpList_mrange rfl _ 96 rfl setK unitV 130 Tryz.underlying96 b M rfl HO.out ?_; intro w0 hi0 hg0 hs0) | go_in)
  go_frame
  have hb0 : b < w.heap.size := HO.out.lt
  have H0 := Aside0.mk (show RiseInv M w0 b w.heap.size w.heap.size (.slice none 0 0) [] (M.map (·.1)) from ⟨hi0, Kd.R_nil _ _ _ _ _, by simp, by simp, by simp⟩)
  have HB := Aside0.mk ((Below.refl w.heap.size w).grown hg0 (Nat.le_refl _) (fun k e => by cases e))
  clear hi0 hg0 hs0
  go_loopw [3] (fun v wr => ∃ (xs todo : List Int), Aside0 (RiseInv M wr b w.heap.size w.heap.size v xs todo) ∧ Aside0 (Below w.heap.size w wr)) (fun _ wr => wr.rangeLeft b w.heap.size)
  case atStart => exact ⟨[], _, H0, HB⟩
  case round =>
    clear H0 HB
    obtain ⟨xs, todo, HI, HB⟩ := hrel
    go_wp2_with (first | (at_next; refine wpList_mnext rfl _ rfl setK unitV b w.heap.size M rfl HI.out.it ?_ ?_) | go_in)
    · intro ht
      subst ht
      have HS := Aside0.mk (sort_int.walk HI.out.row (by have := HI.out.len; omega))
      go_wp2_with (first | (go_at_call 66; refine HS.out.mono ?_; rintro e w1 ⟨rfl, hr1, hg1⟩) | go_in)
      go_ret
      refine ⟨_, _, rfl, hr1, sort_rises HI.out.nodup, fun x => ?_, HB.out.grown hg1 HB.out.size (fun k e => ?_)⟩
      · rw [(List.mergeSort_perm _ _).mem_iff, HI.out.mem]; simp
      · exact own_base (Kd.R_own HI.out.row).choose_spec k e
    · intro x y w1 hx hxM hi1 hlt1 hg1 hs1 hen
      have hen' : (Instr.entry (.pointer (some ⟨w.heap.size, 0, none⟩))).run Tryz.prog w1 = .ok (.tuple #[.int .i64 x, .agg #[]]) w1 := hen
      clear hen
      have hrv : some w.heap.size ≠ u3.ownBlock := fun e => by
        obtain ⟨inner, ho⟩ := Kd.R_own HI.out.row
        obtain ⟨cells, hc⟩ := own_typed ho _ e.symm
        exact HI.out.it.off hc rfl
      have hbv : some b ≠ u3.ownBlock := fun e => by
        obtain ⟨inner, ho⟩ := Kd.R_own HI.out.row
        obtain ⟨cells, hc⟩ := own_typed ho _ e.symm
        exact HI.out.it.own.off hc rfl
      have HBV := Aside0.mk hbv
      have HRV := Aside0.mk hrv
      have HR1 := Aside0.mk (Kd.R_grown1 HI.out.row rfl hg1 hrv)
      have HB1 := Aside0.mk (HB.out.grown hg1 HB.out.size (fun k e => by cases e; exact Nat.le_refl _))
      have HG1 := Aside0.mk hlt1
      have HI1 := Aside0.mk hi1
      have HX := Aside0.mk hx
      have hl : (xs.length + 1) * 8 ≤ 140737488355328 := by have := HI.out.len; omega
      have HL := Aside0.mk hl
      have HSZ := Aside0.mk (show w.heap.size ≤ w1.heap.size from HB1.out.size)
      clear hg1 hlt1 hi1 hx hxM hl hs1 hrv hbv
      go_wp2_with (first | (at_builtin; refine Kd.R_append (Kd.int .i64) (w0 := w) w.heap.size rfl _ _ 27 3 (.int .i64 0) 8 rfl Tryz.underlying27 info3 rfl (by decide) (by omega) u3 xs x [.int .i64 x] (fun _ => True) (fun _ => False) rfl rfl rfl (fun _ hk => hk.elim) (fun _ _ => trivial) HR1.out HB1.out HSZ.out HL.out ?_; intro v2 w2 hr2 hb2 hg2 hat2) | go_in)
      go_roundw
      case rel => exact ⟨_, _, ⟨HI.out.step HX.out (HI1.out.grown hg2 HBV.out HRV.out) hr2⟩, ⟨hb2⟩⟩
      case measure => rw [HI1.out.left_grown hg2 HBV.out HRV.out]; exact HG1.out
structure ReachInv (g : List (List Int)) (l : List Int) (w : World) (b base : Nat) (v : Value) (L : List Int) (M : List (Int × Unit)) : Prop where
  own : OwnSet w b M
  row : (Kd.int .i64).R 3 w base (fun _ => True) v L
  nodup : L.Nodup
  sub : ∀ x ∈ L, x ∈ M.map (·.1)
  sound : ∀ x ∈ M.map (·.1), Rch g l x
  start : ∀ x ∈ l, 0 ≤ x → x < g.length → x ∈ M.map (·.1)
  closed : ∀ a ∈ M.map (·.1), a ∉ L → ∀ c, goesTo g a c → c ∈ M.map (·.1)
structure RoundInv (g : List (List Int)) (l : List Int) (w : World) (b base : Nat) (v : Value) (L : List Int) (M : List (Int × Unit)) (n : Int) (j : Nat) : Prop where
  own : OwnSet w b M
  row : (Kd.int .i64).R 3 w base (fun _ => True) v L
  nodup : L.Nodup
  sub : ∀ x ∈ L, x ∈ M.map (·.1)
  sound : ∀ x ∈ M.map (·.1), Rch g l x
  start : ∀ x ∈ l, 0 ≤ x → x < g.length → x ∈ M.map (·.1)
  at_n : n ∈ M.map (·.1)
  closed : ∀ a ∈ M.map (·.1), a ∉ L → a ≠ n → ∀ c, goesTo g a c → c ∈ M.map (·.1)
  part : ∀ i, i < j → ∀ c, c = rd (g.getD n.toNat []) i → 0 ≤ c → c < n → c ∈ M.map (·.1)
theorem mem_rd {l : List Int} {c : Int} (h : c ∈ l) : ∃ i : Nat, i < l.length ∧ c = rd l i := by
  obtain ⟨i, hi, rfl⟩ := List.getElem_of_mem h
  exact ⟨i, hi, by simp [rd, hi]⟩
theorem rd_mem {l : List Int} {i : Nat} (h : i < l.length) : rd l i ∈ l := by
  have : rd l i = l[i] := by simp [rd, h]
  rw [this]; exact List.getElem_mem h
theorem small_set {g : List (List Int)} {l : List Int} {w : World} {b : Nat} {M : List (Int × Unit)} (ho : OwnSet w b M) (hs : ∀ x ∈ M.map (·.1), Rch g l x) : M.length ≤ (rchL g l).length := by
  have := ho.nodup.length_le_of_subset (l₂ := rchL g l) (fun x hx => mem_rchL.2 (hs x hx))
  simpa using this
theorem small_rch (g : List (List Int)) (l : List Int) : (rchL g l).length ≤ g.length := by
  unfold rchL pickL
  exact Nat.le_trans (List.length_filter_le _ _) (by simp)
theorem ReachInv.pop {g : List (List Int)} {l : List Int} {w : World} {b base : Nat} {v v' : Value} {L : List Int} {n : Int} {M : List (Int × Unit)} (h : ReachInv g l w b base v (L ++ [n]) M) (hr : (Kd.int .i64).R 3 w base (fun _ => True) v' L) : RoundInv g l w b base v' L M n 0 where
  own := h.own
  row := hr
  nodup := (List.nodup_append.1 h.nodup).1
  sub x hx := h.sub x (List.mem_append_left _ hx)
  sound := h.sound
  start := h.start
  at_n := h.sub n (by simp)
  closed a ha hL hn := h.closed a ha (by simp [hL, hn])
  part i hi := absurd hi (Nat.not_lt_zero _)
theorem RoundInv.done {g : List (List Int)} {l : List Int} {w : World} {b base : Nat} {v : Value} {L : List Int} {n : Int} {M : List (Int × Unit)} {j : Nat} (h : RoundInv g l w b base v L M n j) (hj : (g.getD n.toNat []).length ≤ j) : ReachInv g l w b base v L M where
  own := h.own
  row := h.row
  nodup := h.nodup
  sub := h.sub
  sound := h.sound
  start := h.start
  closed a ha hL c hc := by
    by_cases e : a = n
    · subst e
      obtain ⟨i, hi, rfl⟩ := mem_rd hc.2.1
      exact h.part i (by omega) _ rfl hc.2.2.1 hc.2.2.2
    · exact h.closed a ha hL e c hc
theorem RoundInv.skip {g : List (List Int)} {l : List Int} {w : World} {b base : Nat} {v : Value} {L : List Int} {n : Int} {M : List (Int × Unit)} {j : Nat} (h : RoundInv g l w b base v L M n j) {x : Int} (hx : x = rd (g.getD n.toNat []) j) (hs : 0 ≤ x → x < n → x ∈ M.map (·.1))
    {w' : World} (ho : OwnSet w' b M) (hr : (Kd.int .i64).R 3 w' base (fun _ => True) v L) : RoundInv g l w' b base v L M n (j + 1) where
  own := ho
  row := hr
  nodup := h.nodup
  sub := h.sub
  sound := h.sound
  start := h.start
  at_n := h.at_n
  closed := h.closed
  part i hi c hc h0 h1 := by
    by_cases e : i = j
    · subst e; rw [← hx] at hc; subst hc; exact hs h0 h1
    · exact h.part i (by omega) c hc h0 h1
theorem RoundInv.push {g : List (List Int)} {l : List Int} {w : World} {b base : Nat} {v v' : Value} {L : List Int} {n : Int} {M : List (Int × Unit)} {j : Nat} (h : RoundInv g l w b base v L M n j) {x : Int} (hx : x = rd (g.getD n.toNat []) j) (hj : j < (g.getD n.toNat []).length) (h0 : 0 ≤ x) (h1 : x < n) (hn : x ∉ M.map (·.1))
    {w' : World} (ho : OwnSet w' b (putM M x ())) (hr : (Kd.int .i64).R 3 w' base (fun _ => True) v' (L ++ [x])) : RoundInv g l w' b base v' (L ++ [x]) (putM M x ()) n (j + 1) where
  own := ho
  row := hr
  nodup := List.nodup_append.2 ⟨h.nodup, by simp, fun a ha c hc e => by rw [List.mem_singleton.1 hc] at e; subst e; exact hn (h.sub a ha)⟩
  sub z hz := by
    rw [keys_putM]
    rcases List.mem_append.1 hz with hz | hz
    · exact .inr (h.sub z hz)
    · exact .inl (List.mem_singleton.1 hz)
  sound z hz := by
    rcases keys_putM.1 hz with rfl | hz
    · exact .step (h.sound n h.at_n) ⟨(h.sound n h.at_n).valid.1, by rw [hx]; exact rd_mem hj, h0, h1⟩
    · exact h.sound z hz
  start z hz h2 h3 := keys_putM.2 (.inr (h.start z hz h2 h3))
  at_n := keys_putM.2 (.inr h.at_n)
  closed a ha hL hna c hc := by
    rcases keys_putM.1 ha with rfl | ha
    · exact absurd (by simp) hL
    · exact keys_putM.2 (.inr (h.closed a ha (fun h' => hL (List.mem_append_left _ h')) hna c hc))
  part i hi c hc h2 h3 := by
    rw [keys_putM]
    by_cases e : i = j
    · subst e; rw [← hx] at hc; exact .inl hc
    · exact .inr (h.part i (by omega) c hc h2 h3)
theorem ReachInv.all {g : List (List Int)} {l : List Int} {w : World} {b base : Nat} {v : Value} {M : List (Int × Unit)} (h : ReachInv g l w b base v [] M) (x : Int) : x ∈ M.map (·.1) ↔ Rch g l x := by
  refine ⟨h.sound x, fun hx => ?_⟩
  induction hx with
  | base h1 h2 h3 => exact h.start _ h1 h2 h3
  | step h1 h2 ih => exact h.closed _ ih (by simp) _ h2
set_option maxHeartbeats 8000000 in
set_option maxRecDepth 100000 in
theorem graph_reach.walk (A0 : Option Addr) (c0 : Nat) (g : List (List Int)) (A1 : Option Addr) (c1 : Nat) (l : List Int) (w : World) (hr0 : Kd.C (Kd.slice 3 (Kd.int .i64)) w A0 g.length g) (hr1 : Kd.C (Kd.int .i64) w A1 l.length l) (hlim : g.length < 17592186044416) :
    Calls Tryz.prog 72 #[.slice A0 g.length c0, .slice A1 l.length c1] w fun e w' => ∃ b M, e = .returned (.map (some b)) ∧ w.heap.size ≤ b ∧ OwnSet w' b M ∧ (∀ x, x ∈ M.map (·.1) ↔ Rch g l x) ∧ Below w.heap.size w w' := by
  have HR0 := Aside0.mk hr0
  have HR1 := Aside0.mk hr1
  clear hr0 hr1
  go_enter Tryz.func72, Tryz.ntmps72
  go_wp2_with fail
  refine (graph_of.walk A0 c0 g A1 c1 l w (by omega) HR1.out).mono ?_
  rintro e w1 ⟨b, M1, rfl, hb, ho1, hm1, hb1⟩
  have HM1 := Aside0.mk hm1
  have HO1 := Aside0.mk ho1
  have HB1 := Aside0.mk hb1
  have HBB := Aside0.mk hb
  have hs1 : M1.length ≤ g.length := by
    have := ho1.nodup.length_le_of_subset (l₂ := rchL g l) (fun x hx => mem_rchL.2 (by obtain ⟨h1, h2, h3⟩ := (hm1 x).1 hx; exact .base h1 h2 h3))
    have h' := small_rch g l
    simp at this; omega
  clear hm1 ho1 hb1 hb
  go_wp2_with fail
  refine (set_rising.walk b M1 w1 HO1.out (by omega)).mono ?_
  rintro e w2 ⟨v, ys, rfl, hr2, hp2, hm2, hb2⟩
  have HI := Aside0.mk (show ReachInv g l w2 b w.heap.size v ys M1 from {
    own := HO1.out.below hb2
    row := Kd.R_lower hr2 HB1.out.size
    nodup := hp2.imp (fun h => by omega)
    sub := fun x hx => (hm2 x).1 hx
    sound := fun x hx => by obtain ⟨h1, h2, h3⟩ := (HM1.out x).1 hx; exact .base h1 h2 h3
    start := fun x h1 h2 h3 => (HM1.out x).2 ⟨h1, h2, h3⟩
    closed := fun a ha hL => absurd ((hm2 a).2 ha) hL })
  have HB := Aside0.mk (below_then HB1.out HB1.out.size hb2)
  clear hr2 hp2 hm2 hb2 HM1 HO1 HB1 hs1
  go_wp2
  go_loopg [6] (2 * ((rchL g l).length - M1.length) + ys.length) (fun kq v6 wr => ∃ (L : List Int) (M : List (Int × Unit)), Aside0 (ReachInv g l wr b w.heap.size v6 L M) ∧ Aside0 (2 * ((rchL g l).length - M.length) + L.length ≤ kq) ∧ Aside0 (Below w.heap.size w wr))
  case atStart => exact ⟨ys, M1, HI, ⟨Nat.le_refl _⟩, HB⟩
  case round =>
    clear HI HB
    obtain ⟨L, M, HI, HK, HB⟩ := hrel
    rcases List.eq_nil_or_concat L with hL | ⟨L', n, hL⟩
    · subst hL
      obtain ⟨A, c, rfl⟩ := Kd.R_slice HI.out.row
      go_wp2
      go_ret
      exact ⟨b, M, rfl, HBB.out, HI.out.own, HI.out.all, HB.out⟩
    · rw [List.concat_eq_append] at hL
      subst hL
      obtain ⟨gb, cap, hv, hc, hcell, hrow⟩ := row_last HI.out.row
      subst hv
      have HP := Aside0.mk (HI.out.pop hrow)
      have hnv := (HI.out.sound n (HI.out.sub n (by simp))).valid
      have hn0 := hnv.1
      have hn1 := hnv.2
      clear hnv hrow
      have hLm : L'.length + 1 ≤ 9223372036854775807 := by
        have h1 := HI.out.nodup.length_le_of_subset (l₂ := rchL g l) (fun x hx => mem_rchL.2 (HI.out.sound x (HI.out.sub x hx)))
        have h2 := small_rch g l
        simp at h1; omega
      obtain ⟨ad, Ar, cr, e, hrx, hrl, hrc⟩ := at_row HR0.out n hn0 hn1
      cases e
      replace hrx := (HB.out.cell (World.block_lt_of_cell? w _ hrx)).trans hrx
      obtain ⟨ns, hns⟩ : ∃ ns, ns = g.getD n.toNat [] := ⟨_, rfl⟩
      rw [← hns] at hrx hrl hrc
      have HN := Aside0.mk hns
      have HRC := Aside0.mk hrc
      have hnl : ns.length ≤ 9223372036854775807 := hrc.2.1
      clear hns hrc hrl
      obtain ⟨i0, hi0, hzz⟩ := Option.map_eq_some_iff.1 info3
      simp only [Prod.mk.injEq] at hzz
      have hcut := cut_up (P := Tryz.prog) 27 3 Tryz.underlying27 hi0 (some ⟨gb, 0, none⟩) (L'.length + 1) cap L'.length (L'.length : Int) rfl (by omega)
      clear hi0 hzz
      obtain ⟨ko, rfl⟩ : ∃ k, gk = k + 1 := ⟨gk - 1, by have := HK.out; simp at this; omega⟩
      have HK1 := Aside0.mk (show 2 * ((rchL g l).length - M.length) + L'.length ≤ ko by have := HK.out; simp at this; omega)
      clear HK HI
      go_wp2
      go_loopg [6, 34] ns.length (fun kq v6 v34 w3 => ∃ (L : List Int) (M : List (Int × Unit)) (j : Nat), v34 = .int .i64 j ∧ j ≤ ns.length ∧ Aside0 (RoundInv g l w3 b w.heap.size v6 L M n j) ∧ Aside0 (ns.length - j ≤ kq) ∧ Aside0 (2 * ((rchL g l).length - M.length) + L.length ≤ ko) ∧ Aside0 (Below w.heap.size w w3))
      case atStart => exact ⟨L', M, 0, rfl, Nat.zero_le _, HP, ⟨by omega⟩, HK1, HB⟩
      case round =>
        clear HP HK1 HB hcell hcut hc hrx
        obtain ⟨L, M, j, rfl, hj, HI, HJ, HK, HB⟩ := hrel
        by_cases hlt : j < ns.length
        · obtain ⟨ad2, e, hx⟩ := Kd.at_int (Kd.C_below HRC.out HB.out) (j : Int) (by omega) (by omega)
          cases e
          obtain ⟨x, hxd⟩ : ∃ x, x = rd ns j := ⟨_, rfl⟩
          rw [← hxd, Int.toNat_natCast] at hx
          have HX := Aside0.mk (hxd.trans (by rw [HN.out]) : x = rd (g.getD n.toNat []) j)
          clear hxd
          by_cases h0 : 0 ≤ x
          · by_cases h1 : x < n
            · have hwf : (Lit.int .i64 x).wf = true := WalkArith.wf_i64 (by omega)
              by_cases hin : x ∈ M.map (·.1)
              · have HH := Aside0.mk (fun W (hW : OwnSet W b M) => (set_has.walk b M x W hW hwf).mono (R' := fun e w' => e = .returned (.bool true) ∧ w' = W.alloc (.cells #[] 130)) (fun _ _ h => by rw [decide_eq_true hin] at h; exact h))
                have HIN := Aside0.mk hin
                clear hin hwf
                go_wp2_with (first | (go_at_call 73; refine (HH.out _ HI.out.own).mono ?_; rintro e w4 ⟨rfl, rfl⟩) | go_in)
                go_roundg (ns.length - (j + 1))
                case measure => have := HJ.out; omega
                case rel => exact ⟨L, M, j + 1, by go_num, by omega, ⟨HI.out.skip HX.out (fun _ _ => HIN.out) (HI.out.own.below ((Below.refl _ _).alloc (Nat.le_refl _) _)) (Kd.R_below HI.out.row ((Below.refl _ _).alloc (Nat.le_refl _) _))⟩, ⟨Nat.le_refl _⟩, HK, ⟨below_alloc HB.out _⟩⟩
              · have HH := Aside0.mk (fun W (hW : OwnSet W b M) => (set_has.walk b M x W hW hwf).mono (R' := fun e w' => e = .returned (.bool false) ∧ w' = W.alloc (.cells #[] 130)) (fun _ _ h => by rw [decide_eq_false hin] at h; exact h))
                have hsm := small_set HI.out.own HI.out.sound
                have hsr := small_rch g l
                have HP := Aside0.mk (fun W (hW : OwnSet W b M) => set_put.walk b M x W hW hwf (by unfold maxLen; omega))
                have HIN := Aside0.mk hin
                have hLm : L.length ≤ g.length := by
                  have h1 := HI.out.nodup.length_le_of_subset (l₂ := rchL g l) (fun x hx => mem_rchL.2 (HI.out.sound x (HI.out.sub x hx)))
                  omega
                have hll : (L.length + 1) * 8 ≤ 140737488355328 := by omega
                have HLL := Aside0.mk hll
                have hlp : (putM M x ()).length = M.length + 1 := by
                  have : delM M x = M := List.filter_eq_self.2 (fun p hp => by simp; rintro rfl; exact hin (List.mem_map.2 ⟨p, hp, rfl⟩))
                  unfold putM; rw [this, List.length_cons]
                have HLP := Aside0.mk hlp
                have hs2 : M.length + 1 ≤ (rchL g l).length := by
                  rw [← hlp]
                  have hnd := nodup_putM HI.out.own.nodup x ()
                  have := hnd.length_le_of_subset (l₂ := rchL g l) (fun z hz => mem_rchL.2 (by
                    rcases keys_putM.1 hz with rfl | hz
                    · exact .step (HI.out.sound n HI.out.at_n) ⟨hn0, by rw [HX.out]; exact rd_mem (by rw [← HN.out]; exact hlt), h0, h1⟩
                    · exact HI.out.sound z hz))
                  simpa using this
                have HS2 := Aside0.mk hs2
                clear hin hwf hsm hsr hLm hll hlp hs2
                go_wp2_with (go_at_call 73; refine (HH.out _ HI.out.own).mono ?_; rintro e w4 ⟨rfl, rfl⟩)
                have HO4 := Aside0.mk (HI.out.own.below ((Below.refl _ _).alloc (Nat.le_refl _) (.cells #[] 130)))
                have HR4 := Aside0.mk (Kd.R_below HI.out.row ((Below.refl _ _).alloc (Nat.le_refl _) (.cells #[] 130)))
                have HB4 := Aside0.mk (below_alloc HB.out (.cells #[] 130))
                go_wp2_with fail
                refine (HP.out _ HO4.out).mono ?_
                rintro e w5 ⟨rfl, ho5, hg5⟩
                have hbv : some b ≠ u6.ownBlock := fun e => by
                  obtain ⟨inner, ho⟩ := Kd.R_own HR4.out
                  obtain ⟨cells, hc⟩ := own_typed ho _ e.symm
                  exact HO4.out.off hc rfl
                have HBV := Aside0.mk hbv
                have HR5 := Aside0.mk (Kd.R_grown1 HR4.out rfl hg5 hbv)
                have HO5 := Aside0.mk ho5
                have HB5 := Aside0.mk (HB4.out.grown hg5 HB4.out.size (fun k e => by cases e; exact HBB.out))
                have HSZ := Aside0.mk (show w.heap.size ≤ w5.heap.size from HB5.out.size)
                clear hbv ho5 hg5
                go_wp2_with (first | (at_builtin; refine Kd.R_append (Kd.int .i64) (w0 := w) w.heap.size rfl _ _ 27 3 (.int .i64 0) 8 rfl Tryz.underlying27 info3 rfl (by decide) (by omega) u6 L x [.int .i64 x] (fun _ => True) (fun _ => False) rfl rfl rfl (fun _ hk => hk.elim) (fun _ _ => trivial) HR5.out HB5.out HSZ.out HLL.out ?_; intro v2 w6 hr2 hb2 hg2 hat2) | go_in)
                go_roundg (ns.length - (j + 1))
                case measure => have := HJ.out; omega
                case rel => exact ⟨L ++ [x], putM M x (), j + 1, by go_num, by omega, ⟨HI.out.push HX.out (by rw [← HN.out]; exact hlt) h0 h1 HIN.out (HO5.out.grown hg2 HBV.out) hr2⟩, ⟨Nat.le_refl _⟩, ⟨by rw [HLP.out, List.length_append]; have := HS2.out; have := HK.out; simp; omega⟩, ⟨hb2⟩⟩
            · go_wp2
              go_roundg (ns.length - (j + 1))
              case measure => have := HJ.out; omega
              case rel => exact ⟨L, M, j + 1, by go_num, by omega, ⟨HI.out.skip HX.out (fun _ h => by omega) HI.out.own HI.out.row⟩, ⟨Nat.le_refl _⟩, HK, HB⟩
          · go_wp2
            go_roundg (ns.length - (j + 1))
            case measure => have := HJ.out; omega
            case rel => exact ⟨L, M, j + 1, by go_num, by omega, ⟨HI.out.skip HX.out (fun h => by omega) HI.out.own HI.out.row⟩, ⟨Nat.le_refl _⟩, HK, HB⟩
        · go_wp2
          go_roundg ko
          case measure => omega
          case rel => exact ⟨L, M, ⟨HI.out.done (by rw [← HN.out]; omega)⟩, HK, HB⟩
set_option maxHeartbeats 2000000 in
theorem graph_Reach.walk (A0 : Option Addr) (c0 : Nat) (g : List (List Int)) (A1 : Option Addr) (c1 : Nat) (l : List Int) (w : World) (hr0 : Kd.C (Kd.slice 3 (Kd.int .i64)) w A0 g.length g) (hr1 : Kd.C (Kd.int .i64) w A1 l.length l) (hlim : g.length < 17592186044416) :
    Calls Tryz.prog 35 #[.slice A0 g.length c0, .slice A1 l.length c1] w fun e w' => ∃ v, e = .returned v ∧ (Kd.int .i64).R 3 w' w.heap.size (fun _ => True) v (rchL g l) ∧ Below w.heap.size w w' := by
  have HR0 := Aside0.mk hr0
  have HR1 := Aside0.mk hr1
  clear hr0 hr1
  go_enter Tryz.func35, Tryz.ntmps35
  go_wp2_with fail
  refine (graph_reach.walk A0 c0 g A1 c1 l w HR0.out HR1.out hlim).mono ?_
  rintro e w1 ⟨b, M1, rfl, hb, ho1, hm1, hb1⟩
  have HM1 := Aside0.mk hm1
  have HO1 := Aside0.mk ho1
  have HB1 := Aside0.mk hb1
  have hsm := small_set ho1 (fun x hx => (hm1 x).1 hx)
  have hsr := small_rch g l
  clear hm1 ho1 hb1 hb
  go_wp2_with fail
  refine (set_rising.walk b M1 w1 HO1.out (by omega)).mono ?_
  rintro e w2 ⟨v, ys, rfl, hr2, hp2, hm2, hb2⟩
  have HE := Aside0.mk (show ys = rchL g l from rises_eq hp2 (pickL_rises g _) (fun x => by rw [hm2, HM1.out]; exact (mem_rchL (g := g) (l := l)).symm))
  have HR2 := Aside0.mk (Kd.R_lower hr2 HB1.out.size)
  have HB2 := Aside0.mk (below_then HB1.out HB1.out.size hb2)
  clear hr2 hp2 hm2 hb2
  go_wp2
  go_ret
  exact ⟨v, rfl, by rw [← HE.out]; exact HR2.out, HB2.out⟩
def graph_Reach.f (g : List (List Int)) (l : List Int) : Option (List Int) := if g.length < 17592186044416 then some (rchL g l) else none
theorem graph_Reach.calls (A0 : Option Addr) (c0 : Nat) (l0 : List (List Int)) (A1 : Option Addr) (c1 : Nat) (l1 : List Int) (r : List Int) (w : World) (hr0 : Kd.C (Kd.slice 3 (Kd.int .i64)) w A0 l0.length l0) (hc0 : l0.length ≤ c0) (hr1 : Kd.C (Kd.int .i64) w A1 l1.length l1) (hc1 : l1.length ≤ c1) (h : graph_Reach.f l0 l1 = some r) :
    Calls Tryz.prog 35 #[.slice A0 l0.length c0, .slice A1 l1.length c1] w fun e w' => ∃ v0_ : Value, e = .returned (v0_) ∧ (Kd.int .i64).R 3 w' w.heap.size (fun _ => True) v0_ r ∧ Below w.heap.size w w' := by
  unfold graph_Reach.f at h
  split at h
  · obtain rfl := Option.some.inj h
    exact graph_Reach.walk A0 c0 l0 A1 c1 l1 w hr0 hr1 ‹_›
  · cases h
open Go.Proofs.He
set_option maxHeartbeats 2000000 in
set_option maxRecDepth 100000 in
theorem indexI.walk (A0 : Option Addr) (c0 : Nat) (l : List Int) (x : Int) (w : World) (hr0 : Kd.C (Kd.int .i64) w A0 l.length l) :
    Calls Tryz.prog 41 #[.slice A0 l.length c0, .int .i64 x] w fun e w' => ∃ r : Int, e = .returned (.int .i64 r) ∧ w = w' ∧ (0 ≤ r ↔ x ∈ l) := by
  have HR := Aside0.mk hr0
  have hl : l.length ≤ 9223372036854775807 := hr0.2.1
  clear hr0
  go_enter Tryz.func41, Tryz.ntmps41
  go_wp2
  go_loopg [5, 8] l.length (fun gg v5 v8 wr => ∃ i : Nat, i ≤ l.length ∧ l.length - i ≤ gg ∧ v8 = .int .i64 (i : Int) ∧ w = wr ∧ Aside0 (∀ (j : Nat) (y : Int), j < i → l[j]? = some y → y ≠ x))
  case atStart => exact ⟨0, Nat.zero_le _, by omega, rfl, rfl, ⟨fun j y hj => absurd hj (Nat.not_lt_zero _)⟩⟩
  case round =>
    obtain ⟨i, hi, hgg, rfl, rfl, HN⟩ := hrel
    by_cases hlt : i < l.length
    · have hltz : (i : Int) < (l.length : Int) := by omega
      obtain ⟨ad, e, hx⟩ := C_num HR.out hlt
      cases e
      obtain ⟨y, hy⟩ : ∃ y, y = l[i] := ⟨_, rfl⟩
      rw [← hy] at hx
      have HY : Aside0 (l[i]? = some y) := ⟨by rw [hy]; exact List.getElem?_eq_getElem hlt⟩
      clear hy
      by_cases he : x = y
      · have hb : (x == y) = true := beq_iff_eq.2 he
        have HE := Aside0.mk he
        clear he
        go_wp2
        go_ret
        exact ⟨(i : Int), rfl, rfl, fun _ => by rw [HE.out]; exact List.mem_of_getElem? HY.out, fun _ => by omega⟩
      · have hb : (x == y) = false := beq_eq_false_iff_ne.2 he
        have HN2 : Aside0 (∀ (j : Nat) (z : Int), j < i + 1 → l[j]? = some z → z ≠ x) := ⟨fun j z hj hz => by
          by_cases e : j = i
          · subst e; rw [HY.out] at hz; cases hz; exact fun e => he e.symm
          · exact HN.out j z (by omega) hz⟩
        clear he HN
        go_wp2
        go_roundg (l.length - (i + 1))
        case measure => omega
        case rel => exact ⟨i + 1, by omega, by omega, by go_num, rfl, HN2⟩
    · have hltz : ¬ (i : Int) < (l.length : Int) := by omega
      have HI : Aside0 (i = l.length) := ⟨by omega⟩
      go_wp2
      go_ret
      refine ⟨-1, rfl, rfl, fun h => by omega, fun h => ?_⟩
      obtain ⟨j, hj, e⟩ := List.getElem_of_mem h
      exact absurd e (HN.out j _ (by rw [HI.out]; exact hj) (List.getElem?_eq_getElem hj))
set_option maxHeartbeats 2000000 in
set_option maxRecDepth 100000 in
theorem containsI.walk (A0 : Option Addr) (c0 : Nat) (l : List Int) (x : Int) (w : World) (hr0 : Kd.C (Kd.int .i64) w A0 l.length l) :
    Calls Tryz.prog 57 #[.slice A0 l.length c0, .int .i64 x] w fun e w' => e = .returned (.bool (decide (x ∈ l))) ∧ w = w' := by
  have HI := Aside0.mk (indexI.walk A0 c0 l x w hr0)
  obtain ⟨b, hb⟩ : ∃ b, b = decide (x ∈ l) := ⟨_, rfl⟩
  rw [← hb]
  have HBB := Aside0.mk hb
  clear hr0 hb
  go_enter Tryz.func57, Tryz.ntmps57
  go_wp2_with (go_at_call 41; refine HI.out.mono ?_; rintro e w1 ⟨r, rfl, rfl, hr⟩; replace hr := Aside0.mk hr)
  go_ret
  refine ⟨?_, rfl⟩
  show Ending.returned (.bool (decide (0 ≤ r))) = _
  rw [HBB.out, decide_eq_decide.2 hr.out]
open Go.Proofs.He
theorem grown_of_below {W W' : World} (h : Below W.heap.size W W') : W.grownBy W' none := ⟨h.os, h.tape, h.output, h.size, fun k hk _ => h.block k hk⟩
set_option maxHeartbeats 2000000 in
set_option maxRecDepth 100000 in
theorem powers_1.walk (AL : Option Addr) (cL : Nat) (l : List SEv) (b : Nat) (x : Int) (p : Bool) (W : World) (hb : W.cell? ⟨b, 0, none⟩ = some (.slice AL l.length cL)) (hC : Kd.C k50 W AL l.length l) (h0 : 0 ≤ x) (h1 : x < (l.length : Int)) (hp : PowOf (rd_T50 l x) p) :
    Calls Tryz.prog 55 #[.int .i64 x, .pointer (some ⟨b, 0, none⟩)] W fun e w' => e = .returned (.bool (!p)) ∧ Below W.heap.size W w' := by
  have hu34 := Tryz.underlying50
  obtain ⟨ad, A6, c6, A7, c7, A13, c13, A14, c14, e, y0, y1, y2, y3, y4, y5, y6, y7, y8, y9, y10, y11, y12, y13, y14, l6, g6, l7, g7, l13, g13, l14, g14⟩ := at_T50 hC x h0 h1
  subst e
  obtain ⟨ev, hev⟩ : ∃ ev, ev = rd_T50 l x := ⟨_, rfl⟩
  rw [← hev] at y0 y1 y2 y3 y4 y5 y6 y7 y8 y9 y10 y11 y12 y13 y14 l13 g13 l14 g14 hp
  have HP := Aside0.mk (hp A6 c6 A7 c7 A13 c13 A14 c14 W g13 l13 g14 l14)
  clear hC l6 g6 l7 g7 l13 g13 l14 g14 hev hp
  go_enter Tryz.func55, Tryz.ntmps55
  go_wp2_with (go_at_call 23; refine HP.out.mono ?_; rintro e w2 ⟨rfl, hb2⟩; replace hb2 := Aside0.mk hb2)
  go_ret
  exact ⟨rfl, hb2.out⟩
set_option maxHeartbeats 2000000 in
set_option maxRecDepth 100000 in
theorem powers_2.walk (A : Option Addr) (c : Nat) (met : List Int) (b : Nat) (x : Int) (W : World) (hb : W.cell? ⟨b, 0, none⟩ = some (.slice A met.length c)) (hC : Kd.C (Kd.int .i64) W A met.length met) :
    Calls Tryz.prog 56 #[.int .i64 x, .pointer (some ⟨b, 0, none⟩)] W fun e w' => e = .returned (.bool (!decide (x ∈ met))) ∧ W = w' := by
  have HC := Aside0.mk (containsI.walk A c met x W hC)
  obtain ⟨q, hq⟩ : ∃ q, q = decide (x ∈ met) := ⟨_, rfl⟩
  rw [← hq] at HC ⊢
  clear hC hq
  go_enter Tryz.func56, Tryz.ntmps56
  go_wp2_with (go_at_call 57; refine HC.out.mono ?_; rintro e w2 ⟨rfl, rfl⟩)
  go_ret
  exact ⟨rfl, rfl⟩
def powersL (n : Nat) (g : List (List Int)) (pw : Int → Bool) (some_ : List Int) : List Int := (placesL n some_).filter fun x => decide (x ∈ rchL g ((placesL n some_).filter pw))
theorem placesL_len (n : Nat) (xs : List Int) : (placesL n xs).length ≤ xs.length := Nat.le_trans (riseL_length _) (List.length_filter_le _ _)
theorem placesL_mem {n : Nat} {xs : List Int} {x : Int} : x ∈ placesL n xs ↔ x ∈ xs ∧ 0 ≤ x ∧ x < (n : Int) := by
  show x ∈ riseL _ ↔ _
  rw [(riseL_spec _).2, List.mem_filter]
  unfold outP
  constructor
  · rintro ⟨h1, h2⟩
    simp at h2
    exact ⟨h1, by omega, by omega⟩
  · rintro ⟨h1, h2, h3⟩
    refine ⟨h1, ?_⟩
    simp
    omega
set_option maxHeartbeats 2000000 in
set_option maxRecDepth 100000 in
theorem order_Powers.walk (AL : Option Addr) (cL : Nat) (l : List SEv) (AG : Option Addr) (cG : Nat) (g : List (List Int)) (A1 : Option Addr) (c1 : Nat) (xs : List Int) (pw : Int → Bool) (w : World) (hL : Kd.C k50 w AL l.length l) (hG : Kd.C (Kd.slice 3 (Kd.int .i64)) w AG g.length g) (hgc : g.length ≤ cG) (hX : Kd.C (Kd.int .i64) w A1 xs.length xs) (hlim : xs.length ≤ 1000000) (hgl : g.length < 17592186044416) (hpw : ∀ x : Int, 0 ≤ x → x < (l.length : Int) → PowOf (rd_T50 l x) (pw x)) :
    Calls Tryz.prog 27 #[.slice AL l.length cL, .slice AG g.length cG, .slice A1 xs.length c1] w fun e w' => ∃ v, e = .returned v ∧ Kd.R (Kd.int .i64) 3 w' w.heap.size (fun _ => True) v (powersL l.length g pw xs) ∧ Below w.heap.size w w' := by
  have hmf : ∀ (fn : Fn) (first cap : Array Value) (w : World), (Instr.makeFunc fn first cap).run Tryz.prog w = .ok (.func fn first cap) w := fun _ _ _ _ => rfl
  have hlen := placesL_len l.length xs
  have HLEN := Aside0.mk hlen
  obtain ⟨all, hall⟩ : ∃ all, all = placesL l.length xs := ⟨_, rfl⟩
  have HIN : Aside0 (∀ x ∈ all, 0 ≤ x ∧ x < (l.length : Int)) := ⟨fun x hx => (placesL_mem.1 (by rw [← hall]; exact hx)).2⟩
  have HPL := Aside0.mk (fun (W : World) (hb : Below w.heap.size w W) => places.walk AL l.length cL A1 c1 xs W (Kd.C_below hX hb) hlim)
  rw [← hall] at HPL HLEN
  have HALL := Aside0.mk hall
  have HL := Aside0.mk hL
  have HG := Aside0.mk hG
  have HGC := Aside0.mk hgc
  have HPW := Aside0.mk hpw
  clear hL hG hgc hX hpw hall hlen
  go_enter Tryz.func27, Tryz.ntmps27
  go_upto_region 1 with fail
  generalize hw1 : w.alloc _ = W1
  have hb1 : Below w.heap.size w W1 := by rw [← hw1]; exact (Below.refl _ _).alloc (Nat.le_refl _) _
  have hx1 : W1.heap[w.heap.size]? = some (.cells #[.slice AL l.length cL] 23 (0, 0)) := by rw [← hw1]; exact heap_alloc_new w _
  have hc1 := blk_cell hx1 0
  have HB1 := Aside0.mk hb1
  have HX1 := Aside0.mk hx1
  clear hw1 hb1 hx1
  go_upto_region 2 with (go_at_call 31; refine (HPL.out _ HB1.out).mono ?_; rintro e w2 ⟨v2, rfl, hr2, hb2⟩; obtain ⟨A2, c2, rfl⟩ := Kd.R_slice hr2; have HB2 := Aside0.mk (below_then HB1.out HB1.out.size hb2); have HX2 := Aside0.mk ((hb2.block _ (blk_lt HX1.out)).trans HX1.out); have HR2 := Aside0.mk (Kd.R_mono (Kd.R_bound hr2) (ok' := fun k => W1.heap.size ≤ k ∧ k < w2.heap.size) (fun k hk => ⟨hk.2.1, hk.2.2.1⟩)); have HS2 := Aside0.mk hb2.size; clear hr2 hb2)
  have HCL := Aside0.mk (cloneI.walk A2 c2 all w2 (Kd.R_reads' HR2.out).2.2 (by have := HLEN.out; omega))
  go_upto_region 3 with (go_at_call 54; refine HCL.out.mono ?_; rintro e w3 ⟨v3, rfl, hr3, hb3⟩; obtain ⟨A3, c3, rfl⟩ := Kd.R_slice hr3; have HB3 := Aside0.mk (below_then HB2.out HB2.out.size hb3); have HX3 := Aside0.mk ((hb3.block _ (blk_lt HX2.out)).trans HX2.out); have HR3 := Aside0.mk hr3; have HA3 := Aside0.mk (Kd.R_below HR2.out hb3); have HS3 := Aside0.mk hb3.size; clear hr3 hb3)
  have hbx : w.heap.size < w2.heap.size := blk_lt HX2.out
  have hdf := slices_DeleteFunc_int.calls 55 #[] #[.pointer (some ⟨w.heap.size, 0, none⟩)] (enters_of Tryz.func55 (by kernel_rfl) rfl) (fun x => !pw x) HR3.out (fun x W hx hg => by
    have h4 : W.cell? ⟨w.heap.size, 0, none⟩ = some (.slice AL l.length cL) := hg.cell (blk_cell HX3.out 0) (fun e => by have h5 : w2.heap.size ≤ w.heap.size := Kd.R_base HR3.out _ e.symm; omega)
    have hbW : Below w.heap.size w W := grown_below HB3.out HB3.out.size (Kd.R_lower HR3.out HB2.out.size) hg
    exact (powers_1.walk AL cL l w.heap.size x (pw x) W h4 (Kd.C_below HL.out hbW) (HIN.out x hx).1 (HIN.out x hx).2 (HPW.out x (HIN.out x hx).1 (HIN.out x hx).2)).mono (fun e w' h => ⟨h.1, grown_of_below h.2⟩))
  refine hdf.mono ?_
  rintro e w4 ⟨v4, rfl, hr4, hg4⟩
  have hown : (all.filter fun x => !(!pw x)) = all.filter pw := by congr 1; funext x; exact Bool.not_not _
  rw [hown] at hr4
  obtain ⟨own, howe⟩ : ∃ own, own = all.filter pw := ⟨_, rfl⟩
  rw [← howe] at hr4
  have HOWE := Aside0.mk howe
  obtain ⟨A4, c4, rfl⟩ := Kd.R_slice hr4
  have HB4 := Aside0.mk (grown_below HB3.out HB3.out.size (Kd.R_lower HR3.out HB2.out.size) hg4)
  have HA4 := Aside0.mk (Kd.R_grown HA3.out hg4 (fun k hk e => by have h5 : w2.heap.size ≤ k := Kd.R_base HR3.out _ e.symm; have := hk.2; omega))
  have HS4 := Aside0.mk hg4.size
  have HRE := Aside0.mk (graph_Reach.calls AG cG g A4 c4 own (rchL g own) w4 (Kd.C_below HG.out HB4.out) HGC.out (Kd.R_reads' hr4).2.2 (Kd.R_reads' hr4).2.1 (by unfold graph_Reach.f; rw [if_pos hgl]))
  obtain ⟨met, hmet⟩ : ∃ met, met = rchL g own := ⟨_, rfl⟩
  rw [← hmet] at HRE
  have HMET := Aside0.mk hmet
  clear hdf hown howe hr4 hg4 hmet HCL HPL HR2 HR3 HA3 HX2 HX3 HX1 hc1
  go_upto_region 4 with (go_at_call 35; refine HRE.out.mono ?_; rintro e w5 ⟨v5, rfl, hr5, hb5⟩; obtain ⟨A5, c5, rfl⟩ := Kd.R_slice hr5; have HB5 := Aside0.mk (below_then HB4.out HB4.out.size hb5); have HR5 := Aside0.mk hr5; have HA5 := Aside0.mk (Kd.R_below HA4.out hb5); have HS5 := Aside0.mk hb5.size; clear hr5 hb5)
  generalize hw6 : w5.alloc _ = W6
  have hb6 : Below w5.heap.size w5 W6 := by rw [← hw6]; exact (Below.refl _ _).alloc (Nat.le_refl _) _
  have HX6 : Aside0 (W6.heap[w5.heap.size]? = some (.cells #[.slice A5 met.length c5] 27 (0, 0))) := ⟨by rw [← hw6]; exact heap_alloc_new w5 _⟩
  have HB6 := Aside0.mk (below_then HB5.out HB5.out.size hb6)
  have HA6 := Aside0.mk (Kd.R_below HA5.out hb6)
  have HR6 := Aside0.mk (Kd.R_mono (Kd.R_bound (Kd.R_below HR5.out hb6)) (ok' := fun k => w4.heap.size ≤ k) (fun k hk => hk.2.1))
  have hs26 : w2.heap.size ≤ w4.heap.size := by have := HS3.out; have := HS4.out; omega
  have hs46 : w4.heap.size ≤ w5.heap.size := HS5.out
  clear hw6 hb6 HA5 HR5 HRE HA4
  have hdf := slices_DeleteFunc_int.calls 56 #[] #[.pointer (some ⟨w5.heap.size, 0, none⟩)] (enters_of Tryz.func56 (by kernel_rfl) rfl) (fun x => !decide (x ∈ met)) HA6.out (fun x W hx hg => by
    have h4 : W.cell? ⟨w5.heap.size, 0, none⟩ = some (.slice A5 met.length c5) := hg.cell (blk_cell HX6.out 0) (fun e => by have h5 : w5.heap.size < w2.heap.size := (HA6.out.1 _ e.symm).2; omega)
    have h5 := Kd.R_grown HR6.out hg (fun k hk e => by have h5 := (HA6.out.1 _ e.symm).2; have h6 : w4.heap.size ≤ k := hk; omega)
    exact (powers_2.walk A5 c5 met w5.heap.size x W h4 (Kd.R_reads' h5).2.2).mono (fun e w' h => ⟨h.1, h.2 ▸ World.grownBy.refl _ _⟩))
  go_wp2_with (go_at_call 53; refine hdf.mono ?_; rintro e w7 ⟨v7, rfl, hr7, hg7⟩; have HR7 := Aside0.mk hr7; have HB7 := Aside0.mk (grown_below HB6.out HB6.out.size (Kd.R_lower HA6.out HB1.out.size) hg7); clear hr7 hg7; obtain ⟨A7, c7, rfl⟩ := Kd.R_slice HR7.out)
  go_ret
  refine ⟨_, rfl, ?_, HB7.out⟩
  have hres : powersL l.length g pw xs = all.filter fun x => !(!decide (x ∈ met)) := by
    unfold powersL
    rw [← HALL.out, HMET.out, HOWE.out]
    congr 1
    funext x
    exact (Bool.not_not _).symm
  rw [hres]
  have h8 := Kd.R_mono (Kd.R_lower HR7.out HB1.out.size) (ok' := fun _ => True) (fun _ _ => trivial)
  simpa using h8
def power_at.f (k : Nat) (a0_0 : Int) (a0_1 : Int) (a0_2 : ByteArray) (l0_3 : List ByteArray) (l0_4 : List (S48)) (a1 : ByteArray) : Option (Int × Bool) := (value_Get.f k a0_0 a0_1 a0_2 l0_3 l0_4 a1).bind fun bt203 => (if bt203.2.2.2.2.2 = true then (if bt203.1 = 2 then (some (bt203.2.1, true)) else (some (0, false))) else (some (0, false)))
set_option maxHeartbeats 8000000 in
set_option maxRecDepth 100000 in
theorem power_at.calls (k : Nat) (a0_0 : Int) (a0_1 : Int) (a0_2 : ByteArray) (A0_3 : Option Addr) (c0_3 : Nat) (l0_3 : List ByteArray) (A0_4 : Option Addr) (c0_4 : Nat) (l0_4 : List (S48)) (a1 : ByteArray) (r1 : Int) (r2 : Bool) (w : World) (hr0_3 : Kd.C Kd.string w A0_3 l0_3.length l0_3) (hc0_3 : l0_3.length ≤ c0_3) (hr0_4 : Kd.C k48 w A0_4 l0_4.length l0_4) (hc0_4 : l0_4.length ≤ c0_4) (h : power_at.f k a0_0 a0_1 a0_2 l0_3 l0_4 a1 = some (r1, r2)) :
    Calls Tryz.prog 79 #[.agg #[.int .i64 a0_0, .int .i64 a0_1, .string a0_2, .slice A0_3 l0_3.length c0_3, .slice A0_4 l0_4.length c0_4], .string a1] w fun e w' => e = .returned (.agg #[.int .i64 r1, .bool r2]) ∧ Below w.heap.size w w' := by
  have hu48 := Tryz.underlying48
  have hu103 := Tryz.underlying103
  have HR0_3 := Aside0.mk hr0_3
  have HC0_3 := Aside0.mk hc0_3
  clear hr0_3 hc0_3
  have HR0_4 := Aside0.mk hr0_4
  have HC0_4 := Aside0.mk hc0_4
  clear hr0_4 hc0_4
  have HB := Aside0.mk (Below.refl w.heap.size w)
  have H : ((value_Get.f k a0_0 a0_1 a0_2 l0_3 l0_4 a1).bind fun bt203 => (if bt203.2.2.2.2.2 = true then (if bt203.1 = 2 then (some (bt203.2.1, true)) else (some (0, false))) else (some (0, false)))) = some (r1, r2) := h
  clear h
  replace H := Option.bind_eq_some_iff.mp H
  obtain ⟨⟨t203, t204, t205, t206, t209, t212⟩, A30, H⟩ := H
  replace H : (if t212 = true then (if t203 = 2 then (some (t204, true)) else (some (0, false))) else (some (0, false))) = some (r1, r2) := H
  have A3 := Aside0.mk A30
  clear A30
  by_cases c4 : t212 = true
  · subst c4
    have H1 : (if t203 = 2 then (some (t204, true)) else (some (0, false))) = some (r1, r2) := by rw [if_pos rfl] at H; exact H
    clear H
    have H := H1
    clear H1
    by_cases c5 : t203 = 2
    · rw [if_pos c5] at H
      have c5b0 : (t203 == 2) = true := beq_iff_eq.mpr c5
      have c5b1 : (t203 != 2) = false := bne_eq_false_iff_eq.mpr c5
      clear c5
      simp only [Option.some.injEq, Prod.mk.injEq] at H
      obtain ⟨rfl, rfl⟩ := H
      go_enter Tryz.func79, Tryz.ntmps79
      go_wp2_with (first | ((with_reducible refine gate_dst (N := 2) rfl ?_); refine box_event ?hg (N := 2) ?hd (cs := #[.int .i64 a0_0, .int .i64 a0_1, .string a0_2, .slice A0_3 l0_3.length c0_3, .slice A0_4 l0_4.length c0_4]) (t := 48) ?hr ?_; (case hd => rfl); (case hg => rfl); (case hr => first | (go_simp; done) | (go_simp; rfl)); intro gb201 hg w6 hbox hb; have n0_ := Aside0.mk (below_step (by repeat (first | (with_reducible first | exact HB.out | apply below_alloc | apply pw_below_drewN | apply below_drew1) | exact HB.out)) hb); have n1_ := Aside0.mk (hbox); have n2_ := Aside0.mk ((by rw [hg]; exact (below_size (by repeat (first | (with_reducible first | exact HB.out | apply below_alloc | apply pw_below_drewN | apply below_drew1) | exact HB.out))) : w.heap.size ≤ gb201)); have n3_ := Aside0.mk ((by rw [hg]; exact (below_size (by repeat (first | (with_reducible first | exact HB.out | apply below_alloc | apply pw_below_drewN | apply below_drew1) | exact HB.out))) : w.heap.size ≤ gb201)); clear HB; have HB := n0_; have BK201 := n1_; have GW201 := n2_; have GE201 := n3_; clear n0_ n1_ n2_ n3_; clear hb hbox hg) | ((with_reducible refine gate_dst (N := 4) rfl ?_); refine box_event ?hg (N := 4) ?hd (cs := #[.int .i64 0, .bool false]) (t := 103) ?hr ?_; (case hd => rfl); (case hg => rfl); (case hr => first | (go_simp; done) | (go_simp; rfl)); intro gb202 hg w7 hbox hb; have n0_ := Aside0.mk (blk_below (g := gb201) (o := .cells #[.int .i64 a0_0, .int .i64 a0_1, .string a0_2, .slice A0_3 l0_3.length c0_3, .slice A0_4 l0_4.length c0_4] 48 (0, 0)) (by (with_reducible repeat (first | refine blk_drewN ?_ _ | refine blk_drew ?_ | refine blk_alloc ?_ _)); exact BK201.out) hb); have n1_ := Aside0.mk (below_step (by repeat (first | (with_reducible first | exact HB.out | apply below_alloc | apply pw_below_drewN | apply below_drew1 | refine below_set ?_ GE201.out) | exact HB.out)) hb); have n2_ := Aside0.mk (hbox); have n3_ := Aside0.mk ((by rw [hg]; exact (below_size (by repeat (first | (with_reducible first | exact HB.out | apply below_alloc | apply pw_below_drewN | apply below_drew1 | refine below_set ?_ GE201.out) | exact HB.out))) : w.heap.size ≤ gb202)); have n4_ := Aside0.mk ((by rw [hg]; exact (below_size (by repeat (first | (with_reducible first | exact HB.out | apply below_alloc | apply pw_below_drewN | apply below_drew1 | refine below_set ?_ GE201.out) | exact HB.out))) : w.heap.size ≤ gb202)); have n5_ := Aside0.mk ((by rw [hg]; exact Nat.ne_of_lt (blk_lt (g := gb201) (o := .cells #[.int .i64 a0_0, .int .i64 a0_1, .string a0_2, .slice A0_3 l0_3.length c0_3, .slice A0_4 l0_4.length c0_4] 48 (0, 0)) (by (with_reducible repeat (first | refine blk_drewN ?_ _ | refine blk_drew ?_ | refine blk_alloc ?_ _)); exact BK201.out)) : gb201 ≠ gb202)); have n6_ := Aside0.mk ((by rw [hg]; exact Nat.ne_of_gt (blk_lt (g := gb201) (o := .cells #[.int .i64 a0_0, .int .i64 a0_1, .string a0_2, .slice A0_3 l0_3.length c0_3, .slice A0_4 l0_4.length c0_4] 48 (0, 0)) (by (with_reducible repeat (first | refine blk_drewN ?_ _ | refine blk_drew ?_ | refine blk_alloc ?_ _)); exact BK201.out)) : gb202 ≠ gb201)); clear BK201; clear HB; have BK201 := n0_; have HB := n1_; have BK202 := n2_; have GW202 := n3_; have GE202 := n4_; have NB201_202 := n5_; have NB202_201 := n6_; clear n0_ n1_ n2_ n3_ n4_ n5_ n6_; clear hb hbox hg; have hnb8 := NB201_202.out; have hnc8 := NB202_201.out; have hcz9_0 : w7.cell? ⟨gb201, 0, none⟩ = some (.int .i64 a0_0) := (blk_cell BK201.out 0).trans rfl; have hcz9_1 : w7.cell? ⟨gb201, 1, none⟩ = some (.int .i64 a0_1) := (blk_cell BK201.out 1).trans rfl; have hcz9_2 : w7.cell? ⟨gb201, 2, none⟩ = some (.string a0_2) := (blk_cell BK201.out 2).trans rfl; have hcz9_3 : w7.cell? ⟨gb201, 3, none⟩ = some (.slice A0_3 l0_3.length c0_3) := (blk_cell BK201.out 3).trans rfl; have hcz9_4 : w7.cell? ⟨gb201, 4, none⟩ = some (.slice A0_4 l0_4.length c0_4) := (blk_cell BK201.out 4).trans rfl; have hfz9_0 := blk_frozen BK201.out 0; have hfz9_1 := blk_frozen BK201.out 1; have hfz9_2 := blk_frozen BK201.out 2; have hfz9_3 := blk_frozen BK201.out 3; have hfz9_4 := blk_frozen BK201.out 4) | ((with_reducible refine gate_callee (f := 44) rfl ?_); refine goesL_ (some 10) rfl rfl Tryz.func44 (by kernel_rfl) rfl #[.agg #[.int .i64 a0_0, .int .i64 a0_1, .string a0_2, .slice A0_3 l0_3.length c0_3, .slice A0_4 l0_4.length c0_4], .string a1] rfl (by (try simp only [List.map_toArray, List.map_cons, List.map_nil]); first | done | rfl | (simp only [List.length_drop, List.length_take]; rfl)) ?_; (with_reducible refine (value_Get.calls k a0_0 a0_1 a0_2 _ _ l0_3 _ _ l0_4 a1 t203 t204 t205 t206 t209 true _ ?side1 ?side2 ?side3 ?side4 A3.out).mono ?_); (case side1 => repeat (first | exact (Kd.C_below HR0_3.out HB.out) | (with_reducible refine Kd.C_alloc ?_ _) | (with_reducible refine Kd.C_drewN ?_ _) | (with_reducible refine Kd.C_drew ?_))); (case side2 => exact HC0_3.out); (case side3 => repeat (first | exact (Kd.C_below HR0_4.out HB.out) | (with_reducible refine Kd.C_alloc ?_ _) | (with_reducible refine Kd.C_drewN ?_ _) | (with_reducible refine Kd.C_drew ?_))); (case side4 => exact HC0_4.out); rintro e w10 ⟨v207, v210, rfl, ho0, ho1, hb⟩; refine ⟨_, rfl, ?_⟩; have n0_ := Aside0.mk (Kd.R_lower ho0 (below_size (by repeat (first | (with_reducible first | exact HB.out | apply below_alloc | apply pw_below_drewN | apply below_drew1 | refine below_set ?_ GE201.out | refine below_set ?_ GE202.out) | exact HB.out)))); have n1_ := Aside0.mk (Kd.R_lower (Kd.R_newB ho1 (g := gb201) (o := .cells #[.int .i64 a0_0, .int .i64 a0_1, .string a0_2, .slice A0_3 l0_3.length c0_3, .slice A0_4 l0_4.length c0_4] 48 (0, 0)) (by (with_reducible repeat (first | refine blk_drewN ?_ _ | refine blk_drew ?_ | refine blk_alloc ?_ _)); exact BK201.out)) (below_size (by repeat (first | (with_reducible first | exact HB.out | apply below_alloc | apply pw_below_drewN | apply below_drew1 | refine below_set ?_ GE201.out | refine below_set ?_ GE202.out) | exact HB.out)))); have n2_ := Aside0.mk (blk_below (g := gb201) (o := .cells #[.int .i64 a0_0, .int .i64 a0_1, .string a0_2, .slice A0_3 l0_3.length c0_3, .slice A0_4 l0_4.length c0_4] 48 (0, 0)) (by (with_reducible repeat (first | refine blk_drewN ?_ _ | refine blk_drew ?_ | refine blk_alloc ?_ _)); exact BK201.out) hb); have n3_ := Aside0.mk (blk_below (g := gb202) (o := .cells #[.int .i64 0, .bool false] 103 (0, 0)) (by (with_reducible repeat (first | refine blk_drewN ?_ _ | refine blk_drew ?_ | refine blk_alloc ?_ _)); exact BK202.out) hb); have n4_ := Aside0.mk (below_step (by repeat (first | (with_reducible first | exact HB.out | apply below_alloc | apply pw_below_drewN | apply below_drew1 | refine below_set ?_ GE201.out | refine below_set ?_ GE202.out) | exact HB.out)) hb); clear BK201; clear BK202; clear HB; have HO208 := n0_; have HO211 := n1_; have BK201 := n2_; have BK202 := n3_; have HB := n4_; clear n0_ n1_ n2_ n3_ n4_; (try clear hb); (try clear hb2); (try clear hk); (try clear hi); (try clear ho0); (try clear ho1)) | ((with_reducible refine gate_dst (N := 5) rfl ?_); refine box_event ?hg (N := 5) ?hd (cs := #[.int .i64 0, .int .i64 0, .string (⟨#[]⟩ : ByteArray), .slice none 0 0, .slice none 0 0]) (t := 48) ?hr ?_; (case hd => rfl); (case hg => rfl); (case hr => first | (go_simp; done) | (go_simp; rfl)); intro gb213 hg w11 hbox hb; have n0_ := Aside0.mk (Kd.R_below (by (with_reducible repeat (first | apply Kd.R_alloc | apply Kd.R_drewN | apply Kd.R_drew)); exact HO208.out) hb); have n1_ := Aside0.mk (Kd.R_below (Kd.R_elderB (by (with_reducible repeat (first | apply Kd.R_alloc | apply Kd.R_drewN | apply Kd.R_drew)); exact HO211.out) gb213 (Nat.le_of_eq hg.symm)) hb); have n2_ := Aside0.mk (blk_below (g := gb201) (o := .cells #[.int .i64 a0_0, .int .i64 a0_1, .string a0_2, .slice A0_3 l0_3.length c0_3, .slice A0_4 l0_4.length c0_4] 48 (0, 0)) (by (with_reducible repeat (first | refine blk_drewN ?_ _ | refine blk_drew ?_ | refine blk_alloc ?_ _)); exact BK201.out) hb); have n3_ := Aside0.mk (blk_below (g := gb202) (o := .cells #[.int .i64 0, .bool false] 103 (0, 0)) (by (with_reducible repeat (first | refine blk_drewN ?_ _ | refine blk_drew ?_ | refine blk_alloc ?_ _)); exact BK202.out) hb); have n4_ := Aside0.mk (below_step (by repeat (first | (with_reducible first | exact HB.out | apply below_alloc | apply pw_below_drewN | apply below_drew1 | refine below_set ?_ GE201.out | refine below_set ?_ GE202.out) | exact HB.out)) hb); have n5_ := Aside0.mk (hbox); have n6_ := Aside0.mk ((by rw [hg]; exact (below_size (by repeat (first | (with_reducible first | exact HB.out | apply below_alloc | apply pw_below_drewN | apply below_drew1 | refine below_set ?_ GE201.out | refine below_set ?_ GE202.out) | exact HB.out))) : w.heap.size ≤ gb213)); have n7_ := Aside0.mk ((by rw [hg]; exact (below_size (by repeat (first | (with_reducible first | exact HB.out | apply below_alloc | apply pw_below_drewN | apply below_drew1 | refine below_set ?_ GE201.out | refine below_set ?_ GE202.out) | exact HB.out))) : w.heap.size ≤ gb213)); have n8_ := Aside0.mk ((by rw [hg]; exact Nat.ne_of_lt (blk_lt (g := gb201) (o := .cells #[.int .i64 a0_0, .int .i64 a0_1, .string a0_2, .slice A0_3 l0_3.length c0_3, .slice A0_4 l0_4.length c0_4] 48 (0, 0)) (by (with_reducible repeat (first | refine blk_drewN ?_ _ | refine blk_drew ?_ | refine blk_alloc ?_ _)); exact BK201.out)) : gb201 ≠ gb213)); have n9_ := Aside0.mk ((by rw [hg]; exact Nat.ne_of_gt (blk_lt (g := gb201) (o := .cells #[.int .i64 a0_0, .int .i64 a0_1, .string a0_2, .slice A0_3 l0_3.length c0_3, .slice A0_4 l0_4.length c0_4] 48 (0, 0)) (by (with_reducible repeat (first | refine blk_drewN ?_ _ | refine blk_drew ?_ | refine blk_alloc ?_ _)); exact BK201.out)) : gb213 ≠ gb201)); have n10_ := Aside0.mk ((by rw [hg]; exact Nat.ne_of_lt (blk_lt (g := gb202) (o := .cells #[.int .i64 0, .bool false] 103 (0, 0)) (by (with_reducible repeat (first | refine blk_drewN ?_ _ | refine blk_drew ?_ | refine blk_alloc ?_ _)); exact BK202.out)) : gb202 ≠ gb213)); have n11_ := Aside0.mk ((by rw [hg]; exact Nat.ne_of_gt (blk_lt (g := gb202) (o := .cells #[.int .i64 0, .bool false] 103 (0, 0)) (by (with_reducible repeat (first | refine blk_drewN ?_ _ | refine blk_drew ?_ | refine blk_alloc ?_ _)); exact BK202.out)) : gb213 ≠ gb202)); clear HO208; clear HO211; clear BK201; clear BK202; clear HB; have HO208 := n0_; have HO211 := n1_; have BK201 := n2_; have BK202 := n3_; have HB := n4_; have BK213 := n5_; have GW213 := n6_; have GE213 := n7_; have NB201_213 := n8_; have NB213_201 := n9_; have NB202_213 := n10_; have NB213_202 := n11_; clear n0_ n1_ n2_ n3_ n4_ n5_ n6_ n7_ n8_ n9_ n10_ n11_; clear hb hbox hg; have hnb12 := NB213_201.out; have hnc12 := NB201_213.out; have hnb13 := NB213_202.out; have hnc13 := NB202_213.out; have hcz14_0 : w11.cell? ⟨gb213, 0, none⟩ = some (.int .i64 0) := (blk_cell BK213.out 0).trans rfl; have hcz14_1 : w11.cell? ⟨gb213, 1, none⟩ = some (.int .i64 0) := (blk_cell BK213.out 1).trans rfl; have hcz14_2 : w11.cell? ⟨gb213, 2, none⟩ = some (.string (⟨#[]⟩ : ByteArray)) := (blk_cell BK213.out 2).trans rfl; have hcz14_3 : w11.cell? ⟨gb213, 3, none⟩ = some (.slice none 0 0) := (blk_cell BK213.out 3).trans rfl; have hcz14_4 : w11.cell? ⟨gb213, 4, none⟩ = some (.slice none 0 0) := (blk_cell BK213.out 4).trans rfl; have hfz14_0 := blk_frozen BK213.out 0; have hfz14_1 := blk_frozen BK213.out 1; have hfz14_2 := blk_frozen BK213.out 2; have hfz14_3 := blk_frozen BK213.out 3; have hfz14_4 := blk_frozen BK213.out 4; obtain ⟨Ao15, co15, eo15⟩ := Kd.R_slice HO208.out; subst eo15; obtain ⟨Ao16, co16, eo16⟩ := Kd.R_slice HO211.out; subst eo16; have hcz17_0 : w11.cell? ⟨gb202, 0, none⟩ = some (.int .i64 0) := (blk_cell BK202.out 0).trans rfl; have hcz17_1 : w11.cell? ⟨gb202, 1, none⟩ = some (.bool false) := (blk_cell BK202.out 1).trans rfl; have hfz17_0 := blk_frozen BK202.out 0; have hfz17_1 := blk_frozen BK202.out 1))
      refine bodyPost_ret (results_cell_row rfl _ _ gb202 103 #[.int .i64 t204, .bool true] (0, 0) _ rfl (by (with_reducible repeat (first | refine blk_drewN ?_ _ | refine blk_drew ?_ | refine blk_alloc ?_ _)); refine blk_put (cs := #[.int .i64 t204, .bool false]) ?_ 1 _ rfl; (with_reducible repeat (first | refine blk_drewN ?_ _ | refine blk_drew ?_ | refine blk_alloc ?_ _)); refine blk_put (cs := #[.int .i64 0, .bool false]) ?_ 0 _ rfl; (with_reducible repeat (first | refine blk_drewN ?_ _ | refine blk_drew ?_ | refine blk_alloc ?_ _)); refine blk_far ?_ NB202_213.out _; (with_reducible repeat (first | refine blk_drewN ?_ _ | refine blk_drew ?_ | refine blk_alloc ?_ _)); refine blk_far ?_ NB202_213.out _; (with_reducible repeat (first | refine blk_drewN ?_ _ | refine blk_drew ?_ | refine blk_alloc ?_ _)); refine blk_far ?_ NB202_213.out _; (with_reducible repeat (first | refine blk_drewN ?_ _ | refine blk_drew ?_ | refine blk_alloc ?_ _)); refine blk_far ?_ NB202_213.out _; (with_reducible repeat (first | refine blk_drewN ?_ _ | refine blk_drew ?_ | refine blk_alloc ?_ _)); refine blk_far ?_ NB202_213.out _; (with_reducible repeat (first | refine blk_drewN ?_ _ | refine blk_drew ?_ | refine blk_alloc ?_ _)); exact BK202.out) Tryz.underlying103 rfl (by kernel_rfl)) rfl ?_
      exact ⟨by first | rfl | (simp [errW_none, errW_some] <;> rfl) | (simp [*, errW_none, errW_some] <;> rfl), by repeat (first | (with_reducible first | exact HB.out | apply below_alloc | apply pw_below_drewN | apply below_drew1 | refine below_set ?_ GE201.out | refine below_set ?_ GE202.out | refine below_set ?_ GE213.out) | exact HB.out)⟩
    · rw [if_neg c5] at H
      have c5b0 : (t203 == 2) = false := beq_eq_false_iff_ne.mpr c5
      have c5b1 : (t203 != 2) = true := bne_iff_ne.mpr c5
      simp only [Option.some.injEq, Prod.mk.injEq] at H
      obtain ⟨rfl, rfl⟩ := H
      go_enter Tryz.func79, Tryz.ntmps79
      go_wp2_with (first | ((with_reducible refine gate_dst (N := 2) rfl ?_); refine box_event ?hg (N := 2) ?hd (cs := #[.int .i64 a0_0, .int .i64 a0_1, .string a0_2, .slice A0_3 l0_3.length c0_3, .slice A0_4 l0_4.length c0_4]) (t := 48) ?hr ?_; (case hd => rfl); (case hg => rfl); (case hr => first | (go_simp; done) | (go_simp; rfl)); intro gb201 hg w18 hbox hb; have n0_ := Aside0.mk (below_step (by repeat (first | (with_reducible first | exact HB.out | apply below_alloc | apply pw_below_drewN | apply below_drew1) | exact HB.out)) hb); have n1_ := Aside0.mk (hbox); have n2_ := Aside0.mk ((by rw [hg]; exact (below_size (by repeat (first | (with_reducible first | exact HB.out | apply below_alloc | apply pw_below_drewN | apply below_drew1) | exact HB.out))) : w.heap.size ≤ gb201)); have n3_ := Aside0.mk ((by rw [hg]; exact (below_size (by repeat (first | (with_reducible first | exact HB.out | apply below_alloc | apply pw_below_drewN | apply below_drew1) | exact HB.out))) : w.heap.size ≤ gb201)); clear HB; have HB := n0_; have BK201 := n1_; have GW201 := n2_; have GE201 := n3_; clear n0_ n1_ n2_ n3_; clear hb hbox hg) | ((with_reducible refine gate_dst (N := 4) rfl ?_); refine box_event ?hg (N := 4) ?hd (cs := #[.int .i64 0, .bool false]) (t := 103) ?hr ?_; (case hd => rfl); (case hg => rfl); (case hr => first | (go_simp; done) | (go_simp; rfl)); intro gb202 hg w19 hbox hb; have n0_ := Aside0.mk (blk_below (g := gb201) (o := .cells #[.int .i64 a0_0, .int .i64 a0_1, .string a0_2, .slice A0_3 l0_3.length c0_3, .slice A0_4 l0_4.length c0_4] 48 (0, 0)) (by (with_reducible repeat (first | refine blk_drewN ?_ _ | refine blk_drew ?_ | refine blk_alloc ?_ _)); exact BK201.out) hb); have n1_ := Aside0.mk (below_step (by repeat (first | (with_reducible first | exact HB.out | apply below_alloc | apply pw_below_drewN | apply below_drew1 | refine below_set ?_ GE201.out) | exact HB.out)) hb); have n2_ := Aside0.mk (hbox); have n3_ := Aside0.mk ((by rw [hg]; exact (below_size (by repeat (first | (with_reducible first | exact HB.out | apply below_alloc | apply pw_below_drewN | apply below_drew1 | refine below_set ?_ GE201.out) | exact HB.out))) : w.heap.size ≤ gb202)); have n4_ := Aside0.mk ((by rw [hg]; exact (below_size (by repeat (first | (with_reducible first | exact HB.out | apply below_alloc | apply pw_below_drewN | apply below_drew1 | refine below_set ?_ GE201.out) | exact HB.out))) : w.heap.size ≤ gb202)); have n5_ := Aside0.mk ((by rw [hg]; exact Nat.ne_of_lt (blk_lt (g := gb201) (o := .cells #[.int .i64 a0_0, .int .i64 a0_1, .string a0_2, .slice A0_3 l0_3.length c0_3, .slice A0_4 l0_4.length c0_4] 48 (0, 0)) (by (with_reducible repeat (first | refine blk_drewN ?_ _ | refine blk_drew ?_ | refine blk_alloc ?_ _)); exact BK201.out)) : gb201 ≠ gb202)); have n6_ := Aside0.mk ((by rw [hg]; exact Nat.ne_of_gt (blk_lt (g := gb201) (o := .cells #[.int .i64 a0_0, .int .i64 a0_1, .string a0_2, .slice A0_3 l0_3.length c0_3, .slice A0_4 l0_4.length c0_4] 48 (0, 0)) (by (with_reducible repeat (first | refine blk_drewN ?_ _ | refine blk_drew ?_ | refine blk_alloc ?_ _)); exact BK201.out)) : gb202 ≠ gb201)); clear BK201; clear HB; have BK201 := n0_; have HB := n1_; have BK202 := n2_; have GW202 := n3_; have GE202 := n4_; have NB201_202 := n5_; have NB202_201 := n6_; clear n0_ n1_ n2_ n3_ n4_ n5_ n6_; clear hb hbox hg; have hnb20 := NB201_202.out; have hnc20 := NB202_201.out; have hcz21_0 : w19.cell? ⟨gb201, 0, none⟩ = some (.int .i64 a0_0) := (blk_cell BK201.out 0).trans rfl; have hcz21_1 : w19.cell? ⟨gb201, 1, none⟩ = some (.int .i64 a0_1) := (blk_cell BK201.out 1).trans rfl; have hcz21_2 : w19.cell? ⟨gb201, 2, none⟩ = some (.string a0_2) := (blk_cell BK201.out 2).trans rfl; have hcz21_3 : w19.cell? ⟨gb201, 3, none⟩ = some (.slice A0_3 l0_3.length c0_3) := (blk_cell BK201.out 3).trans rfl; have hcz21_4 : w19.cell? ⟨gb201, 4, none⟩ = some (.slice A0_4 l0_4.length c0_4) := (blk_cell BK201.out 4).trans rfl; have hfz21_0 := blk_frozen BK201.out 0; have hfz21_1 := blk_frozen BK201.out 1; have hfz21_2 := blk_frozen BK201.out 2; have hfz21_3 := blk_frozen BK201.out 3; have hfz21_4 := blk_frozen BK201.out 4) | ((with_reducible refine gate_callee (f := 44) rfl ?_); refine goesL_ (some 10) rfl rfl Tryz.func44 (by kernel_rfl) rfl #[.agg #[.int .i64 a0_0, .int .i64 a0_1, .string a0_2, .slice A0_3 l0_3.length c0_3, .slice A0_4 l0_4.length c0_4], .string a1] rfl (by (try simp only [List.map_toArray, List.map_cons, List.map_nil]); first | done | rfl | (simp only [List.length_drop, List.length_take]; rfl)) ?_; (with_reducible refine (value_Get.calls k a0_0 a0_1 a0_2 _ _ l0_3 _ _ l0_4 a1 t203 t204 t205 t206 t209 true _ ?side1 ?side2 ?side3 ?side4 A3.out).mono ?_); (case side1 => repeat (first | exact (Kd.C_below HR0_3.out HB.out) | (with_reducible refine Kd.C_alloc ?_ _) | (with_reducible refine Kd.C_drewN ?_ _) | (with_reducible refine Kd.C_drew ?_))); (case side2 => exact HC0_3.out); (case side3 => repeat (first | exact (Kd.C_below HR0_4.out HB.out) | (with_reducible refine Kd.C_alloc ?_ _) | (with_reducible refine Kd.C_drewN ?_ _) | (with_reducible refine Kd.C_drew ?_))); (case side4 => exact HC0_4.out); rintro e w22 ⟨v207, v210, rfl, ho0, ho1, hb⟩; refine ⟨_, rfl, ?_⟩; have n0_ := Aside0.mk (Kd.R_lower ho0 (below_size (by repeat (first | (with_reducible first | exact HB.out | apply below_alloc | apply pw_below_drewN | apply below_drew1 | refine below_set ?_ GE201.out | refine below_set ?_ GE202.out) | exact HB.out)))); have n1_ := Aside0.mk (Kd.R_lower (Kd.R_newB ho1 (g := gb201) (o := .cells #[.int .i64 a0_0, .int .i64 a0_1, .string a0_2, .slice A0_3 l0_3.length c0_3, .slice A0_4 l0_4.length c0_4] 48 (0, 0)) (by (with_reducible repeat (first | refine blk_drewN ?_ _ | refine blk_drew ?_ | refine blk_alloc ?_ _)); exact BK201.out)) (below_size (by repeat (first | (with_reducible first | exact HB.out | apply below_alloc | apply pw_below_drewN | apply below_drew1 | refine below_set ?_ GE201.out | refine below_set ?_ GE202.out) | exact HB.out)))); have n2_ := Aside0.mk (blk_below (g := gb201) (o := .cells #[.int .i64 a0_0, .int .i64 a0_1, .string a0_2, .slice A0_3 l0_3.length c0_3, .slice A0_4 l0_4.length c0_4] 48 (0, 0)) (by (with_reducible repeat (first | refine blk_drewN ?_ _ | refine blk_drew ?_ | refine blk_alloc ?_ _)); exact BK201.out) hb); have n3_ := Aside0.mk (blk_below (g := gb202) (o := .cells #[.int .i64 0, .bool false] 103 (0, 0)) (by (with_reducible repeat (first | refine blk_drewN ?_ _ | refine blk_drew ?_ | refine blk_alloc ?_ _)); exact BK202.out) hb); have n4_ := Aside0.mk (below_step (by repeat (first | (with_reducible first | exact HB.out | apply below_alloc | apply pw_below_drewN | apply below_drew1 | refine below_set ?_ GE201.out | refine below_set ?_ GE202.out) | exact HB.out)) hb); clear BK201; clear BK202; clear HB; have HO208 := n0_; have HO211 := n1_; have BK201 := n2_; have BK202 := n3_; have HB := n4_; clear n0_ n1_ n2_ n3_ n4_; (try clear hb); (try clear hb2); (try clear hk); (try clear hi); (try clear ho0); (try clear ho1)) | ((with_reducible refine gate_dst (N := 5) rfl ?_); refine box_event ?hg (N := 5) ?hd (cs := #[.int .i64 0, .int .i64 0, .string (⟨#[]⟩ : ByteArray), .slice none 0 0, .slice none 0 0]) (t := 48) ?hr ?_; (case hd => rfl); (case hg => rfl); (case hr => first | (go_simp; done) | (go_simp; rfl)); intro gb213 hg w23 hbox hb; have n0_ := Aside0.mk (Kd.R_below (by (with_reducible repeat (first | apply Kd.R_alloc | apply Kd.R_drewN | apply Kd.R_drew)); exact HO208.out) hb); have n1_ := Aside0.mk (Kd.R_below (Kd.R_elderB (by (with_reducible repeat (first | apply Kd.R_alloc | apply Kd.R_drewN | apply Kd.R_drew)); exact HO211.out) gb213 (Nat.le_of_eq hg.symm)) hb); have n2_ := Aside0.mk (blk_below (g := gb201) (o := .cells #[.int .i64 a0_0, .int .i64 a0_1, .string a0_2, .slice A0_3 l0_3.length c0_3, .slice A0_4 l0_4.length c0_4] 48 (0, 0)) (by (with_reducible repeat (first | refine blk_drewN ?_ _ | refine blk_drew ?_ | refine blk_alloc ?_ _)); exact BK201.out) hb); have n3_ := Aside0.mk (blk_below (g := gb202) (o := .cells #[.int .i64 0, .bool false] 103 (0, 0)) (by (with_reducible repeat (first | refine blk_drewN ?_ _ | refine blk_drew ?_ | refine blk_alloc ?_ _)); exact BK202.out) hb); have n4_ := Aside0.mk (below_step (by repeat (first | (with_reducible first | exact HB.out | apply below_alloc | apply pw_below_drewN | apply below_drew1 | refine below_set ?_ GE201.out | refine below_set ?_ GE202.out) | exact HB.out)) hb); have n5_ := Aside0.mk (hbox); have n6_ := Aside0.mk ((by rw [hg]; exact (below_size (by repeat (first | (with_reducible first | exact HB.out | apply below_alloc | apply pw_below_drewN | apply below_drew1 | refine below_set ?_ GE201.out | refine below_set ?_ GE202.out) | exact HB.out))) : w.heap.size ≤ gb213)); have n7_ := Aside0.mk ((by rw [hg]; exact (below_size (by repeat (first | (with_reducible first | exact HB.out | apply below_alloc | apply pw_below_drewN | apply below_drew1 | refine below_set ?_ GE201.out | refine below_set ?_ GE202.out) | exact HB.out))) : w.heap.size ≤ gb213)); have n8_ := Aside0.mk ((by rw [hg]; exact Nat.ne_of_lt (blk_lt (g := gb201) (o := .cells #[.int .i64 a0_0, .int .i64 a0_1, .string a0_2, .slice A0_3 l0_3.length c0_3, .slice A0_4 l0_4.length c0_4] 48 (0, 0)) (by (with_reducible repeat (first | refine blk_drewN ?_ _ | refine blk_drew ?_ | refine blk_alloc ?_ _)); exact BK201.out)) : gb201 ≠ gb213)); have n9_ := Aside0.mk ((by rw [hg]; exact Nat.ne_of_gt (blk_lt (g := gb201) (o := .cells #[.int .i64 a0_0, .int .i64 a0_1, .string a0_2, .slice A0_3 l0_3.length c0_3, .slice A0_4 l0_4.length c0_4] 48 (0, 0)) (by (with_reducible repeat (first | refine blk_drewN ?_ _ | refine blk_drew ?_ | refine blk_alloc ?_ _)); exact BK201.out)) : gb213 ≠ gb201)); have n10_ := Aside0.mk ((by rw [hg]; exact Nat.ne_of_lt (blk_lt (g := gb202) (o := .cells #[.int .i64 0, .bool false] 103 (0, 0)) (by (with_reducible repeat (first | refine blk_drewN ?_ _ | refine blk_drew ?_ | refine blk_alloc ?_ _)); exact BK202.out)) : gb202 ≠ gb213)); have n11_ := Aside0.mk ((by rw [hg]; exact Nat.ne_of_gt (blk_lt (g := gb202) (o := .cells #[.int .i64 0, .bool false] 103 (0, 0)) (by (with_reducible repeat (first | refine blk_drewN ?_ _ | refine blk_drew ?_ | refine blk_alloc ?_ _)); exact BK202.out)) : gb213 ≠ gb202)); clear HO208; clear HO211; clear BK201; clear BK202; clear HB; have HO208 := n0_; have HO211 := n1_; have BK201 := n2_; have BK202 := n3_; have HB := n4_; have BK213 := n5_; have GW213 := n6_; have GE213 := n7_; have NB201_213 := n8_; have NB213_201 := n9_; have NB202_213 := n10_; have NB213_202 := n11_; clear n0_ n1_ n2_ n3_ n4_ n5_ n6_ n7_ n8_ n9_ n10_ n11_; clear hb hbox hg; have hnb24 := NB213_201.out; have hnc24 := NB201_213.out; have hnb25 := NB213_202.out; have hnc25 := NB202_213.out; have hcz26_0 : w23.cell? ⟨gb213, 0, none⟩ = some (.int .i64 0) := (blk_cell BK213.out 0).trans rfl; have hcz26_1 : w23.cell? ⟨gb213, 1, none⟩ = some (.int .i64 0) := (blk_cell BK213.out 1).trans rfl; have hcz26_2 : w23.cell? ⟨gb213, 2, none⟩ = some (.string (⟨#[]⟩ : ByteArray)) := (blk_cell BK213.out 2).trans rfl; have hcz26_3 : w23.cell? ⟨gb213, 3, none⟩ = some (.slice none 0 0) := (blk_cell BK213.out 3).trans rfl; have hcz26_4 : w23.cell? ⟨gb213, 4, none⟩ = some (.slice none 0 0) := (blk_cell BK213.out 4).trans rfl; have hfz26_0 := blk_frozen BK213.out 0; have hfz26_1 := blk_frozen BK213.out 1; have hfz26_2 := blk_frozen BK213.out 2; have hfz26_3 := blk_frozen BK213.out 3; have hfz26_4 := blk_frozen BK213.out 4; obtain ⟨Ao27, co27, eo27⟩ := Kd.R_slice HO208.out; subst eo27; obtain ⟨Ao28, co28, eo28⟩ := Kd.R_slice HO211.out; subst eo28; have hcz29_0 : w23.cell? ⟨gb202, 0, none⟩ = some (.int .i64 0) := (blk_cell BK202.out 0).trans rfl; have hcz29_1 : w23.cell? ⟨gb202, 1, none⟩ = some (.bool false) := (blk_cell BK202.out 1).trans rfl; have hfz29_0 := blk_frozen BK202.out 0; have hfz29_1 := blk_frozen BK202.out 1))
      refine bodyPost_ret (results_cell_row rfl _ _ gb202 103 #[.int .i64 0, .bool false] (0, 0) _ rfl (by (with_reducible repeat (first | refine blk_drewN ?_ _ | refine blk_drew ?_ | refine blk_alloc ?_ _)); refine blk_put (cs := #[.int .i64 0, .bool false]) ?_ 1 _ rfl; (with_reducible repeat (first | refine blk_drewN ?_ _ | refine blk_drew ?_ | refine blk_alloc ?_ _)); refine blk_put (cs := #[.int .i64 0, .bool false]) ?_ 0 _ rfl; (with_reducible repeat (first | refine blk_drewN ?_ _ | refine blk_drew ?_ | refine blk_alloc ?_ _)); refine blk_far ?_ NB202_213.out _; (with_reducible repeat (first | refine blk_drewN ?_ _ | refine blk_drew ?_ | refine blk_alloc ?_ _)); refine blk_far ?_ NB202_213.out _; (with_reducible repeat (first | refine blk_drewN ?_ _ | refine blk_drew ?_ | refine blk_alloc ?_ _)); refine blk_far ?_ NB202_213.out _; (with_reducible repeat (first | refine blk_drewN ?_ _ | refine blk_drew ?_ | refine blk_alloc ?_ _)); refine blk_far ?_ NB202_213.out _; (with_reducible repeat (first | refine blk_drewN ?_ _ | refine blk_drew ?_ | refine blk_alloc ?_ _)); refine blk_far ?_ NB202_213.out _; (with_reducible repeat (first | refine blk_drewN ?_ _ | refine blk_drew ?_ | refine blk_alloc ?_ _)); exact BK202.out) Tryz.underlying103 rfl (by kernel_rfl)) rfl ?_
      exact ⟨by first | rfl | (simp [errW_none, errW_some] <;> rfl) | (simp [*, errW_none, errW_some] <;> rfl), by repeat (first | (with_reducible first | exact HB.out | apply below_alloc | apply pw_below_drewN | apply below_drew1 | refine below_set ?_ GE201.out | refine below_set ?_ GE202.out | refine below_set ?_ GE213.out) | exact HB.out)⟩
  · replace c4 := Bool.eq_false_iff.mpr c4
    subst c4
    have H1 : (some (0, false)) = some (r1, r2) := by rw [if_neg (show ¬ (false = true) by decide)] at H; exact H
    clear H
    have H := H1
    clear H1
    simp only [Option.some.injEq, Prod.mk.injEq] at H
    obtain ⟨rfl, rfl⟩ := H
    go_enter Tryz.func79, Tryz.ntmps79
    go_wp2_with (first | ((with_reducible refine gate_dst (N := 2) rfl ?_); refine box_event ?hg (N := 2) ?hd (cs := #[.int .i64 a0_0, .int .i64 a0_1, .string a0_2, .slice A0_3 l0_3.length c0_3, .slice A0_4 l0_4.length c0_4]) (t := 48) ?hr ?_; (case hd => rfl); (case hg => rfl); (case hr => first | (go_simp; done) | (go_simp; rfl)); intro gb201 hg w30 hbox hb; have n0_ := Aside0.mk (below_step (by repeat (first | (with_reducible first | exact HB.out | apply below_alloc | apply pw_below_drewN | apply below_drew1) | exact HB.out)) hb); have n1_ := Aside0.mk (hbox); have n2_ := Aside0.mk ((by rw [hg]; exact (below_size (by repeat (first | (with_reducible first | exact HB.out | apply below_alloc | apply pw_below_drewN | apply below_drew1) | exact HB.out))) : w.heap.size ≤ gb201)); have n3_ := Aside0.mk ((by rw [hg]; exact (below_size (by repeat (first | (with_reducible first | exact HB.out | apply below_alloc | apply pw_below_drewN | apply below_drew1) | exact HB.out))) : w.heap.size ≤ gb201)); clear HB; have HB := n0_; have BK201 := n1_; have GW201 := n2_; have GE201 := n3_; clear n0_ n1_ n2_ n3_; clear hb hbox hg) | ((with_reducible refine gate_dst (N := 4) rfl ?_); refine box_event ?hg (N := 4) ?hd (cs := #[.int .i64 0, .bool false]) (t := 103) ?hr ?_; (case hd => rfl); (case hg => rfl); (case hr => first | (go_simp; done) | (go_simp; rfl)); intro gb202 hg w31 hbox hb; have n0_ := Aside0.mk (blk_below (g := gb201) (o := .cells #[.int .i64 a0_0, .int .i64 a0_1, .string a0_2, .slice A0_3 l0_3.length c0_3, .slice A0_4 l0_4.length c0_4] 48 (0, 0)) (by (with_reducible repeat (first | refine blk_drewN ?_ _ | refine blk_drew ?_ | refine blk_alloc ?_ _)); exact BK201.out) hb); have n1_ := Aside0.mk (below_step (by repeat (first | (with_reducible first | exact HB.out | apply below_alloc | apply pw_below_drewN | apply below_drew1 | refine below_set ?_ GE201.out) | exact HB.out)) hb); have n2_ := Aside0.mk (hbox); have n3_ := Aside0.mk ((by rw [hg]; exact (below_size (by repeat (first | (with_reducible first | exact HB.out | apply below_alloc | apply pw_below_drewN | apply below_drew1 | refine below_set ?_ GE201.out) | exact HB.out))) : w.heap.size ≤ gb202)); have n4_ := Aside0.mk ((by rw [hg]; exact (below_size (by repeat (first | (with_reducible first | exact HB.out | apply below_alloc | apply pw_below_drewN | apply below_drew1 | refine below_set ?_ GE201.out) | exact HB.out))) : w.heap.size ≤ gb202)); have n5_ := Aside0.mk ((by rw [hg]; exact Nat.ne_of_lt (blk_lt (g := gb201) (o := .cells #[.int .i64 a0_0, .int .i64 a0_1, .string a0_2, .slice A0_3 l0_3.length c0_3, .slice A0_4 l0_4.length c0_4] 48 (0, 0)) (by (with_reducible repeat (first | refine blk_drewN ?_ _ | refine blk_drew ?_ | refine blk_alloc ?_ _)); exact BK201.out)) : gb201 ≠ gb202)); have n6_ := Aside0.mk ((by rw [hg]; exact Nat.ne_of_gt (blk_lt (g := gb201) (o := .cells #[.int .i64 a0_0, .int .i64 a0_1, .string a0_2, .slice A0_3 l0_3.length c0_3, .slice A0_4 l0_4.length c0_4] 48 (0, 0)) (by (with_reducible repeat (first | refine blk_drewN ?_ _ | refine blk_drew ?_ | refine blk_alloc ?_ _)); exact BK201.out)) : gb202 ≠ gb201)); clear BK201; clear HB; have BK201 := n0_; have HB := n1_; have BK202 := n2_; have GW202 := n3_; have GE202 := n4_; have NB201_202 := n5_; have NB202_201 := n6_; clear n0_ n1_ n2_ n3_ n4_ n5_ n6_; clear hb hbox hg; have hnb32 := NB201_202.out; have hnc32 := NB202_201.out; have hcz33_0 : w31.cell? ⟨gb201, 0, none⟩ = some (.int .i64 a0_0) := (blk_cell BK201.out 0).trans rfl; have hcz33_1 : w31.cell? ⟨gb201, 1, none⟩ = some (.int .i64 a0_1) := (blk_cell BK201.out 1).trans rfl; have hcz33_2 : w31.cell? ⟨gb201, 2, none⟩ = some (.string a0_2) := (blk_cell BK201.out 2).trans rfl; have hcz33_3 : w31.cell? ⟨gb201, 3, none⟩ = some (.slice A0_3 l0_3.length c0_3) := (blk_cell BK201.out 3).trans rfl; have hcz33_4 : w31.cell? ⟨gb201, 4, none⟩ = some (.slice A0_4 l0_4.length c0_4) := (blk_cell BK201.out 4).trans rfl; have hfz33_0 := blk_frozen BK201.out 0; have hfz33_1 := blk_frozen BK201.out 1; have hfz33_2 := blk_frozen BK201.out 2; have hfz33_3 := blk_frozen BK201.out 3; have hfz33_4 := blk_frozen BK201.out 4) | ((with_reducible refine gate_callee (f := 44) rfl ?_); refine goesL_ (some 10) rfl rfl Tryz.func44 (by kernel_rfl) rfl #[.agg #[.int .i64 a0_0, .int .i64 a0_1, .string a0_2, .slice A0_3 l0_3.length c0_3, .slice A0_4 l0_4.length c0_4], .string a1] rfl (by (try simp only [List.map_toArray, List.map_cons, List.map_nil]); first | done | rfl | (simp only [List.length_drop, List.length_take]; rfl)) ?_; (with_reducible refine (value_Get.calls k a0_0 a0_1 a0_2 _ _ l0_3 _ _ l0_4 a1 t203 t204 t205 t206 t209 false _ ?side1 ?side2 ?side3 ?side4 A3.out).mono ?_); (case side1 => repeat (first | exact (Kd.C_below HR0_3.out HB.out) | (with_reducible refine Kd.C_alloc ?_ _) | (with_reducible refine Kd.C_drewN ?_ _) | (with_reducible refine Kd.C_drew ?_))); (case side2 => exact HC0_3.out); (case side3 => repeat (first | exact (Kd.C_below HR0_4.out HB.out) | (with_reducible refine Kd.C_alloc ?_ _) | (with_reducible refine Kd.C_drewN ?_ _) | (with_reducible refine Kd.C_drew ?_))); (case side4 => exact HC0_4.out); rintro e w34 ⟨v207, v210, rfl, ho0, ho1, hb⟩; refine ⟨_, rfl, ?_⟩; have n0_ := Aside0.mk (Kd.R_lower ho0 (below_size (by repeat (first | (with_reducible first | exact HB.out | apply below_alloc | apply pw_below_drewN | apply below_drew1 | refine below_set ?_ GE201.out | refine below_set ?_ GE202.out) | exact HB.out)))); have n1_ := Aside0.mk (Kd.R_lower (Kd.R_newB ho1 (g := gb201) (o := .cells #[.int .i64 a0_0, .int .i64 a0_1, .string a0_2, .slice A0_3 l0_3.length c0_3, .slice A0_4 l0_4.length c0_4] 48 (0, 0)) (by (with_reducible repeat (first | refine blk_drewN ?_ _ | refine blk_drew ?_ | refine blk_alloc ?_ _)); exact BK201.out)) (below_size (by repeat (first | (with_reducible first | exact HB.out | apply below_alloc | apply pw_below_drewN | apply below_drew1 | refine below_set ?_ GE201.out | refine below_set ?_ GE202.out) | exact HB.out)))); have n2_ := Aside0.mk (blk_below (g := gb201) (o := .cells #[.int .i64 a0_0, .int .i64 a0_1, .string a0_2, .slice A0_3 l0_3.length c0_3, .slice A0_4 l0_4.length c0_4] 48 (0, 0)) (by (with_reducible repeat (first | refine blk_drewN ?_ _ | refine blk_drew ?_ | refine blk_alloc ?_ _)); exact BK201.out) hb); have n3_ := Aside0.mk (blk_below (g := gb202) (o := .cells #[.int .i64 0, .bool false] 103 (0, 0)) (by (with_reducible repeat (first | refine blk_drewN ?_ _ | refine blk_drew ?_ | refine blk_alloc ?_ _)); exact BK202.out) hb); have n4_ := Aside0.mk (below_step (by repeat (first | (with_reducible first | exact HB.out | apply below_alloc | apply pw_below_drewN | apply below_drew1 | refine below_set ?_ GE201.out | refine below_set ?_ GE202.out) | exact HB.out)) hb); clear BK201; clear BK202; clear HB; have HO208 := n0_; have HO211 := n1_; have BK201 := n2_; have BK202 := n3_; have HB := n4_; clear n0_ n1_ n2_ n3_ n4_; (try clear hb); (try clear hb2); (try clear hk); (try clear hi); (try clear ho0); (try clear ho1)) | ((with_reducible refine gate_dst (N := 5) rfl ?_); refine box_event ?hg (N := 5) ?hd (cs := #[.int .i64 0, .int .i64 0, .string (⟨#[]⟩ : ByteArray), .slice none 0 0, .slice none 0 0]) (t := 48) ?hr ?_; (case hd => rfl); (case hg => rfl); (case hr => first | (go_simp; done) | (go_simp; rfl)); intro gb213 hg w35 hbox hb; have n0_ := Aside0.mk (Kd.R_below (by (with_reducible repeat (first | apply Kd.R_alloc | apply Kd.R_drewN | apply Kd.R_drew)); exact HO208.out) hb); have n1_ := Aside0.mk (Kd.R_below (Kd.R_elderB (by (with_reducible repeat (first | apply Kd.R_alloc | apply Kd.R_drewN | apply Kd.R_drew)); exact HO211.out) gb213 (Nat.le_of_eq hg.symm)) hb); have n2_ := Aside0.mk (blk_below (g := gb201) (o := .cells #[.int .i64 a0_0, .int .i64 a0_1, .string a0_2, .slice A0_3 l0_3.length c0_3, .slice A0_4 l0_4.length c0_4] 48 (0, 0)) (by (with_reducible repeat (first | refine blk_drewN ?_ _ | refine blk_drew ?_ | refine blk_alloc ?_ _)); exact BK201.out) hb); have n3_ := Aside0.mk (blk_below (g := gb202) (o := .cells #[.int .i64 0, .bool false] 103 (0, 0)) (by (with_reducible repeat (first | refine blk_drewN ?_ _ | refine blk_drew ?_ | refine blk_alloc ?_ _)); exact BK202.out) hb); have n4_ := Aside0.mk (below_step (by repeat (first | (with_reducible first | exact HB.out | apply below_alloc | apply pw_below_drewN | apply below_drew1 | refine below_set ?_ GE201.out | refine below_set ?_ GE202.out) | exact HB.out)) hb); have n5_ := Aside0.mk (hbox); have n6_ := Aside0.mk ((by rw [hg]; exact (below_size (by repeat (first | (with_reducible first | exact HB.out | apply below_alloc | apply pw_below_drewN | apply below_drew1 | refine below_set ?_ GE201.out | refine below_set ?_ GE202.out) | exact HB.out))) : w.heap.size ≤ gb213)); have n7_ := Aside0.mk ((by rw [hg]; exact (below_size (by repeat (first | (with_reducible first | exact HB.out | apply below_alloc | apply pw_below_drewN | apply below_drew1 | refine below_set ?_ GE201.out | refine below_set ?_ GE202.out) | exact HB.out))) : w.heap.size ≤ gb213)); have n8_ := Aside0.mk ((by rw [hg]; exact Nat.ne_of_lt (blk_lt (g := gb201) (o := .cells #[.int .i64 a0_0, .int .i64 a0_1, .string a0_2, .slice A0_3 l0_3.length c0_3, .slice A0_4 l0_4.length c0_4] 48 (0, 0)) (by (with_reducible repeat (first | refine blk_drewN ?_ _ | refine blk_drew ?_ | refine blk_alloc ?_ _)); exact BK201.out)) : gb201 ≠ gb213)); have n9_ := Aside0.mk ((by rw [hg]; exact Nat.ne_of_gt (blk_lt (g := gb201) (o := .cells #[.int .i64 a0_0, .int .i64 a0_1, .string a0_2, .slice A0_3 l0_3.length c0_3, .slice A0_4 l0_4.length c0_4] 48 (0, 0)) (by (with_reducible repeat (first | refine blk_drewN ?_ _ | refine blk_drew ?_ | refine blk_alloc ?_ _)); exact BK201.out)) : gb213 ≠ gb201)); have n10_ := Aside0.mk ((by rw [hg]; exact Nat.ne_of_lt (blk_lt (g := gb202) (o := .cells #[.int .i64 0, .bool false] 103 (0, 0)) (by (with_reducible repeat (first | refine blk_drewN ?_ _ | refine blk_drew ?_ | refine blk_alloc ?_ _)); exact BK202.out)) : gb202 ≠ gb213)); have n11_ := Aside0.mk ((by rw [hg]; exact Nat.ne_of_gt (blk_lt (g := gb202) (o := .cells #[.int .i64 0, .bool false] 103 (0, 0)) (by (with_reducible repeat (first | refine blk_drewN ?_ _ | refine blk_drew ?_ | refine blk_alloc ?_ _)); exact BK202.out)) : gb213 ≠ gb202)); clear HO208; clear HO211; clear BK201; clear BK202; clear HB; have HO208 := n0_; have HO211 := n1_; have BK201 := n2_; have BK202 := n3_; have HB := n4_; have BK213 := n5_; have GW213 := n6_; have GE213 := n7_; have NB201_213 := n8_; have NB213_201 := n9_; have NB202_213 := n10_; have NB213_202 := n11_; clear n0_ n1_ n2_ n3_ n4_ n5_ n6_ n7_ n8_ n9_ n10_ n11_; clear hb hbox hg; have hnb36 := NB213_201.out; have hnc36 := NB201_213.out; have hnb37 := NB213_202.out; have hnc37 := NB202_213.out; have hcz38_0 : w35.cell? ⟨gb213, 0, none⟩ = some (.int .i64 0) := (blk_cell BK213.out 0).trans rfl; have hcz38_1 : w35.cell? ⟨gb213, 1, none⟩ = some (.int .i64 0) := (blk_cell BK213.out 1).trans rfl; have hcz38_2 : w35.cell? ⟨gb213, 2, none⟩ = some (.string (⟨#[]⟩ : ByteArray)) := (blk_cell BK213.out 2).trans rfl; have hcz38_3 : w35.cell? ⟨gb213, 3, none⟩ = some (.slice none 0 0) := (blk_cell BK213.out 3).trans rfl; have hcz38_4 : w35.cell? ⟨gb213, 4, none⟩ = some (.slice none 0 0) := (blk_cell BK213.out 4).trans rfl; have hfz38_0 := blk_frozen BK213.out 0; have hfz38_1 := blk_frozen BK213.out 1; have hfz38_2 := blk_frozen BK213.out 2; have hfz38_3 := blk_frozen BK213.out 3; have hfz38_4 := blk_frozen BK213.out 4; obtain ⟨Ao39, co39, eo39⟩ := Kd.R_slice HO208.out; subst eo39; obtain ⟨Ao40, co40, eo40⟩ := Kd.R_slice HO211.out; subst eo40; have hcz41_0 : w35.cell? ⟨gb202, 0, none⟩ = some (.int .i64 0) := (blk_cell BK202.out 0).trans rfl; have hcz41_1 : w35.cell? ⟨gb202, 1, none⟩ = some (.bool false) := (blk_cell BK202.out 1).trans rfl; have hfz41_0 := blk_frozen BK202.out 0; have hfz41_1 := blk_frozen BK202.out 1))
    refine bodyPost_ret (results_cell_row rfl _ _ gb202 103 #[.int .i64 0, .bool false] (0, 0) _ rfl (by (with_reducible repeat (first | refine blk_drewN ?_ _ | refine blk_drew ?_ | refine blk_alloc ?_ _)); refine blk_put (cs := #[.int .i64 0, .bool false]) ?_ 1 _ rfl; (with_reducible repeat (first | refine blk_drewN ?_ _ | refine blk_drew ?_ | refine blk_alloc ?_ _)); refine blk_put (cs := #[.int .i64 0, .bool false]) ?_ 0 _ rfl; (with_reducible repeat (first | refine blk_drewN ?_ _ | refine blk_drew ?_ | refine blk_alloc ?_ _)); refine blk_far ?_ NB202_213.out _; (with_reducible repeat (first | refine blk_drewN ?_ _ | refine blk_drew ?_ | refine blk_alloc ?_ _)); refine blk_far ?_ NB202_213.out _; (with_reducible repeat (first | refine blk_drewN ?_ _ | refine blk_drew ?_ | refine blk_alloc ?_ _)); refine blk_far ?_ NB202_213.out _; (with_reducible repeat (first | refine blk_drewN ?_ _ | refine blk_drew ?_ | refine blk_alloc ?_ _)); refine blk_far ?_ NB202_213.out _; (with_reducible repeat (first | refine blk_drewN ?_ _ | refine blk_drew ?_ | refine blk_alloc ?_ _)); refine blk_far ?_ NB202_213.out _; (with_reducible repeat (first | refine blk_drewN ?_ _ | refine blk_drew ?_ | refine blk_alloc ?_ _)); exact BK202.out) Tryz.underlying103 rfl (by kernel_rfl)) rfl ?_
    exact ⟨by first | rfl | (simp [errW_none, errW_some] <;> rfl) | (simp [*, errW_none, errW_some] <;> rfl), by repeat (first | (with_reducible first | exact HB.out | apply below_alloc | apply pw_below_drewN | apply below_drew1 | refine below_set ?_ GE201.out | refine below_set ?_ GE202.out | refine below_set ?_ GE213.out) | exact HB.out)⟩
def power_in.f (k : Nat) (a0_0 : Int) (a0_1 : Int) (a0_2 : ByteArray) (l0_3 : List ByteArray) (l0_4 : List (S48)) (a1 : ByteArray) : Option (Int × Int × ByteArray × List ByteArray × (List (S48))) := (value_Get.f k a0_0 a0_1 a0_2 l0_3 l0_4 a1).bind fun bt216 => (if bt216.1 = 5 then (some (bt216.1, bt216.2.1, bt216.2.2.1, bt216.2.2.2.1, bt216.2.2.2.2.1)) else (some (5, 0, (⟨#[]⟩ : ByteArray), ([] : List ByteArray), ([] : List (S48)))))
set_option maxHeartbeats 8000000 in
set_option maxRecDepth 100000 in
theorem power_in.calls (k : Nat) (a0_0 : Int) (a0_1 : Int) (a0_2 : ByteArray) (A0_3 : Option Addr) (c0_3 : Nat) (l0_3 : List ByteArray) (A0_4 : Option Addr) (c0_4 : Nat) (l0_4 : List (S48)) (a1 : ByteArray) (r1 : Int) (r2 : Int) (r3 : ByteArray) (r4 : List ByteArray) (r5 : List (S48)) (w : World) (hr0_3 : Kd.C Kd.string w A0_3 l0_3.length l0_3) (hc0_3 : l0_3.length ≤ c0_3) (hr0_4 : Kd.C k48 w A0_4 l0_4.length l0_4) (hc0_4 : l0_4.length ≤ c0_4) (h : power_in.f k a0_0 a0_1 a0_2 l0_3 l0_4 a1 = some (r1, r2, r3, r4, r5)) :
    Calls Tryz.prog 80 #[.agg #[.int .i64 a0_0, .int .i64 a0_1, .string a0_2, .slice A0_3 l0_3.length c0_3, .slice A0_4 l0_4.length c0_4], .string a1] w fun e w' => ∃ v3_ v4_ : Value, e = .returned (.agg #[.int .i64 r1, .int .i64 r2, .string r3, v3_, v4_]) ∧ Kd.R Kd.string 9 w' w.heap.size (fun _ => True) v3_ r4 ∧ Kd.R k48 48 w' w.heap.size (fun k_ => some k_ ≠ (v3_ : Value).ownBlock) v4_ r5 ∧ Below w.heap.size w w' := by
  have hu48 := Tryz.underlying48
  have HR0_3 := Aside0.mk hr0_3
  have HC0_3 := Aside0.mk hc0_3
  clear hr0_3 hc0_3
  have HR0_4 := Aside0.mk hr0_4
  have HC0_4 := Aside0.mk hc0_4
  clear hr0_4 hc0_4
  have HB := Aside0.mk (Below.refl w.heap.size w)
  have H : ((value_Get.f k a0_0 a0_1 a0_2 l0_3 l0_4 a1).bind fun bt216 => (if bt216.1 = 5 then (some (bt216.1, bt216.2.1, bt216.2.2.1, bt216.2.2.2.1, bt216.2.2.2.2.1)) else (some (5, 0, (⟨#[]⟩ : ByteArray), ([] : List ByteArray), ([] : List (S48)))))) = some (r1, r2, r3, r4, r5) := h
  clear h
  replace H := Option.bind_eq_some_iff.mp H
  obtain ⟨⟨t216, t217, t218, t219, t222, t225⟩, A30, H⟩ := H
  replace H : (if t216 = 5 then (some (t216, t217, t218, t219, t222)) else (some (5, 0, (⟨#[]⟩ : ByteArray), ([] : List ByteArray), ([] : List (S48))))) = some (r1, r2, r3, r4, r5) := H
  have A3 := Aside0.mk A30
  clear A30
  by_cases c4 : t216 = 5
  · rw [if_pos c4] at H
    have c4b0 : (t216 == 5) = true := beq_iff_eq.mpr c4
    have c4b1 : (t216 != 5) = false := bne_eq_false_iff_eq.mpr c4
    clear c4
    simp only [Option.some.injEq, Prod.mk.injEq] at H
    obtain ⟨rfl, rfl, rfl, rfl, rfl⟩ := H
    go_enter Tryz.func80, Tryz.ntmps80
    go_wp2_with (first | ((with_reducible refine gate_dst (N := 2) rfl ?_); refine box_event ?hg (N := 2) ?hd (cs := #[.int .i64 a0_0, .int .i64 a0_1, .string a0_2, .slice A0_3 l0_3.length c0_3, .slice A0_4 l0_4.length c0_4]) (t := 48) ?hr ?_; (case hd => rfl); (case hg => rfl); (case hr => first | (go_simp; done) | (go_simp; rfl)); intro gb214 hg w5 hbox hb; have n0_ := Aside0.mk (below_step (by repeat (first | (with_reducible first | exact HB.out | apply below_alloc | apply pw_below_drewN | apply below_drew1) | exact HB.out)) hb); have n1_ := Aside0.mk (hbox); have n2_ := Aside0.mk ((by rw [hg]; exact (below_size (by repeat (first | (with_reducible first | exact HB.out | apply below_alloc | apply pw_below_drewN | apply below_drew1) | exact HB.out))) : w.heap.size ≤ gb214)); have n3_ := Aside0.mk ((by rw [hg]; exact (below_size (by repeat (first | (with_reducible first | exact HB.out | apply below_alloc | apply pw_below_drewN | apply below_drew1) | exact HB.out))) : w.heap.size ≤ gb214)); clear HB; have HB := n0_; have BK214 := n1_; have GW214 := n2_; have GE214 := n3_; clear n0_ n1_ n2_ n3_; clear hb hbox hg) | ((with_reducible refine gate_dst (N := 4) rfl ?_); refine box_event ?hg (N := 4) ?hd (cs := #[.int .i64 0, .int .i64 0, .string (⟨#[]⟩ : ByteArray), .slice none 0 0, .slice none 0 0]) (t := 48) ?hr ?_; (case hd => rfl); (case hg => rfl); (case hr => first | (go_simp; done) | (go_simp; rfl)); intro gb215 hg w6 hbox hb; have n0_ := Aside0.mk (blk_below (g := gb214) (o := .cells #[.int .i64 a0_0, .int .i64 a0_1, .string a0_2, .slice A0_3 l0_3.length c0_3, .slice A0_4 l0_4.length c0_4] 48 (0, 0)) (by (with_reducible repeat (first | refine blk_drewN ?_ _ | refine blk_drew ?_ | refine blk_alloc ?_ _)); exact BK214.out) hb); have n1_ := Aside0.mk (below_step (by repeat (first | (with_reducible first | exact HB.out | apply below_alloc | apply pw_below_drewN | apply below_drew1 | refine below_set ?_ GE214.out) | exact HB.out)) hb); have n2_ := Aside0.mk (hbox); have n3_ := Aside0.mk ((by rw [hg]; exact (below_size (by repeat (first | (with_reducible first | exact HB.out | apply below_alloc | apply pw_below_drewN | apply below_drew1 | refine below_set ?_ GE214.out) | exact HB.out))) : w.heap.size ≤ gb215)); have n4_ := Aside0.mk ((by rw [hg]; exact (below_size (by repeat (first | (with_reducible first | exact HB.out | apply below_alloc | apply pw_below_drewN | apply below_drew1 | refine below_set ?_ GE214.out) | exact HB.out))) : w.heap.size ≤ gb215)); have n5_ := Aside0.mk ((by rw [hg]; exact Nat.ne_of_lt (blk_lt (g := gb214) (o := .cells #[.int .i64 a0_0, .int .i64 a0_1, .string a0_2, .slice A0_3 l0_3.length c0_3, .slice A0_4 l0_4.length c0_4] 48 (0, 0)) (by (with_reducible repeat (first | refine blk_drewN ?_ _ | refine blk_drew ?_ | refine blk_alloc ?_ _)); exact BK214.out)) : gb214 ≠ gb215)); have n6_ := Aside0.mk ((by rw [hg]; exact Nat.ne_of_gt (blk_lt (g := gb214) (o := .cells #[.int .i64 a0_0, .int .i64 a0_1, .string a0_2, .slice A0_3 l0_3.length c0_3, .slice A0_4 l0_4.length c0_4] 48 (0, 0)) (by (with_reducible repeat (first | refine blk_drewN ?_ _ | refine blk_drew ?_ | refine blk_alloc ?_ _)); exact BK214.out)) : gb215 ≠ gb214)); clear BK214; clear HB; have BK214 := n0_; have HB := n1_; have BK215 := n2_; have GW215 := n3_; have GE215 := n4_; have NB214_215 := n5_; have NB215_214 := n6_; clear n0_ n1_ n2_ n3_ n4_ n5_ n6_; clear hb hbox hg; have hnb7 := NB214_215.out; have hnc7 := NB215_214.out; have hcz8_0 : w6.cell? ⟨gb214, 0, none⟩ = some (.int .i64 a0_0) := (blk_cell BK214.out 0).trans rfl; have hcz8_1 : w6.cell? ⟨gb214, 1, none⟩ = some (.int .i64 a0_1) := (blk_cell BK214.out 1).trans rfl; have hcz8_2 : w6.cell? ⟨gb214, 2, none⟩ = some (.string a0_2) := (blk_cell BK214.out 2).trans rfl; have hcz8_3 : w6.cell? ⟨gb214, 3, none⟩ = some (.slice A0_3 l0_3.length c0_3) := (blk_cell BK214.out 3).trans rfl; have hcz8_4 : w6.cell? ⟨gb214, 4, none⟩ = some (.slice A0_4 l0_4.length c0_4) := (blk_cell BK214.out 4).trans rfl; have hfz8_0 := blk_frozen BK214.out 0; have hfz8_1 := blk_frozen BK214.out 1; have hfz8_2 := blk_frozen BK214.out 2; have hfz8_3 := blk_frozen BK214.out 3; have hfz8_4 := blk_frozen BK214.out 4) | ((with_reducible refine gate_callee (f := 44) rfl ?_); refine goesL_ (some 10) rfl rfl Tryz.func44 (by kernel_rfl) rfl #[.agg #[.int .i64 a0_0, .int .i64 a0_1, .string a0_2, .slice A0_3 l0_3.length c0_3, .slice A0_4 l0_4.length c0_4], .string a1] rfl (by (try simp only [List.map_toArray, List.map_cons, List.map_nil]); first | done | rfl | (simp only [List.length_drop, List.length_take]; rfl)) ?_; (with_reducible refine (value_Get.calls k a0_0 a0_1 a0_2 _ _ l0_3 _ _ l0_4 a1 t216 t217 t218 t219 t222 t225 _ ?side1 ?side2 ?side3 ?side4 A3.out).mono ?_); (case side1 => repeat (first | exact (Kd.C_below HR0_3.out HB.out) | (with_reducible refine Kd.C_alloc ?_ _) | (with_reducible refine Kd.C_drewN ?_ _) | (with_reducible refine Kd.C_drew ?_))); (case side2 => exact HC0_3.out); (case side3 => repeat (first | exact (Kd.C_below HR0_4.out HB.out) | (with_reducible refine Kd.C_alloc ?_ _) | (with_reducible refine Kd.C_drewN ?_ _) | (with_reducible refine Kd.C_drew ?_))); (case side4 => exact HC0_4.out); rintro e w9 ⟨v220, v223, rfl, ho0, ho1, hb⟩; refine ⟨_, rfl, ?_⟩; have n0_ := Aside0.mk (Kd.R_lower ho0 (below_size (by repeat (first | (with_reducible first | exact HB.out | apply below_alloc | apply pw_below_drewN | apply below_drew1 | refine below_set ?_ GE214.out | refine below_set ?_ GE215.out) | exact HB.out)))); have n1_ := Aside0.mk (Kd.R_lower (Kd.R_newB (Kd.R_newB ho1 (g := gb214) (o := .cells #[.int .i64 a0_0, .int .i64 a0_1, .string a0_2, .slice A0_3 l0_3.length c0_3, .slice A0_4 l0_4.length c0_4] 48 (0, 0)) (by (with_reducible repeat (first | refine blk_drewN ?_ _ | refine blk_drew ?_ | refine blk_alloc ?_ _)); exact BK214.out)) (g := gb215) (o := .cells #[.int .i64 0, .int .i64 0, .string (⟨#[]⟩ : ByteArray), .slice none 0 0, .slice none 0 0] 48 (0, 0)) (by (with_reducible repeat (first | refine blk_drewN ?_ _ | refine blk_drew ?_ | refine blk_alloc ?_ _)); exact BK215.out)) (below_size (by repeat (first | (with_reducible first | exact HB.out | apply below_alloc | apply pw_below_drewN | apply below_drew1 | refine below_set ?_ GE214.out | refine below_set ?_ GE215.out) | exact HB.out)))); have n2_ := Aside0.mk (blk_below (g := gb214) (o := .cells #[.int .i64 a0_0, .int .i64 a0_1, .string a0_2, .slice A0_3 l0_3.length c0_3, .slice A0_4 l0_4.length c0_4] 48 (0, 0)) (by (with_reducible repeat (first | refine blk_drewN ?_ _ | refine blk_drew ?_ | refine blk_alloc ?_ _)); exact BK214.out) hb); have n3_ := Aside0.mk (blk_below (g := gb215) (o := .cells #[.int .i64 0, .int .i64 0, .string (⟨#[]⟩ : ByteArray), .slice none 0 0, .slice none 0 0] 48 (0, 0)) (by (with_reducible repeat (first | refine blk_drewN ?_ _ | refine blk_drew ?_ | refine blk_alloc ?_ _)); exact BK215.out) hb); have n4_ := Aside0.mk (below_step (by repeat (first | (with_reducible first | exact HB.out | apply below_alloc | apply pw_below_drewN | apply below_drew1 | refine below_set ?_ GE214.out | refine below_set ?_ GE215.out) | exact HB.out)) hb); clear BK214; clear BK215; clear HB; have HO221 := n0_; have HO224 := n1_; have BK214 := n2_; have BK215 := n3_; have HB := n4_; clear n0_ n1_ n2_ n3_ n4_; (try clear hb); (try clear hb2); (try clear hk); (try clear hi); (try clear ho0); (try clear ho1)) | ((with_reducible refine gate_dst (N := 5) rfl ?_); refine box_event ?hg (N := 5) ?hd (cs := #[.int .i64 0, .int .i64 0, .string (⟨#[]⟩ : ByteArray), .slice none 0 0, .slice none 0 0]) (t := 48) ?hr ?_; (case hd => rfl); (case hg => rfl); (case hr => first | (go_simp; done) | (go_simp; rfl)); intro gb226 hg w10 hbox hb; have n0_ := Aside0.mk (Kd.R_below (by (with_reducible repeat (first | apply Kd.R_alloc | apply Kd.R_drewN | apply Kd.R_drew)); exact HO221.out) hb); have n1_ := Aside0.mk (Kd.R_below (Kd.R_elderB (by (with_reducible repeat (first | apply Kd.R_alloc | apply Kd.R_drewN | apply Kd.R_drew)); exact HO224.out) gb226 (Nat.le_of_eq hg.symm)) hb); have n2_ := Aside0.mk (blk_below (g := gb214) (o := .cells #[.int .i64 a0_0, .int .i64 a0_1, .string a0_2, .slice A0_3 l0_3.length c0_3, .slice A0_4 l0_4.length c0_4] 48 (0, 0)) (by (with_reducible repeat (first | refine blk_drewN ?_ _ | refine blk_drew ?_ | refine blk_alloc ?_ _)); exact BK214.out) hb); have n3_ := Aside0.mk (blk_below (g := gb215) (o := .cells #[.int .i64 0, .int .i64 0, .string (⟨#[]⟩ : ByteArray), .slice none 0 0, .slice none 0 0] 48 (0, 0)) (by (with_reducible repeat (first | refine blk_drewN ?_ _ | refine blk_drew ?_ | refine blk_alloc ?_ _)); exact BK215.out) hb); have n4_ := Aside0.mk (below_step (by repeat (first | (with_reducible first | exact HB.out | apply below_alloc | apply pw_below_drewN | apply below_drew1 | refine below_set ?_ GE214.out | refine below_set ?_ GE215.out) | exact HB.out)) hb); have n5_ := Aside0.mk (hbox); have n6_ := Aside0.mk ((by rw [hg]; exact (below_size (by repeat (first | (with_reducible first | exact HB.out | apply below_alloc | apply pw_below_drewN | apply below_drew1 | refine below_set ?_ GE214.out | refine below_set ?_ GE215.out) | exact HB.out))) : w.heap.size ≤ gb226)); have n7_ := Aside0.mk ((by rw [hg]; exact (below_size (by repeat (first | (with_reducible first | exact HB.out | apply below_alloc | apply pw_below_drewN | apply below_drew1 | refine below_set ?_ GE214.out | refine below_set ?_ GE215.out) | exact HB.out))) : w.heap.size ≤ gb226)); have n8_ := Aside0.mk ((by rw [hg]; exact Nat.ne_of_lt (blk_lt (g := gb214) (o := .cells #[.int .i64 a0_0, .int .i64 a0_1, .string a0_2, .slice A0_3 l0_3.length c0_3, .slice A0_4 l0_4.length c0_4] 48 (0, 0)) (by (with_reducible repeat (first | refine blk_drewN ?_ _ | refine blk_drew ?_ | refine blk_alloc ?_ _)); exact BK214.out)) : gb214 ≠ gb226)); have n9_ := Aside0.mk ((by rw [hg]; exact Nat.ne_of_gt (blk_lt (g := gb214) (o := .cells #[.int .i64 a0_0, .int .i64 a0_1, .string a0_2, .slice A0_3 l0_3.length c0_3, .slice A0_4 l0_4.length c0_4] 48 (0, 0)) (by (with_reducible repeat (first | refine blk_drewN ?_ _ | refine blk_drew ?_ | refine blk_alloc ?_ _)); exact BK214.out)) : gb226 ≠ gb214)); have n10_ := Aside0.mk ((by rw [hg]; exact Nat.ne_of_lt (blk_lt (g := gb215) (o := .cells #[.int .i64 0, .int .i64 0, .string (⟨#[]⟩ : ByteArray), .slice none 0 0, .slice none 0 0] 48 (0, 0)) (by (with_reducible repeat (first | refine blk_drewN ?_ _ | refine blk_drew ?_ | refine blk_alloc ?_ _)); exact BK215.out)) : gb215 ≠ gb226)); have n11_ := Aside0.mk ((by rw [hg]; exact Nat.ne_of_gt (blk_lt (g := gb215) (o := .cells #[.int .i64 0, .int .i64 0, .string (⟨#[]⟩ : ByteArray), .slice none 0 0, .slice none 0 0] 48 (0, 0)) (by (with_reducible repeat (first | refine blk_drewN ?_ _ | refine blk_drew ?_ | refine blk_alloc ?_ _)); exact BK215.out)) : gb226 ≠ gb215)); clear HO221; clear HO224; clear BK214; clear BK215; clear HB; have HO221 := n0_; have HO224 := n1_; have BK214 := n2_; have BK215 := n3_; have HB := n4_; have BK226 := n5_; have GW226 := n6_; have GE226 := n7_; have NB214_226 := n8_; have NB226_214 := n9_; have NB215_226 := n10_; have NB226_215 := n11_; clear n0_ n1_ n2_ n3_ n4_ n5_ n6_ n7_ n8_ n9_ n10_ n11_; clear hb hbox hg; have hnb11 := NB226_214.out; have hnc11 := NB214_226.out; have hnb12 := NB226_215.out; have hnc12 := NB215_226.out; have hcz13_0 : w10.cell? ⟨gb226, 0, none⟩ = some (.int .i64 0) := (blk_cell BK226.out 0).trans rfl; have hcz13_1 : w10.cell? ⟨gb226, 1, none⟩ = some (.int .i64 0) := (blk_cell BK226.out 1).trans rfl; have hcz13_2 : w10.cell? ⟨gb226, 2, none⟩ = some (.string (⟨#[]⟩ : ByteArray)) := (blk_cell BK226.out 2).trans rfl; have hcz13_3 : w10.cell? ⟨gb226, 3, none⟩ = some (.slice none 0 0) := (blk_cell BK226.out 3).trans rfl; have hcz13_4 : w10.cell? ⟨gb226, 4, none⟩ = some (.slice none 0 0) := (blk_cell BK226.out 4).trans rfl; have hfz13_0 := blk_frozen BK226.out 0; have hfz13_1 := blk_frozen BK226.out 1; have hfz13_2 := blk_frozen BK226.out 2; have hfz13_3 := blk_frozen BK226.out 3; have hfz13_4 := blk_frozen BK226.out 4; obtain ⟨Ao14, co14, eo14⟩ := Kd.R_slice HO221.out; subst eo14; obtain ⟨Ao15, co15, eo15⟩ := Kd.R_slice HO224.out; subst eo15; have hcz16_0 : w10.cell? ⟨gb215, 0, none⟩ = some (.int .i64 0) := (blk_cell BK215.out 0).trans rfl; have hcz16_1 : w10.cell? ⟨gb215, 1, none⟩ = some (.int .i64 0) := (blk_cell BK215.out 1).trans rfl; have hcz16_2 : w10.cell? ⟨gb215, 2, none⟩ = some (.string (⟨#[]⟩ : ByteArray)) := (blk_cell BK215.out 2).trans rfl; have hcz16_3 : w10.cell? ⟨gb215, 3, none⟩ = some (.slice none 0 0) := (blk_cell BK215.out 3).trans rfl; have hcz16_4 : w10.cell? ⟨gb215, 4, none⟩ = some (.slice none 0 0) := (blk_cell BK215.out 4).trans rfl; have hfz16_0 := blk_frozen BK215.out 0; have hfz16_1 := blk_frozen BK215.out 1; have hfz16_2 := blk_frozen BK215.out 2; have hfz16_3 := blk_frozen BK215.out 3; have hfz16_4 := blk_frozen BK215.out 4))
    refine bodyPost_ret (results_cell_row rfl _ _ gb215 48 #[.int .i64 t216, .int .i64 t217, .string t218, .slice Ao14 t219.length co14, .slice Ao15 t222.length co15] (0, 0) _ rfl (by (with_reducible repeat (first | refine blk_drewN ?_ _ | refine blk_drew ?_ | refine blk_alloc ?_ _)); refine blk_put (cs := #[.int .i64 t216, .int .i64 t217, .string t218, .slice Ao14 t219.length co14, .slice none 0 0]) ?_ 4 _ rfl; (with_reducible repeat (first | refine blk_drewN ?_ _ | refine blk_drew ?_ | refine blk_alloc ?_ _)); refine blk_put (cs := #[.int .i64 t216, .int .i64 t217, .string t218, .slice none 0 0, .slice none 0 0]) ?_ 3 _ rfl; (with_reducible repeat (first | refine blk_drewN ?_ _ | refine blk_drew ?_ | refine blk_alloc ?_ _)); refine blk_put (cs := #[.int .i64 t216, .int .i64 t217, .string (⟨#[]⟩ : ByteArray), .slice none 0 0, .slice none 0 0]) ?_ 2 _ rfl; (with_reducible repeat (first | refine blk_drewN ?_ _ | refine blk_drew ?_ | refine blk_alloc ?_ _)); refine blk_put (cs := #[.int .i64 t216, .int .i64 0, .string (⟨#[]⟩ : ByteArray), .slice none 0 0, .slice none 0 0]) ?_ 1 _ rfl; (with_reducible repeat (first | refine blk_drewN ?_ _ | refine blk_drew ?_ | refine blk_alloc ?_ _)); refine blk_put (cs := #[.int .i64 0, .int .i64 0, .string (⟨#[]⟩ : ByteArray), .slice none 0 0, .slice none 0 0]) ?_ 0 _ rfl; (with_reducible repeat (first | refine blk_drewN ?_ _ | refine blk_drew ?_ | refine blk_alloc ?_ _)); refine blk_far ?_ NB215_226.out _; (with_reducible repeat (first | refine blk_drewN ?_ _ | refine blk_drew ?_ | refine blk_alloc ?_ _)); refine blk_far ?_ NB215_226.out _; (with_reducible repeat (first | refine blk_drewN ?_ _ | refine blk_drew ?_ | refine blk_alloc ?_ _)); refine blk_far ?_ NB215_226.out _; (with_reducible repeat (first | refine blk_drewN ?_ _ | refine blk_drew ?_ | refine blk_alloc ?_ _)); refine blk_far ?_ NB215_226.out _; (with_reducible repeat (first | refine blk_drewN ?_ _ | refine blk_drew ?_ | refine blk_alloc ?_ _)); refine blk_far ?_ NB215_226.out _; (with_reducible repeat (first | refine blk_drewN ?_ _ | refine blk_drew ?_ | refine blk_alloc ?_ _)); exact BK215.out) Tryz.underlying48 rfl (by kernel_rfl)) rfl ?_
    exact ⟨_, _, by first | rfl | (simp [errW_none, errW_some] <;> rfl) | (simp [*, errW_none, errW_some] <;> rfl), by (with_reducible repeat (first | apply Kd.R_alloc | apply Kd.R_drewN | apply Kd.R_drew)); exact Kd.R_mono (Kd.R_far (p := ⟨gb215, 4, none⟩) (Kd.R_far (p := ⟨gb215, 3, none⟩) (Kd.R_far (p := ⟨gb215, 2, none⟩) (Kd.R_far (p := ⟨gb215, 1, none⟩) (Kd.R_far (p := ⟨gb215, 0, none⟩) (Kd.R_far (p := ⟨gb226, 4, none⟩) (Kd.R_far (p := ⟨gb226, 3, none⟩) (Kd.R_far (p := ⟨gb226, 2, none⟩) (Kd.R_far (p := ⟨gb226, 1, none⟩) (Kd.R_far (p := ⟨gb226, 0, none⟩) (Kd.R_types (Kd.R_types HO221.out BK226.out (by decide)) BK215.out (by decide)) (fun _ hk => hk.1.2) (.int .i64 t216)) (fun _ hk => hk.1.2) (.int .i64 t217)) (fun _ hk => hk.1.2) (.string t218)) (fun _ hk => hk.1.2) (.slice Ao14 t219.length co14)) (fun _ hk => hk.1.2) (.slice Ao15 t222.length co15)) (fun _ hk => hk.2) (.int .i64 t216)) (fun _ hk => hk.2) (.int .i64 t217)) (fun _ hk => hk.2) (.string t218)) (fun _ hk => hk.2) (.slice Ao14 t219.length co14)) (fun _ hk => hk.2) (.slice Ao15 t222.length co15)) (fun _ hk => trivial), by (with_reducible repeat (first | apply Kd.R_alloc | apply Kd.R_drewN | apply Kd.R_drew)); exact Kd.R_mono (Kd.R_far (p := ⟨gb215, 4, none⟩) (Kd.R_far (p := ⟨gb215, 3, none⟩) (Kd.R_far (p := ⟨gb215, 2, none⟩) (Kd.R_far (p := ⟨gb215, 1, none⟩) (Kd.R_far (p := ⟨gb215, 0, none⟩) (Kd.R_far (p := ⟨gb226, 4, none⟩) (Kd.R_far (p := ⟨gb226, 3, none⟩) (Kd.R_far (p := ⟨gb226, 2, none⟩) (Kd.R_far (p := ⟨gb226, 1, none⟩) (Kd.R_far (p := ⟨gb226, 0, none⟩) (Kd.R_mono (Kd.R_mono HO224.out (fun k_ hk => (⟨hk, hk.2⟩ : _ ∧ k_ ≠ gb226))) (fun k_ hk => (⟨hk, hk.1.1.2⟩ : _ ∧ k_ ≠ gb215))) (fun _ hk => hk.1.2) (.int .i64 t216)) (fun _ hk => hk.1.2) (.int .i64 t217)) (fun _ hk => hk.1.2) (.string t218)) (fun _ hk => hk.1.2) (.slice Ao14 t219.length co14)) (fun _ hk => hk.1.2) (.slice Ao15 t222.length co15)) (fun _ hk => hk.2) (.int .i64 t216)) (fun _ hk => hk.2) (.int .i64 t217)) (fun _ hk => hk.2) (.string t218)) (fun _ hk => hk.2) (.slice Ao14 t219.length co14)) (fun _ hk => hk.2) (.slice Ao15 t222.length co15)) (fun _ hk => hk.1.1.1.1.1), by repeat (first | (with_reducible first | exact HB.out | apply below_alloc | apply pw_below_drewN | apply below_drew1 | refine below_set ?_ GE214.out | refine below_set ?_ GE215.out | refine below_set ?_ GE226.out) | exact HB.out)⟩
  · rw [if_neg c4] at H
    have c4b0 : (t216 == 5) = false := beq_eq_false_iff_ne.mpr c4
    have c4b1 : (t216 != 5) = true := bne_iff_ne.mpr c4
    simp only [Option.some.injEq, Prod.mk.injEq] at H
    obtain ⟨rfl, rfl, rfl, rfl, rfl⟩ := H
    go_enter Tryz.func80, Tryz.ntmps80
    go_wp2_with (first | ((with_reducible refine gate_dst (N := 2) rfl ?_); refine box_event ?hg (N := 2) ?hd (cs := #[.int .i64 a0_0, .int .i64 a0_1, .string a0_2, .slice A0_3 l0_3.length c0_3, .slice A0_4 l0_4.length c0_4]) (t := 48) ?hr ?_; (case hd => rfl); (case hg => rfl); (case hr => first | (go_simp; done) | (go_simp; rfl)); intro gb214 hg w17 hbox hb; have n0_ := Aside0.mk (below_step (by repeat (first | (with_reducible first | exact HB.out | apply below_alloc | apply pw_below_drewN | apply below_drew1) | exact HB.out)) hb); have n1_ := Aside0.mk (hbox); have n2_ := Aside0.mk ((by rw [hg]; exact (below_size (by repeat (first | (with_reducible first | exact HB.out | apply below_alloc | apply pw_below_drewN | apply below_drew1) | exact HB.out))) : w.heap.size ≤ gb214)); have n3_ := Aside0.mk ((by rw [hg]; exact (below_size (by repeat (first | (with_reducible first | exact HB.out | apply below_alloc | apply pw_below_drewN | apply below_drew1) | exact HB.out))) : w.heap.size ≤ gb214)); clear HB; have HB := n0_; have BK214 := n1_; have GW214 := n2_; have GE214 := n3_; clear n0_ n1_ n2_ n3_; clear hb hbox hg) | ((with_reducible refine gate_dst (N := 4) rfl ?_); refine box_event ?hg (N := 4) ?hd (cs := #[.int .i64 0, .int .i64 0, .string (⟨#[]⟩ : ByteArray), .slice none 0 0, .slice none 0 0]) (t := 48) ?hr ?_; (case hd => rfl); (case hg => rfl); (case hr => first | (go_simp; done) | (go_simp; rfl)); intro gb215 hg w18 hbox hb; have n0_ := Aside0.mk (blk_below (g := gb214) (o := .cells #[.int .i64 a0_0, .int .i64 a0_1, .string a0_2, .slice A0_3 l0_3.length c0_3, .slice A0_4 l0_4.length c0_4] 48 (0, 0)) (by (with_reducible repeat (first | refine blk_drewN ?_ _ | refine blk_drew ?_ | refine blk_alloc ?_ _)); exact BK214.out) hb); have n1_ := Aside0.mk (below_step (by repeat (first | (with_reducible first | exact HB.out | apply below_alloc | apply pw_below_drewN | apply below_drew1 | refine below_set ?_ GE214.out) | exact HB.out)) hb); have n2_ := Aside0.mk (hbox); have n3_ := Aside0.mk ((by rw [hg]; exact (below_size (by repeat (first | (with_reducible first | exact HB.out | apply below_alloc | apply pw_below_drewN | apply below_drew1 | refine below_set ?_ GE214.out) | exact HB.out))) : w.heap.size ≤ gb215)); have n4_ := Aside0.mk ((by rw [hg]; exact (below_size (by repeat (first | (with_reducible first | exact HB.out | apply below_alloc | apply pw_below_drewN | apply below_drew1 | refine below_set ?_ GE214.out) | exact HB.out))) : w.heap.size ≤ gb215)); have n5_ := Aside0.mk ((by rw [hg]; exact Nat.ne_of_lt (blk_lt (g := gb214) (o := .cells #[.int .i64 a0_0, .int .i64 a0_1, .string a0_2, .slice A0_3 l0_3.length c0_3, .slice A0_4 l0_4.length c0_4] 48 (0, 0)) (by (with_reducible repeat (first | refine blk_drewN ?_ _ | refine blk_drew ?_ | refine blk_alloc ?_ _)); exact BK214.out)) : gb214 ≠ gb215)); have n6_ := Aside0.mk ((by rw [hg]; exact Nat.ne_of_gt (blk_lt (g := gb214) (o := .cells #[.int .i64 a0_0, .int .i64 a0_1, .string a0_2, .slice A0_3 l0_3.length c0_3, .slice A0_4 l0_4.length c0_4] 48 (0, 0)) (by (with_reducible repeat (first | refine blk_drewN ?_ _ | refine blk_drew ?_ | refine blk_alloc ?_ _)); exact BK214.out)) : gb215 ≠ gb214)); clear BK214; clear HB; have BK214 := n0_; have HB := n1_; have BK215 := n2_; have GW215 := n3_; have GE215 := n4_; have NB214_215 := n5_; have NB215_214 := n6_; clear n0_ n1_ n2_ n3_ n4_ n5_ n6_; clear hb hbox hg; have hnb19 := NB214_215.out; have hnc19 := NB215_214.out; have hcz20_0 : w18.cell? ⟨gb214, 0, none⟩ = some (.int .i64 a0_0) := (blk_cell BK214.out 0).trans rfl; have hcz20_1 : w18.cell? ⟨gb214, 1, none⟩ = some (.int .i64 a0_1) := (blk_cell BK214.out 1).trans rfl; have hcz20_2 : w18.cell? ⟨gb214, 2, none⟩ = some (.string a0_2) := (blk_cell BK214.out 2).trans rfl; have hcz20_3 : w18.cell? ⟨gb214, 3, none⟩ = some (.slice A0_3 l0_3.length c0_3) := (blk_cell BK214.out 3).trans rfl; have hcz20_4 : w18.cell? ⟨gb214, 4, none⟩ = some (.slice A0_4 l0_4.length c0_4) := (blk_cell BK214.out 4).trans rfl; have hfz20_0 := blk_frozen BK214.out 0; have hfz20_1 := blk_frozen BK214.out 1; have hfz20_2 := blk_frozen BK214.out 2; have hfz20_3 := blk_frozen BK214.out 3; have hfz20_4 := blk_frozen BK214.out 4) | ((with_reducible refine gate_callee (f := 44) rfl ?_); refine goesL_ (some 10) rfl rfl Tryz.func44 (by kernel_rfl) rfl #[.agg #[.int .i64 a0_0, .int .i64 a0_1, .string a0_2, .slice A0_3 l0_3.length c0_3, .slice A0_4 l0_4.length c0_4], .string a1] rfl (by (try simp only [List.map_toArray, List.map_cons, List.map_nil]); first | done | rfl | (simp only [List.length_drop, List.length_take]; rfl)) ?_; (with_reducible refine (value_Get.calls k a0_0 a0_1 a0_2 _ _ l0_3 _ _ l0_4 a1 t216 t217 t218 t219 t222 t225 _ ?side1 ?side2 ?side3 ?side4 A3.out).mono ?_); (case side1 => repeat (first | exact (Kd.C_below HR0_3.out HB.out) | (with_reducible refine Kd.C_alloc ?_ _) | (with_reducible refine Kd.C_drewN ?_ _) | (with_reducible refine Kd.C_drew ?_))); (case side2 => exact HC0_3.out); (case side3 => repeat (first | exact (Kd.C_below HR0_4.out HB.out) | (with_reducible refine Kd.C_alloc ?_ _) | (with_reducible refine Kd.C_drewN ?_ _) | (with_reducible refine Kd.C_drew ?_))); (case side4 => exact HC0_4.out); rintro e w21 ⟨v220, v223, rfl, ho0, ho1, hb⟩; refine ⟨_, rfl, ?_⟩; have n0_ := Aside0.mk (Kd.R_lower ho0 (below_size (by repeat (first | (with_reducible first | exact HB.out | apply below_alloc | apply pw_below_drewN | apply below_drew1 | refine below_set ?_ GE214.out | refine below_set ?_ GE215.out) | exact HB.out)))); have n1_ := Aside0.mk (Kd.R_lower (Kd.R_newB (Kd.R_newB ho1 (g := gb214) (o := .cells #[.int .i64 a0_0, .int .i64 a0_1, .string a0_2, .slice A0_3 l0_3.length c0_3, .slice A0_4 l0_4.length c0_4] 48 (0, 0)) (by (with_reducible repeat (first | refine blk_drewN ?_ _ | refine blk_drew ?_ | refine blk_alloc ?_ _)); exact BK214.out)) (g := gb215) (o := .cells #[.int .i64 0, .int .i64 0, .string (⟨#[]⟩ : ByteArray), .slice none 0 0, .slice none 0 0] 48 (0, 0)) (by (with_reducible repeat (first | refine blk_drewN ?_ _ | refine blk_drew ?_ | refine blk_alloc ?_ _)); exact BK215.out)) (below_size (by repeat (first | (with_reducible first | exact HB.out | apply below_alloc | apply pw_below_drewN | apply below_drew1 | refine below_set ?_ GE214.out | refine below_set ?_ GE215.out) | exact HB.out)))); have n2_ := Aside0.mk (blk_below (g := gb214) (o := .cells #[.int .i64 a0_0, .int .i64 a0_1, .string a0_2, .slice A0_3 l0_3.length c0_3, .slice A0_4 l0_4.length c0_4] 48 (0, 0)) (by (with_reducible repeat (first | refine blk_drewN ?_ _ | refine blk_drew ?_ | refine blk_alloc ?_ _)); exact BK214.out) hb); have n3_ := Aside0.mk (blk_below (g := gb215) (o := .cells #[.int .i64 0, .int .i64 0, .string (⟨#[]⟩ : ByteArray), .slice none 0 0, .slice none 0 0] 48 (0, 0)) (by (with_reducible repeat (first | refine blk_drewN ?_ _ | refine blk_drew ?_ | refine blk_alloc ?_ _)); exact BK215.out) hb); have n4_ := Aside0.mk (below_step (by repeat (first | (with_reducible first | exact HB.out | apply below_alloc | apply pw_below_drewN | apply below_drew1 | refine below_set ?_ GE214.out | refine below_set ?_ GE215.out) | exact HB.out)) hb); clear BK214; clear BK215; clear HB; have HO221 := n0_; have HO224 := n1_; have BK214 := n2_; have BK215 := n3_; have HB := n4_; clear n0_ n1_ n2_ n3_ n4_; (try clear hb); (try clear hb2); (try clear hk); (try clear hi); (try clear ho0); (try clear ho1)) | ((with_reducible refine gate_dst (N := 5) rfl ?_); refine box_event ?hg (N := 5) ?hd (cs := #[.int .i64 0, .int .i64 0, .string (⟨#[]⟩ : ByteArray), .slice none 0 0, .slice none 0 0]) (t := 48) ?hr ?_; (case hd => rfl); (case hg => rfl); (case hr => first | (go_simp; done) | (go_simp; rfl)); intro gb226 hg w22 hbox hb; have n0_ := Aside0.mk (Kd.R_below (by (with_reducible repeat (first | apply Kd.R_alloc | apply Kd.R_drewN | apply Kd.R_drew)); exact HO221.out) hb); have n1_ := Aside0.mk (Kd.R_below (Kd.R_elderB (by (with_reducible repeat (first | apply Kd.R_alloc | apply Kd.R_drewN | apply Kd.R_drew)); exact HO224.out) gb226 (Nat.le_of_eq hg.symm)) hb); have n2_ := Aside0.mk (blk_below (g := gb214) (o := .cells #[.int .i64 a0_0, .int .i64 a0_1, .string a0_2, .slice A0_3 l0_3.length c0_3, .slice A0_4 l0_4.length c0_4] 48 (0, 0)) (by (with_reducible repeat (first | refine blk_drewN ?_ _ | refine blk_drew ?_ | refine blk_alloc ?_ _)); exact BK214.out) hb); have n3_ := Aside0.mk (blk_below (g := gb215) (o := .cells #[.int .i64 0, .int .i64 0, .string (⟨#[]⟩ : ByteArray), .slice none 0 0, .slice none 0 0] 48 (0, 0)) (by (with_reducible repeat (first | refine blk_drewN ?_ _ | refine blk_drew ?_ | refine blk_alloc ?_ _)); exact BK215.out) hb); have n4_ := Aside0.mk (below_step (by repeat (first | (with_reducible first | exact HB.out | apply below_alloc | apply pw_below_drewN | apply below_drew1 | refine below_set ?_ GE214.out | refine below_set ?_ GE215.out) | exact HB.out)) hb); have n5_ := Aside0.mk (hbox); have n6_ := Aside0.mk ((by rw [hg]; exact (below_size (by repeat (first | (with_reducible first | exact HB.out | apply below_alloc | apply pw_below_drewN | apply below_drew1 | refine below_set ?_ GE214.out | refine below_set ?_ GE215.out) | exact HB.out))) : w.heap.size ≤ gb226)); have n7_ := Aside0.mk ((by rw [hg]; exact (below_size (by repeat (first | (with_reducible first | exact HB.out | apply below_alloc | apply pw_below_drewN | apply below_drew1 | refine below_set ?_ GE214.out | refine below_set ?_ GE215.out) | exact HB.out))) : w.heap.size ≤ gb226)); have n8_ := Aside0.mk ((by rw [hg]; exact Nat.ne_of_lt (blk_lt (g := gb214) (o := .cells #[.int .i64 a0_0, .int .i64 a0_1, .string a0_2, .slice A0_3 l0_3.length c0_3, .slice A0_4 l0_4.length c0_4] 48 (0, 0)) (by (with_reducible repeat (first | refine blk_drewN ?_ _ | refine blk_drew ?_ | refine blk_alloc ?_ _)); exact BK214.out)) : gb214 ≠ gb226)); have n9_ := Aside0.mk ((by rw [hg]; exact Nat.ne_of_gt (blk_lt (g := gb214) (o := .cells #[.int .i64 a0_0, .int .i64 a0_1, .string a0_2, .slice A0_3 l0_3.length c0_3, .slice A0_4 l0_4.length c0_4] 48 (0, 0)) (by (with_reducible repeat (first | refine blk_drewN ?_ _ | refine blk_drew ?_ | refine blk_alloc ?_ _)); exact BK214.out)) : gb226 ≠ gb214)); have n10_ := Aside0.mk ((by rw [hg]; exact Nat.ne_of_lt (blk_lt (g := gb215) (o := .cells #[.int .i64 0, .int .i64 0, .string (⟨#[]⟩ : ByteArray), .slice none 0 0, .slice none 0 0] 48 (0, 0)) (by (with_reducible repeat (first | refine blk_drewN ?_ _ | refine blk_drew ?_ | refine blk_alloc ?_ _)); exact BK215.out)) : gb215 ≠ gb226)); have n11_ := Aside0.mk ((by rw [hg]; exact Nat.ne_of_gt (blk_lt (g := gb215) (o := .cells #[.int .i64 0, .int .i64 0, .string (⟨#[]⟩ : ByteArray), .slice none 0 0, .slice none 0 0] 48 (0, 0)) (by (with_reducible repeat (first | refine blk_drewN ?_ _ | refine blk_drew ?_ | refine blk_alloc ?_ _)); exact BK215.out)) : gb226 ≠ gb215)); clear HO221; clear HO224; clear BK214; clear BK215; clear HB; have HO221 := n0_; have HO224 := n1_; have BK214 := n2_; have BK215 := n3_; have HB := n4_; have BK226 := n5_; have GW226 := n6_; have GE226 := n7_; have NB214_226 := n8_; have NB226_214 := n9_; have NB215_226 := n10_; have NB226_215 := n11_; clear n0_ n1_ n2_ n3_ n4_ n5_ n6_ n7_ n8_ n9_ n10_ n11_; clear hb hbox hg; have hnb23 := NB226_214.out; have hnc23 := NB214_226.out; have hnb24 := NB226_215.out; have hnc24 := NB215_226.out; have hcz25_0 : w22.cell? ⟨gb226, 0, none⟩ = some (.int .i64 0) := (blk_cell BK226.out 0).trans rfl; have hcz25_1 : w22.cell? ⟨gb226, 1, none⟩ = some (.int .i64 0) := (blk_cell BK226.out 1).trans rfl; have hcz25_2 : w22.cell? ⟨gb226, 2, none⟩ = some (.string (⟨#[]⟩ : ByteArray)) := (blk_cell BK226.out 2).trans rfl; have hcz25_3 : w22.cell? ⟨gb226, 3, none⟩ = some (.slice none 0 0) := (blk_cell BK226.out 3).trans rfl; have hcz25_4 : w22.cell? ⟨gb226, 4, none⟩ = some (.slice none 0 0) := (blk_cell BK226.out 4).trans rfl; have hfz25_0 := blk_frozen BK226.out 0; have hfz25_1 := blk_frozen BK226.out 1; have hfz25_2 := blk_frozen BK226.out 2; have hfz25_3 := blk_frozen BK226.out 3; have hfz25_4 := blk_frozen BK226.out 4; obtain ⟨Ao26, co26, eo26⟩ := Kd.R_slice HO221.out; subst eo26; obtain ⟨Ao27, co27, eo27⟩ := Kd.R_slice HO224.out; subst eo27; have hcz28_0 : w22.cell? ⟨gb215, 0, none⟩ = some (.int .i64 0) := (blk_cell BK215.out 0).trans rfl; have hcz28_1 : w22.cell? ⟨gb215, 1, none⟩ = some (.int .i64 0) := (blk_cell BK215.out 1).trans rfl; have hcz28_2 : w22.cell? ⟨gb215, 2, none⟩ = some (.string (⟨#[]⟩ : ByteArray)) := (blk_cell BK215.out 2).trans rfl; have hcz28_3 : w22.cell? ⟨gb215, 3, none⟩ = some (.slice none 0 0) := (blk_cell BK215.out 3).trans rfl; have hcz28_4 : w22.cell? ⟨gb215, 4, none⟩ = some (.slice none 0 0) := (blk_cell BK215.out 4).trans rfl; have hfz28_0 := blk_frozen BK215.out 0; have hfz28_1 := blk_frozen BK215.out 1; have hfz28_2 := blk_frozen BK215.out 2; have hfz28_3 := blk_frozen BK215.out 3; have hfz28_4 := blk_frozen BK215.out 4))
    refine bodyPost_ret (results_cell_row rfl _ _ gb215 48 #[.int .i64 5, .int .i64 0, .string (⟨#[]⟩ : ByteArray), .slice none 0 0, .slice none 0 0] (0, 0) _ rfl (by (with_reducible repeat (first | refine blk_drewN ?_ _ | refine blk_drew ?_ | refine blk_alloc ?_ _)); refine blk_put (cs := #[.int .i64 5, .int .i64 0, .string (⟨#[]⟩ : ByteArray), .slice none 0 0, .slice none 0 0]) ?_ 4 _ rfl; (with_reducible repeat (first | refine blk_drewN ?_ _ | refine blk_drew ?_ | refine blk_alloc ?_ _)); refine blk_put (cs := #[.int .i64 5, .int .i64 0, .string (⟨#[]⟩ : ByteArray), .slice none 0 0, .slice none 0 0]) ?_ 3 _ rfl; (with_reducible repeat (first | refine blk_drewN ?_ _ | refine blk_drew ?_ | refine blk_alloc ?_ _)); refine blk_put (cs := #[.int .i64 5, .int .i64 0, .string (⟨#[]⟩ : ByteArray), .slice none 0 0, .slice none 0 0]) ?_ 2 _ rfl; (with_reducible repeat (first | refine blk_drewN ?_ _ | refine blk_drew ?_ | refine blk_alloc ?_ _)); refine blk_put (cs := #[.int .i64 5, .int .i64 0, .string (⟨#[]⟩ : ByteArray), .slice none 0 0, .slice none 0 0]) ?_ 1 _ rfl; (with_reducible repeat (first | refine blk_drewN ?_ _ | refine blk_drew ?_ | refine blk_alloc ?_ _)); refine blk_put (cs := #[.int .i64 0, .int .i64 0, .string (⟨#[]⟩ : ByteArray), .slice none 0 0, .slice none 0 0]) ?_ 0 _ rfl; (with_reducible repeat (first | refine blk_drewN ?_ _ | refine blk_drew ?_ | refine blk_alloc ?_ _)); refine blk_far ?_ NB215_226.out _; (with_reducible repeat (first | refine blk_drewN ?_ _ | refine blk_drew ?_ | refine blk_alloc ?_ _)); refine blk_far ?_ NB215_226.out _; (with_reducible repeat (first | refine blk_drewN ?_ _ | refine blk_drew ?_ | refine blk_alloc ?_ _)); refine blk_far ?_ NB215_226.out _; (with_reducible repeat (first | refine blk_drewN ?_ _ | refine blk_drew ?_ | refine blk_alloc ?_ _)); refine blk_far ?_ NB215_226.out _; (with_reducible repeat (first | refine blk_drewN ?_ _ | refine blk_drew ?_ | refine blk_alloc ?_ _)); refine blk_far ?_ NB215_226.out _; (with_reducible repeat (first | refine blk_drewN ?_ _ | refine blk_drew ?_ | refine blk_alloc ?_ _)); exact BK215.out) Tryz.underlying48 rfl (by kernel_rfl)) rfl ?_
    exact ⟨_, _, by first | rfl | (simp [errW_none, errW_some] <;> rfl) | (simp [*, errW_none, errW_some] <;> rfl), by first | exact Kd.R_nil _ _ _ _ _ | exact Kd.N_nil _ _ _ _ _ | exact Kd.V_nil _ _ _ _ _ | exact Kd.Q_nil _ _ _ _ _ | exact Kd.S_nil _ _ _ _ _, by first | exact Kd.R_nil _ _ _ _ _ | exact Kd.N_nil _ _ _ _ _ | exact Kd.V_nil _ _ _ _ _ | exact Kd.Q_nil _ _ _ _ _ | exact Kd.S_nil _ _ _ _ _, by repeat (first | (with_reducible first | exact HB.out | apply below_alloc | apply pw_below_drewN | apply below_drew1 | refine below_set ?_ GE214.out | refine below_set ?_ GE215.out | refine below_set ?_ GE226.out) | exact HB.out)⟩
def power_level_or.f (a0_0 : Int) (a0_1 : Bool) (a1 : Int) : Option (Int) := if a0_1 = true then (some a0_0) else (some a1)
set_option maxHeartbeats 8000000 in
set_option maxRecDepth 100000 in
theorem power_level_or.calls (a0_0 : Int) (a0_1 : Bool) (a1 : Int) (r : Int) (w : World) (h : power_level_or.f a0_0 a0_1 a1 = some r) :
    Calls Tryz.prog 81 #[.agg #[.int .i64 a0_0, .bool a0_1], .int .i64 a1] w fun e w' => e = .returned (.int .i64 r) ∧ Below w.heap.size w w' := by
  have hu103 := Tryz.underlying103
  have HB := Aside0.mk (Below.refl w.heap.size w)
  have H : (if a0_1 = true then (some a0_0) else (some a1)) = some r := h
  clear h
  by_cases c3 : a0_1 = true
  · subst c3
    have H1 : (some a0_0) = some r := by rw [if_pos rfl] at H; exact H
    clear H
    have H := H1
    clear H1
    obtain rfl := Option.some.inj H
    go_enter Tryz.func81, Tryz.ntmps81
    go_wp2_with (first | ((with_reducible refine gate_dst (N := 2) rfl ?_); refine box_event ?hg (N := 2) ?hd (cs := #[.int .i64 a0_0, .bool true]) (t := 103) ?hr ?_; (case hd => rfl); (case hg => rfl); (case hr => first | (go_simp; done) | (go_simp; rfl)); intro gb227 hg w4 hbox hb; have n0_ := Aside0.mk (below_step (by repeat (first | (with_reducible first | exact HB.out | apply below_alloc | apply pw_below_drewN | apply below_drew1) | exact HB.out)) hb); have n1_ := Aside0.mk (hbox); have n2_ := Aside0.mk ((by rw [hg]; exact (below_size (by repeat (first | (with_reducible first | exact HB.out | apply below_alloc | apply pw_below_drewN | apply below_drew1) | exact HB.out))) : w.heap.size ≤ gb227)); have n3_ := Aside0.mk ((by rw [hg]; exact (below_size (by repeat (first | (with_reducible first | exact HB.out | apply below_alloc | apply pw_below_drewN | apply below_drew1) | exact HB.out))) : w.heap.size ≤ gb227)); clear HB; have HB := n0_; have BK227 := n1_; have GW227 := n2_; have GE227 := n3_; clear n0_ n1_ n2_ n3_; clear hb hbox hg; have hcz5_0 : w4.cell? ⟨gb227, 0, none⟩ = some (.int .i64 a0_0) := (blk_cell BK227.out 0).trans rfl; have hcz5_1 : w4.cell? ⟨gb227, 1, none⟩ = some (.bool true) := (blk_cell BK227.out 1).trans rfl; have hfz5_0 := blk_frozen BK227.out 0; have hfz5_1 := blk_frozen BK227.out 1))
    go_ret
    exact ⟨by first | rfl | (simp [errW_none, errW_some] <;> rfl) | (simp [*, errW_none, errW_some] <;> rfl), by repeat (first | (with_reducible first | exact HB.out | apply below_alloc | apply pw_below_drewN | apply below_drew1 | refine below_set ?_ GE227.out) | exact HB.out)⟩
  · replace c3 := Bool.eq_false_iff.mpr c3
    subst c3
    have H1 : (some a1) = some r := by rw [if_neg (show ¬ (false = true) by decide)] at H; exact H
    clear H
    have H := H1
    clear H1
    obtain rfl := Option.some.inj H
    go_enter Tryz.func81, Tryz.ntmps81
    go_wp2_with (first | ((with_reducible refine gate_dst (N := 2) rfl ?_); refine box_event ?hg (N := 2) ?hd (cs := #[.int .i64 a0_0, .bool false]) (t := 103) ?hr ?_; (case hd => rfl); (case hg => rfl); (case hr => first | (go_simp; done) | (go_simp; rfl)); intro gb227 hg w6 hbox hb; have n0_ := Aside0.mk (below_step (by repeat (first | (with_reducible first | exact HB.out | apply below_alloc | apply pw_below_drewN | apply below_drew1) | exact HB.out)) hb); have n1_ := Aside0.mk (hbox); have n2_ := Aside0.mk ((by rw [hg]; exact (below_size (by repeat (first | (with_reducible first | exact HB.out | apply below_alloc | apply pw_below_drewN | apply below_drew1) | exact HB.out))) : w.heap.size ≤ gb227)); have n3_ := Aside0.mk ((by rw [hg]; exact (below_size (by repeat (first | (with_reducible first | exact HB.out | apply below_alloc | apply pw_below_drewN | apply below_drew1) | exact HB.out))) : w.heap.size ≤ gb227)); clear HB; have HB := n0_; have BK227 := n1_; have GW227 := n2_; have GE227 := n3_; clear n0_ n1_ n2_ n3_; clear hb hbox hg; have hcz7_0 : w6.cell? ⟨gb227, 0, none⟩ = some (.int .i64 a0_0) := (blk_cell BK227.out 0).trans rfl; have hcz7_1 : w6.cell? ⟨gb227, 1, none⟩ = some (.bool false) := (blk_cell BK227.out 1).trans rfl; have hfz7_0 := blk_frozen BK227.out 0; have hfz7_1 := blk_frozen BK227.out 1))
    go_ret
    exact ⟨by first | rfl | (simp [errW_none, errW_some] <;> rfl) | (simp [*, errW_none, errW_some] <;> rfl), by repeat (first | (with_reducible first | exact HB.out | apply below_alloc | apply pw_below_drewN | apply below_drew1 | refine below_set ?_ GE227.out) | exact HB.out)⟩
end Go.Proofs.YtmdjknkhjimgeaaGreat.S
end
section
namespace Go.Proofs.YtmdjknkhjimgeaaGreat.S
open Go.RowKit Go.Proofs.YtmdjknkhjimgeaaGreatW.PrintWords Go.Proofs.YtmdjknkhjimgeaaGreatW.PrintLast Go.Proofs.YtmdjknkhjimgeaaGreatW.PrintMore
attribute [local go_sem] max2_int min2_int max_two min_two max_three min_three max_four min_four
set_option linter.unusedVariables false
set_option linter.unusedSimpArgs false
def power_Level.f (k : Nat) (a0_0 : Int) (a0_1 : Int) (a0_2 : ByteArray) (l0_3 : List ByteArray) (l0_4 : List (S48)) (a1 : Bool) (a2 : ByteArray) (a3 : ByteArray) : Option (Int) := if a1 = true then ((power_in.f k a0_0 a0_1 a0_2 l0_3 l0_4 (⟨#[117, 115, 101, 114, 115]⟩ : ByteArray)).bind fun bt229 => ((power_at.f k bt229.1 bt229.2.1 bt229.2.2.1 bt229.2.2.2.1 bt229.2.2.2.2 a3).bind fun bt238 => ((power_at.f k a0_0 a0_1 a0_2 l0_3 l0_4 (⟨#[117, 115, 101, 114, 115, 95, 100, 101, 102, 97, 117, 108, 116]⟩ : ByteArray)).bind fun bt240 => ((power_level_or.f bt240.1 bt240.2 0).bind fun t242 => ((power_level_or.f bt238.1 bt238.2 t242).bind fun t243 => (some t243)))))) else (if a3.toList = a2.toList then (some 100) else (some 0))
def power_Level.T2 : Bool × List (List Nat × List Nat) := (true, [([], []), ([0], [0]), ([], []), ([1, 2, 1], [1, 2]), ([], []), ([4, 3], [4]), ([5, 5], [5]), ([3, 6, 6], [3, 6]), ([7, 7, 0, 1, 2, 3, 4, 5, 6, 7], [7])])
def power_Level.B2 : List Nat := [0, 1, 0, 7, 0, 31, 63, 127, 255]
theorem power_Level.tab2 : rtab .any (opsOf Tryz.f37 2) = power_Level.T2 := by kernel_rfl
theorem power_Level.bits2 : waitsOk power_Level.T2.2 power_Level.B2 = true := by kernel_rfl
set_option maxHeartbeats 8000000 in
set_option maxRecDepth 100000 in
theorem power_Level.calls (k : Nat) (a0_0 : Int) (a0_1 : Int) (a0_2 : ByteArray) (A0_3 : Option Addr) (c0_3 : Nat) (l0_3 : List ByteArray) (A0_4 : Option Addr) (c0_4 : Nat) (l0_4 : List (S48)) (a1 : Bool) (a2 : ByteArray) (a3 : ByteArray) (r : Int) (w : World) (hr0_3 : Kd.C Kd.string w A0_3 l0_3.length l0_3) (hc0_3 : l0_3.length ≤ c0_3) (hr0_4 : Kd.C k48 w A0_4 l0_4.length l0_4) (hc0_4 : l0_4.length ≤ c0_4) (h : power_Level.f k a0_0 a0_1 a0_2 l0_3 l0_4 a1 a2 a3 = some r) :
    Calls Tryz.prog 37 #[.agg #[.int .i64 a0_0, .int .i64 a0_1, .string a0_2, .slice A0_3 l0_3.length c0_3, .slice A0_4 l0_4.length c0_4], .bool a1, .string a2, .string a3] w fun e w' => e = .returned (.int .i64 r) ∧ Below w.heap.size w w' := by
  have hu48 := Tryz.underlying48
  have HR0_3 := Aside0.mk hr0_3
  have HC0_3 := Aside0.mk hc0_3
  clear hr0_3 hc0_3
  have HR0_4 := Aside0.mk hr0_4
  have HC0_4 := Aside0.mk hc0_4
  clear hr0_4 hc0_4
  have HB := Aside0.mk (Below.refl w.heap.size w)
  have H : (if a1 = true then ((power_in.f k a0_0 a0_1 a0_2 l0_3 l0_4 (⟨#[117, 115, 101, 114, 115]⟩ : ByteArray)).bind fun bt229 => ((power_at.f k bt229.1 bt229.2.1 bt229.2.2.1 bt229.2.2.2.1 bt229.2.2.2.2 a3).bind fun bt238 => ((power_at.f k a0_0 a0_1 a0_2 l0_3 l0_4 (⟨#[117, 115, 101, 114, 115, 95, 100, 101, 102, 97, 117, 108, 116]⟩ : ByteArray)).bind fun bt240 => ((power_level_or.f bt240.1 bt240.2 0).bind fun t242 => ((power_level_or.f bt238.1 bt238.2 t242).bind fun t243 => (some t243)))))) else (if a3.toList = a2.toList then (some 100) else (some 0))) = some r := h
  clear h
  by_cases c5 : a1 = true
  · subst c5
    have H1 : ((power_in.f k a0_0 a0_1 a0_2 l0_3 l0_4 (⟨#[117, 115, 101, 114, 115]⟩ : ByteArray)).bind fun bt229 => ((power_at.f k bt229.1 bt229.2.1 bt229.2.2.1 bt229.2.2.2.1 bt229.2.2.2.2 a3).bind fun bt238 => ((power_at.f k a0_0 a0_1 a0_2 l0_3 l0_4 (⟨#[117, 115, 101, 114, 115, 95, 100, 101, 102, 97, 117, 108, 116]⟩ : ByteArray)).bind fun bt240 => ((power_level_or.f bt240.1 bt240.2 0).bind fun t242 => ((power_level_or.f bt238.1 bt238.2 t242).bind fun t243 => (some t243)))))) = some r := by rw [if_pos rfl] at H; exact H
    clear H
    have H := H1
    clear H1
    replace H := Option.bind_eq_some_iff.mp H
    obtain ⟨⟨t229, t230, t231, t232, t235⟩, A60, H⟩ := H
    replace H : ((power_at.f k t229 t230 t231 t232 t235 a3).bind fun bt238 => ((power_at.f k a0_0 a0_1 a0_2 l0_3 l0_4 (⟨#[117, 115, 101, 114, 115, 95, 100, 101, 102, 97, 117, 108, 116]⟩ : ByteArray)).bind fun bt240 => ((power_level_or.f bt240.1 bt240.2 0).bind fun t242 => ((power_level_or.f bt238.1 bt238.2 t242).bind fun t243 => (some t243))))) = some r := H
    have A6 := Aside0.mk A60
    clear A60
    replace H := Option.bind_eq_some_iff.mp H
    obtain ⟨⟨t238, t239⟩, A70, H⟩ := H
    replace H : ((power_at.f k a0_0 a0_1 a0_2 l0_3 l0_4 (⟨#[117, 115, 101, 114, 115, 95, 100, 101, 102, 97, 117, 108, 116]⟩ : ByteArray)).bind fun bt240 => ((power_level_or.f bt240.1 bt240.2 0).bind fun t242 => ((power_level_or.f t238 t239 t242).bind fun t243 => (some t243)))) = some r := H
    have A7 := Aside0.mk A70
    clear A70
    replace H := Option.bind_eq_some_iff.mp H
    obtain ⟨⟨t240, t241⟩, A80, H⟩ := H
    replace H : ((power_level_or.f t240 t241 0).bind fun t242 => ((power_level_or.f t238 t239 t242).bind fun t243 => (some t243))) = some r := H
    have A8 := Aside0.mk A80
    clear A80
    replace H := Option.bind_eq_some_iff.mp H
    obtain ⟨t242, A90, H⟩ := H
    replace H : ((power_level_or.f t238 t239 t242).bind fun t243 => (some t243)) = some r := H
    have A9 := Aside0.mk A90
    clear A90
    replace H := Option.bind_eq_some_iff.mp H
    obtain ⟨t243, A100, H⟩ := H
    replace H : (some t243) = some r := H
    have A10 := Aside0.mk A100
    clear A100
    obtain rfl := Option.some.inj H
    go_enter Tryz.func37, Tryz.ntmps37
    try go_wp2_with (first | ((with_reducible refine gate_dst (N := 4) rfl ?_); refine box_event ?hg (N := 4) ?hd (cs := #[.int .i64 a0_0, .int .i64 a0_1, .string a0_2, .slice A0_3 l0_3.length c0_3, .slice A0_4 l0_4.length c0_4]) (t := 48) ?hr ?_; (case hd => rfl); (case hg => rfl); (case hr => first | (go_simp; done) | (go_simp; rfl)); intro gb228 hg w11 hbox hb; have n0_ := Aside0.mk (below_step (by repeat (first | (with_reducible first | exact HB.out | apply below_alloc | apply pw_below_drewN | apply below_drew1) | exact HB.out)) hb); have n1_ := Aside0.mk (hbox); have n2_ := Aside0.mk ((by rw [hg]; exact (below_size (by repeat (first | (with_reducible first | exact HB.out | apply below_alloc | apply pw_below_drewN | apply below_drew1) | exact HB.out))) : w.heap.size ≤ gb228)); have n3_ := Aside0.mk ((by rw [hg]; exact (below_size (by repeat (first | (with_reducible first | exact HB.out | apply below_alloc | apply pw_below_drewN | apply below_drew1) | exact HB.out))) : w.heap.size ≤ gb228)); clear HB; have HB := n0_; have BK228 := n1_; have GW228 := n2_; have GE228 := n3_; clear n0_ n1_ n2_ n3_; clear hb hbox hg))
    have n0_ := Aside0.mk (blk_drew BK228.out)
    have n1_ := Aside0.mk (below_drew1 HB.out)
    clear BK228
    clear HB
    have BK228 := n0_
    have HB := n1_
    clear n0_ n1_
    refine start_ (n := 9) (S := fun w' => w'.cell? ⟨gb228, 0, none⟩ = some (.int .i64 a0_0) ∧ w'.cell? ⟨gb228, 1, none⟩ = some (.int .i64 a0_1) ∧ w'.cell? ⟨gb228, 2, none⟩ = some (.string a0_2) ∧ w'.cell? ⟨gb228, 3, none⟩ = some (.slice A0_3 l0_3.length c0_3) ∧ w'.cell? ⟨gb228, 4, none⟩ = some (.slice A0_4 l0_4.length c0_4)) (ds := []) #[false, false, false, false, false, false, false, false, false] (by kernel_rfl) rfl rfl ⟨(blk_cell BK228.out 0).trans rfl, (blk_cell BK228.out 1).trans rfl, (blk_cell BK228.out 2).trans rfl, (blk_cell BK228.out 3).trans rfl, (blk_cell BK228.out 4).trans rfl⟩ (fun hHeld => ?_); refine with_tabW power_Level.tab2 power_Level.bits2 (fun HT_ HW_ => ?_)
    generalize w11.drew = w12 at BK228 HB hHeld ⊢
    refine pure_ (i := 2) (N := some 13) (v := ?_) (a' := ?_) #[false, false, true, false, false, false, false, false, false] rfl rfl (any_of HT_.out (by kernel_rfl)) (fun _ _ _ h => h) (Or.inl ⟨by rfl, ?_⟩) ?_ ?_
    rotate_left
    · intro w'
      go_simp
      with_reducible rfl
    rotate_left
    · simp only [Act.put, List.setIfInBounds_toArray, List.set_cons_zero, List.set_cons_succ, i64_w, i32_w]
      rfl
    refine take_ (i := 0) (N := some 11) (v := ?_) (a' := ?_) #[true, false, true, false, false, false, false, false, false] rfl rfl (take_ofW HT_.out HW_.out (by kernel_rfl)) (fun _ _ _ h => h) (Or.inl ⟨by rfl, ?_⟩) hHeld ?_ ?_
    rotate_left
    · rintro w' ⟨s0, s1, s2, s3, s4⟩
      go_simp
      with_reducible rfl
    rotate_left
    · simp only [Act.put, List.setIfInBounds_toArray, List.set_cons_zero, List.set_cons_succ, i64_w, i32_w]
      rfl
    refine take_ (i := 4) (N := some 15) (v := ?_) (a' := ?_) #[true, false, true, false, true, false, false, false, false] rfl rfl (take_ofW HT_.out HW_.out (by kernel_rfl)) (fun _ _ _ h => h) (Or.inl ⟨by rfl, ?_⟩) hHeld ?_ ?_
    rotate_left
    · rintro w' ⟨s0, s1, s2, s3, s4⟩
      go_simp
      with_reducible rfl
    rotate_left
    · simp only [Act.put, List.setIfInBounds_toArray, List.set_cons_zero, List.set_cons_succ, i64_w, i32_w]
      rfl
    refine one_ (i := 1) (N := some 12) #[true, true, true, false, true, false, false, false, false] rfl rfl (one_of HT_.out (by kernel_rfl)) (by decide) (fun K hK => ?_)
    refine goes_ Tryz.func80 (by kernel_rfl) rfl #[.agg #[.int .i64 a0_0, .int .i64 a0_1, .string a0_2, .slice A0_3 l0_3.length c0_3, .slice A0_4 l0_4.length c0_4], .string (⟨#[117, 115, 101, 114, 115]⟩ : ByteArray)] (by rfl) rfl rfl (by (try simp only [List.map_toArray, List.map_cons, List.map_nil]); first | done | rfl | (simp only [List.length_drop, List.length_take]; rfl)) ?_
    with_reducible refine (power_in.calls k a0_0 a0_1 a0_2 _ _ l0_3 _ _ l0_4 (⟨#[117, 115, 101, 114, 115]⟩ : ByteArray) t229 t230 t231 t232 t235 _ ?side1 ?side2 ?side3 ?side4 A6.out).mono ?_
    (case side1 => repeat (first | exact (Kd.C_below HR0_3.out HB.out) | (with_reducible refine Kd.C_alloc ?_ _) | (with_reducible refine Kd.C_drewN ?_ _) | (with_reducible refine Kd.C_drew ?_)))
    (case side2 => exact HC0_3.out)
    (case side3 => repeat (first | exact (Kd.C_below HR0_4.out HB.out) | (with_reducible refine Kd.C_alloc ?_ _) | (with_reducible refine Kd.C_drewN ?_ _) | (with_reducible refine Kd.C_drew ?_)))
    (case side4 => exact HC0_4.out)
    rintro e w13 ⟨v233, v236, rfl, ho0, ho1, hb⟩
    refine ⟨_, rfl, ?_⟩
    have n0_ := Aside0.mk (Kd.R_lower ho0 (below_size (by repeat (first | (with_reducible first | exact HB.out | apply below_alloc | apply pw_below_drewN | apply below_drew1 | refine below_set ?_ GE228.out) | exact HB.out))))
    have n1_ := Aside0.mk (Kd.R_lower (Kd.R_newB ho1 (g := gb228) (o := .cells #[.int .i64 a0_0, .int .i64 a0_1, .string a0_2, .slice A0_3 l0_3.length c0_3, .slice A0_4 l0_4.length c0_4] 48 (0, 0)) (by (with_reducible repeat (first | refine blk_drewN ?_ _ | refine blk_drew ?_ | refine blk_alloc ?_ _)); exact BK228.out)) (below_size (by repeat (first | (with_reducible first | exact HB.out | apply below_alloc | apply pw_below_drewN | apply below_drew1 | refine below_set ?_ GE228.out) | exact HB.out))))
    have n2_ := Aside0.mk (blk_below (g := gb228) (o := .cells #[.int .i64 a0_0, .int .i64 a0_1, .string a0_2, .slice A0_3 l0_3.length c0_3, .slice A0_4 l0_4.length c0_4] 48 (0, 0)) (by (with_reducible repeat (first | refine blk_drewN ?_ _ | refine blk_drew ?_ | refine blk_alloc ?_ _)); exact BK228.out) hb)
    have n3_ := Aside0.mk (below_step (by repeat (first | (with_reducible first | exact HB.out | apply below_alloc | apply pw_below_drewN | apply below_drew1 | refine below_set ?_ GE228.out) | exact HB.out)) hb)
    clear BK228
    clear HB
    have HO234 := n0_
    have HO237 := n1_
    have BK228 := n2_
    have HB := n3_
    clear n0_ n1_ n2_ n3_
    (try clear hb)
    (try clear hb2)
    (try clear hk)
    (try clear hi)
    (try clear ho0)
    (try clear ho1)
    obtain ⟨Ao14, co14, eo14⟩ := Kd.R_slice HO234.out
    (first | subst eo14 | (injection eo14 with f1_ f2_ f3_; have f4_ := f1_.symm; have f5_ := f3_.symm; clear f1_ f2_ f3_; subst f4_; subst f5_))
    obtain ⟨Ao15, co15, eo15⟩ := Kd.R_slice HO237.out
    (first | subst eo15 | (injection eo15 with f1_ f2_ f3_; have f4_ := f1_.symm; have f5_ := f3_.symm; clear f1_ f2_ f3_; subst f4_; subst f5_))
    refine hK.out _ _ ⟨(blk_cell BK228.out 0).trans rfl, (blk_cell BK228.out 1).trans rfl, (blk_cell BK228.out 2).trans rfl, (blk_cell BK228.out 3).trans rfl, (blk_cell BK228.out 4).trans rfl⟩ (fun hHeld => ?_)
    clear hK K
    refine norm_ (a' := ?_) ?_ ?_
    rotate_left
    · show Act.put _ (some 12) _ = _
      simp only [Act.put, List.setIfInBounds_toArray, List.set_cons_zero, List.set_cons_succ, i64_w, i32_w]
      rfl
    refine one_ (i := 3) (N := some 14) #[true, true, true, true, true, false, false, false, false] rfl rfl (one_of HT_.out (by kernel_rfl)) (by decide) (fun K hK => ?_)
    refine goes_ Tryz.func79 (by kernel_rfl) rfl #[.agg #[.int .i64 t229, .int .i64 t230, .string t231, .slice Ao14 t232.length co14, .slice Ao15 t235.length co15], .string a3] (by rfl) rfl rfl (by (try simp only [List.map_toArray, List.map_cons, List.map_nil]); first | done | rfl | (simp only [List.length_drop, List.length_take]; rfl)) ?_
    with_reducible refine (power_at.calls k t229 t230 t231 _ _ t232 _ _ t235 a3 t238 t239 _ ?side1 ?side2 ?side3 ?side4 A7.out).mono ?_
    (case side1 => repeat (first | exact (Kd.R_reads' HO234.out).2.2 | (with_reducible refine Kd.C_alloc ?_ _) | (with_reducible refine Kd.C_drewN ?_ _) | (with_reducible refine Kd.C_drew ?_)))
    (case side2 => exact (Kd.R_reads' HO234.out).2.1)
    (case side3 => repeat (first | exact (Kd.R_reads' HO237.out).2.2 | (with_reducible refine Kd.C_alloc ?_ _) | (with_reducible refine Kd.C_drewN ?_ _) | (with_reducible refine Kd.C_drew ?_)))
    (case side4 => exact (Kd.R_reads' HO237.out).2.1)
    rintro e w16 ⟨rfl, hb⟩
    refine ⟨_, rfl, ?_⟩
    have n0_ := Aside0.mk (Kd.R_below (by (with_reducible repeat (first | apply Kd.R_alloc | apply Kd.R_drewN | apply Kd.R_drew)); exact HO234.out) hb)
    have n1_ := Aside0.mk (Kd.R_below (by (with_reducible repeat (first | apply Kd.R_alloc | apply Kd.R_drewN | apply Kd.R_drew)); exact HO237.out) hb)
    have n2_ := Aside0.mk (blk_below (g := gb228) (o := .cells #[.int .i64 a0_0, .int .i64 a0_1, .string a0_2, .slice A0_3 l0_3.length c0_3, .slice A0_4 l0_4.length c0_4] 48 (0, 0)) (by (with_reducible repeat (first | refine blk_drewN ?_ _ | refine blk_drew ?_ | refine blk_alloc ?_ _)); exact BK228.out) hb)
    have n3_ := Aside0.mk (below_step (by repeat (first | (with_reducible first | exact HB.out | apply below_alloc | apply pw_below_drewN | apply below_drew1 | refine below_set ?_ GE228.out) | exact HB.out)) hb)
    clear HO234
    clear HO237
    clear BK228
    clear HB
    have HO234 := n0_
    have HO237 := n1_
    have BK228 := n2_
    have HB := n3_
    clear n0_ n1_ n2_ n3_
    (try clear hb)
    (try clear hb2)
    (try clear hk)
    (try clear hi)
    refine hK.out _ _ ⟨(blk_cell BK228.out 0).trans rfl, (blk_cell BK228.out 1).trans rfl, (blk_cell BK228.out 2).trans rfl, (blk_cell BK228.out 3).trans rfl, (blk_cell BK228.out 4).trans rfl⟩ (fun hHeld => ?_)
    clear hK K
    refine norm_ (a' := ?_) ?_ ?_
    rotate_left
    · show Act.put _ (some 14) _ = _
      simp only [Act.put, List.setIfInBounds_toArray, List.set_cons_zero, List.set_cons_succ, i64_w, i32_w]
      rfl
    refine one_ (i := 5) (N := some 16) #[true, true, true, true, true, true, false, false, false] rfl rfl (one_of HT_.out (by kernel_rfl)) (by decide) (fun K hK => ?_)
    refine goes_ Tryz.func79 (by kernel_rfl) rfl #[.agg #[.int .i64 a0_0, .int .i64 a0_1, .string a0_2, .slice A0_3 l0_3.length c0_3, .slice A0_4 l0_4.length c0_4], .string (⟨#[117, 115, 101, 114, 115, 95, 100, 101, 102, 97, 117, 108, 116]⟩ : ByteArray)] (by rfl) rfl rfl (by (try simp only [List.map_toArray, List.map_cons, List.map_nil]); first | done | rfl | (simp only [List.length_drop, List.length_take]; rfl)) ?_
    with_reducible refine (power_at.calls k a0_0 a0_1 a0_2 _ _ l0_3 _ _ l0_4 (⟨#[117, 115, 101, 114, 115, 95, 100, 101, 102, 97, 117, 108, 116]⟩ : ByteArray) t240 t241 _ ?side1 ?side2 ?side3 ?side4 A8.out).mono ?_
    (case side1 => repeat (first | exact (Kd.C_below HR0_3.out HB.out) | (with_reducible refine Kd.C_alloc ?_ _) | (with_reducible refine Kd.C_drewN ?_ _) | (with_reducible refine Kd.C_drew ?_)))
    (case side2 => exact HC0_3.out)
    (case side3 => repeat (first | exact (Kd.C_below HR0_4.out HB.out) | (with_reducible refine Kd.C_alloc ?_ _) | (with_reducible refine Kd.C_drewN ?_ _) | (with_reducible refine Kd.C_drew ?_)))
    (case side4 => exact HC0_4.out)
    rintro e w17 ⟨rfl, hb⟩
    refine ⟨_, rfl, ?_⟩
    have n0_ := Aside0.mk (Kd.R_below (by (with_reducible repeat (first | apply Kd.R_alloc | apply Kd.R_drewN | apply Kd.R_drew)); exact HO234.out) hb)
    have n1_ := Aside0.mk (Kd.R_below (by (with_reducible repeat (first | apply Kd.R_alloc | apply Kd.R_drewN | apply Kd.R_drew)); exact HO237.out) hb)
    have n2_ := Aside0.mk (blk_below (g := gb228) (o := .cells #[.int .i64 a0_0, .int .i64 a0_1, .string a0_2, .slice A0_3 l0_3.length c0_3, .slice A0_4 l0_4.length c0_4] 48 (0, 0)) (by (with_reducible repeat (first | refine blk_drewN ?_ _ | refine blk_drew ?_ | refine blk_alloc ?_ _)); exact BK228.out) hb)
    have n3_ := Aside0.mk (below_step (by repeat (first | (with_reducible first | exact HB.out | apply below_alloc | apply pw_below_drewN | apply below_drew1 | refine below_set ?_ GE228.out) | exact HB.out)) hb)
    clear HO234
    clear HO237
    clear BK228
    clear HB
    have HO234 := n0_
    have HO237 := n1_
    have BK228 := n2_
    have HB := n3_
    clear n0_ n1_ n2_ n3_
    (try clear hb)
    (try clear hb2)
    (try clear hk)
    (try clear hi)
    refine hK.out _ _ ⟨(blk_cell BK228.out 0).trans rfl, (blk_cell BK228.out 1).trans rfl, (blk_cell BK228.out 2).trans rfl, (blk_cell BK228.out 3).trans rfl, (blk_cell BK228.out 4).trans rfl⟩ (fun hHeld => ?_)
    clear hK K
    refine norm_ (a' := ?_) ?_ ?_
    rotate_left
    · show Act.put _ (some 16) _ = _
      simp only [Act.put, List.setIfInBounds_toArray, List.set_cons_zero, List.set_cons_succ, i64_w, i32_w]
      rfl
    refine one_ (i := 6) (N := some 17) #[true, true, true, true, true, true, true, false, false] rfl rfl (one_of HT_.out (by kernel_rfl)) (by decide) (fun K hK => ?_)
    refine goes_ Tryz.func81 (by kernel_rfl) rfl #[.agg #[.int .i64 t240, .bool t241], .int .i64 0] (by rfl) rfl rfl (by (try simp only [List.map_toArray, List.map_cons, List.map_nil]); first | done | rfl | (simp only [List.length_drop, List.length_take]; rfl)) ?_
    with_reducible refine (power_level_or.calls t240 t241 0 t242 _ A9.out).mono ?_
    rintro e w18 ⟨rfl, hb⟩
    refine ⟨_, rfl, ?_⟩
    have n0_ := Aside0.mk (Kd.R_below (by (with_reducible repeat (first | apply Kd.R_alloc | apply Kd.R_drewN | apply Kd.R_drew)); exact HO234.out) hb)
    have n1_ := Aside0.mk (Kd.R_below (by (with_reducible repeat (first | apply Kd.R_alloc | apply Kd.R_drewN | apply Kd.R_drew)); exact HO237.out) hb)
    have n2_ := Aside0.mk (blk_below (g := gb228) (o := .cells #[.int .i64 a0_0, .int .i64 a0_1, .string a0_2, .slice A0_3 l0_3.length c0_3, .slice A0_4 l0_4.length c0_4] 48 (0, 0)) (by (with_reducible repeat (first | refine blk_drewN ?_ _ | refine blk_drew ?_ | refine blk_alloc ?_ _)); exact BK228.out) hb)
    have n3_ := Aside0.mk (below_step (by repeat (first | (with_reducible first | exact HB.out | apply below_alloc | apply pw_below_drewN | apply below_drew1 | refine below_set ?_ GE228.out) | exact HB.out)) hb)
    clear HO234
    clear HO237
    clear BK228
    clear HB
    have HO234 := n0_
    have HO237 := n1_
    have BK228 := n2_
    have HB := n3_
    clear n0_ n1_ n2_ n3_
    (try clear hb)
    (try clear hb2)
    (try clear hk)
    (try clear hi)
    refine hK.out _ _ ⟨(blk_cell BK228.out 0).trans rfl, (blk_cell BK228.out 1).trans rfl, (blk_cell BK228.out 2).trans rfl, (blk_cell BK228.out 3).trans rfl, (blk_cell BK228.out 4).trans rfl⟩ (fun hHeld => ?_)
    clear hK K
    refine norm_ (a' := ?_) ?_ ?_
    rotate_left
    · show Act.put _ (some 17) _ = _
      simp only [Act.put, List.setIfInBounds_toArray, List.set_cons_zero, List.set_cons_succ, i64_w, i32_w]
      rfl
    refine one_ (i := 7) (N := some 18) #[true, true, true, true, true, true, true, true, false] rfl rfl (one_of HT_.out (by kernel_rfl)) (by decide) (fun K hK => ?_)
    refine goes_ Tryz.func81 (by kernel_rfl) rfl #[.agg #[.int .i64 t238, .bool t239], .int .i64 t242] (by rfl) rfl rfl (by (try simp only [List.map_toArray, List.map_cons, List.map_nil]); first | done | rfl | (simp only [List.length_drop, List.length_take]; rfl)) ?_
    with_reducible refine (power_level_or.calls t238 t239 t242 t243 _ A10.out).mono ?_
    rintro e w19 ⟨rfl, hb⟩
    refine ⟨_, rfl, ?_⟩
    have n0_ := Aside0.mk (Kd.R_below (by (with_reducible repeat (first | apply Kd.R_alloc | apply Kd.R_drewN | apply Kd.R_drew)); exact HO234.out) hb)
    have n1_ := Aside0.mk (Kd.R_below (by (with_reducible repeat (first | apply Kd.R_alloc | apply Kd.R_drewN | apply Kd.R_drew)); exact HO237.out) hb)
    have n2_ := Aside0.mk (blk_below (g := gb228) (o := .cells #[.int .i64 a0_0, .int .i64 a0_1, .string a0_2, .slice A0_3 l0_3.length c0_3, .slice A0_4 l0_4.length c0_4] 48 (0, 0)) (by (with_reducible repeat (first | refine blk_drewN ?_ _ | refine blk_drew ?_ | refine blk_alloc ?_ _)); exact BK228.out) hb)
    have n3_ := Aside0.mk (below_step (by repeat (first | (with_reducible first | exact HB.out | apply below_alloc | apply pw_below_drewN | apply below_drew1 | refine below_set ?_ GE228.out) | exact HB.out)) hb)
    clear HO234
    clear HO237
    clear BK228
    clear HB
    have HO234 := n0_
    have HO237 := n1_
    have BK228 := n2_
    have HB := n3_
    clear n0_ n1_ n2_ n3_
    (try clear hb)
    (try clear hb2)
    (try clear hk)
    (try clear hi)
    refine hK.out _ _ ⟨(blk_cell BK228.out 0).trans rfl, (blk_cell BK228.out 1).trans rfl, (blk_cell BK228.out 2).trans rfl, (blk_cell BK228.out 3).trans rfl, (blk_cell BK228.out 4).trans rfl⟩ (fun hHeld => ?_)
    clear hK K
    refine norm_ (a' := ?_) ?_ ?_
    rotate_left
    · show Act.put _ (some 18) _ = _
      simp only [Act.put, List.setIfInBounds_toArray, List.set_cons_zero, List.set_cons_succ, i64_w, i32_w]
      rfl
    refine pure_ (i := 8) (N := some 8) (v := ?_) (a' := ?_) #[true, true, true, true, true, true, true, true, true] rfl rfl (any_of HT_.out (by kernel_rfl)) (fun _ _ _ h => h) (Or.inl ⟨by rfl, ?_⟩) ?_ ?_
    rotate_left
    · intro w'
      go_simp
      with_reducible rfl
    rotate_left
    · simp only [Act.put, List.setIfInBounds_toArray, List.set_cons_zero, List.set_cons_succ, i64_w, i32_w]
      rfl
    refine done_ (done_of HT_.out (by kernel_rfl)) ?_
    try go_wp2
    go_ret
    exact ⟨by first | rfl | (simp [errW_none, errW_some] <;> rfl) | (simp [*, errW_none, errW_some] <;> rfl), by repeat (first | (with_reducible first | exact HB.out | apply below_alloc | apply pw_below_drewN | apply below_drew1 | refine below_set ?_ GE228.out) | exact HB.out)⟩
  · replace c5 := Bool.eq_false_iff.mpr c5
    subst c5
    have H1 : (if a3.toList = a2.toList then (some 100) else (some 0)) = some r := by rw [if_neg (show ¬ (false = true) by decide)] at H; exact H
    clear H
    have H := H1
    clear H1
    by_cases c20 : a3.toList = a2.toList
    · rw [if_pos c20] at H
      have c20b0 : (a3.toList == a2.toList) = true := beq_iff_eq.mpr c20
      have c20b1 : (a3.toList != a2.toList) = false := bne_eq_false_iff_eq.mpr c20
      clear c20
      obtain rfl := Option.some.inj H
      go_enter Tryz.func37, Tryz.ntmps37
      go_wp2_with (first | ((with_reducible refine gate_dst (N := 4) rfl ?_); refine box_event ?hg (N := 4) ?hd (cs := #[.int .i64 a0_0, .int .i64 a0_1, .string a0_2, .slice A0_3 l0_3.length c0_3, .slice A0_4 l0_4.length c0_4]) (t := 48) ?hr ?_; (case hd => rfl); (case hg => rfl); (case hr => first | (go_simp; done) | (go_simp; rfl)); intro gb228 hg w21 hbox hb; have n0_ := Aside0.mk (below_step (by repeat (first | (with_reducible first | exact HB.out | apply below_alloc | apply pw_below_drewN | apply below_drew1) | exact HB.out)) hb); have n1_ := Aside0.mk (hbox); have n2_ := Aside0.mk ((by rw [hg]; exact (below_size (by repeat (first | (with_reducible first | exact HB.out | apply below_alloc | apply pw_below_drewN | apply below_drew1) | exact HB.out))) : w.heap.size ≤ gb228)); have n3_ := Aside0.mk ((by rw [hg]; exact (below_size (by repeat (first | (with_reducible first | exact HB.out | apply below_alloc | apply pw_below_drewN | apply below_drew1) | exact HB.out))) : w.heap.size ≤ gb228)); clear HB; have HB := n0_; have BK228 := n1_; have GW228 := n2_; have GE228 := n3_; clear n0_ n1_ n2_ n3_; clear hb hbox hg))
      go_ret
      exact ⟨by first | rfl | (simp [errW_none, errW_some] <;> rfl) | (simp [*, errW_none, errW_some] <;> rfl), by repeat (first | (with_reducible first | exact HB.out | apply below_alloc | apply pw_below_drewN | apply below_drew1 | refine below_set ?_ GE228.out) | exact HB.out)⟩
    · rw [if_neg c20] at H
      have c20b0 : (a3.toList == a2.toList) = false := beq_eq_false_iff_ne.mpr c20
      have c20b1 : (a3.toList != a2.toList) = true := bne_iff_ne.mpr c20
      obtain rfl := Option.some.inj H
      go_enter Tryz.func37, Tryz.ntmps37
      go_wp2_with (first | ((with_reducible refine gate_dst (N := 4) rfl ?_); refine box_event ?hg (N := 4) ?hd (cs := #[.int .i64 a0_0, .int .i64 a0_1, .string a0_2, .slice A0_3 l0_3.length c0_3, .slice A0_4 l0_4.length c0_4]) (t := 48) ?hr ?_; (case hd => rfl); (case hg => rfl); (case hr => first | (go_simp; done) | (go_simp; rfl)); intro gb228 hg w22 hbox hb; have n0_ := Aside0.mk (below_step (by repeat (first | (with_reducible first | exact HB.out | apply below_alloc | apply pw_below_drewN | apply below_drew1) | exact HB.out)) hb); have n1_ := Aside0.mk (hbox); have n2_ := Aside0.mk ((by rw [hg]; exact (below_size (by repeat (first | (with_reducible first | exact HB.out | apply below_alloc | apply pw_below_drewN | apply below_drew1) | exact HB.out))) : w.heap.size ≤ gb228)); have n3_ := Aside0.mk ((by rw [hg]; exact (below_size (by repeat (first | (with_reducible first | exact HB.out | apply below_alloc | apply pw_below_drewN | apply below_drew1) | exact HB.out))) : w.heap.size ≤ gb228)); clear HB; have HB := n0_; have BK228 := n1_; have GW228 := n2_; have GE228 := n3_; clear n0_ n1_ n2_ n3_; clear hb hbox hg))
      go_ret
      exact ⟨by first | rfl | (simp [errW_none, errW_some] <;> rfl) | (simp [*, errW_none, errW_some] <;> rfl), by repeat (first | (with_reducible first | exact HB.out | apply below_alloc | apply pw_below_drewN | apply below_drew1 | refine below_set ?_ GE228.out) | exact HB.out)⟩
def order_at.f (l0 : List (S50)) (a1 : Int) : Option (ByteArray × ByteArray × ByteArray × Bool × ByteArray × ByteArray × List ByteArray × List ByteArray × Int × Int × Int × Int × ByteArray × List ByteArray × (List (S48))) := if a1 < 0 then (some ((⟨#[]⟩ : ByteArray), (⟨#[]⟩ : ByteArray), (⟨#[]⟩ : ByteArray), false, (⟨#[]⟩ : ByteArray), (⟨#[]⟩ : ByteArray), ([] : List ByteArray), ([] : List ByteArray), 0, 0, 0, 0, (⟨#[]⟩ : ByteArray), ([] : List ByteArray), ([] : List (S48)))) else (if 0 ≤ a1 then (if a1 < (l0.length : Int) then (some ((rd_T50 l0 a1).f0, (rd_T50 l0 a1).f1, (rd_T50 l0 a1).f2, (rd_T50 l0 a1).f3, (rd_T50 l0 a1).f4, (rd_T50 l0 a1).f5, (rd_T50 l0 a1).f6, (rd_T50 l0 a1).f7, (rd_T50 l0 a1).f8, (rd_T50 l0 a1).f9, (rd_T50 l0 a1).f10.f0, (rd_T50 l0 a1).f10.f1, (rd_T50 l0 a1).f10.f2, (rd_T50 l0 a1).f10.f3, (rd_T50 l0 a1).f10.f4)) else (none)) else (none))
set_option maxHeartbeats 8000000 in
set_option maxRecDepth 100000 in
theorem order_at.calls (P0_ : Nat → Prop) (A0 : Option Addr) (c0 : Nat) (l0 : List (S50)) (a1 : Int) (r1 : ByteArray) (r2 : ByteArray) (r3 : ByteArray) (r4 : Bool) (r5 : ByteArray) (r6 : ByteArray) (r7 : List ByteArray) (r8 : List ByteArray) (r9 : Int) (r10 : Int) (r11 : Int) (r12 : Int) (r13 : ByteArray) (r14 : List ByteArray) (r15 : List (S48)) (w : World) (hs0 : Kd.V k50 50 w w.heap.size (fun k_ => P0_ k_) (.slice A0 l0.length c0) l0) (h : order_at.f l0 a1 = some (r1, r2, r3, r4, r5, r6, r7, r8, r9, r10, r11, r12, r13, r14, r15)) :
    Calls Tryz.prog 38 #[.slice A0 l0.length c0, .int .i64 a1] w fun e w' => ∃ v6_ v7_ v13_ v14_ : Value, e = .returned (.agg #[.string r1, .string r2, .string r3, .bool r4, .string r5, .string r6, v6_, v7_, .int .i64 r9, .int .i64 r10, .int .i64 r11, .int .i64 r12, .string r13, v13_, v14_]) ∧ Kd.V Kd.string 9 w' w.heap.size (fun k_ => (P0_ k_ ∨ w.heap.size ≤ k_)) v6_ r7 ∧ Kd.V Kd.string 9 w' w.heap.size (fun k_ => (P0_ k_ ∨ w.heap.size ≤ k_)) v7_ r8 ∧ Kd.V Kd.string 9 w' w.heap.size (fun k_ => (P0_ k_ ∨ w.heap.size ≤ k_)) v13_ r14 ∧ Kd.V k48 48 w' w.heap.size (fun k_ => (P0_ k_ ∨ w.heap.size ≤ k_)) v14_ r15 ∧ Below w.heap.size w w' := by
  have hu50 := Tryz.underlying50
  have HO0 := Aside0.mk (show Kd.V k50 50 w w.heap.size (fun k_ => (P0_ k_ ∨ w.heap.size ≤ k_)) (.slice A0 l0.length c0) l0 from Kd.V_mono hs0 (fun k_ hk => .inl hk))
  have HB := Aside0.mk (Below.refl w.heap.size w)
  have H : (if a1 < 0 then (some ((⟨#[]⟩ : ByteArray), (⟨#[]⟩ : ByteArray), (⟨#[]⟩ : ByteArray), false, (⟨#[]⟩ : ByteArray), (⟨#[]⟩ : ByteArray), ([] : List ByteArray), ([] : List ByteArray), 0, 0, 0, 0, (⟨#[]⟩ : ByteArray), ([] : List ByteArray), ([] : List (S48)))) else (if 0 ≤ a1 then (if a1 < (l0.length : Int) then (some ((rd_T50 l0 a1).f0, (rd_T50 l0 a1).f1, (rd_T50 l0 a1).f2, (rd_T50 l0 a1).f3, (rd_T50 l0 a1).f4, (rd_T50 l0 a1).f5, (rd_T50 l0 a1).f6, (rd_T50 l0 a1).f7, (rd_T50 l0 a1).f8, (rd_T50 l0 a1).f9, (rd_T50 l0 a1).f10.f0, (rd_T50 l0 a1).f10.f1, (rd_T50 l0 a1).f10.f2, (rd_T50 l0 a1).f10.f3, (rd_T50 l0 a1).f10.f4)) else (none)) else (none))) = some (r1, r2, r3, r4, r5, r6, r7, r8, r9, r10, r11, r12, r13, r14, r15) := h
  clear h
  by_cases c3 : a1 < 0
  · rw [if_pos c3] at H
    have c3b0 : decide (a1 < 0) = true := decide_eq_true c3
    clear c3
    simp only [Option.some.injEq, Prod.mk.injEq] at H
    obtain ⟨rfl, rfl, rfl, rfl, rfl, rfl, rfl, rfl, rfl, rfl, rfl, rfl, rfl, rfl, rfl⟩ := H
    go_enter Tryz.func38, Tryz.ntmps38
    go_wp2_with (first | ((with_reducible refine gate_dst (N := 4) rfl ?_); refine box_event ?hg (N := 4) ?hd (cs := #[.string (⟨#[]⟩ : ByteArray), .string (⟨#[]⟩ : ByteArray), .string (⟨#[]⟩ : ByteArray), .bool false, .string (⟨#[]⟩ : ByteArray), .string (⟨#[]⟩ : ByteArray), .slice none 0 0, .slice none 0 0, .int .i64 0, .int .i64 0, .int .i64 0, .int .i64 0, .string (⟨#[]⟩ : ByteArray), .slice none 0 0, .slice none 0 0]) (t := 50) ?hr ?_; (case hd => rfl); (case hg => rfl); (case hr => first | (go_simp; done) | (go_simp; rfl)); intro gb244 hg w4 hbox hb; have n0_ := Aside0.mk (Kd.V_below (Kd.V_elderB (by (with_reducible repeat (first | apply Kd.V_alloc | apply Kd.V_drewN | apply Kd.V_drew)); exact HO0.out) gb244 (Nat.le_of_eq hg.symm)) hb); have n1_ := Aside0.mk (below_step (by repeat (first | (with_reducible first | exact HB.out | apply below_alloc | apply pw_below_drewN | apply below_drew1) | exact HB.out)) hb); have n2_ := Aside0.mk (hbox); have n3_ := Aside0.mk ((by rw [hg]; exact (below_size (by repeat (first | (with_reducible first | exact HB.out | apply below_alloc | apply pw_below_drewN | apply below_drew1) | exact HB.out))) : w.heap.size ≤ gb244)); have n4_ := Aside0.mk ((by rw [hg]; exact (below_size (by repeat (first | (with_reducible first | exact HB.out | apply below_alloc | apply pw_below_drewN | apply below_drew1) | exact HB.out))) : w.heap.size ≤ gb244)); clear HO0; clear HB; have HO0 := n0_; have HB := n1_; have BK244 := n2_; have GW244 := n3_; have GE244 := n4_; clear n0_ n1_ n2_ n3_ n4_; clear hb hbox hg; have hcz5_0 : w4.cell? ⟨gb244, 0, none⟩ = some (.string (⟨#[]⟩ : ByteArray)) := (blk_cell BK244.out 0).trans rfl; have hcz5_1 : w4.cell? ⟨gb244, 1, none⟩ = some (.string (⟨#[]⟩ : ByteArray)) := (blk_cell BK244.out 1).trans rfl; have hcz5_2 : w4.cell? ⟨gb244, 2, none⟩ = some (.string (⟨#[]⟩ : ByteArray)) := (blk_cell BK244.out 2).trans rfl; have hcz5_3 : w4.cell? ⟨gb244, 3, none⟩ = some (.bool false) := (blk_cell BK244.out 3).trans rfl; have hcz5_4 : w4.cell? ⟨gb244, 4, none⟩ = some (.string (⟨#[]⟩ : ByteArray)) := (blk_cell BK244.out 4).trans rfl; have hcz5_5 : w4.cell? ⟨gb244, 5, none⟩ = some (.string (⟨#[]⟩ : ByteArray)) := (blk_cell BK244.out 5).trans rfl; have hcz5_6 : w4.cell? ⟨gb244, 6, none⟩ = some (.slice none 0 0) := (blk_cell BK244.out 6).trans rfl; have hcz5_7 : w4.cell? ⟨gb244, 7, none⟩ = some (.slice none 0 0) := (blk_cell BK244.out 7).trans rfl; have hcz5_8 : w4.cell? ⟨gb244, 8, none⟩ = some (.int .i64 0) := (blk_cell BK244.out 8).trans rfl; have hcz5_9 : w4.cell? ⟨gb244, 9, none⟩ = some (.int .i64 0) := (blk_cell BK244.out 9).trans rfl; have hcz5_10 : w4.cell? ⟨gb244, 10, none⟩ = some (.int .i64 0) := (blk_cell BK244.out 10).trans rfl; have hcz5_11 : w4.cell? ⟨gb244, 11, none⟩ = some (.int .i64 0) := (blk_cell BK244.out 11).trans rfl; have hcz5_12 : w4.cell? ⟨gb244, 12, none⟩ = some (.string (⟨#[]⟩ : ByteArray)) := (blk_cell BK244.out 12).trans rfl; have hcz5_13 : w4.cell? ⟨gb244, 13, none⟩ = some (.slice none 0 0) := (blk_cell BK244.out 13).trans rfl; have hcz5_14 : w4.cell? ⟨gb244, 14, none⟩ = some (.slice none 0 0) := (blk_cell BK244.out 14).trans rfl; have hfz5_0 := blk_frozen BK244.out 0; have hfz5_1 := blk_frozen BK244.out 1; have hfz5_2 := blk_frozen BK244.out 2; have hfz5_3 := blk_frozen BK244.out 3; have hfz5_4 := blk_frozen BK244.out 4; have hfz5_5 := blk_frozen BK244.out 5; have hfz5_6 := blk_frozen BK244.out 6; have hfz5_7 := blk_frozen BK244.out 7; have hfz5_8 := blk_frozen BK244.out 8; have hfz5_9 := blk_frozen BK244.out 9; have hfz5_10 := blk_frozen BK244.out 10; have hfz5_11 := blk_frozen BK244.out 11; have hfz5_12 := blk_frozen BK244.out 12; have hfz5_13 := blk_frozen BK244.out 13; have hfz5_14 := blk_frozen BK244.out 14))
    refine bodyPost_ret (results_cell_row rfl _ _ gb244 50 #[.string (⟨#[]⟩ : ByteArray), .string (⟨#[]⟩ : ByteArray), .string (⟨#[]⟩ : ByteArray), .bool false, .string (⟨#[]⟩ : ByteArray), .string (⟨#[]⟩ : ByteArray), .slice none 0 0, .slice none 0 0, .int .i64 0, .int .i64 0, .int .i64 0, .int .i64 0, .string (⟨#[]⟩ : ByteArray), .slice none 0 0, .slice none 0 0] (0, 0) _ rfl (by (with_reducible repeat (first | refine blk_drewN ?_ _ | refine blk_drew ?_ | refine blk_alloc ?_ _)); refine blk_put (cs := #[.string (⟨#[]⟩ : ByteArray), .string (⟨#[]⟩ : ByteArray), .string (⟨#[]⟩ : ByteArray), .bool false, .string (⟨#[]⟩ : ByteArray), .string (⟨#[]⟩ : ByteArray), .slice none 0 0, .slice none 0 0, .int .i64 0, .int .i64 0, .int .i64 0, .int .i64 0, .string (⟨#[]⟩ : ByteArray), .slice none 0 0, .slice none 0 0]) ?_ 14 _ rfl; (with_reducible repeat (first | refine blk_drewN ?_ _ | refine blk_drew ?_ | refine blk_alloc ?_ _)); refine blk_put (cs := #[.string (⟨#[]⟩ : ByteArray), .string (⟨#[]⟩ : ByteArray), .string (⟨#[]⟩ : ByteArray), .bool false, .string (⟨#[]⟩ : ByteArray), .string (⟨#[]⟩ : ByteArray), .slice none 0 0, .slice none 0 0, .int .i64 0, .int .i64 0, .int .i64 0, .int .i64 0, .string (⟨#[]⟩ : ByteArray), .slice none 0 0, .slice none 0 0]) ?_ 13 _ rfl; (with_reducible repeat (first | refine blk_drewN ?_ _ | refine blk_drew ?_ | refine blk_alloc ?_ _)); refine blk_put (cs := #[.string (⟨#[]⟩ : ByteArray), .string (⟨#[]⟩ : ByteArray), .string (⟨#[]⟩ : ByteArray), .bool false, .string (⟨#[]⟩ : ByteArray), .string (⟨#[]⟩ : ByteArray), .slice none 0 0, .slice none 0 0, .int .i64 0, .int .i64 0, .int .i64 0, .int .i64 0, .string (⟨#[]⟩ : ByteArray), .slice none 0 0, .slice none 0 0]) ?_ 12 _ rfl; (with_reducible repeat (first | refine blk_drewN ?_ _ | refine blk_drew ?_ | refine blk_alloc ?_ _)); refine blk_put (cs := #[.string (⟨#[]⟩ : ByteArray), .string (⟨#[]⟩ : ByteArray), .string (⟨#[]⟩ : ByteArray), .bool false, .string (⟨#[]⟩ : ByteArray), .string (⟨#[]⟩ : ByteArray), .slice none 0 0, .slice none 0 0, .int .i64 0, .int .i64 0, .int .i64 0, .int .i64 0, .string (⟨#[]⟩ : ByteArray), .slice none 0 0, .slice none 0 0]) ?_ 11 _ rfl; (with_reducible repeat (first | refine blk_drewN ?_ _ | refine blk_drew ?_ | refine blk_alloc ?_ _)); refine blk_put (cs := #[.string (⟨#[]⟩ : ByteArray), .string (⟨#[]⟩ : ByteArray), .string (⟨#[]⟩ : ByteArray), .bool false, .string (⟨#[]⟩ : ByteArray), .string (⟨#[]⟩ : ByteArray), .slice none 0 0, .slice none 0 0, .int .i64 0, .int .i64 0, .int .i64 0, .int .i64 0, .string (⟨#[]⟩ : ByteArray), .slice none 0 0, .slice none 0 0]) ?_ 10 _ rfl; (with_reducible repeat (first | refine blk_drewN ?_ _ | refine blk_drew ?_ | refine blk_alloc ?_ _)); refine blk_put (cs := #[.string (⟨#[]⟩ : ByteArray), .string (⟨#[]⟩ : ByteArray), .string (⟨#[]⟩ : ByteArray), .bool false, .string (⟨#[]⟩ : ByteArray), .string (⟨#[]⟩ : ByteArray), .slice none 0 0, .slice none 0 0, .int .i64 0, .int .i64 0, .int .i64 0, .int .i64 0, .string (⟨#[]⟩ : ByteArray), .slice none 0 0, .slice none 0 0]) ?_ 9 _ rfl; (with_reducible repeat (first | refine blk_drewN ?_ _ | refine blk_drew ?_ | refine blk_alloc ?_ _)); refine blk_put (cs := #[.string (⟨#[]⟩ : ByteArray), .string (⟨#[]⟩ : ByteArray), .string (⟨#[]⟩ : ByteArray), .bool false, .string (⟨#[]⟩ : ByteArray), .string (⟨#[]⟩ : ByteArray), .slice none 0 0, .slice none 0 0, .int .i64 0, .int .i64 0, .int .i64 0, .int .i64 0, .string (⟨#[]⟩ : ByteArray), .slice none 0 0, .slice none 0 0]) ?_ 8 _ rfl; (with_reducible repeat (first | refine blk_drewN ?_ _ | refine blk_drew ?_ | refine blk_alloc ?_ _)); refine blk_put (cs := #[.string (⟨#[]⟩ : ByteArray), .string (⟨#[]⟩ : ByteArray), .string (⟨#[]⟩ : ByteArray), .bool false, .string (⟨#[]⟩ : ByteArray), .string (⟨#[]⟩ : ByteArray), .slice none 0 0, .slice none 0 0, .int .i64 0, .int .i64 0, .int .i64 0, .int .i64 0, .string (⟨#[]⟩ : ByteArray), .slice none 0 0, .slice none 0 0]) ?_ 7 _ rfl; (with_reducible repeat (first | refine blk_drewN ?_ _ | refine blk_drew ?_ | refine blk_alloc ?_ _)); refine blk_put (cs := #[.string (⟨#[]⟩ : ByteArray), .string (⟨#[]⟩ : ByteArray), .string (⟨#[]⟩ : ByteArray), .bool false, .string (⟨#[]⟩ : ByteArray), .string (⟨#[]⟩ : ByteArray), .slice none 0 0, .slice none 0 0, .int .i64 0, .int .i64 0, .int .i64 0, .int .i64 0, .string (⟨#[]⟩ : ByteArray), .slice none 0 0, .slice none 0 0]) ?_ 6 _ rfl; (with_reducible repeat (first | refine blk_drewN ?_ _ | refine blk_drew ?_ | refine blk_alloc ?_ _)); refine blk_put (cs := #[.string (⟨#[]⟩ : ByteArray), .string (⟨#[]⟩ : ByteArray), .string (⟨#[]⟩ : ByteArray), .bool false, .string (⟨#[]⟩ : ByteArray), .string (⟨#[]⟩ : ByteArray), .slice none 0 0, .slice none 0 0, .int .i64 0, .int .i64 0, .int .i64 0, .int .i64 0, .string (⟨#[]⟩ : ByteArray), .slice none 0 0, .slice none 0 0]) ?_ 5 _ rfl; (with_reducible repeat (first | refine blk_drewN ?_ _ | refine blk_drew ?_ | refine blk_alloc ?_ _)); refine blk_put (cs := #[.string (⟨#[]⟩ : ByteArray), .string (⟨#[]⟩ : ByteArray), .string (⟨#[]⟩ : ByteArray), .bool false, .string (⟨#[]⟩ : ByteArray), .string (⟨#[]⟩ : ByteArray), .slice none 0 0, .slice none 0 0, .int .i64 0, .int .i64 0, .int .i64 0, .int .i64 0, .string (⟨#[]⟩ : ByteArray), .slice none 0 0, .slice none 0 0]) ?_ 4 _ rfl; (with_reducible repeat (first | refine blk_drewN ?_ _ | refine blk_drew ?_ | refine blk_alloc ?_ _)); refine blk_put (cs := #[.string (⟨#[]⟩ : ByteArray), .string (⟨#[]⟩ : ByteArray), .string (⟨#[]⟩ : ByteArray), .bool false, .string (⟨#[]⟩ : ByteArray), .string (⟨#[]⟩ : ByteArray), .slice none 0 0, .slice none 0 0, .int .i64 0, .int .i64 0, .int .i64 0, .int .i64 0, .string (⟨#[]⟩ : ByteArray), .slice none 0 0, .slice none 0 0]) ?_ 3 _ rfl; (with_reducible repeat (first | refine blk_drewN ?_ _ | refine blk_drew ?_ | refine blk_alloc ?_ _)); refine blk_put (cs := #[.string (⟨#[]⟩ : ByteArray), .string (⟨#[]⟩ : ByteArray), .string (⟨#[]⟩ : ByteArray), .bool false, .string (⟨#[]⟩ : ByteArray), .string (⟨#[]⟩ : ByteArray), .slice none 0 0, .slice none 0 0, .int .i64 0, .int .i64 0, .int .i64 0, .int .i64 0, .string (⟨#[]⟩ : ByteArray), .slice none 0 0, .slice none 0 0]) ?_ 2 _ rfl; (with_reducible repeat (first | refine blk_drewN ?_ _ | refine blk_drew ?_ | refine blk_alloc ?_ _)); refine blk_put (cs := #[.string (⟨#[]⟩ : ByteArray), .string (⟨#[]⟩ : ByteArray), .string (⟨#[]⟩ : ByteArray), .bool false, .string (⟨#[]⟩ : ByteArray), .string (⟨#[]⟩ : ByteArray), .slice none 0 0, .slice none 0 0, .int .i64 0, .int .i64 0, .int .i64 0, .int .i64 0, .string (⟨#[]⟩ : ByteArray), .slice none 0 0, .slice none 0 0]) ?_ 1 _ rfl; (with_reducible repeat (first | refine blk_drewN ?_ _ | refine blk_drew ?_ | refine blk_alloc ?_ _)); refine blk_put (cs := #[.string (⟨#[]⟩ : ByteArray), .string (⟨#[]⟩ : ByteArray), .string (⟨#[]⟩ : ByteArray), .bool false, .string (⟨#[]⟩ : ByteArray), .string (⟨#[]⟩ : ByteArray), .slice none 0 0, .slice none 0 0, .int .i64 0, .int .i64 0, .int .i64 0, .int .i64 0, .string (⟨#[]⟩ : ByteArray), .slice none 0 0, .slice none 0 0]) ?_ 0 _ rfl; (with_reducible repeat (first | refine blk_drewN ?_ _ | refine blk_drew ?_ | refine blk_alloc ?_ _)); exact BK244.out) Tryz.underlying50 rfl (by kernel_rfl)) rfl ?_
    exact ⟨_, _, _, _, by first | rfl | (simp [errW_none, errW_some] <;> rfl) | (simp [*, errW_none, errW_some] <;> rfl), Kd.V_mono (Kd.R_V (ok := fun k_ => w.heap.size ≤ k_) (base := w.heap.size) (by first | exact Kd.R_nil _ _ _ _ _ | exact Kd.N_nil _ _ _ _ _ | exact Kd.V_nil _ _ _ _ _ | exact Kd.Q_nil _ _ _ _ _ | exact Kd.S_nil _ _ _ _ _)) (fun k_ hk => by first | exact ⟨(.inr (hk.1)), hk.2⟩ | exact (.inr (hk))), Kd.V_mono (Kd.R_V (ok := fun k_ => w.heap.size ≤ k_) (base := w.heap.size) (by first | exact Kd.R_nil _ _ _ _ _ | exact Kd.N_nil _ _ _ _ _ | exact Kd.V_nil _ _ _ _ _ | exact Kd.Q_nil _ _ _ _ _ | exact Kd.S_nil _ _ _ _ _)) (fun k_ hk => by first | exact ⟨(.inr (hk.1)), hk.2⟩ | exact (.inr (hk))), Kd.V_mono (Kd.R_V (ok := fun k_ => w.heap.size ≤ k_) (base := w.heap.size) (by first | exact Kd.R_nil _ _ _ _ _ | exact Kd.N_nil _ _ _ _ _ | exact Kd.V_nil _ _ _ _ _ | exact Kd.Q_nil _ _ _ _ _ | exact Kd.S_nil _ _ _ _ _)) (fun k_ hk => by first | exact ⟨(.inr (hk.1)), hk.2⟩ | exact (.inr (hk))), Kd.V_mono (Kd.R_V (ok := fun k_ => w.heap.size ≤ k_) (base := w.heap.size) (by first | exact Kd.R_nil _ _ _ _ _ | exact Kd.N_nil _ _ _ _ _ | exact Kd.V_nil _ _ _ _ _ | exact Kd.Q_nil _ _ _ _ _ | exact Kd.S_nil _ _ _ _ _)) (fun k_ hk => by first | exact ⟨(.inr (hk.1)), hk.2⟩ | exact (.inr (hk))), by repeat (first | (with_reducible first | exact HB.out | apply below_alloc | apply pw_below_drewN | apply below_drew1 | refine below_set ?_ GE244.out) | exact HB.out)⟩
  · rw [if_neg c3] at H
    have c3b0 : decide (a1 < 0) = false := decide_eq_false c3
    clear c3
    by_cases c6 : 0 ≤ a1
    · rw [if_pos c6] at H
      have c6b0 : decide (0 ≤ a1) = true := decide_eq_true c6
      clear c6
      by_cases c7 : a1 < (l0.length : Int)
      · rw [if_pos c7] at H
        have c7b0 : decide (a1 < (l0.length : Int)) = true := decide_eq_true c7
        clear c7
        simp only [Option.some.injEq, Prod.mk.injEq] at H
        obtain ⟨rfl, rfl, rfl, rfl, rfl, rfl, rfl, rfl, rfl, rfl, rfl, rfl, rfl, rfl, rfl⟩ := H
        go_enter Tryz.func38, Tryz.ntmps38
        go_wp2_with (first | ((with_reducible refine gate_dst (N := 4) rfl ?_); refine box_event ?hg (N := 4) ?hd (cs := #[.string (⟨#[]⟩ : ByteArray), .string (⟨#[]⟩ : ByteArray), .string (⟨#[]⟩ : ByteArray), .bool false, .string (⟨#[]⟩ : ByteArray), .string (⟨#[]⟩ : ByteArray), .slice none 0 0, .slice none 0 0, .int .i64 0, .int .i64 0, .int .i64 0, .int .i64 0, .string (⟨#[]⟩ : ByteArray), .slice none 0 0, .slice none 0 0]) (t := 50) ?hr ?_; (case hd => rfl); (case hg => rfl); (case hr => first | (go_simp; done) | (go_simp; rfl)); intro gb244 hg w8 hbox hb; have n0_ := Aside0.mk (Kd.V_below (Kd.V_elderB (by (with_reducible repeat (first | apply Kd.V_alloc | apply Kd.V_drewN | apply Kd.V_drew)); exact HO0.out) gb244 (Nat.le_of_eq hg.symm)) hb); have n1_ := Aside0.mk (below_step (by repeat (first | (with_reducible first | exact HB.out | apply below_alloc | apply pw_below_drewN | apply below_drew1) | exact HB.out)) hb); have n2_ := Aside0.mk (hbox); have n3_ := Aside0.mk ((by rw [hg]; exact (below_size (by repeat (first | (with_reducible first | exact HB.out | apply below_alloc | apply pw_below_drewN | apply below_drew1) | exact HB.out))) : w.heap.size ≤ gb244)); have n4_ := Aside0.mk ((by rw [hg]; exact (below_size (by repeat (first | (with_reducible first | exact HB.out | apply below_alloc | apply pw_below_drewN | apply below_drew1) | exact HB.out))) : w.heap.size ≤ gb244)); clear HO0; clear HB; have HO0 := n0_; have HB := n1_; have BK244 := n2_; have GW244 := n3_; have GE244 := n4_; clear n0_ n1_ n2_ n3_ n4_; clear hb hbox hg; have p245 : 0 ≤ (a1 : Int) := of_decide_eq_true (by first | (with_reducible assumption) | assumption); have q245 : a1 < (l0.length : Int) := of_decide_eq_true (by first | (with_reducible assumption) | assumption); obtain ⟨ad245, A245_6, c245_6, A245_7, c245_7, A245_13, c245_13, A245_14, c245_14, e245, hx245_0, hx245_1, hx245_2, hx245_3, hx245_4, hx245_5, hx245_6, hx245_7, hx245_8, hx245_9, hx245_10, hx245_11, hx245_12, hx245_13, hx245_14, hl245_6, hi245_6, hl245_7, hi245_7, hl245_13, hi245_13, hl245_14, hi245_14⟩ := at_T50 (Kd.V_reads' HO0.out).2.2 a1 p245 q245; cases e245; obtain ⟨ce245, hce245, hMe245, hcc245⟩ := Kd.V_get HO0.out z50 a1 p245 (by first | exact q245 | exact of_decide_eq_true (by first | (with_reducible assumption) | assumption) | (have e_ := (Kd.V_reads' HO0.out).1; omega)); obtain ⟨ua245_6, uc245_6, ua245_7, uc245_7, ua245_13, uc245_13, ua245_14, uc245_14, rfl, ul245_6, ge245_6, ul245_7, ge245_7, ul245_13, ge245_13, ul245_14, ge245_14⟩ := k50_openF hMe245; have hv245_6 := hcc245 6 _ rfl; rw [add_field _ _ 6 (by omega)] at hv245_6; replace hv245_6 := Option.some.inj (hv245_6.symm.trans hx245_6); injection hv245_6 with hva_ hvn_ hvc_; rw [hva_] at ge245_6; rw [hvc_] at ul245_6; have HL245_6 := Aside0.mk (show Kd.V Kd.string 9 _ w.heap.size _ _ ((rd_T50 l0 a1).f6) from Kd.V_mk ul245_6 ge245_6); clear hva_ hvn_ hvc_ ge245_6 ul245_6; have hv245_7 := hcc245 7 _ rfl; rw [add_field _ _ 7 (by omega)] at hv245_7; replace hv245_7 := Option.some.inj (hv245_7.symm.trans hx245_7); injection hv245_7 with hva_ hvn_ hvc_; rw [hva_] at ge245_7; rw [hvc_] at ul245_7; have HL245_7 := Aside0.mk (show Kd.V Kd.string 9 _ w.heap.size _ _ ((rd_T50 l0 a1).f7) from Kd.V_mk ul245_7 ge245_7); clear hva_ hvn_ hvc_ ge245_7 ul245_7; have hv245_13 := hcc245 13 _ rfl; rw [add_field _ _ 13 (by omega)] at hv245_13; replace hv245_13 := Option.some.inj (hv245_13.symm.trans hx245_13); injection hv245_13 with hva_ hvn_ hvc_; rw [hva_] at ge245_13; rw [hvc_] at ul245_13; have HL245_13 := Aside0.mk (show Kd.V Kd.string 9 _ w.heap.size _ _ ((rd_T50 l0 a1).f10.f3) from Kd.V_mk ul245_13 ge245_13); clear hva_ hvn_ hvc_ ge245_13 ul245_13; have hv245_14 := hcc245 14 _ rfl; rw [add_field _ _ 14 (by omega)] at hv245_14; replace hv245_14 := Option.some.inj (hv245_14.symm.trans hx245_14); injection hv245_14 with hva_ hvn_ hvc_; rw [hva_] at ge245_14; rw [hvc_] at ul245_14; have HL245_14 := Aside0.mk (show Kd.V k48 48 _ w.heap.size _ _ ((rd_T50 l0 a1).f10.f4) from Kd.V_mk ul245_14 ge245_14); clear hva_ hvn_ hvc_ ge245_14 ul245_14; clear hcc245 hce245; have HR245_6 := Aside0.mk hi245_6; have HC245_6 := Aside0.mk hl245_6; clear hi245_6 hl245_6; have HR245_7 := Aside0.mk hi245_7; have HC245_7 := Aside0.mk hl245_7; clear hi245_7 hl245_7; have HR245_13 := Aside0.mk hi245_13; have HC245_13 := Aside0.mk hl245_13; clear hi245_13 hl245_13; have HR245_14 := Aside0.mk hi245_14; have HC245_14 := Aside0.mk hl245_14; clear hi245_14 hl245_14; replace p245 := eq_true p245; replace q245 := eq_true q245; have hcz9_0 : w8.cell? ⟨gb244, 0, none⟩ = some (.string (⟨#[]⟩ : ByteArray)) := (blk_cell BK244.out 0).trans rfl; have hcz9_1 : w8.cell? ⟨gb244, 1, none⟩ = some (.string (⟨#[]⟩ : ByteArray)) := (blk_cell BK244.out 1).trans rfl; have hcz9_2 : w8.cell? ⟨gb244, 2, none⟩ = some (.string (⟨#[]⟩ : ByteArray)) := (blk_cell BK244.out 2).trans rfl; have hcz9_3 : w8.cell? ⟨gb244, 3, none⟩ = some (.bool false) := (blk_cell BK244.out 3).trans rfl; have hcz9_4 : w8.cell? ⟨gb244, 4, none⟩ = some (.string (⟨#[]⟩ : ByteArray)) := (blk_cell BK244.out 4).trans rfl; have hcz9_5 : w8.cell? ⟨gb244, 5, none⟩ = some (.string (⟨#[]⟩ : ByteArray)) := (blk_cell BK244.out 5).trans rfl; have hcz9_6 : w8.cell? ⟨gb244, 6, none⟩ = some (.slice none 0 0) := (blk_cell BK244.out 6).trans rfl; have hcz9_7 : w8.cell? ⟨gb244, 7, none⟩ = some (.slice none 0 0) := (blk_cell BK244.out 7).trans rfl; have hcz9_8 : w8.cell? ⟨gb244, 8, none⟩ = some (.int .i64 0) := (blk_cell BK244.out 8).trans rfl; have hcz9_9 : w8.cell? ⟨gb244, 9, none⟩ = some (.int .i64 0) := (blk_cell BK244.out 9).trans rfl; have hcz9_10 : w8.cell? ⟨gb244, 10, none⟩ = some (.int .i64 0) := (blk_cell BK244.out 10).trans rfl; have hcz9_11 : w8.cell? ⟨gb244, 11, none⟩ = some (.int .i64 0) := (blk_cell BK244.out 11).trans rfl; have hcz9_12 : w8.cell? ⟨gb244, 12, none⟩ = some (.string (⟨#[]⟩ : ByteArray)) := (blk_cell BK244.out 12).trans rfl; have hcz9_13 : w8.cell? ⟨gb244, 13, none⟩ = some (.slice none 0 0) := (blk_cell BK244.out 13).trans rfl; have hcz9_14 : w8.cell? ⟨gb244, 14, none⟩ = some (.slice none 0 0) := (blk_cell BK244.out 14).trans rfl; have hfz9_0 := blk_frozen BK244.out 0; have hfz9_1 := blk_frozen BK244.out 1; have hfz9_2 := blk_frozen BK244.out 2; have hfz9_3 := blk_frozen BK244.out 3; have hfz9_4 := blk_frozen BK244.out 4; have hfz9_5 := blk_frozen BK244.out 5; have hfz9_6 := blk_frozen BK244.out 6; have hfz9_7 := blk_frozen BK244.out 7; have hfz9_8 := blk_frozen BK244.out 8; have hfz9_9 := blk_frozen BK244.out 9; have hfz9_10 := blk_frozen BK244.out 10; have hfz9_11 := blk_frozen BK244.out 11; have hfz9_12 := blk_frozen BK244.out 12; have hfz9_13 := blk_frozen BK244.out 13; have hfz9_14 := blk_frozen BK244.out 14))
        refine bodyPost_ret (results_cell_row rfl _ _ gb244 50 #[.string ((rd_T50 l0 a1).f0), .string ((rd_T50 l0 a1).f1), .string ((rd_T50 l0 a1).f2), .bool ((rd_T50 l0 a1).f3), .string ((rd_T50 l0 a1).f4), .string ((rd_T50 l0 a1).f5), .slice A245_6 ((rd_T50 l0 a1).f6).length c245_6, .slice A245_7 ((rd_T50 l0 a1).f7).length c245_7, .int .i64 ((rd_T50 l0 a1).f8), .int .i64 ((rd_T50 l0 a1).f9), .int .i64 ((rd_T50 l0 a1).f10.f0), .int .i64 ((rd_T50 l0 a1).f10.f1), .string ((rd_T50 l0 a1).f10.f2), .slice A245_13 ((rd_T50 l0 a1).f10.f3).length c245_13, .slice A245_14 ((rd_T50 l0 a1).f10.f4).length c245_14] (0, 0) _ rfl (by (with_reducible repeat (first | refine blk_drewN ?_ _ | refine blk_drew ?_ | refine blk_alloc ?_ _)); refine blk_put (cs := #[.string ((rd_T50 l0 a1).f0), .string ((rd_T50 l0 a1).f1), .string ((rd_T50 l0 a1).f2), .bool ((rd_T50 l0 a1).f3), .string ((rd_T50 l0 a1).f4), .string ((rd_T50 l0 a1).f5), .slice A245_6 ((rd_T50 l0 a1).f6).length c245_6, .slice A245_7 ((rd_T50 l0 a1).f7).length c245_7, .int .i64 ((rd_T50 l0 a1).f8), .int .i64 ((rd_T50 l0 a1).f9), .int .i64 ((rd_T50 l0 a1).f10.f0), .int .i64 ((rd_T50 l0 a1).f10.f1), .string ((rd_T50 l0 a1).f10.f2), .slice A245_13 ((rd_T50 l0 a1).f10.f3).length c245_13, .slice none 0 0]) ?_ 14 _ rfl; (with_reducible repeat (first | refine blk_drewN ?_ _ | refine blk_drew ?_ | refine blk_alloc ?_ _)); refine blk_put (cs := #[.string ((rd_T50 l0 a1).f0), .string ((rd_T50 l0 a1).f1), .string ((rd_T50 l0 a1).f2), .bool ((rd_T50 l0 a1).f3), .string ((rd_T50 l0 a1).f4), .string ((rd_T50 l0 a1).f5), .slice A245_6 ((rd_T50 l0 a1).f6).length c245_6, .slice A245_7 ((rd_T50 l0 a1).f7).length c245_7, .int .i64 ((rd_T50 l0 a1).f8), .int .i64 ((rd_T50 l0 a1).f9), .int .i64 ((rd_T50 l0 a1).f10.f0), .int .i64 ((rd_T50 l0 a1).f10.f1), .string ((rd_T50 l0 a1).f10.f2), .slice none 0 0, .slice none 0 0]) ?_ 13 _ rfl; (with_reducible repeat (first | refine blk_drewN ?_ _ | refine blk_drew ?_ | refine blk_alloc ?_ _)); refine blk_put (cs := #[.string ((rd_T50 l0 a1).f0), .string ((rd_T50 l0 a1).f1), .string ((rd_T50 l0 a1).f2), .bool ((rd_T50 l0 a1).f3), .string ((rd_T50 l0 a1).f4), .string ((rd_T50 l0 a1).f5), .slice A245_6 ((rd_T50 l0 a1).f6).length c245_6, .slice A245_7 ((rd_T50 l0 a1).f7).length c245_7, .int .i64 ((rd_T50 l0 a1).f8), .int .i64 ((rd_T50 l0 a1).f9), .int .i64 ((rd_T50 l0 a1).f10.f0), .int .i64 ((rd_T50 l0 a1).f10.f1), .string (⟨#[]⟩ : ByteArray), .slice none 0 0, .slice none 0 0]) ?_ 12 _ rfl; (with_reducible repeat (first | refine blk_drewN ?_ _ | refine blk_drew ?_ | refine blk_alloc ?_ _)); refine blk_put (cs := #[.string ((rd_T50 l0 a1).f0), .string ((rd_T50 l0 a1).f1), .string ((rd_T50 l0 a1).f2), .bool ((rd_T50 l0 a1).f3), .string ((rd_T50 l0 a1).f4), .string ((rd_T50 l0 a1).f5), .slice A245_6 ((rd_T50 l0 a1).f6).length c245_6, .slice A245_7 ((rd_T50 l0 a1).f7).length c245_7, .int .i64 ((rd_T50 l0 a1).f8), .int .i64 ((rd_T50 l0 a1).f9), .int .i64 ((rd_T50 l0 a1).f10.f0), .int .i64 0, .string (⟨#[]⟩ : ByteArray), .slice none 0 0, .slice none 0 0]) ?_ 11 _ rfl; (with_reducible repeat (first | refine blk_drewN ?_ _ | refine blk_drew ?_ | refine blk_alloc ?_ _)); refine blk_put (cs := #[.string ((rd_T50 l0 a1).f0), .string ((rd_T50 l0 a1).f1), .string ((rd_T50 l0 a1).f2), .bool ((rd_T50 l0 a1).f3), .string ((rd_T50 l0 a1).f4), .string ((rd_T50 l0 a1).f5), .slice A245_6 ((rd_T50 l0 a1).f6).length c245_6, .slice A245_7 ((rd_T50 l0 a1).f7).length c245_7, .int .i64 ((rd_T50 l0 a1).f8), .int .i64 ((rd_T50 l0 a1).f9), .int .i64 0, .int .i64 0, .string (⟨#[]⟩ : ByteArray), .slice none 0 0, .slice none 0 0]) ?_ 10 _ rfl; (with_reducible repeat (first | refine blk_drewN ?_ _ | refine blk_drew ?_ | refine blk_alloc ?_ _)); refine blk_put (cs := #[.string ((rd_T50 l0 a1).f0), .string ((rd_T50 l0 a1).f1), .string ((rd_T50 l0 a1).f2), .bool ((rd_T50 l0 a1).f3), .string ((rd_T50 l0 a1).f4), .string ((rd_T50 l0 a1).f5), .slice A245_6 ((rd_T50 l0 a1).f6).length c245_6, .slice A245_7 ((rd_T50 l0 a1).f7).length c245_7, .int .i64 ((rd_T50 l0 a1).f8), .int .i64 0, .int .i64 0, .int .i64 0, .string (⟨#[]⟩ : ByteArray), .slice none 0 0, .slice none 0 0]) ?_ 9 _ rfl; (with_reducible repeat (first | refine blk_drewN ?_ _ | refine blk_drew ?_ | refine blk_alloc ?_ _)); refine blk_put (cs := #[.string ((rd_T50 l0 a1).f0), .string ((rd_T50 l0 a1).f1), .string ((rd_T50 l0 a1).f2), .bool ((rd_T50 l0 a1).f3), .string ((rd_T50 l0 a1).f4), .string ((rd_T50 l0 a1).f5), .slice A245_6 ((rd_T50 l0 a1).f6).length c245_6, .slice A245_7 ((rd_T50 l0 a1).f7).length c245_7, .int .i64 0, .int .i64 0, .int .i64 0, .int .i64 0, .string (⟨#[]⟩ : ByteArray), .slice none 0 0, .slice none 0 0]) ?_ 8 _ rfl; (with_reducible repeat (first | refine blk_drewN ?_ _ | refine blk_drew ?_ | refine blk_alloc ?_ _)); refine blk_put (cs := #[.string ((rd_T50 l0 a1).f0), .string ((rd_T50 l0 a1).f1), .string ((rd_T50 l0 a1).f2), .bool ((rd_T50 l0 a1).f3), .string ((rd_T50 l0 a1).f4), .string ((rd_T50 l0 a1).f5), .slice A245_6 ((rd_T50 l0 a1).f6).length c245_6, .slice none 0 0, .int .i64 0, .int .i64 0, .int .i64 0, .int .i64 0, .string (⟨#[]⟩ : ByteArray), .slice none 0 0, .slice none 0 0]) ?_ 7 _ rfl; (with_reducible repeat (first | refine blk_drewN ?_ _ | refine blk_drew ?_ | refine blk_alloc ?_ _)); refine blk_put (cs := #[.string ((rd_T50 l0 a1).f0), .string ((rd_T50 l0 a1).f1), .string ((rd_T50 l0 a1).f2), .bool ((rd_T50 l0 a1).f3), .string ((rd_T50 l0 a1).f4), .string ((rd_T50 l0 a1).f5), .slice none 0 0, .slice none 0 0, .int .i64 0, .int .i64 0, .int .i64 0, .int .i64 0, .string (⟨#[]⟩ : ByteArray), .slice none 0 0, .slice none 0 0]) ?_ 6 _ rfl; (with_reducible repeat (first | refine blk_drewN ?_ _ | refine blk_drew ?_ | refine blk_alloc ?_ _)); refine blk_put (cs := #[.string ((rd_T50 l0 a1).f0), .string ((rd_T50 l0 a1).f1), .string ((rd_T50 l0 a1).f2), .bool ((rd_T50 l0 a1).f3), .string ((rd_T50 l0 a1).f4), .string (⟨#[]⟩ : ByteArray), .slice none 0 0, .slice none 0 0, .int .i64 0, .int .i64 0, .int .i64 0, .int .i64 0, .string (⟨#[]⟩ : ByteArray), .slice none 0 0, .slice none 0 0]) ?_ 5 _ rfl; (with_reducible repeat (first | refine blk_drewN ?_ _ | refine blk_drew ?_ | refine blk_alloc ?_ _)); refine blk_put (cs := #[.string ((rd_T50 l0 a1).f0), .string ((rd_T50 l0 a1).f1), .string ((rd_T50 l0 a1).f2), .bool ((rd_T50 l0 a1).f3), .string (⟨#[]⟩ : ByteArray), .string (⟨#[]⟩ : ByteArray), .slice none 0 0, .slice none 0 0, .int .i64 0, .int .i64 0, .int .i64 0, .int .i64 0, .string (⟨#[]⟩ : ByteArray), .slice none 0 0, .slice none 0 0]) ?_ 4 _ rfl; (with_reducible repeat (first | refine blk_drewN ?_ _ | refine blk_drew ?_ | refine blk_alloc ?_ _)); refine blk_put (cs := #[.string ((rd_T50 l0 a1).f0), .string ((rd_T50 l0 a1).f1), .string ((rd_T50 l0 a1).f2), .bool false, .string (⟨#[]⟩ : ByteArray), .string (⟨#[]⟩ : ByteArray), .slice none 0 0, .slice none 0 0, .int .i64 0, .int .i64 0, .int .i64 0, .int .i64 0, .string (⟨#[]⟩ : ByteArray), .slice none 0 0, .slice none 0 0]) ?_ 3 _ rfl; (with_reducible repeat (first | refine blk_drewN ?_ _ | refine blk_drew ?_ | refine blk_alloc ?_ _)); refine blk_put (cs := #[.string ((rd_T50 l0 a1).f0), .string ((rd_T50 l0 a1).f1), .string (⟨#[]⟩ : ByteArray), .bool false, .string (⟨#[]⟩ : ByteArray), .string (⟨#[]⟩ : ByteArray), .slice none 0 0, .slice none 0 0, .int .i64 0, .int .i64 0, .int .i64 0, .int .i64 0, .string (⟨#[]⟩ : ByteArray), .slice none 0 0, .slice none 0 0]) ?_ 2 _ rfl; (with_reducible repeat (first | refine blk_drewN ?_ _ | refine blk_drew ?_ | refine blk_alloc ?_ _)); refine blk_put (cs := #[.string ((rd_T50 l0 a1).f0), .string (⟨#[]⟩ : ByteArray), .string (⟨#[]⟩ : ByteArray), .bool false, .string (⟨#[]⟩ : ByteArray), .string (⟨#[]⟩ : ByteArray), .slice none 0 0, .slice none 0 0, .int .i64 0, .int .i64 0, .int .i64 0, .int .i64 0, .string (⟨#[]⟩ : ByteArray), .slice none 0 0, .slice none 0 0]) ?_ 1 _ rfl; (with_reducible repeat (first | refine blk_drewN ?_ _ | refine blk_drew ?_ | refine blk_alloc ?_ _)); refine blk_put (cs := #[.string (⟨#[]⟩ : ByteArray), .string (⟨#[]⟩ : ByteArray), .string (⟨#[]⟩ : ByteArray), .bool false, .string (⟨#[]⟩ : ByteArray), .string (⟨#[]⟩ : ByteArray), .slice none 0 0, .slice none 0 0, .int .i64 0, .int .i64 0, .int .i64 0, .int .i64 0, .string (⟨#[]⟩ : ByteArray), .slice none 0 0, .slice none 0 0]) ?_ 0 _ rfl; (with_reducible repeat (first | refine blk_drewN ?_ _ | refine blk_drew ?_ | refine blk_alloc ?_ _)); exact BK244.out) Tryz.underlying50 rfl (by kernel_rfl)) rfl ?_
        exact ⟨_, _, _, _, by first | rfl | (simp [errW_none, errW_some] <;> rfl) | (simp [*, errW_none, errW_some] <;> rfl), by (with_reducible repeat (first | apply Kd.V_alloc | apply Kd.V_drewN | apply Kd.V_drew)); exact Kd.V_mono (Kd.V_far (p := ⟨gb244, 14, none⟩) (Kd.V_far (p := ⟨gb244, 13, none⟩) (Kd.V_far (p := ⟨gb244, 12, none⟩) (Kd.V_far (p := ⟨gb244, 11, none⟩) (Kd.V_far (p := ⟨gb244, 10, none⟩) (Kd.V_far (p := ⟨gb244, 9, none⟩) (Kd.V_far (p := ⟨gb244, 8, none⟩) (Kd.V_far (p := ⟨gb244, 7, none⟩) (Kd.V_far (p := ⟨gb244, 6, none⟩) (Kd.V_far (p := ⟨gb244, 5, none⟩) (Kd.V_far (p := ⟨gb244, 4, none⟩) (Kd.V_far (p := ⟨gb244, 3, none⟩) (Kd.V_far (p := ⟨gb244, 2, none⟩) (Kd.V_far (p := ⟨gb244, 1, none⟩) (Kd.V_far (p := ⟨gb244, 0, none⟩) (Kd.V_mono HL245_6.out (fun k_ hk => (⟨hk, hk.2⟩ : _ ∧ k_ ≠ gb244))) (fun _ hk => hk.2) (.string ((rd_T50 l0 a1).f0))) (fun _ hk => hk.2) (.string ((rd_T50 l0 a1).f1))) (fun _ hk => hk.2) (.string ((rd_T50 l0 a1).f2))) (fun _ hk => hk.2) (.bool ((rd_T50 l0 a1).f3))) (fun _ hk => hk.2) (.string ((rd_T50 l0 a1).f4))) (fun _ hk => hk.2) (.string ((rd_T50 l0 a1).f5))) (fun _ hk => hk.2) (.slice A245_6 ((rd_T50 l0 a1).f6).length c245_6)) (fun _ hk => hk.2) (.slice A245_7 ((rd_T50 l0 a1).f7).length c245_7)) (fun _ hk => hk.2) (.int .i64 ((rd_T50 l0 a1).f8))) (fun _ hk => hk.2) (.int .i64 ((rd_T50 l0 a1).f9))) (fun _ hk => hk.2) (.int .i64 ((rd_T50 l0 a1).f10.f0))) (fun _ hk => hk.2) (.int .i64 ((rd_T50 l0 a1).f10.f1))) (fun _ hk => hk.2) (.string ((rd_T50 l0 a1).f10.f2))) (fun _ hk => hk.2) (.slice A245_13 ((rd_T50 l0 a1).f10.f3).length c245_13)) (fun _ hk => hk.2) (.slice A245_14 ((rd_T50 l0 a1).f10.f4).length c245_14)) (fun _ hk => hk.1.1), by (with_reducible repeat (first | apply Kd.V_alloc | apply Kd.V_drewN | apply Kd.V_drew)); exact Kd.V_mono (Kd.V_far (p := ⟨gb244, 14, none⟩) (Kd.V_far (p := ⟨gb244, 13, none⟩) (Kd.V_far (p := ⟨gb244, 12, none⟩) (Kd.V_far (p := ⟨gb244, 11, none⟩) (Kd.V_far (p := ⟨gb244, 10, none⟩) (Kd.V_far (p := ⟨gb244, 9, none⟩) (Kd.V_far (p := ⟨gb244, 8, none⟩) (Kd.V_far (p := ⟨gb244, 7, none⟩) (Kd.V_far (p := ⟨gb244, 6, none⟩) (Kd.V_far (p := ⟨gb244, 5, none⟩) (Kd.V_far (p := ⟨gb244, 4, none⟩) (Kd.V_far (p := ⟨gb244, 3, none⟩) (Kd.V_far (p := ⟨gb244, 2, none⟩) (Kd.V_far (p := ⟨gb244, 1, none⟩) (Kd.V_far (p := ⟨gb244, 0, none⟩) (Kd.V_mono HL245_7.out (fun k_ hk => (⟨hk, hk.2⟩ : _ ∧ k_ ≠ gb244))) (fun _ hk => hk.2) (.string ((rd_T50 l0 a1).f0))) (fun _ hk => hk.2) (.string ((rd_T50 l0 a1).f1))) (fun _ hk => hk.2) (.string ((rd_T50 l0 a1).f2))) (fun _ hk => hk.2) (.bool ((rd_T50 l0 a1).f3))) (fun _ hk => hk.2) (.string ((rd_T50 l0 a1).f4))) (fun _ hk => hk.2) (.string ((rd_T50 l0 a1).f5))) (fun _ hk => hk.2) (.slice A245_6 ((rd_T50 l0 a1).f6).length c245_6)) (fun _ hk => hk.2) (.slice A245_7 ((rd_T50 l0 a1).f7).length c245_7)) (fun _ hk => hk.2) (.int .i64 ((rd_T50 l0 a1).f8))) (fun _ hk => hk.2) (.int .i64 ((rd_T50 l0 a1).f9))) (fun _ hk => hk.2) (.int .i64 ((rd_T50 l0 a1).f10.f0))) (fun _ hk => hk.2) (.int .i64 ((rd_T50 l0 a1).f10.f1))) (fun _ hk => hk.2) (.string ((rd_T50 l0 a1).f10.f2))) (fun _ hk => hk.2) (.slice A245_13 ((rd_T50 l0 a1).f10.f3).length c245_13)) (fun _ hk => hk.2) (.slice A245_14 ((rd_T50 l0 a1).f10.f4).length c245_14)) (fun _ hk => hk.1.1), by (with_reducible repeat (first | apply Kd.V_alloc | apply Kd.V_drewN | apply Kd.V_drew)); exact Kd.V_mono (Kd.V_far (p := ⟨gb244, 14, none⟩) (Kd.V_far (p := ⟨gb244, 13, none⟩) (Kd.V_far (p := ⟨gb244, 12, none⟩) (Kd.V_far (p := ⟨gb244, 11, none⟩) (Kd.V_far (p := ⟨gb244, 10, none⟩) (Kd.V_far (p := ⟨gb244, 9, none⟩) (Kd.V_far (p := ⟨gb244, 8, none⟩) (Kd.V_far (p := ⟨gb244, 7, none⟩) (Kd.V_far (p := ⟨gb244, 6, none⟩) (Kd.V_far (p := ⟨gb244, 5, none⟩) (Kd.V_far (p := ⟨gb244, 4, none⟩) (Kd.V_far (p := ⟨gb244, 3, none⟩) (Kd.V_far (p := ⟨gb244, 2, none⟩) (Kd.V_far (p := ⟨gb244, 1, none⟩) (Kd.V_far (p := ⟨gb244, 0, none⟩) (Kd.V_mono HL245_13.out (fun k_ hk => (⟨hk, hk.2⟩ : _ ∧ k_ ≠ gb244))) (fun _ hk => hk.2) (.string ((rd_T50 l0 a1).f0))) (fun _ hk => hk.2) (.string ((rd_T50 l0 a1).f1))) (fun _ hk => hk.2) (.string ((rd_T50 l0 a1).f2))) (fun _ hk => hk.2) (.bool ((rd_T50 l0 a1).f3))) (fun _ hk => hk.2) (.string ((rd_T50 l0 a1).f4))) (fun _ hk => hk.2) (.string ((rd_T50 l0 a1).f5))) (fun _ hk => hk.2) (.slice A245_6 ((rd_T50 l0 a1).f6).length c245_6)) (fun _ hk => hk.2) (.slice A245_7 ((rd_T50 l0 a1).f7).length c245_7)) (fun _ hk => hk.2) (.int .i64 ((rd_T50 l0 a1).f8))) (fun _ hk => hk.2) (.int .i64 ((rd_T50 l0 a1).f9))) (fun _ hk => hk.2) (.int .i64 ((rd_T50 l0 a1).f10.f0))) (fun _ hk => hk.2) (.int .i64 ((rd_T50 l0 a1).f10.f1))) (fun _ hk => hk.2) (.string ((rd_T50 l0 a1).f10.f2))) (fun _ hk => hk.2) (.slice A245_13 ((rd_T50 l0 a1).f10.f3).length c245_13)) (fun _ hk => hk.2) (.slice A245_14 ((rd_T50 l0 a1).f10.f4).length c245_14)) (fun _ hk => hk.1.1), by (with_reducible repeat (first | apply Kd.V_alloc | apply Kd.V_drewN | apply Kd.V_drew)); exact Kd.V_mono (Kd.V_far (p := ⟨gb244, 14, none⟩) (Kd.V_far (p := ⟨gb244, 13, none⟩) (Kd.V_far (p := ⟨gb244, 12, none⟩) (Kd.V_far (p := ⟨gb244, 11, none⟩) (Kd.V_far (p := ⟨gb244, 10, none⟩) (Kd.V_far (p := ⟨gb244, 9, none⟩) (Kd.V_far (p := ⟨gb244, 8, none⟩) (Kd.V_far (p := ⟨gb244, 7, none⟩) (Kd.V_far (p := ⟨gb244, 6, none⟩) (Kd.V_far (p := ⟨gb244, 5, none⟩) (Kd.V_far (p := ⟨gb244, 4, none⟩) (Kd.V_far (p := ⟨gb244, 3, none⟩) (Kd.V_far (p := ⟨gb244, 2, none⟩) (Kd.V_far (p := ⟨gb244, 1, none⟩) (Kd.V_far (p := ⟨gb244, 0, none⟩) (Kd.V_mono HL245_14.out (fun k_ hk => (⟨hk, hk.2⟩ : _ ∧ k_ ≠ gb244))) (fun _ hk => hk.2) (.string ((rd_T50 l0 a1).f0))) (fun _ hk => hk.2) (.string ((rd_T50 l0 a1).f1))) (fun _ hk => hk.2) (.string ((rd_T50 l0 a1).f2))) (fun _ hk => hk.2) (.bool ((rd_T50 l0 a1).f3))) (fun _ hk => hk.2) (.string ((rd_T50 l0 a1).f4))) (fun _ hk => hk.2) (.string ((rd_T50 l0 a1).f5))) (fun _ hk => hk.2) (.slice A245_6 ((rd_T50 l0 a1).f6).length c245_6)) (fun _ hk => hk.2) (.slice A245_7 ((rd_T50 l0 a1).f7).length c245_7)) (fun _ hk => hk.2) (.int .i64 ((rd_T50 l0 a1).f8))) (fun _ hk => hk.2) (.int .i64 ((rd_T50 l0 a1).f9))) (fun _ hk => hk.2) (.int .i64 ((rd_T50 l0 a1).f10.f0))) (fun _ hk => hk.2) (.int .i64 ((rd_T50 l0 a1).f10.f1))) (fun _ hk => hk.2) (.string ((rd_T50 l0 a1).f10.f2))) (fun _ hk => hk.2) (.slice A245_13 ((rd_T50 l0 a1).f10.f3).length c245_13)) (fun _ hk => hk.2) (.slice A245_14 ((rd_T50 l0 a1).f10.f4).length c245_14)) (fun _ hk => hk.1.1), by repeat (first | (with_reducible first | exact HB.out | apply below_alloc | apply pw_below_drewN | apply below_drew1 | refine below_set ?_ GE244.out) | exact HB.out)⟩
      · rw [if_neg c7] at H
        exact absurd H (by simp)
    · rw [if_neg c6] at H
      exact absurd H (by simp)
def order_Level.j0 : Nat → List (S50) → List (List Int) → Int → Bool → Option (Int)
  | 0, _, _, _, _ => none
  | k + 1, x0, x1, x2, x15 => if x15 = true then (some 0) else ((order_By.f x0 x1 x2 (⟨#[109, 46, 114, 111, 111, 109, 46, 112, 111, 119, 101, 114, 95, 108, 101, 118, 101, 108, 115]⟩ : ByteArray)).bind fun t246 => ((order_at.f x0 t246).bind fun bt247 => ((order_By.f x0 x1 x2 (⟨#[109, 46, 114, 111, 111, 109, 46, 99, 114, 101, 97, 116, 101]⟩ : ByteArray)).bind fun t270 => ((order_at.f x0 t270).bind fun bt271 => (if 0 ≤ x2 then (if x2 < (x0.length : Int) then ((power_Level.f k bt247.2.2.2.2.2.2.2.2.2.2.1 bt247.2.2.2.2.2.2.2.2.2.2.2.1 bt247.2.2.2.2.2.2.2.2.2.2.2.2.1 bt247.2.2.2.2.2.2.2.2.2.2.2.2.2.1 bt247.2.2.2.2.2.2.2.2.2.2.2.2.2.2 (decide (t246 ≥ 0)) bt271.2.2.2.2.1 ((rd_T50 x0 x2).f4)).bind fun t295 => (some t295)) else (none)) else (none))))))
def order_Level.f (k : Nat) (l0 : List (S50)) (l1 : List (List Int)) (a2 : Int) : Option (Int) := if a2 < 0 then (order_Level.j0 k l0 l1 a2 true) else (order_Level.j0 k l0 l1 a2 (decide (a2 ≥ (l0.length : Int))))
def order_Level.T4 : Bool × List (List Nat × List Nat) := (true, [([], []), ([], []), ([0, 1], [0, 1]), ([2], [2]), ([], []), ([4], [4]), ([], []), ([], []), ([], []), ([], []), ([7, 8, 9, 2], [7, 8, 9]), ([6, 10, 10], [6, 10]), ([11], [11]), ([], []), ([], []), ([13, 14], [13, 14]), ([15], [15]), ([16], [16]), ([3, 5, 12, 17, 11], [3, 5, 12, 17]), ([18, 18, 0, 1, 2, 3, 4, 5, 6, 7, 8, 9, 10, 11, 12, 13, 14, 15, 16, 17, 18], [18])])
def order_Level.B4 : List Nat := [0, 0, 3, 7, 0, 16, 0, 0, 0, 0, 903, 1991, 4039, 0, 0, 24576, 57344, 122880, 262143, 524287]
theorem order_Level.tab4 : rtab .any (opsOf Tryz.f13 4) = order_Level.T4 := by kernel_rfl
theorem order_Level.bits4 : waitsOk order_Level.T4.2 order_Level.B4 = true := by kernel_rfl
set_option maxHeartbeats 8000000 in
set_option maxRecDepth 100000 in
theorem order_Level.calls (k : Nat) (A0 : Option Addr) (c0 : Nat) (l0 : List (S50)) (A1 : Option Addr) (c1 : Nat) (l1 : List (List Int)) (a2 : Int) (r : Int) (w : World) (hr0 : Kd.C k50 w A0 l0.length l0) (hc0 : l0.length ≤ c0) (hr1 : Kd.C (Kd.slice 3 (Kd.int .i64)) w A1 l1.length l1) (hc1 : l1.length ≤ c1) (h : order_Level.f k l0 l1 a2 = some r) :
    Calls Tryz.prog 13 #[.slice A0 l0.length c0, .slice A1 l1.length c1, .int .i64 a2] w fun e w' => e = .returned (.int .i64 r) ∧ Below w.heap.size w w' := by
  have hu50 := Tryz.underlying50
  have hu48 := Tryz.underlying48
  have hf10 : ∀ (a0 a1 a2 a3 a4 a5 a6 a7 a8 a9 a10 a11 a12 a13 a14 : Value) (w : World), (Instr.field 50 (.agg #[a0, a1, a2, a3, a4, a5, a6, a7, a8, a9, a10, a11, a12, a13, a14]) 10).run Tryz.prog w = .ok (.agg #[a10, a11, a12, a13, a14]) w := fun a0 a1 a2 a3 a4 a5 a6 a7 a8 a9 a10 a11 a12 a13 a14 w => by kernel_rfl
  have hf4 : ∀ (a0 a1 a2 a3 a5 a6 a7 a8 a9 a10 a11 a12 a13 a14 : Value) (a4 : ByteArray) (w : World), (Instr.field 50 (.agg #[a0, a1, a2, a3, .string a4, a5, a6, a7, a8, a9, a10, a11, a12, a13, a14]) 4).run Tryz.prog w = .ok (.string a4) w := fun a0 a1 a2 a3 a5 a6 a7 a8 a9 a10 a11 a12 a13 a14 a4 w => by kernel_rfl
  have HR0 := Aside0.mk hr0
  have HC0 := Aside0.mk hc0
  clear hr0 hc0
  have HR1 := Aside0.mk hr1
  have HC1 := Aside0.mk hc1
  clear hr1 hc1
  have HB := Aside0.mk (Below.refl w.heap.size w)
  have H : (if a2 < 0 then (order_Level.j0 k l0 l1 a2 true) else (order_Level.j0 k l0 l1 a2 (decide (a2 ≥ (l0.length : Int))))) = some r := h
  clear h
  have HC4 := Aside0.mk H
  clear H
  go_enter Tryz.func13, Tryz.ntmps13
  go_upto_region 1 with (fail)
  go_cut [15] (fun v15 wc => ∃ (kq : Nat) (x15_3 : Bool), v15 = .bool x15_3 ∧ Aside0 (order_Level.j0 kq l0 l1 a2 x15_3 = some r) ∧ Aside0 (kq ≤ k) ∧ Aside0 (Below w.heap.size w wc))
  case first =>
    have H := HC4.out
    clear HC4
    by_cases c5 : a2 < 0
    · rw [if_pos c5] at H
      have c5b0 : decide (a2 < 0) = true := decide_eq_true c5
      clear c5
      (first | rw [c5b0] | (simp only [i64_w, i32_w]; rw [c5b0]) | skip)
      have H' := Aside0.mk H
      clear H
      go_wp2
      go_meet
      case rel => exact ⟨_, (true), (by first | rfl | (simp; done) | (simp [*]; done)), H', ⟨by first | omega | exact Nat.le_refl _⟩, ⟨by repeat (first | (with_reducible first | exact HB.out | apply below_alloc | apply pw_below_drewN | apply below_drew1) | exact HB.out)⟩⟩
    · rw [if_neg c5] at H
      have c5b0 : decide (a2 < 0) = false := decide_eq_false c5
      clear c5
      (first | rw [c5b0] | (simp only [i64_w, i32_w]; rw [c5b0]) | skip)
      have H' := Aside0.mk H
      clear H
      go_wp2
      go_meet
      case rel => exact ⟨_, (decide (a2 ≥ (l0.length : Int))), (by first | rfl | (simp; done) | (simp [*]; done)), H', ⟨by first | omega | exact Nat.le_refl _⟩, ⟨by repeat (first | (with_reducible first | exact HB.out | apply below_alloc | apply pw_below_drewN | apply below_drew1) | exact HB.out)⟩⟩
  case rest =>
    clear HC4
    try clear c1
    try clear p2
    try clear c5
    try clear c5b0
    obtain ⟨kq, x15_3, rfl, HA, HJ3, HB⟩ := hcut
    cases kq with
    | zero => exact absurd HA.out (by simp [order_Level.j0])
    | succ kj3 =>
      have H := HA.out
      clear HA
      simp only [order_Level.j0] at H
      by_cases c6 : x15_3 = true
      · subst c6
        have H1 : (some 0) = some r := by rw [if_pos rfl] at H; exact H
        clear H
        have H := H1
        clear H1
        obtain rfl := Option.some.inj H
        go_wp2
        go_ret
        exact ⟨by first | rfl | (simp [errW_none, errW_some] <;> rfl) | (simp [*, errW_none, errW_some] <;> rfl), by repeat (first | (with_reducible first | exact HB.out | apply below_alloc | apply pw_below_drewN | apply below_drew1) | exact HB.out)⟩
      · replace c6 := Bool.eq_false_iff.mpr c6
        subst c6
        have H1 : ((order_By.f l0 l1 a2 (⟨#[109, 46, 114, 111, 111, 109, 46, 112, 111, 119, 101, 114, 95, 108, 101, 118, 101, 108, 115]⟩ : ByteArray)).bind fun t246 => ((order_at.f l0 t246).bind fun bt247 => ((order_By.f l0 l1 a2 (⟨#[109, 46, 114, 111, 111, 109, 46, 99, 114, 101, 97, 116, 101]⟩ : ByteArray)).bind fun t270 => ((order_at.f l0 t270).bind fun bt271 => (if 0 ≤ a2 then (if a2 < (l0.length : Int) then ((power_Level.f kj3 bt247.2.2.2.2.2.2.2.2.2.2.1 bt247.2.2.2.2.2.2.2.2.2.2.2.1 bt247.2.2.2.2.2.2.2.2.2.2.2.2.1 bt247.2.2.2.2.2.2.2.2.2.2.2.2.2.1 bt247.2.2.2.2.2.2.2.2.2.2.2.2.2.2 (decide (t246 ≥ 0)) bt271.2.2.2.2.1 ((rd_T50 l0 a2).f4)).bind fun t295 => (some t295)) else (none)) else (none)))))) = some r := by rw [if_neg (show ¬ (false = true) by decide)] at H; exact H
        clear H
        have H := H1
        clear H1
        replace H := Option.bind_eq_some_iff.mp H
        obtain ⟨t246, A70, H⟩ := H
        replace H : ((order_at.f l0 t246).bind fun bt247 => ((order_By.f l0 l1 a2 (⟨#[109, 46, 114, 111, 111, 109, 46, 99, 114, 101, 97, 116, 101]⟩ : ByteArray)).bind fun t270 => ((order_at.f l0 t270).bind fun bt271 => (if 0 ≤ a2 then (if a2 < (l0.length : Int) then ((power_Level.f kj3 bt247.2.2.2.2.2.2.2.2.2.2.1 bt247.2.2.2.2.2.2.2.2.2.2.2.1 bt247.2.2.2.2.2.2.2.2.2.2.2.2.1 bt247.2.2.2.2.2.2.2.2.2.2.2.2.2.1 bt247.2.2.2.2.2.2.2.2.2.2.2.2.2.2 (decide (t246 ≥ 0)) bt271.2.2.2.2.1 ((rd_T50 l0 a2).f4)).bind fun t295 => (some t295)) else (none)) else (none))))) = some r := H
        have A7 := Aside0.mk A70
        clear A70
        replace H := Option.bind_eq_some_iff.mp H
        obtain ⟨⟨t247, t248, t249, t250, t251, t252, t253, t256, t259, t260, t261, t262, t263, t264, t267⟩, A80, H⟩ := H
        replace H : ((order_By.f l0 l1 a2 (⟨#[109, 46, 114, 111, 111, 109, 46, 99, 114, 101, 97, 116, 101]⟩ : ByteArray)).bind fun t270 => ((order_at.f l0 t270).bind fun bt271 => (if 0 ≤ a2 then (if a2 < (l0.length : Int) then ((power_Level.f kj3 t261 t262 t263 t264 t267 (decide (t246 ≥ 0)) bt271.2.2.2.2.1 ((rd_T50 l0 a2).f4)).bind fun t295 => (some t295)) else (none)) else (none)))) = some r := H
        have A8 := Aside0.mk A80
        clear A80
        replace H := Option.bind_eq_some_iff.mp H
        obtain ⟨t270, A90, H⟩ := H
        replace H : ((order_at.f l0 t270).bind fun bt271 => (if 0 ≤ a2 then (if a2 < (l0.length : Int) then ((power_Level.f kj3 t261 t262 t263 t264 t267 (decide (t246 ≥ 0)) bt271.2.2.2.2.1 ((rd_T50 l0 a2).f4)).bind fun t295 => (some t295)) else (none)) else (none))) = some r := H
        have A9 := Aside0.mk A90
        clear A90
        replace H := Option.bind_eq_some_iff.mp H
        obtain ⟨⟨t271, t272, t273, t274, t275, t276, t277, t280, t283, t284, t285, t286, t287, t288, t291⟩, A100, H⟩ := H
        replace H : (if 0 ≤ a2 then (if a2 < (l0.length : Int) then ((power_Level.f kj3 t261 t262 t263 t264 t267 (decide (t246 ≥ 0)) t275 ((rd_T50 l0 a2).f4)).bind fun t295 => (some t295)) else (none)) else (none)) = some r := H
        have A10 := Aside0.mk A100
        clear A100
        by_cases c11 : 0 ≤ a2
        · rw [if_pos c11] at H
          have c11b0 : decide (0 ≤ a2) = true := decide_eq_true c11
          clear c11
          by_cases c12 : a2 < (l0.length : Int)
          · rw [if_pos c12] at H
            have c12b0 : decide (a2 < (l0.length : Int)) = true := decide_eq_true c12
            clear c12
            replace H := Option.bind_eq_some_iff.mp H
            obtain ⟨t295, A130, H⟩ := H
            replace H : (some t295) = some r := H
            have A13 := Aside0.mk A130
            clear A130
            obtain rfl := Option.some.inj H
            try go_wp2_with (first | ((with_reducible refine gate_callee (f := 36) rfl ?_); refine goesL_ (some 19) rfl rfl Tryz.func36 (by kernel_rfl) rfl #[.slice A0 l0.length c0, .slice A1 l1.length c1, .int .i64 a2, .string (⟨#[109, 46, 114, 111, 111, 109, 46, 112, 111, 119, 101, 114, 95, 108, 101, 118, 101, 108, 115]⟩ : ByteArray)] rfl (by (try simp only [List.map_toArray, List.map_cons, List.map_nil]); first | done | rfl | (simp only [List.length_drop, List.length_take]; rfl)) ?_; (with_reducible refine (order_By.calls _ _ l0 _ _ l1 a2 (⟨#[109, 46, 114, 111, 111, 109, 46, 112, 111, 119, 101, 114, 95, 108, 101, 118, 101, 108, 115]⟩ : ByteArray) t246 _ ?side1 ?side2 ?side3 ?side4 A7.out).mono ?_); (case side1 => repeat (first | exact (Kd.C_below HR0.out HB.out) | (with_reducible refine Kd.C_alloc ?_ _) | (with_reducible refine Kd.C_drewN ?_ _) | (with_reducible refine Kd.C_drew ?_))); (case side2 => exact HC0.out); (case side3 => repeat (first | exact (Kd.C_below HR1.out HB.out) | (with_reducible refine Kd.C_alloc ?_ _) | (with_reducible refine Kd.C_drewN ?_ _) | (with_reducible refine Kd.C_drew ?_))); (case side4 => exact HC1.out); rintro e w14 ⟨rfl, hb⟩; refine ⟨_, rfl, ?_⟩; have n0_ := Aside0.mk (below_step (by repeat (first | (with_reducible first | exact HB.out | apply below_alloc | apply pw_below_drewN | apply below_drew1) | exact HB.out)) hb); clear HB; have HB := n0_; clear n0_; (try clear hb); (try clear hb2); (try clear hk); (try clear hi)))
            have n0_ := Aside0.mk (below_drew1 HB.out)
            clear HB
            have HB := n0_
            clear n0_
            have p294 : 0 ≤ (a2 : Int) := of_decide_eq_true (by first | (with_reducible assumption) | assumption)
            have q294 : a2 < (l0.length : Int) := of_decide_eq_true (by first | (with_reducible assumption) | assumption)
            obtain ⟨ad294, A294_6, c294_6, A294_7, c294_7, A294_13, c294_13, A294_14, c294_14, e294, hx294_0, hx294_1, hx294_2, hx294_3, hx294_4, hx294_5, hx294_6, hx294_7, hx294_8, hx294_9, hx294_10, hx294_11, hx294_12, hx294_13, hx294_14, hl294_6, hi294_6, hl294_7, hi294_7, hl294_13, hi294_13, hl294_14, hi294_14⟩ := at_T50 HR0.out a2 p294 q294
            have hw294_14 := hx294_14
            have hw294_13 := hx294_13
            have hw294_12 := hx294_12
            have hw294_11 := hx294_11
            have hw294_10 := hx294_10
            have hw294_9 := hx294_9
            have hw294_8 := hx294_8
            have hw294_7 := hx294_7
            have hw294_6 := hx294_6
            have hw294_5 := hx294_5
            have hw294_4 := hx294_4
            have hw294_3 := hx294_3
            have hw294_2 := hx294_2
            have hw294_1 := hx294_1
            have hw294_0 := hx294_0
            cases e294
            replace hx294_0 := (HB.out.cell (World.block_lt_of_cell? w _ hx294_0)).trans hx294_0
            replace hx294_1 := (HB.out.cell (World.block_lt_of_cell? w _ hx294_1)).trans hx294_1
            replace hx294_2 := (HB.out.cell (World.block_lt_of_cell? w _ hx294_2)).trans hx294_2
            replace hx294_3 := (HB.out.cell (World.block_lt_of_cell? w _ hx294_3)).trans hx294_3
            replace hx294_4 := (HB.out.cell (World.block_lt_of_cell? w _ hx294_4)).trans hx294_4
            replace hx294_5 := (HB.out.cell (World.block_lt_of_cell? w _ hx294_5)).trans hx294_5
            replace hx294_6 := (HB.out.cell (World.block_lt_of_cell? w _ hx294_6)).trans hx294_6
            replace hx294_7 := (HB.out.cell (World.block_lt_of_cell? w _ hx294_7)).trans hx294_7
            replace hx294_8 := (HB.out.cell (World.block_lt_of_cell? w _ hx294_8)).trans hx294_8
            replace hx294_9 := (HB.out.cell (World.block_lt_of_cell? w _ hx294_9)).trans hx294_9
            replace hx294_10 := (HB.out.cell (World.block_lt_of_cell? w _ hx294_10)).trans hx294_10
            replace hx294_11 := (HB.out.cell (World.block_lt_of_cell? w _ hx294_11)).trans hx294_11
            replace hx294_12 := (HB.out.cell (World.block_lt_of_cell? w _ hx294_12)).trans hx294_12
            replace hx294_13 := (HB.out.cell (World.block_lt_of_cell? w _ hx294_13)).trans hx294_13
            replace hx294_14 := (HB.out.cell (World.block_lt_of_cell? w _ hx294_14)).trans hx294_14
            have HR294_6 := Aside0.mk hi294_6
            have HC294_6 := Aside0.mk hl294_6
            clear hi294_6 hl294_6
            have HR294_7 := Aside0.mk hi294_7
            have HC294_7 := Aside0.mk hl294_7
            clear hi294_7 hl294_7
            have HR294_13 := Aside0.mk hi294_13
            have HC294_13 := Aside0.mk hl294_13
            clear hi294_13 hl294_13
            have HR294_14 := Aside0.mk hi294_14
            have HC294_14 := Aside0.mk hl294_14
            clear hi294_14 hl294_14
            replace p294 := eq_true p294
            replace q294 := eq_true q294
            refine start_ (n := 20) (S := fun w' => w'.cell? (ad294.add ((a2).toNat * 15)) = some (.string ((rd_T50 l0 a2).f0)) ∧ w'.cell? ⟨(ad294.add ((a2).toNat * 15)).block, (ad294.add ((a2).toNat * 15)).off + 1, none⟩ = some (.string ((rd_T50 l0 a2).f1)) ∧ w'.cell? ⟨(ad294.add ((a2).toNat * 15)).block, (ad294.add ((a2).toNat * 15)).off + 2, none⟩ = some (.string ((rd_T50 l0 a2).f2)) ∧ w'.cell? ⟨(ad294.add ((a2).toNat * 15)).block, (ad294.add ((a2).toNat * 15)).off + 3, none⟩ = some (.bool ((rd_T50 l0 a2).f3)) ∧ w'.cell? ⟨(ad294.add ((a2).toNat * 15)).block, (ad294.add ((a2).toNat * 15)).off + 4, none⟩ = some (.string ((rd_T50 l0 a2).f4)) ∧ w'.cell? ⟨(ad294.add ((a2).toNat * 15)).block, (ad294.add ((a2).toNat * 15)).off + 5, none⟩ = some (.string ((rd_T50 l0 a2).f5)) ∧ w'.cell? ⟨(ad294.add ((a2).toNat * 15)).block, (ad294.add ((a2).toNat * 15)).off + 6, none⟩ = some (.slice A294_6 ((rd_T50 l0 a2).f6).length c294_6) ∧ w'.cell? ⟨(ad294.add ((a2).toNat * 15)).block, (ad294.add ((a2).toNat * 15)).off + 7, none⟩ = some (.slice A294_7 ((rd_T50 l0 a2).f7).length c294_7) ∧ w'.cell? ⟨(ad294.add ((a2).toNat * 15)).block, (ad294.add ((a2).toNat * 15)).off + 8, none⟩ = some (.int .i64 ((rd_T50 l0 a2).f8)) ∧ w'.cell? ⟨(ad294.add ((a2).toNat * 15)).block, (ad294.add ((a2).toNat * 15)).off + 9, none⟩ = some (.int .i64 ((rd_T50 l0 a2).f9)) ∧ w'.cell? ⟨(ad294.add ((a2).toNat * 15)).block, (ad294.add ((a2).toNat * 15)).off + 10, none⟩ = some (.int .i64 ((rd_T50 l0 a2).f10.f0)) ∧ w'.cell? ⟨(ad294.add ((a2).toNat * 15)).block, (ad294.add ((a2).toNat * 15)).off + 11, none⟩ = some (.int .i64 ((rd_T50 l0 a2).f10.f1)) ∧ w'.cell? ⟨(ad294.add ((a2).toNat * 15)).block, (ad294.add ((a2).toNat * 15)).off + 12, none⟩ = some (.string ((rd_T50 l0 a2).f10.f2)) ∧ w'.cell? ⟨(ad294.add ((a2).toNat * 15)).block, (ad294.add ((a2).toNat * 15)).off + 13, none⟩ = some (.slice A294_13 ((rd_T50 l0 a2).f10.f3).length c294_13) ∧ w'.cell? ⟨(ad294.add ((a2).toNat * 15)).block, (ad294.add ((a2).toNat * 15)).off + 14, none⟩ = some (.slice A294_14 ((rd_T50 l0 a2).f10.f4).length c294_14)) (ds := []) #[false, false, false, false, false, false, false, false, false, false, false, false, false, false, false, false, false, false, false, false] (by kernel_rfl) rfl rfl ⟨((HB.out.cell (World.block_lt_of_cell? w _ hw294_0)).trans hw294_0), ((HB.out.cell (World.block_lt_of_cell? w _ hw294_1)).trans hw294_1), ((HB.out.cell (World.block_lt_of_cell? w _ hw294_2)).trans hw294_2), ((HB.out.cell (World.block_lt_of_cell? w _ hw294_3)).trans hw294_3), ((HB.out.cell (World.block_lt_of_cell? w _ hw294_4)).trans hw294_4), ((HB.out.cell (World.block_lt_of_cell? w _ hw294_5)).trans hw294_5), ((HB.out.cell (World.block_lt_of_cell? w _ hw294_6)).trans hw294_6), ((HB.out.cell (World.block_lt_of_cell? w _ hw294_7)).trans hw294_7), ((HB.out.cell (World.block_lt_of_cell? w _ hw294_8)).trans hw294_8), ((HB.out.cell (World.block_lt_of_cell? w _ hw294_9)).trans hw294_9), ((HB.out.cell (World.block_lt_of_cell? w _ hw294_10)).trans hw294_10), ((HB.out.cell (World.block_lt_of_cell? w _ hw294_11)).trans hw294_11), ((HB.out.cell (World.block_lt_of_cell? w _ hw294_12)).trans hw294_12), ((HB.out.cell (World.block_lt_of_cell? w _ hw294_13)).trans hw294_13), ((HB.out.cell (World.block_lt_of_cell? w _ hw294_14)).trans hw294_14)⟩ (fun hHeld => ?_); refine with_tabW order_Level.tab4 order_Level.bits4 (fun HT_ HW_ => ?_)
            generalize w14.drew = w15 at HB HR294_13 HR294_14 HR294_6 HR294_7 hx294_0 hx294_1 hx294_10 hx294_11 hx294_12 hx294_13 hx294_14 hx294_2 hx294_3 hx294_4 hx294_5 hx294_6 hx294_7 hx294_8 hx294_9 hHeld ⊢
            refine pure_ (i := 0) (N := some 20) (v := ?_) (a' := ?_) #[true, false, false, false, false, false, false, false, false, false, false, false, false, false, false, false, false, false, false, false] rfl rfl (any_of HT_.out (by kernel_rfl)) (fun _ _ _ h => h) (Or.inl ⟨by rfl, ?_⟩) ?_ ?_
            rotate_left
            · intro w'
              go_simp
              with_reducible rfl
            rotate_left
            · simp only [Act.put, List.setIfInBounds_toArray, List.set_cons_zero, List.set_cons_succ, i64_w, i32_w]
              rfl
            refine pure_ (i := 1) (N := some 21) (v := ?_) (a' := ?_) #[true, true, false, false, false, false, false, false, false, false, false, false, false, false, false, false, false, false, false, false] rfl rfl (any_of HT_.out (by kernel_rfl)) (fun _ _ _ h => h) (Or.inl ⟨by rfl, ?_⟩) ?_ ?_
            rotate_left
            · intro w'
              go_simp
              with_reducible rfl
            rotate_left
            · simp only [Act.put, List.setIfInBounds_toArray, List.set_cons_zero, List.set_cons_succ, i64_w, i32_w]
              rfl
            refine pure_ (i := 4) (N := some 24) (v := ?_) (a' := ?_) #[true, true, false, false, true, false, false, false, false, false, false, false, false, false, false, false, false, false, false, false] rfl rfl (any_of HT_.out (by kernel_rfl)) (fun _ _ _ h => h) (Or.inl ⟨by rfl, ?_⟩) ?_ ?_
            rotate_left
            · intro w'
              go_simp
              with_reducible rfl
            rotate_left
            · simp only [Act.put, List.setIfInBounds_toArray, List.set_cons_zero, List.set_cons_succ, i64_w, i32_w]
              rfl
            refine pure_ (i := 5) (N := some 25) (v := ?_) (a' := ?_) #[true, true, false, false, true, true, false, false, false, false, false, false, false, false, false, false, false, false, false, false] rfl rfl (any_of HT_.out (by kernel_rfl)) (fun _ _ _ h => h) (Or.inl ⟨by rfl, ?_⟩) ?_ ?_
            rotate_left
            · intro w'
              go_simp
              with_reducible rfl
            rotate_left
            · simp only [Act.put, List.setIfInBounds_toArray, List.set_cons_zero, List.set_cons_succ, i64_w, i32_w]
              rfl
            refine pure_ (i := 6) (N := some 26) (v := ?_) (a' := ?_) #[true, true, false, false, true, true, true, false, false, false, false, false, false, false, false, false, false, false, false, false] rfl rfl (any_of HT_.out (by kernel_rfl)) (fun _ _ _ h => h) (Or.inl ⟨by rfl, ?_⟩) ?_ ?_
            rotate_left
            · intro w'
              go_simp
              with_reducible rfl
            rotate_left
            · simp only [Act.put, List.setIfInBounds_toArray, List.set_cons_zero, List.set_cons_succ, i64_w, i32_w]
              rfl
            refine pure_ (i := 7) (N := some 27) (v := ?_) (a' := ?_) #[true, true, false, false, true, true, true, true, false, false, false, false, false, false, false, false, false, false, false, false] rfl rfl (any_of HT_.out (by kernel_rfl)) (fun _ _ _ h => h) (Or.inl ⟨by rfl, ?_⟩) ?_ ?_
            rotate_left
            · intro w'
              go_simp
              with_reducible rfl
            rotate_left
            · simp only [Act.put, List.setIfInBounds_toArray, List.set_cons_zero, List.set_cons_succ, i64_w, i32_w]
              rfl
            refine pure_ (i := 8) (N := some 28) (v := ?_) (a' := ?_) #[true, true, false, false, true, true, true, true, true, false, false, false, false, false, false, false, false, false, false, false] rfl rfl (any_of HT_.out (by kernel_rfl)) (fun _ _ _ h => h) (Or.inl ⟨by rfl, ?_⟩) ?_ ?_
            rotate_left
            · intro w'
              go_simp
              with_reducible rfl
            rotate_left
            · simp only [Act.put, List.setIfInBounds_toArray, List.set_cons_zero, List.set_cons_succ, i64_w, i32_w]
              rfl
            refine pure_ (i := 9) (N := some 29) (v := ?_) (a' := ?_) #[true, true, false, false, true, true, true, true, true, true, false, false, false, false, false, false, false, false, false, false] rfl rfl (any_of HT_.out (by kernel_rfl)) (fun _ _ _ h => h) (Or.inl ⟨by rfl, ?_⟩) ?_ ?_
            rotate_left
            · intro w'
              go_simp
              with_reducible rfl
            rotate_left
            · simp only [Act.put, List.setIfInBounds_toArray, List.set_cons_zero, List.set_cons_succ, i64_w, i32_w]
              rfl
            refine pure_ (i := 13) (N := some 33) (v := ?_) (a' := ?_) #[true, true, false, false, true, true, true, true, true, true, false, false, false, true, false, false, false, false, false, false] rfl rfl (any_of HT_.out (by kernel_rfl)) (fun _ _ _ h => h) (Or.inl ⟨by rfl, ?_⟩) ?_ ?_
            rotate_left
            · intro w'
              go_simp
              with_reducible rfl
            rotate_left
            · simp only [Act.put, List.setIfInBounds_toArray, List.set_cons_zero, List.set_cons_succ, i64_w, i32_w]
              rfl
            refine pure_ (i := 14) (N := some 34) (v := ?_) (a' := ?_) #[true, true, false, false, true, true, true, true, true, true, false, false, false, true, true, false, false, false, false, false] rfl rfl (any_of HT_.out (by kernel_rfl)) (fun _ _ _ h => h) (Or.inl ⟨by rfl, ?_⟩) ?_ ?_
            rotate_left
            · intro w'
              go_simp
              with_reducible rfl
            rotate_left
            · simp only [Act.put, List.setIfInBounds_toArray, List.set_cons_zero, List.set_cons_succ, i64_w, i32_w]
              rfl
            refine pure_ (i := 15) (N := some 35) (v := ?_) (a' := ?_) #[true, true, false, false, true, true, true, true, true, true, false, false, false, true, true, true, false, false, false, false] rfl rfl (any_of HT_.out (by kernel_rfl)) (fun _ _ _ h => h) (Or.inl ⟨by rfl, ?_⟩) ?_ ?_
            rotate_left
            · intro w'
              go_simp
              with_reducible rfl
            rotate_left
            · simp only [Act.put, List.setIfInBounds_toArray, List.set_cons_zero, List.set_cons_succ, i64_w, i32_w]
              rfl
            refine pure_ (i := 16) (N := some 36) (v := ?_) (a' := ?_) #[true, true, false, false, true, true, true, true, true, true, false, false, false, true, true, true, true, false, false, false] rfl rfl (any_of HT_.out (by kernel_rfl)) (fun _ _ _ h => h) (Or.inl ⟨by rfl, ?_⟩) ?_ ?_
            rotate_left
            · intro w'
              go_simp
              with_reducible rfl
            rotate_left
            · simp only [Act.put, List.setIfInBounds_toArray, List.set_cons_zero, List.set_cons_succ, i64_w, i32_w]
              rfl
            refine take_ (i := 17) (N := some 37) (v := ?_) (a' := ?_) #[true, true, false, false, true, true, true, true, true, true, false, false, false, true, true, true, true, true, false, false] rfl rfl (take_ofW HT_.out HW_.out (by kernel_rfl)) (fun _ _ _ h => h) (Or.inl ⟨by rfl, ?_⟩) hHeld ?_ ?_
            rotate_left
            · rintro w' ⟨s0, s1, s2, s3, s4, s5, s6, s7, s8, s9, s10, s11, s12, s13, s14⟩
              go_simp
              with_reducible rfl
            rotate_left
            · simp only [Act.put, List.setIfInBounds_toArray, List.set_cons_zero, List.set_cons_succ, i64_w, i32_w]
              rfl
            refine one_ (i := 2) (N := some 22) #[true, true, true, false, true, true, true, true, true, true, false, false, false, true, true, true, true, true, false, false] rfl rfl (one_of HT_.out (by kernel_rfl)) (by decide) (fun K hK => ?_)
            refine goes_ Tryz.func38 (by kernel_rfl) rfl #[.slice (some ad294) l0.length c0, .int .i64 t246] (by rfl) rfl rfl (by (try simp only [List.map_toArray, List.map_cons, List.map_nil]); first | done | rfl | (simp only [List.length_drop, List.length_take]; rfl)) ?_
            with_reducible refine (order_at.calls (fun k_ => k_ < w.heap.size) _ _ l0 t246 t247 t248 t249 t250 t251 t252 t253 t256 t259 t260 t261 t262 t263 t264 t267 _ ?side1 A8.out).mono ?_
            (case side1 => exact Kd.V_mk HC0.out (Kd.F_below (Kd.C_F k50_heap HR0.out) (by repeat (first | (with_reducible first | exact HB.out | apply below_alloc | apply pw_below_drewN | apply below_drew1) | exact HB.out))))
            rintro e w16 ⟨v254, v257, v265, v268, rfl, ho0, ho1, ho2, ho3, hb⟩
            refine ⟨_, rfl, ?_⟩
            have n0_ := Aside0.mk (Kd.V_lower (Kd.V_mono (ok' := fun k_ => True) ho0 (fun k_ hk_ => trivial)) (below_size (by repeat (first | (with_reducible first | exact HB.out | apply below_alloc | apply pw_below_drewN | apply below_drew1) | exact HB.out))))
            have n1_ := Aside0.mk (Kd.V_lower (Kd.V_mono (ok' := fun k_ => True) ho1 (fun k_ hk_ => trivial)) (below_size (by repeat (first | (with_reducible first | exact HB.out | apply below_alloc | apply pw_below_drewN | apply below_drew1) | exact HB.out))))
            have n2_ := Aside0.mk (Kd.V_lower (Kd.V_mono (ok' := fun k_ => True) ho2 (fun k_ hk_ => trivial)) (below_size (by repeat (first | (with_reducible first | exact HB.out | apply below_alloc | apply pw_below_drewN | apply below_drew1) | exact HB.out))))
            have n3_ := Aside0.mk (Kd.V_lower (Kd.V_mono (ok' := fun k_ => True) ho3 (fun k_ hk_ => trivial)) (below_size (by repeat (first | (with_reducible first | exact HB.out | apply below_alloc | apply pw_below_drewN | apply below_drew1) | exact HB.out))))
            have n4_ := Aside0.mk (below_step (by repeat (first | (with_reducible first | exact HB.out | apply below_alloc | apply pw_below_drewN | apply below_drew1) | exact HB.out)) hb)
            clear HB
            have HO255 := n0_
            have HO258 := n1_
            have HO266 := n2_
            have HO269 := n3_
            have HB := n4_
            clear n0_ n1_ n2_ n3_ n4_
            (try clear hb)
            (try clear hb2)
            (try clear hk)
            (try clear hi)
            (try clear ho0)
            (try clear ho1)
            (try clear ho2)
            (try clear ho3)
            refine hK.out _ _ ⟨((HB.out.cell (World.block_lt_of_cell? w _ hw294_0)).trans hw294_0), ((HB.out.cell (World.block_lt_of_cell? w _ hw294_1)).trans hw294_1), ((HB.out.cell (World.block_lt_of_cell? w _ hw294_2)).trans hw294_2), ((HB.out.cell (World.block_lt_of_cell? w _ hw294_3)).trans hw294_3), ((HB.out.cell (World.block_lt_of_cell? w _ hw294_4)).trans hw294_4), ((HB.out.cell (World.block_lt_of_cell? w _ hw294_5)).trans hw294_5), ((HB.out.cell (World.block_lt_of_cell? w _ hw294_6)).trans hw294_6), ((HB.out.cell (World.block_lt_of_cell? w _ hw294_7)).trans hw294_7), ((HB.out.cell (World.block_lt_of_cell? w _ hw294_8)).trans hw294_8), ((HB.out.cell (World.block_lt_of_cell? w _ hw294_9)).trans hw294_9), ((HB.out.cell (World.block_lt_of_cell? w _ hw294_10)).trans hw294_10), ((HB.out.cell (World.block_lt_of_cell? w _ hw294_11)).trans hw294_11), ((HB.out.cell (World.block_lt_of_cell? w _ hw294_12)).trans hw294_12), ((HB.out.cell (World.block_lt_of_cell? w _ hw294_13)).trans hw294_13), ((HB.out.cell (World.block_lt_of_cell? w _ hw294_14)).trans hw294_14)⟩ (fun hHeld => ?_)
            clear hK K
            refine norm_ (a' := ?_) ?_ ?_
            rotate_left
            · show Act.put _ (some 22) _ = _
              simp only [Act.put, List.setIfInBounds_toArray, List.set_cons_zero, List.set_cons_succ, i64_w, i32_w]
              rfl
            refine pure_ (i := 3) (N := some 23) (v := ?_) (a' := ?_) #[true, true, true, true, true, true, true, true, true, true, false, false, false, true, true, true, true, true, false, false] rfl rfl (any_of HT_.out (by kernel_rfl)) (fun _ _ _ h => h) (Or.inl ⟨by rfl, ?_⟩) ?_ ?_
            rotate_left
            · intro w'
              go_simp
              with_reducible rfl
            rotate_left
            · simp only [Act.put, List.setIfInBounds_toArray, List.set_cons_zero, List.set_cons_succ, i64_w, i32_w]
              rfl
            refine one_ (i := 10) (N := some 30) #[true, true, true, true, true, true, true, true, true, true, true, false, false, true, true, true, true, true, false, false] rfl rfl (one_of HT_.out (by kernel_rfl)) (by decide) (fun K hK => ?_)
            refine goes_ Tryz.func36 (by kernel_rfl) rfl #[.slice (some ad294) l0.length c0, .slice A1 l1.length c1, .int .i64 a2, .string (⟨#[109, 46, 114, 111, 111, 109, 46, 99, 114, 101, 97, 116, 101]⟩ : ByteArray)] (by rfl) rfl rfl (by (try simp only [List.map_toArray, List.map_cons, List.map_nil]); first | done | rfl | (simp only [List.length_drop, List.length_take]; rfl)) ?_
            with_reducible refine (order_By.calls _ _ l0 _ _ l1 a2 (⟨#[109, 46, 114, 111, 111, 109, 46, 99, 114, 101, 97, 116, 101]⟩ : ByteArray) t270 _ ?side1 ?side2 ?side3 ?side4 A9.out).mono ?_
            (case side1 => repeat (first | exact (Kd.C_below HR0.out HB.out) | (with_reducible refine Kd.C_alloc ?_ _) | (with_reducible refine Kd.C_drewN ?_ _) | (with_reducible refine Kd.C_drew ?_)))
            (case side2 => exact HC0.out)
            (case side3 => repeat (first | exact (Kd.C_below HR1.out HB.out) | (with_reducible refine Kd.C_alloc ?_ _) | (with_reducible refine Kd.C_drewN ?_ _) | (with_reducible refine Kd.C_drew ?_)))
            (case side4 => exact HC1.out)
            rintro e w17 ⟨rfl, hb⟩
            refine ⟨_, rfl, ?_⟩
            have n0_ := Aside0.mk (Kd.V_below (by (with_reducible repeat (first | apply Kd.V_alloc | apply Kd.V_drewN | apply Kd.V_drew)); exact HO255.out) hb)
            have n1_ := Aside0.mk (Kd.V_below (by (with_reducible repeat (first | apply Kd.V_alloc | apply Kd.V_drewN | apply Kd.V_drew)); exact HO258.out) hb)
            have n2_ := Aside0.mk (Kd.V_below (by (with_reducible repeat (first | apply Kd.V_alloc | apply Kd.V_drewN | apply Kd.V_drew)); exact HO266.out) hb)
            have n3_ := Aside0.mk (Kd.V_below (by (with_reducible repeat (first | apply Kd.V_alloc | apply Kd.V_drewN | apply Kd.V_drew)); exact HO269.out) hb)
            have n4_ := Aside0.mk (below_step (by repeat (first | (with_reducible first | exact HB.out | apply below_alloc | apply pw_below_drewN | apply below_drew1) | exact HB.out)) hb)
            clear HO255
            clear HO258
            clear HO266
            clear HO269
            clear HB
            have HO255 := n0_
            have HO258 := n1_
            have HO266 := n2_
            have HO269 := n3_
            have HB := n4_
            clear n0_ n1_ n2_ n3_ n4_
            (try clear hb)
            (try clear hb2)
            (try clear hk)
            (try clear hi)
            refine hK.out _ _ ⟨((HB.out.cell (World.block_lt_of_cell? w _ hw294_0)).trans hw294_0), ((HB.out.cell (World.block_lt_of_cell? w _ hw294_1)).trans hw294_1), ((HB.out.cell (World.block_lt_of_cell? w _ hw294_2)).trans hw294_2), ((HB.out.cell (World.block_lt_of_cell? w _ hw294_3)).trans hw294_3), ((HB.out.cell (World.block_lt_of_cell? w _ hw294_4)).trans hw294_4), ((HB.out.cell (World.block_lt_of_cell? w _ hw294_5)).trans hw294_5), ((HB.out.cell (World.block_lt_of_cell? w _ hw294_6)).trans hw294_6), ((HB.out.cell (World.block_lt_of_cell? w _ hw294_7)).trans hw294_7), ((HB.out.cell (World.block_lt_of_cell? w _ hw294_8)).trans hw294_8), ((HB.out.cell (World.block_lt_of_cell? w _ hw294_9)).trans hw294_9), ((HB.out.cell (World.block_lt_of_cell? w _ hw294_10)).trans hw294_10), ((HB.out.cell (World.block_lt_of_cell? w _ hw294_11)).trans hw294_11), ((HB.out.cell (World.block_lt_of_cell? w _ hw294_12)).trans hw294_12), ((HB.out.cell (World.block_lt_of_cell? w _ hw294_13)).trans hw294_13), ((HB.out.cell (World.block_lt_of_cell? w _ hw294_14)).trans hw294_14)⟩ (fun hHeld => ?_)
            clear hK K
            refine norm_ (a' := ?_) ?_ ?_
            rotate_left
            · show Act.put _ (some 30) _ = _
              simp only [Act.put, List.setIfInBounds_toArray, List.set_cons_zero, List.set_cons_succ, i64_w, i32_w]
              rfl
            refine one_ (i := 11) (N := some 31) #[true, true, true, true, true, true, true, true, true, true, true, true, false, true, true, true, true, true, false, false] rfl rfl (one_of HT_.out (by kernel_rfl)) (by decide) (fun K hK => ?_)
            refine goes_ Tryz.func38 (by kernel_rfl) rfl #[.slice (some ad294) l0.length c0, .int .i64 t270] (by rfl) rfl rfl (by (try simp only [List.map_toArray, List.map_cons, List.map_nil]); first | done | rfl | (simp only [List.length_drop, List.length_take]; rfl)) ?_
            with_reducible refine (order_at.calls (fun k_ => k_ < w.heap.size) _ _ l0 t270 t271 t272 t273 t274 t275 t276 t277 t280 t283 t284 t285 t286 t287 t288 t291 _ ?side1 A10.out).mono ?_
            (case side1 => exact Kd.V_mk HC0.out (Kd.F_below (Kd.C_F k50_heap HR0.out) (by repeat (first | (with_reducible first | exact HB.out | apply below_alloc | apply pw_below_drewN | apply below_drew1) | exact HB.out))))
            rintro e w18 ⟨v278, v281, v289, v292, rfl, ho0, ho1, ho2, ho3, hb⟩
            refine ⟨_, rfl, ?_⟩
            have n0_ := Aside0.mk (Kd.V_below (by (with_reducible repeat (first | apply Kd.V_alloc | apply Kd.V_drewN | apply Kd.V_drew)); exact HO255.out) hb)
            have n1_ := Aside0.mk (Kd.V_below (by (with_reducible repeat (first | apply Kd.V_alloc | apply Kd.V_drewN | apply Kd.V_drew)); exact HO258.out) hb)
            have n2_ := Aside0.mk (Kd.V_below (by (with_reducible repeat (first | apply Kd.V_alloc | apply Kd.V_drewN | apply Kd.V_drew)); exact HO266.out) hb)
            have n3_ := Aside0.mk (Kd.V_below (by (with_reducible repeat (first | apply Kd.V_alloc | apply Kd.V_drewN | apply Kd.V_drew)); exact HO269.out) hb)
            have n4_ := Aside0.mk (Kd.V_lower (Kd.V_mono (ok' := fun k_ => True) ho0 (fun k_ hk_ => trivial)) (below_size (by repeat (first | (with_reducible first | exact HB.out | apply below_alloc | apply pw_below_drewN | apply below_drew1) | exact HB.out))))
            have n5_ := Aside0.mk (Kd.V_lower (Kd.V_mono (ok' := fun k_ => True) ho1 (fun k_ hk_ => trivial)) (below_size (by repeat (first | (with_reducible first | exact HB.out | apply below_alloc | apply pw_below_drewN | apply below_drew1) | exact HB.out))))
            have n6_ := Aside0.mk (Kd.V_lower (Kd.V_mono (ok' := fun k_ => True) ho2 (fun k_ hk_ => trivial)) (below_size (by repeat (first | (with_reducible first | exact HB.out | apply below_alloc | apply pw_below_drewN | apply below_drew1) | exact HB.out))))
            have n7_ := Aside0.mk (Kd.V_lower (Kd.V_mono (ok' := fun k_ => True) ho3 (fun k_ hk_ => trivial)) (below_size (by repeat (first | (with_reducible first | exact HB.out | apply below_alloc | apply pw_below_drewN | apply below_drew1) | exact HB.out))))
            have n8_ := Aside0.mk (below_step (by repeat (first | (with_reducible first | exact HB.out | apply below_alloc | apply pw_below_drewN | apply below_drew1) | exact HB.out)) hb)
            clear HO255
            clear HO258
            clear HO266
            clear HO269
            clear HB
            have HO255 := n0_
            have HO258 := n1_
            have HO266 := n2_
            have HO269 := n3_
            have HO279 := n4_
            have HO282 := n5_
            have HO290 := n6_
            have HO293 := n7_
            have HB := n8_
            clear n0_ n1_ n2_ n3_ n4_ n5_ n6_ n7_ n8_
            (try clear hb)
            (try clear hb2)
            (try clear hk)
            (try clear hi)
            (try clear ho0)
            (try clear ho1)
            (try clear ho2)
            (try clear ho3)
            obtain ⟨Ao19, co19, eo19⟩ := Kd.V_slice HO266.out
            (first | subst eo19 | (injection eo19 with f1_ f2_ f3_; have f4_ := f1_.symm; have f5_ := f3_.symm; clear f1_ f2_ f3_; subst f4_; subst f5_))
            obtain ⟨Ao20, co20, eo20⟩ := Kd.V_slice HO269.out
            (first | subst eo20 | (injection eo20 with f1_ f2_ f3_; have f4_ := f1_.symm; have f5_ := f3_.symm; clear f1_ f2_ f3_; subst f4_; subst f5_))
            refine hK.out _ _ ⟨((HB.out.cell (World.block_lt_of_cell? w _ hw294_0)).trans hw294_0), ((HB.out.cell (World.block_lt_of_cell? w _ hw294_1)).trans hw294_1), ((HB.out.cell (World.block_lt_of_cell? w _ hw294_2)).trans hw294_2), ((HB.out.cell (World.block_lt_of_cell? w _ hw294_3)).trans hw294_3), ((HB.out.cell (World.block_lt_of_cell? w _ hw294_4)).trans hw294_4), ((HB.out.cell (World.block_lt_of_cell? w _ hw294_5)).trans hw294_5), ((HB.out.cell (World.block_lt_of_cell? w _ hw294_6)).trans hw294_6), ((HB.out.cell (World.block_lt_of_cell? w _ hw294_7)).trans hw294_7), ((HB.out.cell (World.block_lt_of_cell? w _ hw294_8)).trans hw294_8), ((HB.out.cell (World.block_lt_of_cell? w _ hw294_9)).trans hw294_9), ((HB.out.cell (World.block_lt_of_cell? w _ hw294_10)).trans hw294_10), ((HB.out.cell (World.block_lt_of_cell? w _ hw294_11)).trans hw294_11), ((HB.out.cell (World.block_lt_of_cell? w _ hw294_12)).trans hw294_12), ((HB.out.cell (World.block_lt_of_cell? w _ hw294_13)).trans hw294_13), ((HB.out.cell (World.block_lt_of_cell? w _ hw294_14)).trans hw294_14)⟩ (fun hHeld => ?_)
            clear hK K
            refine norm_ (a' := ?_) ?_ ?_
            rotate_left
            · show Act.put _ (some 31) _ = _
              simp only [Act.put, List.setIfInBounds_toArray, List.set_cons_zero, List.set_cons_succ, i64_w, i32_w]
              rfl
            refine pure_ (i := 12) (N := some 32) (v := ?_) (a' := ?_) #[true, true, true, true, true, true, true, true, true, true, true, true, true, true, true, true, true, true, false, false] rfl rfl (any_of HT_.out (by kernel_rfl)) (fun _ _ _ h => h) (Or.inl ⟨by rfl, ?_⟩) ?_ ?_
            rotate_left
            · intro w'
              go_simp
              with_reducible rfl
            rotate_left
            · simp only [Act.put, List.setIfInBounds_toArray, List.set_cons_zero, List.set_cons_succ, i64_w, i32_w]
              rfl
            refine one_ (i := 18) (N := some 38) #[true, true, true, true, true, true, true, true, true, true, true, true, true, true, true, true, true, true, true, false] rfl rfl (one_of HT_.out (by kernel_rfl)) (by decide) (fun K hK => ?_)
            refine goes_ Tryz.func37 (by kernel_rfl) rfl #[.agg #[.int .i64 t261, .int .i64 t262, .string t263, .slice Ao19 t264.length co19, .slice Ao20 t267.length co20], .bool (decide (t246 ≥ 0)), .string t275, .string ((rd_T50 l0 a2).f4)] (by rfl) rfl rfl (by (try simp only [List.map_toArray, List.map_cons, List.map_nil]); first | done | rfl | (simp only [List.length_drop, List.length_take]; rfl)) ?_
            with_reducible refine (power_Level.calls kj3 t261 t262 t263 _ _ t264 _ _ t267 (decide (t246 ≥ 0)) t275 ((rd_T50 l0 a2).f4) t295 _ ?side1 ?side2 ?side3 ?side4 A13.out).mono ?_
            (case side1 => repeat (first | exact (Kd.V_reads' HO266.out).2.2 | (with_reducible refine Kd.C_alloc ?_ _) | (with_reducible refine Kd.C_drewN ?_ _) | (with_reducible refine Kd.C_drew ?_)))
            (case side2 => exact (Kd.V_reads' HO266.out).2.1)
            (case side3 => repeat (first | exact (Kd.V_reads' HO269.out).2.2 | (with_reducible refine Kd.C_alloc ?_ _) | (with_reducible refine Kd.C_drewN ?_ _) | (with_reducible refine Kd.C_drew ?_)))
            (case side4 => exact (Kd.V_reads' HO269.out).2.1)
            rintro e w21 ⟨rfl, hb⟩
            refine ⟨_, rfl, ?_⟩
            have n0_ := Aside0.mk (Kd.V_below (by (with_reducible repeat (first | apply Kd.V_alloc | apply Kd.V_drewN | apply Kd.V_drew)); exact HO255.out) hb)
            have n1_ := Aside0.mk (Kd.V_below (by (with_reducible repeat (first | apply Kd.V_alloc | apply Kd.V_drewN | apply Kd.V_drew)); exact HO258.out) hb)
            have n2_ := Aside0.mk (Kd.V_below (by (with_reducible repeat (first | apply Kd.V_alloc | apply Kd.V_drewN | apply Kd.V_drew)); exact HO266.out) hb)
            have n3_ := Aside0.mk (Kd.V_below (by (with_reducible repeat (first | apply Kd.V_alloc | apply Kd.V_drewN | apply Kd.V_drew)); exact HO269.out) hb)
            have n4_ := Aside0.mk (Kd.V_below (by (with_reducible repeat (first | apply Kd.V_alloc | apply Kd.V_drewN | apply Kd.V_drew)); exact HO279.out) hb)
            have n5_ := Aside0.mk (Kd.V_below (by (with_reducible repeat (first | apply Kd.V_alloc | apply Kd.V_drewN | apply Kd.V_drew)); exact HO282.out) hb)
            have n6_ := Aside0.mk (Kd.V_below (by (with_reducible repeat (first | apply Kd.V_alloc | apply Kd.V_drewN | apply Kd.V_drew)); exact HO290.out) hb)
            have n7_ := Aside0.mk (Kd.V_below (by (with_reducible repeat (first | apply Kd.V_alloc | apply Kd.V_drewN | apply Kd.V_drew)); exact HO293.out) hb)
            have n8_ := Aside0.mk (below_step (by repeat (first | (with_reducible first | exact HB.out | apply below_alloc | apply pw_below_drewN | apply below_drew1) | exact HB.out)) hb)
            clear HO255
            clear HO258
            clear HO266
            clear HO269
            clear HO279
            clear HO282
            clear HO290
            clear HO293
            clear HB
            have HO255 := n0_
            have HO258 := n1_
            have HO266 := n2_
            have HO269 := n3_
            have HO279 := n4_
            have HO282 := n5_
            have HO290 := n6_
            have HO293 := n7_
            have HB := n8_
            clear n0_ n1_ n2_ n3_ n4_ n5_ n6_ n7_ n8_
            (try clear hb)
            (try clear hb2)
            (try clear hk)
            (try clear hi)
            refine hK.out _ _ ⟨((HB.out.cell (World.block_lt_of_cell? w _ hw294_0)).trans hw294_0), ((HB.out.cell (World.block_lt_of_cell? w _ hw294_1)).trans hw294_1), ((HB.out.cell (World.block_lt_of_cell? w _ hw294_2)).trans hw294_2), ((HB.out.cell (World.block_lt_of_cell? w _ hw294_3)).trans hw294_3), ((HB.out.cell (World.block_lt_of_cell? w _ hw294_4)).trans hw294_4), ((HB.out.cell (World.block_lt_of_cell? w _ hw294_5)).trans hw294_5), ((HB.out.cell (World.block_lt_of_cell? w _ hw294_6)).trans hw294_6), ((HB.out.cell (World.block_lt_of_cell? w _ hw294_7)).trans hw294_7), ((HB.out.cell (World.block_lt_of_cell? w _ hw294_8)).trans hw294_8), ((HB.out.cell (World.block_lt_of_cell? w _ hw294_9)).trans hw294_9), ((HB.out.cell (World.block_lt_of_cell? w _ hw294_10)).trans hw294_10), ((HB.out.cell (World.block_lt_of_cell? w _ hw294_11)).trans hw294_11), ((HB.out.cell (World.block_lt_of_cell? w _ hw294_12)).trans hw294_12), ((HB.out.cell (World.block_lt_of_cell? w _ hw294_13)).trans hw294_13), ((HB.out.cell (World.block_lt_of_cell? w _ hw294_14)).trans hw294_14)⟩ (fun hHeld => ?_)
            clear hK K
            refine norm_ (a' := ?_) ?_ ?_
            rotate_left
            · show Act.put _ (some 38) _ = _
              simp only [Act.put, List.setIfInBounds_toArray, List.set_cons_zero, List.set_cons_succ, i64_w, i32_w]
              rfl
            refine pure_ (i := 19) (N := some 6) (v := ?_) (a' := ?_) #[true, true, true, true, true, true, true, true, true, true, true, true, true, true, true, true, true, true, true, true] rfl rfl (any_of HT_.out (by kernel_rfl)) (fun _ _ _ h => h) (Or.inl ⟨by rfl, ?_⟩) ?_ ?_
            rotate_left
            · intro w'
              go_simp
              with_reducible rfl
            rotate_left
            · simp only [Act.put, List.setIfInBounds_toArray, List.set_cons_zero, List.set_cons_succ, i64_w, i32_w]
              rfl
            refine done_ (done_of HT_.out (by kernel_rfl)) ?_
            try go_wp2
            go_ret
            exact ⟨by first | rfl | (simp [errW_none, errW_some] <;> rfl) | (simp [*, errW_none, errW_some] <;> rfl), by repeat (first | (with_reducible first | exact HB.out | apply below_alloc | apply pw_below_drewN | apply below_drew1) | exact HB.out)⟩
          · rw [if_neg c12] at H
            exact absurd H (by simp)
        · rw [if_neg c11] at H
          exact absurd H (by simp)
end Go.Proofs.YtmdjknkhjimgeaaGreat.S
end
section
namespace Go.Proofs.YtmdjknkhjimgeaaGreat.S
open Go.RowKit Go.Proofs.YtmdjknkhjimgeaaGreatW.PrintWords Go.Proofs.YtmdjknkhjimgeaaGreatW.PrintLast Go.Proofs.YtmdjknkhjimgeaaGreatW.PrintMore
attribute [local go_sem] max2_int min2_int max_two min_two max_three min_three max_four min_four
set_option linter.unusedVariables false
set_option linter.unusedSimpArgs false
open Go.Proofs.He
open Go.Shelf in
structure Tn where
  by_ : Int
  tm : Int
  id : ByteArray
  n : Int
instance : Inhabited Tn := ⟨⟨0, 0, ⟨#[]⟩, 0⟩⟩
def encT (x : Tn) : List Value := [.int .i64 x.by_, .int .i64 x.tm, .string x.id, .int .i64 x.n]
theorem encT_one (x : Tn) : ∀ u ∈ encT x, u.oneCell' = true := fun u hu => by simp [encT] at hu; rcases hu with rfl | rfl | rfl | rfl <;> rfl
def kTn : Kd Tn := kdFlat 4 encT (fun _ => rfl) encT_one
theorem flatT : Flat kTn encT := flat_kdFlat 4 encT (fun _ => rfl) encT_one
set_option maxHeartbeats 1000000 in
theorem c64NaN.walk (x : Int) (w : World) : Calls Tryz.prog 135 #[.int .i64 x] w fun e w' => e = .returned (.bool false) ∧ w' = w := by
  go_enter Tryz.func135, Tryz.ntmps135
  go_wp2
  go_ret
  exact ⟨by simp, rfl⟩
set_option maxHeartbeats 1000000 in
theorem c64Cmp.walk (x y : Int) (w : World) : Calls Tryz.prog 102 #[.int .i64 x, .int .i64 y] w fun e w' => e = .returned (.int .i64 (Lib.compareInt x y)) ∧ w' = w := by
  go_enter Tryz.func102, Tryz.ntmps102
  go_wp2_with (go_at_call 135; refine (c64NaN.walk _ _).mono ?_; rintro e w' ⟨rfl, rfl⟩)
  all_goals (go_ret; refine ⟨?_, rfl⟩; unfold Lib.compareInt; (repeat' split) <;> first | rfl | (exfalso; omega))
set_option maxHeartbeats 1000000 in
theorem c0NaN.walk (x : Int) (w : World) : Calls Tryz.prog 105 #[.int .i64 x] w fun e w' => e = .returned (.bool false) ∧ w' = w := by
  go_enter Tryz.func105, Tryz.ntmps105
  go_wp2
  go_ret
  exact ⟨by simp, rfl⟩
set_option maxHeartbeats 1000000 in
theorem c0Cmp.walk (x y : Int) (w : World) : Calls Tryz.prog 77 #[.int .i64 x, .int .i64 y] w fun e w' => e = .returned (.int .i64 (Lib.compareInt x y)) ∧ w' = w := by
  go_enter Tryz.func77, Tryz.ntmps77
  go_wp2_with (go_at_call 105; refine (c0NaN.walk _ _).mono ?_; rintro e w' ⟨rfl, rfl⟩)
  all_goals (go_ret; refine ⟨?_, rfl⟩; unfold Lib.compareInt; (repeat' split) <;> first | rfl | (exfalso; omega))
set_option maxHeartbeats 1000000 in
theorem cSNaN.walk (x : ByteArray) (w : World) : Calls Tryz.prog 136 #[.string x] w fun e w' => e = .returned (.bool false) ∧ w' = w := by
  go_enter Tryz.func136, Tryz.ntmps136
  go_wp2
  go_ret
  exact ⟨by simp, rfl⟩
set_option maxHeartbeats 1000000 in
theorem cSCmp.walk (x y : ByteArray) (w : World) : Calls Tryz.prog 103 #[.string x, .string y] w fun e w' => e = .returned (.int .i64 (cmpS x y)) ∧ w' = w := by
  go_enter Tryz.func103, Tryz.ntmps103
  go_wp2_with (go_at_call 136; refine (cSNaN.walk _ _).mono ?_; rintro e w' ⟨rfl, rfl⟩)
  all_goals (go_ret; refine ⟨?_, rfl⟩; simp only [bytesLess_eq, decide_eq_true_eq, decide_eq_false_iff_not] at *; unfold cmpS; (repeat' split) <;> first | rfl | (exfalso; simp_all; done))
def orT (l : List Int) : Int := (l.find? (fun x => decide (x ≠ 0))).getD 0
theorem orT_hit {l : List Int} {j : Nat} (hj : j < l.length) (h : ∀ i, i < j → rd l i = 0) (hx : rd l j ≠ 0) : orT l = rd l j := by
  have e : rd l j = l[j] := by simp [rd, hj]
  unfold orT
  have : l.find? (fun x => decide (x ≠ 0)) = some l[j] := by
    rw [List.find?_eq_some_iff_getElem]
    refine ⟨by rw [← e]; simpa using hx, j, hj, rfl, fun i hi => ?_⟩
    have := h i hi
    have e2 : rd l i = l[i] := by simp [rd, show i < l.length by omega]
    rw [e2] at this
    simp [this]
  rw [this, e]; rfl
theorem orT_miss {l : List Int} (h : ∀ i, i < l.length → rd l i = 0) : orT l = 0 := by
  unfold orT
  have : l.find? (fun x => decide (x ≠ 0)) = none := by
    rw [List.find?_eq_none]
    intro x hx
    obtain ⟨i, hi, rfl⟩ := List.getElem_of_mem hx
    have := h i hi
    have e2 : rd l i = l[i] := by simp [rd, hi]
    rw [e2] at this
    simp [this]
  rw [this]; rfl
set_option maxHeartbeats 2000000 in
theorem cmp_OrT.walk (A : Option Addr) (c : Nat) (l : List Int) (w : World) (hr : Kd.C (Kd.int .i64) w A l.length l) :
    Calls Tryz.prog 76 #[.slice A l.length c] w fun e w' => e = .returned (.int .i64 (orT l)) ∧ w' = w := by
  have hlen : l.length ≤ 9223372036854775807 := hr.2.1
  have HR := Aside0.mk hr
  clear hr
  go_enter Tryz.func76, Tryz.ntmps76
  go_wp2
  go_loop [8] (fun v => ∃ j : Nat, v = .int .i64 j ∧ j ≤ l.length ∧ Aside0 (∀ i, i < j → rd l i = 0)) (fun v => l.length - (intOf v).toNat)
  case atStart => exact ⟨0, rfl, Nat.zero_le _, ⟨fun i hi => absurd hi (Nat.not_lt_zero _)⟩⟩
  case round =>
    obtain ⟨j, rfl, hj, HN⟩ := hrel
    by_cases hlt : j < l.length
    · obtain ⟨ad, e, hx⟩ := Kd.at_int HR.out (j : Int) (by omega) (by omega)
      cases e
      obtain ⟨x, hxd⟩ : ∃ x, x = rd l j := ⟨_, rfl⟩
      rw [← hxd, Int.toNat_natCast] at hx
      have HX := Aside0.mk hxd
      clear hxd
      by_cases h0 : x = 0
      · have HZ := Aside0.mk h0
        subst h0
        go_wp2
        go_round
        case rel => exact ⟨j + 1, by go_num, by omega, ⟨fun i hi => by
          by_cases e : i = j
          · rw [e, ← HX.out]
          · exact HN.out i (by omega)⟩⟩
        case measure => simp [intOf]; omega
      · have hb1 : (x != 0) = true := bne_iff_ne.mpr h0
        have hb2 : (x == 0) = false := beq_eq_false_iff_ne.mpr h0
        have HZ := Aside0.mk h0
        clear h0
        go_wp2
        go_ret
        exact ⟨by rw [orT_hit hlt HN.out (by rw [← HX.out]; exact HZ.out), ← HX.out]; rfl, rfl⟩
    · have hjl : j = l.length := by omega
      go_wp2
      go_ret
      exact ⟨by rw [orT_miss (fun i hi => HN.out i (by omega))]; rfl, rfl⟩
theorem or4.walk (a b c d : Int) (W : World) : Calls Tryz.prog 76 #[.slice (some ⟨W.heap.size, 0, none⟩) 4 4] (W.alloc (.cells #[.int .i64 a, .int .i64 b, .int .i64 c, .int .i64 d] 3)).drew fun e w' => e = .returned (.int .i64 (orT [a, b, c, d])) ∧ w' = (W.alloc (.cells #[.int .i64 a, .int .i64 b, .int .i64 c, .int .i64 d] 3)).drew := by
  refine cmp_OrT.walk (some ⟨W.heap.size, 0, none⟩) 4 [a, b, c, d] _ (Flat.C_mk (flatScalar (Value.int .i64) (fun _ => rfl)) (by simp) (fun j u hj => ?_))
  have hb : (W.alloc (Obj.cells #[.int .i64 a, .int .i64 b, .int .i64 c, .int .i64 d] 3)).drew.heap[W.heap.size]? = _ := heap_alloc_new W (Obj.cells #[.int .i64 a, .int .i64 b, .int .i64 c, .int .i64 d] 3)
  have hj' : ([Value.int .i64 a, Value.int .i64 b, Value.int .i64 c, Value.int .i64 d])[j]? = some u := hj
  have hadd : (⟨W.heap.size, 0, none⟩ : Addr).add j = ⟨W.heap.size, 0 + j, none⟩ := by unfold Addr.add; split <;> simp_all
  rw [hadd]
  have : (#[Value.int .i64 a, Value.int .i64 b, Value.int .i64 c, Value.int .i64 d] : Array Value)[0 + j]? = some u := by rw [Nat.zero_add]; simpa using hj'
  unfold World.cell?
  rw [hb]
  exact this
def tnC (x y : Tn) : Int := orT [Lib.compareInt y.by_ x.by_, Lib.compareInt x.tm y.tm, cmpS x.id y.id, Lib.compareInt x.n y.n]
def TnLt (x y : Tn) : Prop := y.by_ < x.by_ ∨ x.by_ = y.by_ ∧ (x.tm < y.tm ∨ x.tm = y.tm ∧ (x.id.toList < y.id.toList ∨ x.id.toList = y.id.toList ∧ x.n < y.n))
theorem tnC_neg {x y : Tn} : tnC x y < 0 ↔ TnLt x y := by
  unfold tnC orT TnLt
  by_cases h1 : y.by_ < x.by_
  · simp [Lib.compareInt, h1]
  by_cases h2 : x.by_ < y.by_
  · have : ¬ x.by_ = y.by_ := by omega
    simp [Lib.compareInt, h1, h2, this]
  have e1 : x.by_ = y.by_ := by omega
  by_cases h3 : x.tm < y.tm
  · simp [Lib.compareInt, e1, h3]
  by_cases h4 : y.tm < x.tm
  · have : ¬ x.tm = y.tm := by omega
    simp [Lib.compareInt, e1, h3, h4, this]
  have e2 : x.tm = y.tm := by omega
  by_cases h5 : x.id.toList < y.id.toList
  · simp [Lib.compareInt, cmpS, e1, e2, h5]
  by_cases h6 : y.id.toList < x.id.toList
  · have : ¬ x.id.toList = y.id.toList := fun e => List.lt_irrefl _ (e ▸ h6)
    simp [Lib.compareInt, cmpS, e1, e2, h5, h6, this]
  have e3 : x.id.toList = y.id.toList := by
    rcases List.le_iff_lt_or_eq.1 (List.not_lt.1 h5) with h | h
    · exact absurd h h6
    · exact h.symm
  by_cases h7 : x.n < y.n
  · simp [Lib.compareInt, cmpS, e1, e2, e3, h7, List.lt_irrefl]
  by_cases h8 : y.n < x.n
  · simp [Lib.compareInt, cmpS, e1, e2, e3, h7, h8, List.lt_irrefl]
  · simp [Lib.compareInt, cmpS, e1, e2, e3, h7, h8, List.lt_irrefl]
theorem TnLt.irrefl (x : Tn) : ¬ TnLt x x := by
  rintro (h | ⟨_, h | ⟨_, h | ⟨_, h⟩⟩⟩)
  · omega
  · omega
  · exact List.lt_irrefl _ h
  · omega
theorem TnLt.trans {x y z : Tn} (h1 : TnLt x y) (h2 : TnLt y z) : TnLt x z := by
  rcases h1 with h | ⟨e1, h | ⟨e2, h | ⟨e3, h⟩⟩⟩ <;> rcases h2 with k | ⟨f1, k | ⟨f2, k | ⟨f3, k⟩⟩⟩
  all_goals first
    | exact .inl (by omega)
    | exact .inr ⟨by omega, .inl (by omega)⟩
    | exact .inr ⟨by omega, .inr ⟨by omega, .inl (List.lt_trans h k)⟩⟩
    | exact .inr ⟨by omega, .inr ⟨by omega, .inl (f3 ▸ h)⟩⟩
    | exact .inr ⟨by omega, .inr ⟨by omega, .inl (e3 ▸ k)⟩⟩
    | exact .inr ⟨by omega, .inr ⟨by omega, .inr ⟨e3.trans f3, by omega⟩⟩⟩
theorem TnLt.tri (x y : Tn) : TnLt x y ∨ x = y ∨ TnLt y x := by
  unfold TnLt
  rcases Int.lt_trichotomy x.by_ y.by_ with h1 | h1 | h1
  · exact .inr (.inr (.inl h1))
  · rcases Int.lt_trichotomy x.tm y.tm with h2 | h2 | h2
    · exact .inl (.inr ⟨h1, .inl h2⟩)
    · by_cases h5 : x.id.toList < y.id.toList
      · exact .inl (.inr ⟨h1, .inr ⟨h2, .inl h5⟩⟩)
      · rcases List.le_iff_lt_or_eq.1 (List.not_lt.1 h5) with h | h
        · exact .inr (.inr (.inr ⟨h1.symm, .inr ⟨h2.symm, .inl h⟩⟩))
        · rcases Int.lt_trichotomy x.n y.n with h4 | h4 | h4
          · exact .inl (.inr ⟨h1, .inr ⟨h2, .inr ⟨h.symm, h4⟩⟩⟩)
          · refine .inr (.inl ?_)
            have hid := ba_ext h
            cases x; cases y; simp_all
          · exact .inr (.inr (.inr ⟨h1.symm, .inr ⟨h2.symm, .inr ⟨h, h4⟩⟩⟩))
    · exact .inr (.inr (.inr ⟨h1.symm, .inl h2⟩))
  · exact .inl (.inl h1)
theorem ltT {x y : Tn} : ltOf tnC x y = true ↔ TnLt x y := by unfold ltOf; rw [decide_eq_true_eq, tnC_neg]
theorem ltT_no {x y : Tn} : ltOf tnC x y = false ↔ ¬ TnLt x y := by rw [← ltT, Bool.not_eq_true]
theorem tnSWO : Go.Sort.SWO (ltOf tnC) where
  irrefl x := ltT_no.2 (TnLt.irrefl x)
  trans x y z h1 h2 := ltT.2 ((ltT.1 h1).trans (ltT.1 h2))
  ntrans x y z h1 h2 := ltT_no.2 (fun h => by
    rcases TnLt.tri x y with h3 | h3 | h3
    · exact ltT_no.1 h1 h3
    · subst h3; exact ltT_no.1 h2 h
    · exact ltT_no.1 h2 (h3.trans h))
theorem tnAll (x y : Tn) (h1 : ltOf tnC x y = false) (h2 : ltOf tnC y x = false) : x = y := by
  rcases TnLt.tri x y with h3 | h3 | h3
  · exact absurd h3 (ltT_no.1 h1)
  · exact h3
  · exact absurd h3 (ltT_no.1 h2)
def sortT (l : List Tn) : List Tn := l.mergeSort fun x y => !(ltOf tnC) y x
theorem sortT_perm (l : List Tn) : (sortT l).Perm l := List.mergeSort_perm l _
set_option maxHeartbeats 4000000 in
set_option maxRecDepth 100000 in
theorem turn_cmp.walk (x y : Tn) (w : World) : Calls Tryz.prog 69 #[.agg (encT x).toArray, .agg (encT y).toArray] w fun e w' => e = .returned (.int .i64 (tnC x y)) ∧ ∃ q os', w' = Go.Sort.grow (w.drewN q) os' := by
  show Calls Tryz.prog 69 #[.agg #[.int .i64 x.by_, .int .i64 x.tm, .string x.id, .int .i64 x.n], .agg #[.int .i64 y.by_, .int .i64 y.tm, .string y.id, .int .i64 y.n]] w _
  obtain ⟨x0, x1, x2, x3⟩ := x
  obtain ⟨y0, y1, y2, y3⟩ := y
  dsimp only
  go_enter Tryz.func69, Tryz.ntmps69
  go_upto_region 1 with fail
  generalize hW : World.alloc (World.alloc w _) _ = W
  have bx : W.heap[w.heap.size]? = some (.cells #[.int .i64 x0, .int .i64 x1, .string x2, .int .i64 x3] 89 (0, 0)) := by rw [← hW]; exact (heap_alloc_old _ _ (by simp)).trans (heap_alloc_new w _)
  have by' : W.heap[w.heap.size + 1]? = some (.cells #[.int .i64 y0, .int .i64 y1, .string y2, .int .i64 y3] 89 (0, 0)) := by rw [← hW]; exact heap_alloc2_new w _ _
  have a0 := blk_cell bx 0
  have a1 := blk_cell bx 1
  have a2 := blk_cell bx 2
  have a3 := blk_cell bx 3
  have b0 := blk_cell by' 0
  have b1 := blk_cell by' 1
  have b2 := blk_cell by' 2
  have b3 := blk_cell by' 3
  have HW := Aside0.mk hW
  clear bx by' hW
  go_region_held3 (fun w' => w'.cell? ⟨w.heap.size, 0, none⟩ = some (.int .i64 x0) ∧ w'.cell? ⟨w.heap.size, 1, none⟩ = some (.int .i64 x1) ∧ w'.cell? ⟨w.heap.size, 2, none⟩ = some (.string x2) ∧ w'.cell? ⟨w.heap.size, 3, none⟩ = some (.int .i64 x3) ∧ w'.cell? ⟨w.heap.size + 1, 0, none⟩ = some (.int .i64 y0) ∧ w'.cell? ⟨w.heap.size + 1, 1, none⟩ = some (.int .i64 y1) ∧ w'.cell? ⟨w.heap.size + 1, 2, none⟩ = some (.string y2) ∧ w'.cell? ⟨w.heap.size + 1, 3, none⟩ = some (.int .i64 y3)) (go_keep)
    ((first | (go_at_call 102; refine (c64Cmp.walk _ _ _).mono ?_; rintro e w' ⟨rfl, rfl⟩) | (go_at_call 103; refine (cSCmp.walk _ _ _).mono ?_; rintro e w' ⟨rfl, rfl⟩) | (go_at_call 77; refine (c0Cmp.walk _ _ _).mono ?_; rintro e w' ⟨rfl, rfl⟩) | (go_at_call 76; refine (or4.walk _ _ _ _ _).mono ?_; rintro e w' ⟨rfl, rfl⟩)))
  go_wp2
  go_ret
  exact ⟨rfl, 1, #[_, _, _], by rw [← HW.out, Go.Sort.alloc_eq_grow, Go.Sort.alloc_eq_grow, Go.Sort.alloc_eq_grow, Go.Sort.grow_grow, Go.Sort.grow_grow, Go.Sort.drew_grow]; rfl⟩
theorem sortF.walk {base : Nat} {ok : Nat → Prop} {v : Value} {xs : List Tn} {w : World} (h : kTn.R 89 w base ok v xs) (hsz : xs.length < 4611686018427387904) :
    Calls Tryz.prog 68 #[v, .func (.func 69) #[] #[]] w fun e' w' => e' = .returned (.tuple #[]) ∧ kTn.R 89 w' base ok v (sortT xs) ∧ w.grownBy w' v.ownBlock :=
  sort_rowK flatT (srt := sortT) (fun l => List.length_mergeSort l) (by simp [sortT])
    (fun p cap w => AnyF.slices_SortFunc_none Tryz.laysSortF p cap _ w)
    (fun blk off cap zs w h1 h2 h3 => by
      have := AnyQ.slices_SortFunc_total Tryz.laysSortF 4 Tryz.isAgg89 Tryz.sizeOf89 encT (fun _ => rfl) encT_one tnC tnSWO 69 #[] blk off cap zs.toArray w (enters_of Tryz.func69 (by kernel_rfl) rfl) (fun _ _ _ _ x y => turn_cmp.walk x y _) h1 h2 (by simpa using h3) tnAll
      rw [List.size_toArray] at this
      exact this) h hsz
theorem at_tn {w : World} {A : Option Addr} {xs : List Tn} (h : kTn.C w A xs.length xs) {i : Nat} (hi : i < xs.length) : ∃ ad, A = some ad ∧ w.cell? (ad.add (i * 4)) = some (.int .i64 xs[i].by_) ∧ w.cell? ⟨(ad.add (i * 4)).block, (ad.add (i * 4)).off + 1, none⟩ = some (.int .i64 xs[i].tm) ∧ w.cell? ⟨(ad.add (i * 4)).block, (ad.add (i * 4)).off + 2, none⟩ = some (.string xs[i].id) ∧ w.cell? ⟨(ad.add (i * 4)).block, (ad.add (i * 4)).off + 3, none⟩ = some (.int .i64 xs[i].n) := by
  obtain ⟨ad, c, e, _, hK, hc⟩ := Kd.C_get h xs[i] (i : Int) (by omega) (by omega)
  have hd : xs.getD (i : Int).toNat xs[i] = xs[i] := by rw [Int.toNat_natCast, List.getD_eq_getElem?_getD, List.getElem?_eq_getElem hi]; rfl
  rw [hd] at hK
  have hK' : c = encT xs[i] := hK
  subst hK'
  replace hc : ∀ j u, (encT xs[i])[j]? = some u → w.cell? (ad.add (i * 4 + j)) = some u := hc
  exact ⟨ad, e, hc 0 _ rfl, by rw [← add_field _ _ 1 (by omega)]; exact hc 1 _ rfl, by rw [← add_field _ _ 2 (by omega)]; exact hc 2 _ rfl, by rw [← add_field _ _ 3 (by omega)]; exact hc 3 _ rfl⟩
def turnOf (l : List S50) (num : Int → Int) (n : Int) : Tn := ⟨num n, (rd_T50 l n).f9, (rd_T50 l n).f0, n⟩
def sortedL (l : List S50) (num : Int → Int) (all : List Int) : List Int := (sortT (all.map (turnOf l num))).map Tn.n
set_option maxHeartbeats 4000000 in
set_option maxRecDepth 100000 in
theorem order_sorted.walk (AL : Option Addr) (cL : Nat) (l : List S50) (A1 : Option Addr) (c1 : Nat) (all : List Int) (g : FuncId) (cb : Array Value) (num : Int → Int) (w : World) (eg : ∀ args w, (callFunc g args).run Tryz.prog w = .ok (.enter g args) w)
    (hL : Kd.C k50 w AL l.length l) (hX : Kd.C (Kd.int .i64) w A1 all.length all) (hin : ∀ x ∈ all, 0 ≤ x ∧ x < (l.length : Int)) (hlim : all.length ≤ 1000000)
    (hby : ∀ x ∈ all, ∀ W, Below w.heap.size w W → Calls Tryz.prog g (#[] ++ #[.int .i64 x] ++ cb) W fun e W' => e = .returned (.int .i64 (num x)) ∧ Below W.heap.size W W') :
    Calls Tryz.prog 32 #[.slice AL l.length cL, .slice A1 all.length c1, .func (.func g) #[] cb] w fun e w' => ∃ v, e = .returned v ∧ Kd.R (Kd.int .i64) 3 w' w.heap.size (fun _ => True) v (sortedL l num all) ∧ Below w.heap.size w w' := by
  have hu34 := Tryz.underlying50
  have hlen : all.length ≤ 9223372036854775807 := by omega
  obtain ⟨ts, hts⟩ : ∃ ts, ts = all.map (turnOf l num) := ⟨_, rfl⟩
  have htl : ts.length = all.length := by rw [hts]; simp
  have HTG : Aside0 (∀ i, (hi : i < all.length) → ts[i]? = some (turnOf l num all[i])) := ⟨fun i hi => by rw [hts, List.getElem?_map, List.getElem?_eq_getElem hi]; rfl⟩
  have HTS := Aside0.mk hts
  have HEG := Aside0.mk eg
  have HBY := Aside0.mk hby
  have HL := Aside0.mk hL
  have HX := Aside0.mk hX
  have HIN := Aside0.mk hin
  have HTL := Aside0.mk htl
  clear hts hby hL hX hin eg htl
  go_enter Tryz.func32, Tryz.ntmps32
  go_upto_block 0 with fail
  go_cut [7] (fun s7 wx => Aside0 (kTn.R 89 wx w.heap.size (fun _ => True) s7 ts) ∧ Aside0 (Below w.heap.size w wx))
  case first =>
    have HB0 := Aside0.mk (Below.refl w.heap.size w)
    go_wp2_with fail
    go_loopg [7, 9, 15] all.length (fun gg v7 v9 v15 wr => ∃ i : Nat, i ≤ all.length ∧ all.length - i ≤ gg ∧ v15 = .int .i64 (i : Int) ∧ Aside0 (kTn.R 89 wr w.heap.size (fun _ => True) v7 (ts.take i)) ∧ Aside0 (Below w.heap.size w wr))
    case atStart => exact ⟨0, Nat.zero_le _, by omega, rfl, ⟨by rw [List.take_zero]; exact Kd.R_nil _ _ _ _ _⟩, HB0⟩
    case round =>
      obtain ⟨i, hi, hgg, rfl, HV, HB⟩ := hrel
      by_cases hlt : i < all.length
      · have hltz : (i : Int) < (all.length : Int) := by omega
        obtain ⟨adx, e, hx0⟩ := C_num HX.out hlt
        cases e
        have hnA : all[i] ∈ all := List.getElem_mem hlt
        have hti := HTG.out i hlt
        obtain ⟨n, hn⟩ : ∃ n, n = all[i] := ⟨_, rfl⟩
        rw [← hn] at hx0 hnA hti
        obtain ⟨hn0, hn1⟩ := HIN.out n hnA
        replace hx0 := pw_cell_below HB.out hx0
        obtain ⟨ad, A6, c6, A7, c7, A13, c13, A14, c14, e, y0, y1, y2, y3, y4, y5, y6, y7, y8, y9, y10, y11, y12, y13, y14, l6, g6, l7, g7, l13, g13, l14, g14⟩ := at_T50 HL.out n hn0 hn1
        cases e
        have HTI : Aside0 (ts[i]? = some ⟨num n, (rd_T50 l n).f9, (rd_T50 l n).f0, n⟩) := ⟨hti⟩
        obtain ⟨ev, hev⟩ : ∃ ev, ev = rd_T50 l n := ⟨_, rfl⟩
        rw [← hev] at y0 y9 HTI
        replace y0 := pw_cell_below HB.out y0
        replace y9 := pw_cell_below HB.out y9
        clear y1 y2 y3 y4 y5 y6 y7 y8 y10 y11 y12 y13 y14 l6 g6 l7 g7 l13 g13 l14 g14 hev hti hn
        have htk : (ts.take i).length ≤ 1000000 := by have := HTL.out; rw [List.length_take]; omega
        have HTK := Aside0.mk htk
        have HNA := Aside0.mk hnA
        clear htk hnA
        go_upto_region 5 with fail
        refine start_ (n := 19) (S := fun w' => w'.cell? ⟨(ad.add (n.toNat * 15)).block, (ad.add (n.toNat * 15)).off + 9, none⟩ = some (.int .i64 ev.f9) ∧ w'.cell? (ad.add (n.toNat * 15)) = some (.string ev.f0)) (ds := [17]) #[false, false, false, false, false, false, false, false, false, false, false, false, false, false, false, false, false, false, false] (by kernel_rfl) rfl rfl ⟨y9, y0⟩ (fun hHeld => ?_)
        refine pure_ (i := 0) (N := some 19) (v := ?_) (a' := ?_) #[true, false, false, false, false, false, false, false, false, false, false, false, false, false, false, false, false, false, false] rfl rfl (by kernel_rfl) (fun _ _ _ h => h) (Or.inl ⟨by rfl, ?_⟩) ?_ ?_
        rotate_left
        · intro w'
          go_simp
          with_reducible rfl
        rotate_left
        · simp only [Act.put, List.setIfInBounds_toArray, List.set_cons_zero, List.set_cons_succ, i64_w, i32_w]
          rfl
        refine pure_ (i := 1) (N := some 20) (v := ?_) (a' := ?_) #[true, true, false, false, false, false, false, false, false, false, false, false, false, false, false, false, false, false, false] rfl rfl (by kernel_rfl) (fun _ _ _ h => h) (Or.inl ⟨by rfl, ?_⟩) ?_ ?_
        rotate_left
        · intro w'
          go_simp
          with_reducible rfl
        rotate_left
        · simp only [Act.put, List.setIfInBounds_toArray, List.set_cons_zero, List.set_cons_succ, i64_w, i32_w]
          rfl
        refine pure_ (i := 2) (N := some 21) (v := ?_) (a' := ?_) #[true, true, true, false, false, false, false, false, false, false, false, false, false, false, false, false, false, false, false] rfl rfl (by kernel_rfl) (fun _ _ _ h => h) (Or.inl ⟨by rfl, ?_⟩) ?_ ?_
        rotate_left
        · intro w'
          go_simp
          with_reducible rfl
        rotate_left
        · simp only [Act.put, List.setIfInBounds_toArray, List.set_cons_zero, List.set_cons_succ, i64_w, i32_w]
          rfl
        refine pure_ (i := 4) (N := some 23) (v := ?_) (a' := ?_) #[true, true, true, false, true, false, false, false, false, false, false, false, false, false, false, false, false, false, false] rfl rfl (by kernel_rfl) (fun _ _ _ h => h) (Or.inl ⟨by rfl, ?_⟩) ?_ ?_
        rotate_left
        · intro w'
          go_simp
          with_reducible rfl
        rotate_left
        · simp only [Act.put, List.setIfInBounds_toArray, List.set_cons_zero, List.set_cons_succ, i64_w, i32_w]
          rfl
        refine pure_ (i := 5) (N := some 24) (v := ?_) (a' := ?_) #[true, true, true, false, true, true, false, false, false, false, false, false, false, false, false, false, false, false, false] rfl rfl (by kernel_rfl) (fun _ _ _ h => h) (Or.inl ⟨by rfl, ?_⟩) ?_ ?_
        rotate_left
        · intro w'
          go_simp
          with_reducible rfl
        rotate_left
        · simp only [Act.put, List.setIfInBounds_toArray, List.set_cons_zero, List.set_cons_succ, i64_w, i32_w]
          rfl
        refine pure_ (i := 6) (N := some 25) (v := ?_) (a' := ?_) #[true, true, true, false, true, true, true, false, false, false, false, false, false, false, false, false, false, false, false] rfl rfl (by kernel_rfl) (fun _ _ _ h => h) (Or.inl ⟨by rfl, ?_⟩) ?_ ?_
        rotate_left
        · intro w'
          go_simp
          with_reducible rfl
        rotate_left
        · simp only [Act.put, List.setIfInBounds_toArray, List.set_cons_zero, List.set_cons_succ, i64_w, i32_w]
          rfl
        refine pure_ (i := 7) (N := some 26) (v := ?_) (a' := ?_) #[true, true, true, false, true, true, true, true, false, false, false, false, false, false, false, false, false, false, false] rfl rfl (by kernel_rfl) (fun _ _ _ h => h) (Or.inl ⟨by rfl, ?_⟩) ?_ ?_
        rotate_left
        · intro w'
          go_simp
          with_reducible rfl
        rotate_left
        · simp only [Act.put, List.setIfInBounds_toArray, List.set_cons_zero, List.set_cons_succ, i64_w, i32_w]
          rfl
        refine pure_ (i := 9) (N := some 28) (v := ?_) (a' := ?_) #[true, true, true, false, true, true, true, true, false, true, false, false, false, false, false, false, false, false, false] rfl rfl (by kernel_rfl) (fun _ _ _ h => h) (Or.inl ⟨by rfl, ?_⟩) ?_ ?_
        rotate_left
        · intro w'
          go_simp
          with_reducible rfl
        rotate_left
        · simp only [Act.put, List.setIfInBounds_toArray, List.set_cons_zero, List.set_cons_succ, i64_w, i32_w]
          rfl
        refine pure_ (i := 10) (N := some 29) (v := ?_) (a' := ?_) #[true, true, true, false, true, true, true, true, false, true, true, false, false, false, false, false, false, false, false] rfl rfl (by kernel_rfl) (fun _ _ _ h => h) (Or.inl ⟨by rfl, ?_⟩) ?_ ?_
        rotate_left
        · intro w'
          go_simp
          with_reducible rfl
        rotate_left
        · simp only [Act.put, List.setIfInBounds_toArray, List.set_cons_zero, List.set_cons_succ, i64_w, i32_w]
          rfl
        refine pure_ (i := 11) (N := some 30) (v := ?_) (a' := ?_) #[true, true, true, false, true, true, true, true, false, true, true, true, false, false, false, false, false, false, false] rfl rfl (by kernel_rfl) (fun _ _ _ h => h) (Or.inl ⟨by rfl, ?_⟩) ?_ ?_
        rotate_left
        · intro w'
          go_simp
          with_reducible rfl
        rotate_left
        · simp only [Act.put, List.setIfInBounds_toArray, List.set_cons_zero, List.set_cons_succ, i64_w, i32_w]
          rfl
        refine pure_ (i := 12) (N := some 31) (v := ?_) (a' := ?_) #[true, true, true, false, true, true, true, true, false, true, true, true, true, false, false, false, false, false, false] rfl rfl (by kernel_rfl) (fun _ _ _ h => h) (Or.inl ⟨by rfl, ?_⟩) ?_ ?_
        rotate_left
        · intro w'
          go_simp
          with_reducible rfl
        rotate_left
        · simp only [Act.put, List.setIfInBounds_toArray, List.set_cons_zero, List.set_cons_succ, i64_w, i32_w]
          rfl
        refine pure_ (i := 14) (N := some 33) (v := ?_) (a' := ?_) #[true, true, true, false, true, true, true, true, false, true, true, true, true, false, true, false, false, false, false] rfl rfl (by kernel_rfl) (fun _ _ _ h => h) (Or.inl ⟨by rfl, ?_⟩) ?_ ?_
        rotate_left
        · intro w'
          go_simp
          with_reducible rfl
        rotate_left
        · simp only [Act.put, List.setIfInBounds_toArray, List.set_cons_zero, List.set_cons_succ, i64_w, i32_w]
          rfl
        refine take_ (i := 8) (N := some 27) (v := ?_) (a' := ?_) #[true, true, true, false, true, true, true, true, true, true, true, true, true, false, true, false, false, false, false] rfl rfl (by kernel_rfl) (fun _ _ _ h => h) (Or.inl ⟨by rfl, ?_⟩) hHeld ?_ ?_
        rotate_left
        · rintro w' ⟨s0, s1⟩
          go_simp
          with_reducible rfl
        rotate_left
        · simp only [Act.put, List.setIfInBounds_toArray, List.set_cons_zero, List.set_cons_succ, i64_w, i32_w]
          rfl
        refine take_ (i := 13) (N := some 32) (v := ?_) (a' := ?_) #[true, true, true, false, true, true, true, true, true, true, true, true, true, true, true, false, false, false, false] rfl rfl (by kernel_rfl) (fun _ _ _ h => h) (Or.inl ⟨by rfl, ?_⟩) hHeld ?_ ?_
        rotate_left
        · rintro w' ⟨s0, s1⟩
          go_simp
          with_reducible rfl
        rotate_left
        · simp only [Act.put, List.setIfInBounds_toArray, List.set_cons_zero, List.set_cons_succ, i64_w, i32_w]
          rfl
        refine one_ (i := 3) (N := some 22) #[true, true, true, true, true, true, true, true, true, true, true, true, true, true, true, false, false, false, false] rfl rfl (by kernel_rfl) (by decide) (fun K hK => ?_)
        refine goesV_ HEG.out #[.int .i64 n] (by rfl) rfl rfl (by rfl) (by simp only [List.map_toArray, List.map_cons, List.map_nil]; rfl) ?_
        refine (HBY.out n HNA.out _ (below_then HB.out HB.out.size (below_drew1 (Below.refl _ _)))).mono ?_
        rintro e W2 ⟨rfl, hb2⟩
        refine ⟨_, rfl, ?_⟩
        refine hK.out _ _ ⟨(pw_cell_below hb2 hHeld.1), (pw_cell_below hb2 hHeld.2)⟩ (fun hHeld => ?_)
        clear hK K
        refine norm_ (a' := ?_) ?_ ?_
        rotate_left
        · show Act.put _ (some 22) _ = _
          simp only [Act.put, List.setIfInBounds_toArray, List.set_cons_zero, List.set_cons_succ, i64_w, i32_w]
          rfl
        refine pure_ (i := 15) (N := some 34) (v := ?_) (a' := ?_) #[true, true, true, true, true, true, true, true, true, true, true, true, true, true, true, true, false, false, false] rfl rfl (by kernel_rfl) (fun _ _ _ h => h) (Or.inl ⟨by rfl, ?_⟩) ?_ ?_
        rotate_left
        · intro w'
          go_simp
          with_reducible rfl
        rotate_left
        · simp only [Act.put, List.setIfInBounds_toArray, List.set_cons_zero, List.set_cons_succ, i64_w, i32_w]
          rfl
        refine one_ (i := 16) (N := some 35) #[true, true, true, true, true, true, true, true, true, true, true, true, true, true, true, true, true, false, false] rfl rfl (by kernel_rfl) (by decide) (fun K hK => ?_)
        refine value_ (w1 := ?_) (v := ?_) (by rfl) rfl ?_ ?_
        rotate_left 2
        · go_simp
          constructor
          · rfl
          · rfl
        refine hK.out _ _ ⟨(pw_cell_below (Below.alloc (Below.refl _ _) (Nat.le_refl _) _) hHeld.1), (pw_cell_below (Below.alloc (Below.refl _ _) (Nat.le_refl _) _) hHeld.2)⟩ (fun hHeld => ?_)
        clear hK K
        refine norm_ (a' := ?_) ?_ ?_
        rotate_left
        · show Act.put _ (some 35) _ = _
          simp only [Act.put, List.setIfInBounds_toArray, List.set_cons_zero, List.set_cons_succ, i64_w, i32_w]
          rfl
        refine last_ (i := 17) (N := some 36) #[true, true, true, true, true, true, true, true, true, true, true, true, true, true, true, true, true, true, false] rfl rfl (by kernel_rfl) (by decide) (fun K hK => ?_)
        refine Kd.R_append_step kTn (w0 := w) (W := W2) w.heap.size (by rfl) (.tmp 19) (.tmp 35) 87 89 (.agg #[.int .i64 0, .int .i64 0, .string ⟨#[]⟩, .int .i64 0]) 40 rfl Tryz.underlying87 (by kernel_rfl) rfl (by decide) (by decide) u7 (ts.take i) ⟨num n, ev.f9, ev.f0, n⟩ [.int .i64 (num n), .int .i64 ev.f9, .string ev.f0, .int .i64 n] (fun _ => True) (fun _ => False) (by simp [Act.eval, Act.put]) (by simp [Act.eval, Act.put]) rfl (fun _ hk => hk.elim) (fun _ _ => trivial) (Kd.R_below HV.out (below_then (below_drew1 (Below.refl wr.heap.size wr)) (Nat.le_refl _) hb2)) (below_then HB.out HB.out.size (below_then (below_drew1 (Below.refl wr.heap.size wr)) (Nat.le_refl _) hb2)) (by have h7 := HB.out.size; have h8 : wr.heap.size ≤ W2.heap.size := hb2.size; omega) (by have := HTK.out; omega) ?_
        intro v3 W3 hr3 hb3 hg3 hat3
        refine hK.out _ _ ?_
        clear hK K
        refine norm_ (a' := ?_) ?_ ?_
        rotate_left
        · show Act.put _ (some 36) _ = _
          simp only [Act.put, List.setIfInBounds_toArray, List.set_cons_zero, List.set_cons_succ, i64_w, i32_w]
          rfl
        refine pure_ (i := 18) (N := some 7) (v := ?_) (a' := ?_) #[true, true, true, true, true, true, true, true, true, true, true, true, true, true, true, true, true, true, true] rfl rfl (by kernel_rfl) (fun _ _ _ h => h) (Or.inl ⟨by rfl, ?_⟩) ?_ ?_
        rotate_left
        · intro w'
          go_simp
          with_reducible rfl
        rotate_left
        · simp only [Act.put, List.setIfInBounds_toArray, List.set_cons_zero, List.set_cons_succ, i64_w, i32_w]
          rfl
        refine done_ (by kernel_rfl) ?_

        clear hx0 y0 y9
        have HV3 := Aside0.mk hr3
        have HB3 := Aside0.mk hb3
        clear hr3 hb3 hg3 hat3 hb2
        go_wp2_with fail
        go_roundg (all.length - (i + 1))
        case measure => omega
        case rel => exact ⟨i + 1, by omega, by omega, by go_num, ⟨by rw [List.take_add_one, HTI.out]; exact HV3.out⟩, HB3⟩
      · have hltz : ¬ (i : Int) < (all.length : Int) := by omega
        have HE : Aside0 (ts.take i = ts) := ⟨by rw [List.take_of_length_le]; have := HTL.out; omega⟩
        go_wp2_with fail
        go_meet
        exact ⟨⟨by have := HV.out; rwa [HE.out] at this⟩, HB⟩
  case rest =>
    obtain ⟨HV, HB⟩ := hcut
    obtain ⟨A2, c2, e⟩ := Kd.R_slice HV.out
    subst e
    have HSF := Aside0.mk (sortF.walk HV.out (by have := HTL.out; omega))
    obtain ⟨st, hst⟩ : ∃ st, st = sortT ts := ⟨_, rfl⟩
    rw [← hst] at HSF
    have hsl : ts.length = st.length := by rw [hst]; exact (List.length_mergeSort ts).symm
    have HRES : Aside0 (sortedL l num all = st.map Tn.n) := ⟨by rw [hst, HTS.out]; rfl⟩
    have hs1 : st.length ≤ 1000000 := by have := HTL.out; omega
    rw [hsl] at HSF HV
    rw [hsl]
    clear hst hsl
    go_upto_region 8 with (go_at_call 68; go_loud (refine HSF.out.mono ?_; rintro e w2 ⟨rfl, hr2, hg2⟩; have HR2 := Aside0.mk hr2; have HB2 := Aside0.mk (pw_below_grown HB.out _ HB.out.size hg2 (fun k hk => Kd.R_base HV.out k hk)); clear hr2 hg2))
    have HC2 := Aside0.mk (Kd.R_reads' HR2.out).2.2
    clear HV HSF
    go_upto_block 2 with fail
    go_cut [10] (fun s10 wx => Aside0 (Kd.R (Kd.int .i64) 3 wx w2.heap.size (fun _ => True) s10 (st.map Tn.n)) ∧ Aside0 (Below w2.heap.size w2 wx))
    case first =>
      have HB0 := Aside0.mk (Below.refl w2.heap.size w2)
      go_wp2_with fail
      go_loopg [10, 12, 42] st.length (fun gg v10 v12 v42 wr => ∃ i : Nat, i ≤ st.length ∧ st.length - i ≤ gg ∧ v42 = .int .i64 (i : Int) ∧ Aside0 (Kd.R (Kd.int .i64) 3 wr w2.heap.size (fun _ => True) v10 ((st.take i).map Tn.n)) ∧ Aside0 (Below w2.heap.size w2 wr))
      case atStart => exact ⟨0, Nat.zero_le _, by omega, rfl, ⟨by rw [List.take_zero]; exact Kd.R_nil _ _ _ _ _⟩, HB0⟩
      case round =>
        obtain ⟨i, hi, hgg, rfl, HV, HBi⟩ := hrel
        by_cases hlt : i < st.length
        · have hltz : (i : Int) < (st.length : Int) := by omega
          obtain ⟨ad, e, x0, x1, x2, x3⟩ := at_tn HC2.out hlt
          cases e
          have HTI : Aside0 (st[i]? = some st[i]) := ⟨List.getElem?_eq_getElem hlt⟩
          obtain ⟨x, hx⟩ : ∃ x, x = st[i] := ⟨_, rfl⟩
          rw [← hx] at x0 x1 x2 x3 HTI
          replace x0 := pw_cell_below HBi.out x0
          replace x1 := pw_cell_below HBi.out x1
          replace x2 := pw_cell_below HBi.out x2
          replace x3 := pw_cell_below HBi.out x3
          have htk : ((st.take i).map Tn.n).length ≤ 1000000 := by rw [List.length_map, List.length_take]; omega
          have HTK := Aside0.mk htk
          clear hx htk
          go_upto_region 12 with fail
          generalize hW3 : World.alloc wr _ = W3
          have hb3 : Below wr.heap.size wr W3 := by rw [← hW3]; exact (Below.refl _ _).alloc (Nat.le_refl _) _
          have z3 := blk_cell (show W3.heap[wr.heap.size]? = some (.cells #[.int .i64 x.by_, .int .i64 x.tm, .string x.id, .int .i64 x.n] 89 (0, 0)) by rw [← hW3]; exact heap_alloc_new wr _) 3
          have HV3 := Aside0.mk (Kd.R_below HV.out hb3)
          have HB3 := Aside0.mk (below_then HBi.out HBi.out.size hb3)
          clear hW3 hb3 x0 x1 x2 x3
          go_wp2_with (at_builtin; refine Kd.R_append (Kd.int .i64) (w0 := w2) w2.heap.size rfl (.tmp 46) (.tmp 49) 27 3 (.int .i64 0) 8 rfl Tryz.underlying27 (by kernel_rfl) rfl (by decide) (by decide) u10 ((st.take i).map Tn.n) x.n [.int .i64 x.n] (fun _ => True) (fun _ => False) rfl rfl rfl (fun _ hk => hk.elim) (fun _ _ => trivial) HV3.out HB3.out (by have := HB3.out.size; omega) (by have := HTK.out; omega) ?_; intro v4 w4 hr4 hb4 hg4 hat4; have HV4 := Aside0.mk hr4; have HB4 := Aside0.mk hb4; clear hr4 hb4 hg4 hat4)
          go_roundg (st.length - (i + 1))
          case measure => omega
          case rel => exact ⟨i + 1, by omega, by omega, by go_num, ⟨by rw [List.take_add_one, HTI.out, List.map_append]; exact HV4.out⟩, HB4⟩
        · have hltz : ¬ (i : Int) < (st.length : Int) := by omega
          have HE : Aside0 (st.take i = st) := ⟨by rw [List.take_of_length_le]; omega⟩
          go_wp2_with fail
          go_meet
          exact ⟨⟨by have := HV.out; rwa [HE.out] at this⟩, HBi⟩
    case rest =>
      obtain ⟨HV, HB3⟩ := hcut
      go_wp2_with fail
      go_ret
      rw [HRES.out]
      exact ⟨_, rfl, Kd.R_lower HV.out HB2.out.size, below_then HB2.out HB2.out.size HB3.out⟩
theorem sortedL_perm (l : List S50) (num : Int → Int) (A : List Int) : (sortedL l num A).Perm A := by
  have h := (sortT_perm (A.map (turnOf l num))).map Tn.n
  have e : (A.map (turnOf l num)).map Tn.n = A := by rw [List.map_map]; exact (List.map_congr_left (fun _ _ => rfl)).trans (List.map_id' A)
  rw [e] at h
  exact h
end Go.Proofs.YtmdjknkhjimgeaaGreat.S
end

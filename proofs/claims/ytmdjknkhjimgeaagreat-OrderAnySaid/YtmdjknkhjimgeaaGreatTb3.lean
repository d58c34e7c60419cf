/- Parts of the walk and of the plain law, joined for this claim alone by a program of this session. -/
import Derived.Test.YtmdjknkhjimgeaaGreatTb1
import Derived.Test.YtmdjknkhjimgeaaGreatTb0
import Derived.Test.YtmdjknkhjimgeaaGreatTb2
section
namespace Go.Proofs.YtmdjknkhjimgeaaGreat.S
open Go.RowKit Go.Proofs.YtmdjknkhjimgeaaGreatW.PrintWords Go.Proofs.YtmdjknkhjimgeaaGreatW.PrintLast Go.Proofs.YtmdjknkhjimgeaaGreatW.PrintMore
attribute [local go_sem] max2_int min2_int max_two min_two max_three min_three max_four min_four
set_option linter.unusedVariables false
set_option linter.unusedSimpArgs false
open Go.Proofs.He
structure Sm (v : SV) (j : Nat) : Prop where
  a : v.f3.length ≤ j
  b : v.f4.length ≤ j
  s : ∀ s ∈ v.f3, s.size < 100
  deep : ∀ y ∈ v.f4, Dq j y
theorem Sm.mono {v : SV} {j j' : Nat} (h : Sm v j) (hj : j ≤ j') : Sm v j' := ⟨Nat.le_trans h.a hj, Nat.le_trans h.b hj, h.s, fun y hy => (h.deep y hy).le hj⟩
theorem Sm.dq {v : SV} {j : Nat} (h : Sm v j) (hj : j ≤ 1000000) : Dq (j + 1) v := ⟨Nat.le_trans h.a hj, Nat.le_trans h.b hj, h.deep⟩
abbrev vAgg (v : SV) (A3 : Option Addr) (c3 : Nat) (A4 : Option Addr) (c4 : Nat) : Value := .agg #[.int .i64 v.f0, .int .i64 v.f1, .string v.f2, .slice A3 v.f3.length c3, .slice A4 v.f4.length c4]
def BV (lo : Nat) (W : World) (b j : Nat) : Prop := ∃ (v : SV) (A3 : Option Addr) (c3 : Nat) (A4 : Option Addr) (c4 : Nat), W.heap[b]? = some (.cells #[.int .i64 v.f0, .int .i64 v.f1, .string v.f2, .slice A3 v.f3.length c3, .slice A4 v.f4.length c4] 48 (0, 0)) ∧ VF W (fun k => lo ≤ k) v A3 c3 A4 c4 ∧ Sm v j
theorem BV.step {lo b j : Nat} {W W1 : World} (h : BV lo W b j) (hb : W1.heap[b]? = W.heap[b]?) (hm : ∀ k, lo ≤ k → k < W.heap.size → W1.heap[k]? = W.heap[k]?) : BV lo W1 b j := by
  obtain ⟨v, A3, c3, A4, c4, h1, h2, h3⟩ := h
  exact ⟨v, A3, c3, A4, c4, hb.trans h1, h2.step (fun k hk hl => hm k hk hl), h3⟩
theorem BV.mono {lo b j j' : Nat} {W : World} (h : BV lo W b j) (hj : j ≤ j') : BV lo W b j' := by
  obtain ⟨v, A3, c3, A4, c4, h1, h2, h3⟩ := h
  exact ⟨v, A3, c3, A4, c4, h1, h2, h3.mono hj⟩
theorem BV.lt {lo b j : Nat} {W : World} (h : BV lo W b j) : b < W.heap.size := by
  obtain ⟨v, A3, c3, A4, c4, h1, _⟩ := h
  exact blk_lt h1
def lvNames : List ByteArray := [⟨#[98, 97, 110]⟩, ⟨#[101, 118, 101, 110, 116, 115, 95, 100, 101, 102, 97, 117, 108, 116]⟩, ⟨#[105, 110, 118, 105, 116, 101]⟩, ⟨#[107, 105, 99, 107]⟩, ⟨#[115, 116, 97, 116, 101, 95, 100, 101, 102, 97, 117, 108, 116]⟩, ⟨#[117, 115, 101, 114, 115, 95, 100, 101, 102, 97, 117, 108, 116]⟩]
structure LV (w W : World) (j : Nat) : Prop where
  below : Below w.heap.size w W
  b2 : W.heap[w.heap.size]? = some (.cells #[.int .i64 0, .int .i64 0, .string ⟨#[]⟩, .slice none 0 0, .slice none 0 0] 48 (0, 0))
  bv : BV (w.heap.size + 5) W (w.heap.size + 1) j
  bu : BV (w.heap.size + 5) W (w.heap.size + 2) j
  be : BV (w.heap.size + 5) W (w.heap.size + 3) j
  nm : W.heap[w.heap.size + 4]? = some (.cells (lvNames.map Value.string).toArray 9 (0, 0))
theorem LV.sz {w W : World} {j : Nat} (h : LV w W j) : w.heap.size + 5 ≤ W.heap.size := blk_lt h.nm
theorem LV.later {w W W1 : World} {j : Nat} (h : LV w W j) (hb : Below W.heap.size W W1) : LV w W1 j :=
  ⟨below_then h.below h.below.size hb, (hb.block _ (blk_lt h.b2)).trans h.b2, h.bv.step (hb.block _ h.bv.lt) (fun k _ hk => hb.block k hk), h.bu.step (hb.block _ h.bu.lt) (fun k _ hk => hb.block k hk), h.be.step (hb.block _ h.be.lt) (fun k _ hk => hb.block k hk), (hb.block _ (blk_lt h.nm)).trans h.nm⟩
theorem LV.mono {w W : World} {j j' : Nat} (h : LV w W j) (hj : j ≤ j') : LV w W j' := ⟨h.below, h.b2, h.bv.mono hj, h.bu.mono hj, h.be.mono hj, h.nm⟩
section
variable {w W : World} {j : Nat} {r : SV} {A3 A4 : Option Addr} {c3 c4 : Nat}
theorem BV.put {lo b : Nat} (hb : b < lo) (h0 : BV lo W b j) (hr : VF W (fun k => lo ≤ k) r A3 c3 A4 c4) (hs : Sm r (j + 1)) : BV lo (five W b (.int .i64 r.f0) (.int .i64 r.f1) (.string r.f2) (.slice A3 r.f3.length c3) (.slice A4 r.f4.length c4)) b (j + 1) := by
  obtain ⟨v, B3, d3, B4, d4, h1, _⟩ := h0
  exact ⟨r, A3, c3, A4, c4, five_put h1, hr.step (fun k hk _ => five_far (by have : lo ≤ k := hk; omega)), hs⟩
theorem BV.far {lo b b' : Nat} {x0 x1 x2 x3 x4 : Value} (hb : b < lo) (hne : b' ≠ b) (h : BV lo W b' j) : BV lo (five W b x0 x1 x2 x3 x4) b' (j + 1) :=
  (h.step (five_far hne) (fun k hk _ => five_far (by omega))).mono (Nat.le_succ _)
theorem LV.put1 (h : LV w W j) (hr : VF W (fun k => w.heap.size + 5 ≤ k) r A3 c3 A4 c4) (hs : Sm r (j + 1)) : LV w (five W (w.heap.size + 1) (.int .i64 r.f0) (.int .i64 r.f1) (.string r.f2) (.slice A3 r.f3.length c3) (.slice A4 r.f4.length c4)) (j + 1) :=
  ⟨five_below (by omega) h.below, (five_far (by omega)).trans h.b2, BV.put (by omega) h.bv hr hs, BV.far (by omega) (by omega) h.bu, BV.far (by omega) (by omega) h.be, (five_far (by omega)).trans h.nm⟩
theorem LV.put2 (h : LV w W j) (hr : VF W (fun k => w.heap.size + 5 ≤ k) r A3 c3 A4 c4) (hs : Sm r (j + 1)) : LV w (five W (w.heap.size + 2) (.int .i64 r.f0) (.int .i64 r.f1) (.string r.f2) (.slice A3 r.f3.length c3) (.slice A4 r.f4.length c4)) (j + 1) :=
  ⟨five_below (by omega) h.below, (five_far (by omega)).trans h.b2, BV.far (by omega) (by omega) h.bv, BV.put (by omega) h.bu hr hs, BV.far (by omega) (by omega) h.be, (five_far (by omega)).trans h.nm⟩
theorem LV.put3 (h : LV w W j) (hr : VF W (fun k => w.heap.size + 5 ≤ k) r A3 c3 A4 c4) (hs : Sm r (j + 1)) : LV w (five W (w.heap.size + 3) (.int .i64 r.f0) (.int .i64 r.f1) (.string r.f2) (.slice A3 r.f3.length c3) (.slice A4 r.f4.length c4)) (j + 1) :=
  ⟨five_below (by omega) h.below, (five_far (by omega)).trans h.b2, BV.far (by omega) (by omega) h.bv, BV.far (by omega) (by omega) h.bu, BV.put (by omega) h.be hr hs, (five_far (by omega)).trans h.nm⟩
end
theorem With_lv {W : World} {lo j : Nat} {v x : SV} {A3 A4 B3 B4 : Option Addr} {c3 c4 d3 d4 : Nat} {key : ByteArray} (hlo : lo ≤ W.heap.size) (hv : VF W (fun k => lo ≤ k) v A3 c3 A4 c4) (hx : VF W (fun k => lo ≤ k) x B3 d3 B4 d4) (hk : key.size < 100) (hs : Sm v j) (hj : j < 900) (hxd : Dq j x) :
    Calls Tryz.prog 60 #[vAgg v A3 c3 A4 c4, .string key, vAgg x B3 d3 B4 d4] W fun e w' =>
      ∃ r A3' c3' A4' c4', e = .returned (.agg #[.int .i64 r.f0, .int .i64 r.f1, .string r.f2, .slice A3' r.f3.length c3', .slice A4' r.f4.length c4']) ∧ VF w' (fun k => lo ≤ k) r A3' c3' A4' c4' ∧ Sm r (j + 1) ∧ Below W.heap.size W w' :=
  (With.walk v A3 c3 A4 c4 key x B3 d3 B4 d4 (fun k => lo ≤ k ∧ k < W.heap.size) W hv.bound hx.bound (fun k hk => hk.2) (by have := hs.a; omega) (by have := hs.b; omega) (fun s h => by have := hs.s s h; omega)).mono
    fun e w' ⟨r, A3', c3', A4', c4', he, hr, ho, hb⟩ => ⟨r, A3', c3', A4', c4', he, hr.mono (fun k hk => hk.elim (fun h => h.1) (fun h => Nat.le_trans hlo h)),
      ⟨by have := ho.len4; have := hs.a; omega, by have := ho.len5; have := hs.b; omega, fun s h => (ho.mem s h).elim (fun h => hs.s s h) (fun e => by rw [e]; exact hk), fun y hy => (ho.elems y hy).elim (fun h => Dq.up _ _ (hs.deep y h)) (fun e => by rw [e]; exact Dq.up _ _ hxd)⟩, hb⟩
theorem user_f (a : Nat) (ha : a < 256) : ∃ key, heliastlaw14_User.f (a : Int) = some key ∧ key.size < 100 ∧ key ≠ ⟨#[]⟩ := by
  unfold heliastlaw14_User.f
  have e : Int.tmod (a : Int) 4 = ((a % 4 : Nat) : Int) := by rw [Int.tmod_eq_emod_of_nonneg (by omega)]; omega
  rw [Option.bind_some, e, if_pos (by omega), if_pos (by simp; omega)]
  have hq : a % 4 < 4 := Nat.mod_lt _ (by decide)
  unfold rdOf
  rw [Int.toNat_natCast]
  generalize a % 4 = q at hq ⊢
  match q, hq with
  | 0, _ => exact ⟨_, rfl, by decide, by decide⟩
  | 1, _ => exact ⟨_, rfl, by decide, by decide⟩
  | 2, _ => exact ⟨_, rfl, by decide, by decide⟩
  | 3, _ => exact ⟨_, rfl, by decide, by decide⟩
theorem add_one' (ad : Addr) (i : Nat) : ad.add (i + 1) = ⟨ad.block, ad.off + (i + 1), none⟩ := by unfold Addr.add; simp
theorem VF_plain (W : World) (ok : Nat → Prop) (a b : Int) (s : ByteArray) : VF W ok (⟨a, b, s, [], []⟩ : SV) none 0 none 0 := ⟨Nat.le_refl _, Kd.F_nil _ _ _, Nat.le_refl _, Kd.F_nil _ _ _⟩
theorem LV.start {w W : World} (h : ((((w.alloc (.cells #[.int .i64 0, .int .i64 0, .string ⟨#[]⟩, .slice none 0 0, .slice none 0 0] 48)).alloc (.cells #[.int .i64 5, .int .i64 0, .string ⟨#[]⟩, .slice none 0 0, .slice none 0 0] 48)).alloc (.cells #[.int .i64 5, .int .i64 0, .string ⟨#[]⟩, .slice none 0 0, .slice none 0 0] 48)).alloc (.cells #[.int .i64 5, .int .i64 0, .string ⟨#[]⟩, .slice none 0 0, .slice none 0 0] 48)).alloc (.cells (lvNames.map Value.string).toArray 9) = W) : LV w W 0 := by
  obtain ⟨W3, hW3⟩ : ∃ W3, ((w.alloc (.cells #[.int .i64 0, .int .i64 0, .string ⟨#[]⟩, .slice none 0 0, .slice none 0 0] 48)).alloc (.cells #[.int .i64 5, .int .i64 0, .string ⟨#[]⟩, .slice none 0 0, .slice none 0 0] 48)).alloc (.cells #[.int .i64 5, .int .i64 0, .string ⟨#[]⟩, .slice none 0 0, .slice none 0 0] 48) = W3 := ⟨_, rfl⟩
  obtain ⟨h1, h2, h3, h4, h5⟩ := three_boxes hW3
  rw [hW3] at h
  have n1 := heap_alloc_new W3 (.cells #[.int .i64 5, .int .i64 0, .string ⟨#[]⟩, .slice none 0 0, .slice none 0 0] 48)
  have n2 := heap_alloc_new (W3.alloc (.cells #[.int .i64 5, .int .i64 0, .string ⟨#[]⟩, .slice none 0 0, .slice none 0 0] 48)) (.cells (lvNames.map Value.string).toArray 9)
  rw [World.size_alloc] at n2
  rw [h5] at n1 n2
  have hb : Below W3.heap.size W3 W := by rw [← h]; exact ((Below.refl _ _).alloc (Nat.le_refl _) _).alloc (by simp) _
  have bv : ∀ b, W.heap[b]? = some (.cells #[.int .i64 5, .int .i64 0, .string ⟨#[]⟩, .slice none 0 0, .slice none 0 0] 48 (0, 0)) → BV (w.heap.size + 5) W b 0 := fun b hb =>
    ⟨⟨5, 0, ⟨#[]⟩, [], []⟩, none, 0, none, 0, hb, VF_plain _ _ _ _ _, ⟨Nat.le_refl _, Nat.le_refl _, (fun s h => by cases h), fun y h => by cases h⟩⟩
  refine ⟨below_then h1 h1.size hb, (hb.block _ (blk_lt h2)).trans h2, bv _ ((hb.block _ (blk_lt h3)).trans h3), bv _ ((hb.block _ (blk_lt h4)).trans h4), bv _ ?_, ?_⟩
  · rw [← h]; exact blk_alloc n1 _
  · rw [← h]; exact n2
set_option maxHeartbeats 8000000 in
set_option maxRecDepth 100000 in
theorem Levels.walk (A0 : Option Addr) (c0 : Nat) (c : List Int) (w : World) (hr0 : (Kd.int .u8).C w A0 c.length c) (hc0 : c.length ≤ c0) (hb : ∀ x ∈ c, 0 ≤ x ∧ x < 256) :
    Calls Tryz.prog 63 #[.slice A0 c.length c0] w fun e w' => ∃ r A3' c3' A4' c4', e = .returned (.agg #[.int .i64 r.f0, .int .i64 r.f1, .string r.f2, .slice A3' r.f3.length c3', .slice A4' r.f4.length c4']) ∧ VF w' (fun k => w.heap.size ≤ k) r A3' c3' A4' c4' ∧ Sm r 40 ∧ Below w.heap.size w w' := by
  have hu32 := Tryz.underlying48
  have HR := Aside0.mk hr0
  have HC := Aside0.mk hb
  have hlen : c.length ≤ 9223372036854775807 := hr0.2.1
  clear hr0 hb
  go_enter Tryz.func63, Tryz.ntmps63
  go_upto_region 5 with fail
  generalize hwa : ((((w.alloc _).alloc _).alloc _).alloc _).alloc _ = W0
  have HL0 := Aside0.mk (LV.start hwa)
  clear hwa
  go_upto_block 0 with fail
  go_cut [7] (fun s7 wx => Aside0 (LV w wx 31))
  case first =>
    go_wp2_with fail
    go_loopg [7] 40 (fun gg v7 wr => ∃ i : Nat, v7 = .int .i64 (i : Int) ∧ i ≤ 31 ∧ 40 - i ≤ gg ∧ Aside0 (LV w wr i))
    case atStart => exact ⟨0, rfl, by omega, by omega, HL0⟩
    case round =>
      obtain ⟨i, rfl, hi31, hg, HL⟩ := hrel
      by_cases hgo : i + 1 < c.length ∧ i < 30
      · obtain ⟨hlt1, hlt30⟩ := hgo
        have hltz1 : (i : Int) + 1 < (c.length : Int) := by omega
        have hltz30 : (i : Int) < 30 := by omega
        have hltz : (i : Int) < (c.length : Int) := by omega
        have hbl := HL.out.below
        obtain ⟨ad, e, hx1⟩ := C_num HR.out hlt1
        cases e
        obtain ⟨ad2, e, hx0⟩ := C_num HR.out (show i < c.length by omega)
        cases e
        obtain ⟨a1, b1⟩ := HC.out c[i + 1] (List.getElem_mem hlt1)
        obtain ⟨a0, b0⟩ := HC.out c[i] (List.getElem_mem (by omega))
        obtain ⟨x1, hX1⟩ : ∃ x1 : Nat, c[i + 1] = (x1 : Int) := ⟨c[i + 1].toNat, by omega⟩
        obtain ⟨x0, hX0⟩ : ∃ x0 : Nat, c[i] = (x0 : Int) := ⟨c[i].toNat, by omega⟩
        rw [hX1] at hx1 a1 b1
        rw [hX0] at hx0 a0 b0
        replace hx1 := (hbl.cell (World.block_lt_of_cell? w _ hx1)).trans hx1
        replace hx0 := (hbl.cell (World.block_lt_of_cell? w _ hx0)).trans hx0
        rw [add_one'] at hx1
        clear hX1 hX0
        obtain ⟨W7, hW7⟩ : ∃ W7, W7 = wr.alloc (.cells #[.int .i64 0, .int .i64 10, .int .i64 50, .int .i64 99, .int .i64 100, .int .i64 101, .int .i64 (-5)] 2) := ⟨_, rfl⟩
        have hb7 : Below wr.heap.size wr W7 := by rw [hW7]; exact (Below.refl _ _).alloc (Nat.le_refl _) _
        obtain ⟨z, hz⟩ : ∃ z, W7.cell? ⟨wr.heap.size, x1 % 7, none⟩ = some (.int .i64 z) := by
          rw [hW7, blk_cell (heap_alloc_new wr _)]
          have : x1 % 7 < 7 := Nat.mod_lt _ (by decide)
          generalize x1 % 7 = q at this
          match q, this with
          | 0, _ => exact ⟨_, rfl⟩
          | 1, _ => exact ⟨_, rfl⟩
          | 2, _ => exact ⟨_, rfl⟩
          | 3, _ => exact ⟨_, rfl⟩
          | 4, _ => exact ⟨_, rfl⟩
          | 5, _ => exact ⟨_, rfl⟩
          | 6, _ => exact ⟨_, rfl⟩
        have h70 : 0 ≤ (x1 : Int) % 7 := by omega
        have h77 : (x1 : Int) % 7 < 7 := by omega
        have h7t : ((x1 : Int) % 7).toNat = x1 % 7 := by omega
        have HX0 := Aside0.mk hx0
        have hx17 := pw_cell_below hb7 hx1
        have HNUM := Aside0.mk (heliastref02_Num.calls z 2 z ⟨#[]⟩ [] [] W7 rfl)
        have HB7 := Aside0.mk hb7
        rw [hW7] at hz hx17 HNUM HB7
        have HW7 := Aside0.mk hW7
        clear hW7 hb7 hbl
        go_wp2_with fail
        refine HNUM.out.mono ?_
        rintro e W8 ⟨n3, n4, rfl, hr3, hr4, hb8⟩
        obtain ⟨X3, Xc3, rfl⟩ := Kd.R_slice hr3
        obtain ⟨X4, Xc4, rfl⟩ := Kd.R_slice hr4
        have hvx : VF W8 (fun k => wr.heap.size ≤ k) (⟨2, z, ⟨#[]⟩, [], []⟩ : SV) X3 Xc3 X4 Xc4 := by
          exact ⟨(Kd.R_reads' hr3).2.1, Kd.F_mono (Kd.F_step (Kd.N_F (Kd.R_N (Kd.R_bound hr3))) (fun _ _ _ => rfl)) (fun k hk => by have := hk.2.1; simp at this; omega), (Kd.R_reads' hr4).2.1, Kd.F_mono (Kd.N_F (Kd.R_N (Kd.R_bound hr4))) (fun k hk => by have := hk.2.1; simp at this; omega)⟩
        have HB8 := Aside0.mk (below_then HB7.out HB7.out.size hb8)
        have HVX := Aside0.mk hvx
        clear hr3 hr4 hb8 hvx hz hx17 HNUM HB7 h70 h77 h7t
        have h4a : 0 ≤ (x0 : Int) % 4 := by omega
        have h4b : (x0 : Int) % 4 < 4 := by omega
        have hx0 := pw_cell_below HB8.out HX0.out
        have hx0' := fun o => pw_cell_below ((Below.refl W8.heap.size W8).alloc (Nat.le_refl _) o) hx0
        by_cases hq0 : (x0 : Int) % 4 = 0
        · skip
          go_upto_region 12 with fail
          generalize hw9 : W8.alloc _ = W9
          have hb89 : Below W8.heap.size W8 W9 := by rw [← hw9]; exact (Below.refl _ _).alloc (Nat.le_refl _) _
          have hbx : W9.heap[W8.heap.size]? = some (.cells #[.int .i64 2, .int .i64 z, .string ⟨#[]⟩, .slice X3 0 Xc3, .slice X4 0 Xc4] 48 (0, 0)) := by rw [← hw9]; exact heap_alloc_new _ _
          replace hx0 := pw_cell_below hb89 hx0
          have HL9 := Aside0.mk (HL.out.later (below_then HB8.out HB8.out.size hb89))
          have HVX9 := Aside0.mk (HVX.out.below hb89)
          obtain ⟨v, V3, Vc3, V4, Vc4, hvc, hvf, hvs⟩ := HL9.out.bv
          obtain ⟨v0, v1, v2, v3, v4⟩ := bx_cells hvc
          obtain ⟨y0, y1, y2, y3, y4⟩ := bx_cells hbx
          have hlo := HL.out.sz
          have HWI : Aside0 (∀ key : ByteArray, key.size < 100 → ∀ W5, Below W9.heap.size W9 W5 → Calls Tryz.prog 60 #[vAgg v V3 Vc3 V4 Vc4, .string key, vAgg (⟨2, z, ⟨#[]⟩, [], []⟩ : SV) X3 Xc3 X4 Xc4] W5 fun e w' => ∃ r A3' c3' A4' c4', e = .returned (.agg #[.int .i64 r.f0, .int .i64 r.f1, .string r.f2, .slice A3' r.f3.length c3', .slice A4' r.f4.length c4']) ∧ VF w' (fun k => w.heap.size + 5 ≤ k) r A3' c3' A4' c4' ∧ Sm r (i + 1) ∧ Below W5.heap.size W5 w') := ⟨fun key hk W5 hb => With_lv (Nat.le_trans HL9.out.sz hb.size) (hvf.below hb) ((HVX9.out.below hb).mono (fun k hk => by have : wr.heap.size ≤ k := hk; omega)) hk hvs (by omega) (Dq.le (d := 0) ⟨by show (0 : Nat) ≤ _; exact Nat.zero_le _, rfl⟩ (Nat.zero_le _))⟩
          clear hw9 hb89 hbx hvc hvf hvs hlo hx0'
          obtain ⟨key, hnk, hkz⟩ : ∃ key : ByteArray, W9.cell? ⟨w.heap.size + 1 + 1 + 1 + 1, x0 / 4 % 6, none⟩ = some (.string key) ∧ key.size < 100 := by
            have hq : x0 / 4 % 6 < 6 := Nat.mod_lt _ (by decide)
            have hn := blk_cell HL9.out.nm (x0 / 4 % 6)
            refine ⟨(lvNames[x0 / 4 % 6]'(by simpa [lvNames] using hq)), hn.trans ?_, ?_⟩
            · rw [List.getElem?_toArray, List.getElem?_map, List.getElem?_eq_getElem (show x0 / 4 % 6 < lvNames.length from hq)]; rfl
            · have : ∀ s ∈ lvNames, s.size < 100 := by decide
              exact this _ (List.getElem_mem _)
          have h256 : (x0 : Int) / 4 % 256 = (x0 : Int) / 4 := by omega
          have h60 : 0 ≤ (x0 : Int) / 4 % 6 := by omega
          have h66 : (x0 : Int) / 4 % 6 < 6 := by omega
          have h6t : ((x0 : Int) / 4 % 6).toNat = x0 / 4 % 6 := by omega
          refine start_ (n := 13) (S := fun w' => w'.cell? ⟨w.heap.size + 1, 0, none⟩ = some (.int .i64 v.f0) ∧ w'.cell? ⟨w.heap.size + 1, 1, none⟩ = some (.int .i64 v.f1) ∧ w'.cell? ⟨w.heap.size + 1, 2, none⟩ = some (.string v.f2) ∧ w'.cell? ⟨w.heap.size + 1, 3, none⟩ = some (.slice V3 v.f3.length Vc3) ∧ w'.cell? ⟨w.heap.size + 1, 4, none⟩ = some (.slice V4 v.f4.length Vc4) ∧ w'.cell? ⟨W8.heap.size, 0, none⟩ = some (.int .i64 2) ∧ w'.cell? ⟨W8.heap.size, 1, none⟩ = some (.int .i64 z) ∧ w'.cell? ⟨W8.heap.size, 2, none⟩ = some (.string ⟨#[]⟩) ∧ w'.cell? ⟨W8.heap.size, 3, none⟩ = some (.slice X3 0 Xc3) ∧ w'.cell? ⟨W8.heap.size, 4, none⟩ = some (.slice X4 0 Xc4) ∧ w'.cell? (ad.add i) = some (.int .u8 (x0 : Int)) ∧ w'.cell? ⟨w.heap.size + 1 + 1 + 1 + 1, x0 / 4 % 6, none⟩ = some (.string key)) (ds := [12]) #[false, false, false, false, false, false, false, false, false, false, false, false, false] (by kernel_rfl) rfl rfl ⟨v0, v1, v2, v3, v4, y0, y1, y2, y3, y4, hx0, hnk⟩ (fun hHeld => ?_)
          refine pure_ (i := 1) (N := some 51) (v := ?_) (a' := ?_) #[false, true, false, false, false, false, false, false, false, false, false, false, false] rfl rfl (by kernel_rfl) (fun _ _ _ h => h) (Or.inl ⟨by rfl, ?_⟩) ?_ ?_
          rotate_left
          · intro w'
            go_simp
            with_reducible rfl
          rotate_left
          · simp only [Act.put, List.setIfInBounds_toArray, List.set_cons_zero, List.set_cons_succ, i64_w, i32_w]
            rfl
          refine pure_ (i := 2) (N := some 52) (v := ?_) (a' := ?_) #[false, true, true, false, false, false, false, false, false, false, false, false, false] rfl rfl (by kernel_rfl) (fun _ _ _ h => h) (Or.inl ⟨by rfl, ?_⟩) ?_ ?_
          rotate_left
          · intro w'
            go_simp
            with_reducible rfl
          rotate_left
          · simp only [Act.put, List.setIfInBounds_toArray, List.set_cons_zero, List.set_cons_succ, i64_w, i32_w]
            rfl
          refine pure_ (i := 3) (N := some 53) (v := ?_) (a' := ?_) #[false, true, true, true, false, false, false, false, false, false, false, false, false] rfl rfl (by kernel_rfl) (fun _ _ _ h => h) (Or.inl ⟨by rfl, ?_⟩) ?_ ?_
          rotate_left
          · intro w'
            go_simp
            with_reducible rfl
          rotate_left
          · simp only [Act.put, List.setIfInBounds_toArray, List.set_cons_zero, List.set_cons_succ, i64_w, i32_w]
            rfl
          refine pure_ (i := 4) (N := some 54) (v := ?_) (a' := ?_) #[false, true, true, true, true, false, false, false, false, false, false, false, false] rfl rfl (by kernel_rfl) (fun _ _ _ h => h) (Or.inl ⟨by rfl, ?_⟩) ?_ ?_
          rotate_left
          · intro w'
            go_simp
            with_reducible rfl
          rotate_left
          · simp only [Act.put, List.setIfInBounds_toArray, List.set_cons_zero, List.set_cons_succ, i64_w, i32_w]
            rfl
          refine take_ (i := 0) (N := some 50) (v := ?_) (a' := ?_) #[true, true, true, true, true, false, false, false, false, false, false, false, false] rfl rfl (by kernel_rfl) (fun _ _ _ h => h) (Or.inl ⟨by rfl, ?_⟩) hHeld ?_ ?_
          rotate_left
          · rintro w' ⟨s0, s1, s2, s3, s4, s5, s6, s7, s8, s9, s10, s11⟩
            go_simp
            with_reducible rfl
          rotate_left
          · simp only [Act.put, List.setIfInBounds_toArray, List.set_cons_zero, List.set_cons_succ, i64_w, i32_w]
            rfl
          refine take_ (i := 5) (N := some 55) (v := ?_) (a' := ?_) #[true, true, true, true, true, true, false, false, false, false, false, false, false] rfl rfl (by kernel_rfl) (fun _ _ _ h => h) (Or.inl ⟨by rfl, ?_⟩) hHeld ?_ ?_
          rotate_left
          · rintro w' ⟨s0, s1, s2, s3, s4, s5, s6, s7, s8, s9, s10, s11⟩
            go_simp
            with_reducible rfl
          rotate_left
          · simp only [Act.put, List.setIfInBounds_toArray, List.set_cons_zero, List.set_cons_succ, i64_w, i32_w]
            rfl
          refine pure_ (i := 6) (N := some 56) (v := ?_) (a' := ?_) #[true, true, true, true, true, true, true, false, false, false, false, false, false] rfl rfl (by kernel_rfl) (fun _ _ _ h => h) (Or.inl ⟨by rfl, ?_⟩) ?_ ?_
          rotate_left
          · intro w'
            go_simp
            with_reducible rfl
          rotate_left
          · simp only [Act.put, List.setIfInBounds_toArray, List.set_cons_zero, List.set_cons_succ, i64_w, i32_w]
            rfl
          refine pure_ (i := 7) (N := some 57) (v := ?_) (a' := ?_) #[true, true, true, true, true, true, true, true, false, false, false, false, false] rfl rfl (by kernel_rfl) (fun _ _ _ h => h) (Or.inl ⟨by rfl, ?_⟩) ?_ ?_
          rotate_left
          · intro w'
            go_simp
            with_reducible rfl
          rotate_left
          · simp only [Act.put, List.setIfInBounds_toArray, List.set_cons_zero, List.set_cons_succ, i64_w, i32_w]
            rfl
          refine pure_ (i := 8) (N := some 58) (v := ?_) (a' := ?_) #[true, true, true, true, true, true, true, true, true, false, false, false, false] rfl rfl (by kernel_rfl) (fun _ _ _ h => h) (Or.inl ⟨by rfl, ?_⟩) ?_ ?_
          rotate_left
          · intro w'
            go_simp
            with_reducible rfl
          rotate_left
          · simp only [Act.put, List.setIfInBounds_toArray, List.set_cons_zero, List.set_cons_succ, i64_w, i32_w]
            rfl
          refine take_ (i := 9) (N := some 59) (v := ?_) (a' := ?_) #[true, true, true, true, true, true, true, true, true, true, false, false, false] rfl rfl (by kernel_rfl) (fun _ _ _ h => h) (Or.inl ⟨by rfl, ?_⟩) hHeld ?_ ?_
          rotate_left
          · rintro w' ⟨s0, s1, s2, s3, s4, s5, s6, s7, s8, s9, s10, s11⟩
            go_simp
            with_reducible rfl
          rotate_left
          · simp only [Act.put, List.setIfInBounds_toArray, List.set_cons_zero, List.set_cons_succ, i64_w, i32_w]
            rfl
          refine take_ (i := 10) (N := some 60) (v := ?_) (a' := ?_) #[true, true, true, true, true, true, true, true, true, true, true, false, false] rfl rfl (by kernel_rfl) (fun _ _ _ h => h) (Or.inl ⟨by rfl, ?_⟩) hHeld ?_ ?_
          rotate_left
          · rintro w' ⟨s0, s1, s2, s3, s4, s5, s6, s7, s8, s9, s10, s11⟩
            go_simp
            with_reducible rfl
          rotate_left
          · simp only [Act.put, List.setIfInBounds_toArray, List.set_cons_zero, List.set_cons_succ, i64_w, i32_w]
            rfl
          refine one_ (i := 11) (N := some 61) #[true, true, true, true, true, true, true, true, true, true, true, true, false] rfl rfl (by kernel_rfl) (by decide) (fun K hK => ?_)
          refine goes_ Tryz.func60 (by kernel_rfl) rfl #[vAgg v V3 Vc3 V4 Vc4, .string key, vAgg (⟨2, z, ⟨#[]⟩, [], []⟩ : SV) X3 Xc3 X4 Xc4] (by rfl) rfl rfl (by simp only [List.map_toArray, List.map_cons, List.map_nil]; rfl) ?_
          with_reducible refine (HWI.out key hkz W9.drew (below_drew1 (Below.refl _ _))).mono ?_
          rintro e W5 ⟨r, R3, Rc3, R4, Rc4, rfl, hr5, hs5, hb5⟩
          refine ⟨_, rfl, ?_⟩
          refine hK.out _ _ ⟨(pw_cell_below hb5 hHeld.1), (pw_cell_below hb5 hHeld.2.1), (pw_cell_below hb5 hHeld.2.2.1), (pw_cell_below hb5 hHeld.2.2.2.1), (pw_cell_below hb5 hHeld.2.2.2.2.1), (pw_cell_below hb5 hHeld.2.2.2.2.2.1), (pw_cell_below hb5 hHeld.2.2.2.2.2.2.1), (pw_cell_below hb5 hHeld.2.2.2.2.2.2.2.1), (pw_cell_below hb5 hHeld.2.2.2.2.2.2.2.2.1), (pw_cell_below hb5 hHeld.2.2.2.2.2.2.2.2.2.1), (pw_cell_below hb5 hHeld.2.2.2.2.2.2.2.2.2.2.1), (pw_cell_below hb5 hHeld.2.2.2.2.2.2.2.2.2.2.2)⟩ (fun hHeld => ?_)
          clear hK K
          refine norm_ (a' := ?_) ?_ ?_
          rotate_left
          · show Act.put _ (some 61) _ = _
            simp only [Act.put, List.setIfInBounds_toArray, List.set_cons_zero, List.set_cons_succ, i64_w, i32_w]
            rfl
          refine last_ (i := 12) (N := none) #[true, true, true, true, true, true, true, true, true, true, true, true, true] rfl rfl (by kernel_rfl) (by decide) (fun K hK => ?_)
          obtain ⟨_, _, _, _, _, hq5, _, _⟩ := (HL9.out.later (below_then (below_drew1 (Below.refl W9.heap.size W9)) (Nat.le_refl _) hb5)).bv
          obtain ⟨z0, z1, z2, z3, z4⟩ := bx_cells hq5
          obtain ⟨f0, f1, f2, f3, f4⟩ := bx_free hq5
          refine skip_ (w1 := ?_) (by rfl) rfl ?_ ?_
          rotate_left
          · go_simp
            rfl
          refine hK.out _ _ ?_
          clear hK K
          refine done_ (by kernel_rfl) ?_

          have HLF := Aside0.mk ((HL9.out.later (below_then (below_drew1 (Below.refl W9.heap.size W9)) (Nat.le_refl _) hb5)).put1 hr5 hs5)
          clear hr5 hs5 hb5 v0 v1 v2 v3 v4 y0 y1 y2 y3 y4 hx0
          go_wp2
          go_roundg (40 - (i + 2))
          case measure => omega
          case rel => exact ⟨i + 2, by go_num, by omega, by omega, ⟨HLF.out.mono (Nat.le_succ _)⟩⟩
        · by_cases hq1 : (x0 : Int) % 4 = 1
          · skip
            go_upto_region 14 with fail
            generalize hw9 : W8.alloc _ = W9
            have hb89 : Below W8.heap.size W8 W9 := by rw [← hw9]; exact (Below.refl _ _).alloc (Nat.le_refl _) _
            have hbx : W9.heap[W8.heap.size]? = some (.cells #[.int .i64 2, .int .i64 z, .string ⟨#[]⟩, .slice X3 0 Xc3, .slice X4 0 Xc4] 48 (0, 0)) := by rw [← hw9]; exact heap_alloc_new _ _
            replace hx0 := pw_cell_below hb89 hx0
            have HL9 := Aside0.mk (HL.out.later (below_then HB8.out HB8.out.size hb89))
            have HVX9 := Aside0.mk (HVX.out.below hb89)
            obtain ⟨v, V3, Vc3, V4, Vc4, hvc, hvf, hvs⟩ := HL9.out.be
            obtain ⟨v0, v1, v2, v3, v4⟩ := bx_cells hvc
            obtain ⟨y0, y1, y2, y3, y4⟩ := bx_cells hbx
            have hlo := HL.out.sz
            have HWI : Aside0 (∀ key : ByteArray, key.size < 100 → ∀ W5, Below W9.heap.size W9 W5 → Calls Tryz.prog 60 #[vAgg v V3 Vc3 V4 Vc4, .string key, vAgg (⟨2, z, ⟨#[]⟩, [], []⟩ : SV) X3 Xc3 X4 Xc4] W5 fun e w' => ∃ r A3' c3' A4' c4', e = .returned (.agg #[.int .i64 r.f0, .int .i64 r.f1, .string r.f2, .slice A3' r.f3.length c3', .slice A4' r.f4.length c4']) ∧ VF w' (fun k => w.heap.size + 5 ≤ k) r A3' c3' A4' c4' ∧ Sm r (i + 1) ∧ Below W5.heap.size W5 w') := ⟨fun key hk W5 hb => With_lv (Nat.le_trans HL9.out.sz hb.size) (hvf.below hb) ((HVX9.out.below hb).mono (fun k hk => by have : wr.heap.size ≤ k := hk; omega)) hk hvs (by omega) (Dq.le (d := 0) ⟨by show (0 : Nat) ≤ _; exact Nat.zero_le _, rfl⟩ (Nat.zero_le _))⟩
            clear hw9 hb89 hbx hvc hvf hvs hlo hx0'
            obtain ⟨key, hnk, hkz⟩ : ∃ key : ByteArray, ([.string ⟨#[116]⟩, .string ⟨#[109, 46, 114, 111, 111, 109, 46, 109, 101, 115, 115, 97, 103, 101]⟩, .string ⟨#[109, 46, 114, 111, 111, 109, 46, 112, 111, 119, 101, 114, 95, 108, 101, 118, 101, 108, 115]⟩] : List Value)[x0 / 4 % 3]? = some (.string key) ∧ key.size < 100 := by
              have hq : x0 / 4 % 3 < 3 := Nat.mod_lt _ (by decide)
              generalize x0 / 4 % 3 = q at hq ⊢
              match q, hq with
              | 0, _ => exact ⟨_, rfl, by decide⟩
              | 1, _ => exact ⟨_, rfl, by decide⟩
              | 2, _ => exact ⟨_, rfl, by decide⟩
            have h256 : (x0 : Int) / 4 % 256 = (x0 : Int) / 4 := by omega
            have h60 : 0 ≤ (x0 : Int) / 4 % 3 := by omega
            have h66 : (x0 : Int) / 4 % 3 < 3 := by omega
            have h6t : ((x0 : Int) / 4 % 3).toNat = x0 / 4 % 3 := by omega
            refine start_ (n := 13) (S := fun w' => w'.cell? ⟨w.heap.size + 1 + 1 + 1, 0, none⟩ = some (.int .i64 v.f0) ∧ w'.cell? ⟨w.heap.size + 1 + 1 + 1, 1, none⟩ = some (.int .i64 v.f1) ∧ w'.cell? ⟨w.heap.size + 1 + 1 + 1, 2, none⟩ = some (.string v.f2) ∧ w'.cell? ⟨w.heap.size + 1 + 1 + 1, 3, none⟩ = some (.slice V3 v.f3.length Vc3) ∧ w'.cell? ⟨w.heap.size + 1 + 1 + 1, 4, none⟩ = some (.slice V4 v.f4.length Vc4) ∧ w'.cell? ⟨W8.heap.size, 0, none⟩ = some (.int .i64 2) ∧ w'.cell? ⟨W8.heap.size, 1, none⟩ = some (.int .i64 z) ∧ w'.cell? ⟨W8.heap.size, 2, none⟩ = some (.string ⟨#[]⟩) ∧ w'.cell? ⟨W8.heap.size, 3, none⟩ = some (.slice X3 0 Xc3) ∧ w'.cell? ⟨W8.heap.size, 4, none⟩ = some (.slice X4 0 Xc4) ∧ w'.cell? (ad.add i) = some (.int .u8 (x0 : Int))) (ds := [12]) #[false, false, false, false, false, false, false, false, false, false, false, false, false] (by kernel_rfl) rfl rfl ⟨v0, v1, v2, v3, v4, y0, y1, y2, y3, y4, hx0⟩ (fun hHeld => ?_)
            refine pure_ (i := 2) (N := some 66) (v := ?_) (a' := ?_) #[false, false, true, false, false, false, false, false, false, false, false, false, false] rfl rfl (by kernel_rfl) (fun _ _ _ h => h) (Or.inl ⟨by rfl, ?_⟩) ?_ ?_
            rotate_left
            · intro w'
              go_simp
              with_reducible rfl
            rotate_left
            · simp only [Act.put, List.setIfInBounds_toArray, List.set_cons_zero, List.set_cons_succ, i64_w, i32_w]
              rfl
            refine pure_ (i := 3) (N := some 67) (v := ?_) (a' := ?_) #[false, false, true, true, false, false, false, false, false, false, false, false, false] rfl rfl (by kernel_rfl) (fun _ _ _ h => h) (Or.inl ⟨by rfl, ?_⟩) ?_ ?_
            rotate_left
            · intro w'
              go_simp
              with_reducible rfl
            rotate_left
            · simp only [Act.put, List.setIfInBounds_toArray, List.set_cons_zero, List.set_cons_succ, i64_w, i32_w]
              rfl
            refine pure_ (i := 4) (N := some 68) (v := ?_) (a' := ?_) #[false, false, true, true, true, false, false, false, false, false, false, false, false] rfl rfl (by kernel_rfl) (fun _ _ _ h => h) (Or.inl ⟨by rfl, ?_⟩) ?_ ?_
            rotate_left
            · intro w'
              go_simp
              with_reducible rfl
            rotate_left
            · simp only [Act.put, List.setIfInBounds_toArray, List.set_cons_zero, List.set_cons_succ, i64_w, i32_w]
              rfl
            refine take_ (i := 0) (N := some 64) (v := ?_) (a' := ?_) #[true, false, true, true, true, false, false, false, false, false, false, false, false] rfl rfl (by kernel_rfl) (fun _ _ _ h => h) (Or.inl ⟨by rfl, ?_⟩) hHeld ?_ ?_
            rotate_left
            · rintro w' ⟨s0, s1, s2, s3, s4, s5, s6, s7, s8, s9, s10⟩
              go_simp
              with_reducible rfl
            rotate_left
            · simp only [Act.put, List.setIfInBounds_toArray, List.set_cons_zero, List.set_cons_succ, i64_w, i32_w]
              rfl
            refine take_ (i := 5) (N := some 69) (v := ?_) (a' := ?_) #[true, false, true, true, true, true, false, false, false, false, false, false, false] rfl rfl (by kernel_rfl) (fun _ _ _ h => h) (Or.inl ⟨by rfl, ?_⟩) hHeld ?_ ?_
            rotate_left
            · rintro w' ⟨s0, s1, s2, s3, s4, s5, s6, s7, s8, s9, s10⟩
              go_simp
              with_reducible rfl
            rotate_left
            · simp only [Act.put, List.setIfInBounds_toArray, List.set_cons_zero, List.set_cons_succ, i64_w, i32_w]
              rfl
            refine pure_ (i := 6) (N := some 70) (v := ?_) (a' := ?_) #[true, false, true, true, true, true, true, false, false, false, false, false, false] rfl rfl (by kernel_rfl) (fun _ _ _ h => h) (Or.inl ⟨by rfl, ?_⟩) ?_ ?_
            rotate_left
            · intro w'
              go_simp
              with_reducible rfl
            rotate_left
            · simp only [Act.put, List.setIfInBounds_toArray, List.set_cons_zero, List.set_cons_succ, i64_w, i32_w]
              rfl
            refine pure_ (i := 7) (N := some 71) (v := ?_) (a' := ?_) #[true, false, true, true, true, true, true, true, false, false, false, false, false] rfl rfl (by kernel_rfl) (fun _ _ _ h => h) (Or.inl ⟨by rfl, ?_⟩) ?_ ?_
            rotate_left
            · intro w'
              go_simp
              with_reducible rfl
            rotate_left
            · simp only [Act.put, List.setIfInBounds_toArray, List.set_cons_zero, List.set_cons_succ, i64_w, i32_w]
              rfl
            refine take_ (i := 10) (N := some 74) (v := ?_) (a' := ?_) #[true, false, true, true, true, true, true, true, false, false, true, false, false] rfl rfl (by kernel_rfl) (fun _ _ _ h => h) (Or.inl ⟨by rfl, ?_⟩) hHeld ?_ ?_
            rotate_left
            · rintro w' ⟨s0, s1, s2, s3, s4, s5, s6, s7, s8, s9, s10⟩
              go_simp
              with_reducible rfl
            rotate_left
            · simp only [Act.put, List.setIfInBounds_toArray, List.set_cons_zero, List.set_cons_succ, i64_w, i32_w]
              rfl
            refine one_ (i := 1) (N := some 65) #[true, true, true, true, true, true, true, true, false, false, true, false, false] rfl rfl (by kernel_rfl) (by decide) (fun K hK => ?_)
            refine value_ (w1 := ?_) (v := ?_) (by rfl) rfl ?_ ?_
            rotate_left 2
            · go_simp
              constructor
              · rfl
              · rfl
            refine hK.out _ _ ⟨(pw_cell_below ((Below.refl _ _).alloc (Nat.le_refl _) _) hHeld.1), (pw_cell_below ((Below.refl _ _).alloc (Nat.le_refl _) _) hHeld.2.1), (pw_cell_below ((Below.refl _ _).alloc (Nat.le_refl _) _) hHeld.2.2.1), (pw_cell_below ((Below.refl _ _).alloc (Nat.le_refl _) _) hHeld.2.2.2.1), (pw_cell_below ((Below.refl _ _).alloc (Nat.le_refl _) _) hHeld.2.2.2.2.1), (pw_cell_below ((Below.refl _ _).alloc (Nat.le_refl _) _) hHeld.2.2.2.2.2.1), (pw_cell_below ((Below.refl _ _).alloc (Nat.le_refl _) _) hHeld.2.2.2.2.2.2.1), (pw_cell_below ((Below.refl _ _).alloc (Nat.le_refl _) _) hHeld.2.2.2.2.2.2.2.1), (pw_cell_below ((Below.refl _ _).alloc (Nat.le_refl _) _) hHeld.2.2.2.2.2.2.2.2.1), (pw_cell_below ((Below.refl _ _).alloc (Nat.le_refl _) _) hHeld.2.2.2.2.2.2.2.2.2.1), (pw_cell_below ((Below.refl _ _).alloc (Nat.le_refl _) _) hHeld.2.2.2.2.2.2.2.2.2.2)⟩ (fun hHeld => ?_)
            clear hK K
            refine norm_ (a' := ?_) ?_ ?_
            rotate_left
            · show Act.put _ (some 65) _ = _
              simp only [Act.put, List.setIfInBounds_toArray, List.set_cons_zero, List.set_cons_succ, i64_w, i32_w]
              rfl
            refine pure_ (i := 8) (N := some 72) (v := ?_) (a' := ?_) #[true, true, true, true, true, true, true, true, true, false, true, false, false] rfl rfl (by kernel_rfl) (fun _ _ _ h => h) (Or.inl ⟨by rfl, ?_⟩) ?_ ?_
            rotate_left
            · intro w'
              go_simp
              with_reducible rfl
            rotate_left
            · simp only [Act.put, List.setIfInBounds_toArray, List.set_cons_zero, List.set_cons_succ, i64_w, i32_w]
              rfl
            refine one_ (i := 9) (N := some 73) #[true, true, true, true, true, true, true, true, true, true, true, false, false] rfl rfl (by kernel_rfl) (by decide) (fun K hK => ?_)
            refine value_ (w1 := ?_) (v := ?_) (by rfl) rfl ?_ ?_
            rotate_left 2
            · go_simp
              constructor
              · rfl
              · rfl
            refine hK.out _ _ ⟨(pw_cell_below (Below.refl _ _) hHeld.1), (pw_cell_below (Below.refl _ _) hHeld.2.1), (pw_cell_below (Below.refl _ _) hHeld.2.2.1), (pw_cell_below (Below.refl _ _) hHeld.2.2.2.1), (pw_cell_below (Below.refl _ _) hHeld.2.2.2.2.1), (pw_cell_below (Below.refl _ _) hHeld.2.2.2.2.2.1), (pw_cell_below (Below.refl _ _) hHeld.2.2.2.2.2.2.1), (pw_cell_below (Below.refl _ _) hHeld.2.2.2.2.2.2.2.1), (pw_cell_below (Below.refl _ _) hHeld.2.2.2.2.2.2.2.2.1), (pw_cell_below (Below.refl _ _) hHeld.2.2.2.2.2.2.2.2.2.1), (pw_cell_below (Below.refl _ _) hHeld.2.2.2.2.2.2.2.2.2.2)⟩ (fun hHeld => ?_)
            clear hK K
            refine norm_ (a' := ?_) ?_ ?_
            rotate_left
            · show Act.put _ (some 73) _ = _
              simp only [Act.put, List.setIfInBounds_toArray, List.set_cons_zero, List.set_cons_succ, i64_w, i32_w]
              rfl
            refine one_ (i := 11) (N := some 75) #[true, true, true, true, true, true, true, true, true, true, true, true, false] rfl rfl (by kernel_rfl) (by decide) (fun K hK => ?_)
            refine goes_ Tryz.func60 (by kernel_rfl) rfl #[vAgg v V3 Vc3 V4 Vc4, .string key, vAgg (⟨2, z, ⟨#[]⟩, [], []⟩ : SV) X3 Xc3 X4 Xc4] (by rfl) rfl rfl (by simp only [List.map_toArray, List.map_cons, List.map_nil]; rfl) ?_
            with_reducible refine (HWI.out key hkz _ (below_drew1 ((Below.refl W9.heap.size W9).alloc (Nat.le_refl _) _))).mono ?_
            rintro e W5 ⟨r, R3, Rc3, R4, Rc4, rfl, hr5, hs5, hb5⟩
            refine ⟨_, rfl, ?_⟩
            refine hK.out _ _ ⟨(pw_cell_below hb5 hHeld.1), (pw_cell_below hb5 hHeld.2.1), (pw_cell_below hb5 hHeld.2.2.1), (pw_cell_below hb5 hHeld.2.2.2.1), (pw_cell_below hb5 hHeld.2.2.2.2.1), (pw_cell_below hb5 hHeld.2.2.2.2.2.1), (pw_cell_below hb5 hHeld.2.2.2.2.2.2.1), (pw_cell_below hb5 hHeld.2.2.2.2.2.2.2.1), (pw_cell_below hb5 hHeld.2.2.2.2.2.2.2.2.1), (pw_cell_below hb5 hHeld.2.2.2.2.2.2.2.2.2.1), (pw_cell_below hb5 hHeld.2.2.2.2.2.2.2.2.2.2)⟩ (fun hHeld => ?_)
            clear hK K
            refine norm_ (a' := ?_) ?_ ?_
            rotate_left
            · show Act.put _ (some 75) _ = _
              simp only [Act.put, List.setIfInBounds_toArray, List.set_cons_zero, List.set_cons_succ, i64_w, i32_w]
              rfl
            refine last_ (i := 12) (N := none) #[true, true, true, true, true, true, true, true, true, true, true, true, true] rfl rfl (by kernel_rfl) (by decide) (fun K hK => ?_)
            obtain ⟨_, _, _, _, _, hq5, _, _⟩ := (HL9.out.later (below_then (below_drew1 ((Below.refl W9.heap.size W9).alloc (Nat.le_refl _) _)) (by rw [show ∀ W : World, W.drew.heap.size = W.heap.size from fun _ => rfl, World.size_alloc]; omega) hb5)).be
            obtain ⟨z0, z1, z2, z3, z4⟩ := bx_cells hq5
            obtain ⟨f0, f1, f2, f3, f4⟩ := bx_free hq5
            refine skip_ (w1 := ?_) (by rfl) rfl ?_ ?_
            rotate_left
            · go_simp
              rfl
            refine hK.out _ _ ?_
            clear hK K
            refine done_ (by kernel_rfl) ?_

            have HLF := Aside0.mk ((HL9.out.later (below_then (below_drew1 ((Below.refl W9.heap.size W9).alloc (Nat.le_refl _) _)) (by rw [show ∀ W : World, W.drew.heap.size = W.heap.size from fun _ => rfl, World.size_alloc]; omega) hb5)).put3 hr5 hs5)
            clear hr5 hs5 hb5 v0 v1 v2 v3 v4 y0 y1 y2 y3 y4 hx0
            go_wp2
            go_roundg (40 - (i + 2))
            case measure => omega
            case rel => exact ⟨i + 2, by go_num, by omega, by omega, ⟨HLF.out.mono (Nat.le_succ _)⟩⟩
          · skip
            go_upto_region 10 with fail
            generalize hw9 : W8.alloc _ = W9
            have hb89 : Below W8.heap.size W8 W9 := by rw [← hw9]; exact (Below.refl _ _).alloc (Nat.le_refl _) _
            have hbx : W9.heap[W8.heap.size]? = some (.cells #[.int .i64 2, .int .i64 z, .string ⟨#[]⟩, .slice X3 0 Xc3, .slice X4 0 Xc4] 48 (0, 0)) := by rw [← hw9]; exact heap_alloc_new _ _
            replace hx0 := pw_cell_below hb89 hx0
            have HL9 := Aside0.mk (HL.out.later (below_then HB8.out HB8.out.size hb89))
            have HVX9 := Aside0.mk (HVX.out.below hb89)
            obtain ⟨v, V3, Vc3, V4, Vc4, hvc, hvf, hvs⟩ := HL9.out.bu
            obtain ⟨v0, v1, v2, v3, v4⟩ := bx_cells hvc
            obtain ⟨y0, y1, y2, y3, y4⟩ := bx_cells hbx
            have hlo := HL.out.sz
            have HWI : Aside0 (∀ key : ByteArray, key.size < 100 → ∀ W5, Below W9.heap.size W9 W5 → Calls Tryz.prog 60 #[vAgg v V3 Vc3 V4 Vc4, .string key, vAgg (⟨2, z, ⟨#[]⟩, [], []⟩ : SV) X3 Xc3 X4 Xc4] W5 fun e w' => ∃ r A3' c3' A4' c4', e = .returned (.agg #[.int .i64 r.f0, .int .i64 r.f1, .string r.f2, .slice A3' r.f3.length c3', .slice A4' r.f4.length c4']) ∧ VF w' (fun k => w.heap.size + 5 ≤ k) r A3' c3' A4' c4' ∧ Sm r (i + 1) ∧ Below W5.heap.size W5 w') := ⟨fun key hk W5 hb => With_lv (Nat.le_trans HL9.out.sz hb.size) (hvf.below hb) ((HVX9.out.below hb).mono (fun k hk => by have : wr.heap.size ≤ k := hk; omega)) hk hvs (by omega) (Dq.le (d := 0) ⟨by show (0 : Nat) ≤ _; exact Nat.zero_le _, rfl⟩ (Nat.zero_le _))⟩
            clear hw9 hb89 hbx hvc hvf hvs hlo hx0'
            obtain ⟨key, hky, hkz, -⟩ := user_f (x0 / 4) (by omega)
            have HUS := Aside0.mk (fun W => heliastlaw14_User.calls ((x0 / 4 : Nat) : Int) key W hky)
            rw [show ((x0 / 4 : Nat) : Int) = IntKind.u8.wrap ((x0 : Int) / 4) by show _ = (x0 : Int) / 4 % 256; omega] at HUS
            clear hky
            refine start_ (n := 10) (S := fun w' => w'.cell? ⟨w.heap.size + 1 + 1, 0, none⟩ = some (.int .i64 v.f0) ∧ w'.cell? ⟨w.heap.size + 1 + 1, 1, none⟩ = some (.int .i64 v.f1) ∧ w'.cell? ⟨w.heap.size + 1 + 1, 2, none⟩ = some (.string v.f2) ∧ w'.cell? ⟨w.heap.size + 1 + 1, 3, none⟩ = some (.slice V3 v.f3.length Vc3) ∧ w'.cell? ⟨w.heap.size + 1 + 1, 4, none⟩ = some (.slice V4 v.f4.length Vc4) ∧ w'.cell? ⟨W8.heap.size, 0, none⟩ = some (.int .i64 2) ∧ w'.cell? ⟨W8.heap.size, 1, none⟩ = some (.int .i64 z) ∧ w'.cell? ⟨W8.heap.size, 2, none⟩ = some (.string ⟨#[]⟩) ∧ w'.cell? ⟨W8.heap.size, 3, none⟩ = some (.slice X3 0 Xc3) ∧ w'.cell? ⟨W8.heap.size, 4, none⟩ = some (.slice X4 0 Xc4) ∧ w'.cell? (ad.add i) = some (.int .u8 (x0 : Int))) (ds := [9]) #[false, false, false, false, false, false, false, false, false, false] (by kernel_rfl) rfl rfl ⟨v0, v1, v2, v3, v4, y0, y1, y2, y3, y4, hx0⟩ (fun hHeld => ?_)
            refine pure_ (i := 1) (N := some 40) (v := ?_) (a' := ?_) #[false, true, false, false, false, false, false, false, false, false] rfl rfl (by kernel_rfl) (fun _ _ _ h => h) (Or.inl ⟨by rfl, ?_⟩) ?_ ?_
            rotate_left
            · intro w'
              go_simp
              with_reducible rfl
            rotate_left
            · simp only [Act.put, List.setIfInBounds_toArray, List.set_cons_zero, List.set_cons_succ, i64_w, i32_w]
              rfl
            refine pure_ (i := 2) (N := some 41) (v := ?_) (a' := ?_) #[false, true, true, false, false, false, false, false, false, false] rfl rfl (by kernel_rfl) (fun _ _ _ h => h) (Or.inl ⟨by rfl, ?_⟩) ?_ ?_
            rotate_left
            · intro w'
              go_simp
              with_reducible rfl
            rotate_left
            · simp only [Act.put, List.setIfInBounds_toArray, List.set_cons_zero, List.set_cons_succ, i64_w, i32_w]
              rfl
            refine pure_ (i := 3) (N := some 42) (v := ?_) (a' := ?_) #[false, true, true, true, false, false, false, false, false, false] rfl rfl (by kernel_rfl) (fun _ _ _ h => h) (Or.inl ⟨by rfl, ?_⟩) ?_ ?_
            rotate_left
            · intro w'
              go_simp
              with_reducible rfl
            rotate_left
            · simp only [Act.put, List.setIfInBounds_toArray, List.set_cons_zero, List.set_cons_succ, i64_w, i32_w]
              rfl
            refine take_ (i := 0) (N := some 39) (v := ?_) (a' := ?_) #[true, true, true, true, false, false, false, false, false, false] rfl rfl (by kernel_rfl) (fun _ _ _ h => h) (Or.inl ⟨by rfl, ?_⟩) hHeld ?_ ?_
            rotate_left
            · rintro w' ⟨s0, s1, s2, s3, s4, s5, s6, s7, s8, s9, s10⟩
              go_simp
              with_reducible rfl
            rotate_left
            · simp only [Act.put, List.setIfInBounds_toArray, List.set_cons_zero, List.set_cons_succ, i64_w, i32_w]
              rfl
            refine take_ (i := 4) (N := some 43) (v := ?_) (a' := ?_) #[true, true, true, true, true, false, false, false, false, false] rfl rfl (by kernel_rfl) (fun _ _ _ h => h) (Or.inl ⟨by rfl, ?_⟩) hHeld ?_ ?_
            rotate_left
            · rintro w' ⟨s0, s1, s2, s3, s4, s5, s6, s7, s8, s9, s10⟩
              go_simp
              with_reducible rfl
            rotate_left
            · simp only [Act.put, List.setIfInBounds_toArray, List.set_cons_zero, List.set_cons_succ, i64_w, i32_w]
              rfl
            refine pure_ (i := 5) (N := some 44) (v := ?_) (a' := ?_) #[true, true, true, true, true, true, false, false, false, false] rfl rfl (by kernel_rfl) (fun _ _ _ h => h) (Or.inl ⟨by rfl, ?_⟩) ?_ ?_
            rotate_left
            · intro w'
              go_simp
              with_reducible rfl
            rotate_left
            · simp only [Act.put, List.setIfInBounds_toArray, List.set_cons_zero, List.set_cons_succ, i64_w, i32_w]
              rfl
            refine take_ (i := 7) (N := some 46) (v := ?_) (a' := ?_) #[true, true, true, true, true, true, false, true, false, false] rfl rfl (by kernel_rfl) (fun _ _ _ h => h) (Or.inl ⟨by rfl, ?_⟩) hHeld ?_ ?_
            rotate_left
            · rintro w' ⟨s0, s1, s2, s3, s4, s5, s6, s7, s8, s9, s10⟩
              go_simp
              with_reducible rfl
            rotate_left
            · simp only [Act.put, List.setIfInBounds_toArray, List.set_cons_zero, List.set_cons_succ, i64_w, i32_w]
              rfl
            refine one_ (i := 6) (N := some 45) #[true, true, true, true, true, true, true, true, false, false] rfl rfl (by kernel_rfl) (by decide) (fun K hK => ?_)
            refine goes_ Tryz.func62 (by kernel_rfl) rfl #[.int .u8 (IntKind.u8.wrap ((x0 : Int) / 4))] (by rfl) rfl rfl (by simp only [List.map_toArray, List.map_cons, List.map_nil]; rfl) ?_
            with_reducible refine (HUS.out _).mono ?_
            rintro e W4 ⟨rfl, hb4⟩
            refine ⟨_, rfl, ?_⟩
            refine hK.out _ _ ⟨(pw_cell_below hb4 hHeld.1), (pw_cell_below hb4 hHeld.2.1), (pw_cell_below hb4 hHeld.2.2.1), (pw_cell_below hb4 hHeld.2.2.2.1), (pw_cell_below hb4 hHeld.2.2.2.2.1), (pw_cell_below hb4 hHeld.2.2.2.2.2.1), (pw_cell_below hb4 hHeld.2.2.2.2.2.2.1), (pw_cell_below hb4 hHeld.2.2.2.2.2.2.2.1), (pw_cell_below hb4 hHeld.2.2.2.2.2.2.2.2.1), (pw_cell_below hb4 hHeld.2.2.2.2.2.2.2.2.2.1), (pw_cell_below hb4 hHeld.2.2.2.2.2.2.2.2.2.2)⟩ (fun hHeld => ?_)
            clear hK K
            refine norm_ (a' := ?_) ?_ ?_
            rotate_left
            · show Act.put _ (some 45) _ = _
              simp only [Act.put, List.setIfInBounds_toArray, List.set_cons_zero, List.set_cons_succ, i64_w, i32_w]
              rfl
            refine one_ (i := 8) (N := some 47) #[true, true, true, true, true, true, true, true, true, false] rfl rfl (by kernel_rfl) (by decide) (fun K hK => ?_)
            refine goes_ Tryz.func60 (by kernel_rfl) rfl #[vAgg v V3 Vc3 V4 Vc4, .string key, vAgg (⟨2, z, ⟨#[]⟩, [], []⟩ : SV) X3 Xc3 X4 Xc4] (by rfl) rfl rfl (by simp only [List.map_toArray, List.map_cons, List.map_nil]; rfl) ?_
            with_reducible refine (HWI.out key hkz W4 (below_then (below_drew1 (Below.refl _ _)) (Nat.le_refl _) hb4)).mono ?_
            rintro e W5 ⟨r, R3, Rc3, R4, Rc4, rfl, hr5, hs5, hb5⟩
            refine ⟨_, rfl, ?_⟩
            refine hK.out _ _ ⟨(pw_cell_below hb5 hHeld.1), (pw_cell_below hb5 hHeld.2.1), (pw_cell_below hb5 hHeld.2.2.1), (pw_cell_below hb5 hHeld.2.2.2.1), (pw_cell_below hb5 hHeld.2.2.2.2.1), (pw_cell_below hb5 hHeld.2.2.2.2.2.1), (pw_cell_below hb5 hHeld.2.2.2.2.2.2.1), (pw_cell_below hb5 hHeld.2.2.2.2.2.2.2.1), (pw_cell_below hb5 hHeld.2.2.2.2.2.2.2.2.1), (pw_cell_below hb5 hHeld.2.2.2.2.2.2.2.2.2.1), (pw_cell_below hb5 hHeld.2.2.2.2.2.2.2.2.2.2)⟩ (fun hHeld => ?_)
            clear hK K
            refine norm_ (a' := ?_) ?_ ?_
            rotate_left
            · show Act.put _ (some 47) _ = _
              simp only [Act.put, List.setIfInBounds_toArray, List.set_cons_zero, List.set_cons_succ, i64_w, i32_w]
              rfl
            refine last_ (i := 9) (N := none) #[true, true, true, true, true, true, true, true, true, true] rfl rfl (by kernel_rfl) (by decide) (fun K hK => ?_)
            obtain ⟨_, _, _, _, _, hq5, _, _⟩ := (HL9.out.later (below_then (below_then (below_drew1 (Below.refl W9.heap.size W9)) (Nat.le_refl _) hb4) hb4.size hb5)).bu
            obtain ⟨z0, z1, z2, z3, z4⟩ := bx_cells hq5
            obtain ⟨f0, f1, f2, f3, f4⟩ := bx_free hq5
            refine skip_ (w1 := ?_) (by rfl) rfl ?_ ?_
            rotate_left
            · go_simp
              rfl
            refine hK.out _ _ ?_
            clear hK K
            refine done_ (by kernel_rfl) ?_

            have HLF := Aside0.mk ((HL9.out.later (below_then (below_then (below_drew1 (Below.refl W9.heap.size W9)) (Nat.le_refl _) hb4) hb4.size hb5)).put2 hr5 hs5)
            clear hr5 hs5 hb5 v0 v1 v2 v3 v4 y0 y1 y2 y3 y4 hx0
            go_wp2
            go_roundg (40 - (i + 2))
            case measure => omega
            case rel => exact ⟨i + 2, by go_num, by omega, by omega, ⟨HLF.out.mono (Nat.le_succ _)⟩⟩
      · have hcase : (¬ (i : Int) + 1 < (c.length : Int)) ∨ ((i : Int) + 1 < (c.length : Int) ∧ ¬ (i : Int) < 30) := by omega
        have HF := Aside0.mk (HL.out.mono hi31)
        clear hgo hg HL
        rcases hcase with h1 | ⟨h1, h2⟩
        all_goals
          go_wp2_with fail
          go_meet
          exact HF
  case rest =>
    have HL := hcut
    have HWB : Aside0 (∀ (j b : Nat) (key : ByteArray) (W : World) (v : SV) (V3 : Option Addr) (Vc3 : Nat) (V4 : Option Addr) (Vc4 : Nat) (x : SV) (X3 : Option Addr) (Xc3 : Nat) (X4 : Option Addr) (Xc4 : Nat), j < 900 → key.size < 100 → w.heap.size + 5 ≤ W.heap.size → VF W (fun k => w.heap.size + 5 ≤ k) v V3 Vc3 V4 Vc4 → Sm v j → VF W (fun k => w.heap.size + 5 ≤ k) x X3 Xc3 X4 Xc4 → Dq j x →
        Calls Tryz.prog 60 #[vAgg v V3 Vc3 V4 Vc4, .string key, vAgg x X3 Xc3 X4 Xc4] W fun e w' => ∃ r A3' c3' A4' c4', e = .returned (.agg #[.int .i64 r.f0, .int .i64 r.f1, .string r.f2, .slice A3' r.f3.length c3', .slice A4' r.f4.length c4']) ∧ VF w' (fun k => w.heap.size + 5 ≤ k) r A3' c3' A4' c4' ∧ Sm r (j + 1) ∧ Below W.heap.size W w') := ⟨fun j b key W v V3 Vc3 V4 Vc4 x X3 Xc3 X4 Xc4 hj hk hs hv hm hx hd => With_lv hs hv hx hk hm hj hd⟩
    clear hcut
    have h3n : 0 ≤ (c.length : Int) % 3 := by omega
    have h5n : 0 ≤ (c.length : Int) % 5 := by omega
    have HP := Aside0.mk HL.out.sz
    by_cases h3 : (c.length : Int) % 3 > 0
    case' pos =>
      obtain ⟨v, V3, Vc3, V4, Vc4, hvc, hvf, hvs⟩ := HL.out.bv
      obtain ⟨x, X3, Xc3, X4, Xc4, hxc, hxf, hxs⟩ := HL.out.bu
      obtain ⟨v0, v1, v2, v3, v4⟩ := bx_cells hvc
      obtain ⟨y0, y1, y2, y3, y4⟩ := bx_cells hxc
      have HC1 := Aside0.mk (HWB.out 32 0 ⟨#[117, 115, 101, 114, 115]⟩ wc v V3 Vc3 V4 Vc4 x X3 Xc3 X4 Xc4 (by decide) (by decide) HL.out.sz hvf (hvs.mono (Nat.le_succ 31)) hxf (hxs.dq (by decide)))
      clear hvc hvf hvs hxc hxf hxs
      go_wp2_with fail
      refine HC1.out.mono ?_
      rintro e W5 ⟨r, R3, Rc3, R4, Rc4, rfl, hr5, hs5, hb5⟩
      have HL5 := Aside0.mk ((HL.out.later hb5).mono (Nat.le_succ 31))
      have HL6 := Aside0.mk (HL5.out.put1 hr5 hs5)
      obtain ⟨_, _, _, _, _, hq5, _, _⟩ := HL5.out.bv
      obtain ⟨z0, z1, z2, z3, z4⟩ := bx_cells hq5
      obtain ⟨f0, f1, f2, f3, f4⟩ := bx_free hq5
      clear hr5 hs5 hb5 hq5 v0 v1 v2 v3 v4 y0 y1 y2 y3 y4 HC1
      go_upto_region 17 with fail
      generalize hw6 : World.setCell _ _ _ = W6
      rw [show five W5 (w.heap.size + 1) (.int .i64 r.f0) (.int .i64 r.f1) (.string r.f2) (.slice R3 r.f3.length Rc3) (.slice R4 r.f4.length Rc4) = W6 from hw6] at HL6
      clear hw6 z0 z1 z2 z3 z4 f0 f1 f2 f3 f4 HL5 HL
    case' neg =>
      go_upto_region 17 with fail
      obtain ⟨W6, hW6⟩ : ∃ W6, W6 = wc := ⟨_, rfl⟩
      subst hW6
      have HL6 := Aside0.mk (HL.out.mono (show 31 ≤ 33 by decide))
      clear HL
    all_goals
      by_cases h5 : (c.length : Int) % 5 > 0
      case' pos =>
        obtain ⟨v, V3, Vc3, V4, Vc4, hvc, hvf, hvs⟩ := HL6.out.bv
        obtain ⟨x, X3, Xc3, X4, Xc4, hxc, hxf, hxs⟩ := HL6.out.be
        obtain ⟨v0, v1, v2, v3, v4⟩ := bx_cells hvc
        obtain ⟨y0, y1, y2, y3, y4⟩ := bx_cells hxc
        have HC1 := Aside0.mk (HWB.out 34 0 ⟨#[101, 118, 101, 110, 116, 115]⟩ W6 v V3 Vc3 V4 Vc4 x X3 Xc3 X4 Xc4 (by decide) (by decide) HL6.out.sz hvf (hvs.mono (Nat.le_succ 33)) hxf (hxs.dq (by decide)))
        clear hvc hvf hvs hxc hxf hxs
        go_wp2_with fail
        refine HC1.out.mono ?_
        rintro e W5 ⟨r, R3, Rc3, R4, Rc4, rfl, hr5, hs5, hb5⟩
        have HL5 := Aside0.mk ((HL6.out.later hb5).mono (Nat.le_succ 33))
        have HL7 := Aside0.mk (HL5.out.put1 hr5 hs5)
        obtain ⟨_, _, _, _, _, hq5, _, _⟩ := HL5.out.bv
        obtain ⟨z0, z1, z2, z3, z4⟩ := bx_cells hq5
        obtain ⟨f0, f1, f2, f3, f4⟩ := bx_free hq5
        clear hr5 hs5 hb5 hq5 v0 v1 v2 v3 v4 y0 y1 y2 y3 y4 HC1
        go_upto_region 19 with fail
        generalize hw6 : World.setCell _ _ _ = W7
        rw [show five W5 (w.heap.size + 1) (.int .i64 r.f0) (.int .i64 r.f1) (.string r.f2) (.slice R3 r.f3.length Rc3) (.slice R4 r.f4.length Rc4) = W7 from hw6] at HL7
        clear hw6 z0 z1 z2 z3 z4 f0 f1 f2 f3 f4 HL5 HL6
      case' neg =>
        go_upto_region 19 with fail
        obtain ⟨W7, hW7⟩ : ∃ W7, W7 = W6 := ⟨_, rfl⟩
        subst hW7
        have HL7 := Aside0.mk (HL6.out.mono (show 33 ≤ 35 by decide))
        clear HL6
      all_goals
        obtain ⟨v, V3, Vc3, V4, Vc4, hvc, hvf, hvs⟩ := HL7.out.bv
        obtain ⟨v0, v1, v2, v3, v4⟩ := bx_cells hvc
        obtain ⟨z0, z1, z2, z3, z4⟩ := bx_cells HL7.out.b2
        obtain ⟨f0, f1, f2, f3, f4⟩ := bx_free HL7.out.b2
        have HVF := Aside0.mk hvf
        have HVS := Aside0.mk hvs
        clear hvc hvf hvs
        go_wp2
        refine bodyPost_ret (results_cell_row rfl _ _ w.heap.size 48 _ (0, 0) _ rfl (five_put HL7.out.b2) Tryz.underlying48 rfl (by kernel_rfl)) rfl ?_
        exact ⟨v, V3, Vc3, V4, Vc4, rfl, (HVF.out.step (fun k hk _ => five_far (by have : w.heap.size + 5 ≤ k := hk; omega))).mono (fun k hk => by have : w.heap.size + 5 ≤ k := hk; omega), HVS.out.mono (by decide), five_below (Nat.le_refl _) HL7.out.below⟩
def heliastref02_Str.f (a0 : ByteArray) : Option (Int × Int × ByteArray × List ByteArray × (List (S48))) := some (3, 0, a0, ([] : List ByteArray), ([] : List (S48)))
set_option maxHeartbeats 8000000 in
set_option maxRecDepth 100000 in
theorem heliastref02_Str.calls (a0 : ByteArray) (r1 : Int) (r2 : Int) (r3 : ByteArray) (r4 : List ByteArray) (r5 : List (S48)) (w : World) (h : heliastref02_Str.f a0 = some (r1, r2, r3, r4, r5)) :
    Calls Tryz.prog 94 #[.string a0] w fun e w' => ∃ v3_ v4_ : Value, e = .returned (.agg #[.int .i64 r1, .int .i64 r2, .string r3, v3_, v4_]) ∧ Kd.R Kd.string 9 w' w.heap.size (fun _ => True) v3_ r4 ∧ Kd.R k48 48 w' w.heap.size (fun k_ => some k_ ≠ (v3_ : Value).ownBlock) v4_ r5 ∧ Below w.heap.size w w' := by
  have hu48 := Tryz.underlying48
  have HB := Aside0.mk (Below.refl w.heap.size w)
  have H : (some (3, 0, a0, ([] : List ByteArray), ([] : List (S48)))) = some (r1, r2, r3, r4, r5) := h
  clear h
  simp only [Option.some.injEq, Prod.mk.injEq] at H
  obtain ⟨rfl, rfl, rfl, rfl, rfl⟩ := H
  go_enter Tryz.func94, Tryz.ntmps94
  go_wp2_with (first | ((with_reducible refine gate_dst (N := 2) rfl ?_); refine box_event ?hg (N := 2) ?hd (cs := #[.int .i64 0, .int .i64 0, .string (⟨#[]⟩ : ByteArray), .slice none 0 0, .slice none 0 0]) (t := 48) ?hr ?_; (case hd => rfl); (case hg => rfl); (case hr => first | (go_simp; done) | (go_simp; rfl)); intro gb161 hg w2 hbox hb; have n0_ := Aside0.mk (below_step (by repeat (first | (with_reducible first | exact HB.out | apply below_alloc | apply pw_below_drewN | apply below_drew1) | exact HB.out)) hb); have n1_ := Aside0.mk (hbox); have n2_ := Aside0.mk ((by rw [hg]; exact (below_size (by repeat (first | (with_reducible first | exact HB.out | apply below_alloc | apply pw_below_drewN | apply below_drew1) | exact HB.out))) : w.heap.size ≤ gb161)); have n3_ := Aside0.mk ((by rw [hg]; exact (below_size (by repeat (first | (with_reducible first | exact HB.out | apply below_alloc | apply pw_below_drewN | apply below_drew1) | exact HB.out))) : w.heap.size ≤ gb161)); clear HB; have HB := n0_; have BK161 := n1_; have GW161 := n2_; have GE161 := n3_; clear n0_ n1_ n2_ n3_; clear hb hbox hg; have hcz3_0 : w2.cell? ⟨gb161, 0, none⟩ = some (.int .i64 0) := (blk_cell BK161.out 0).trans rfl; have hcz3_1 : w2.cell? ⟨gb161, 1, none⟩ = some (.int .i64 0) := (blk_cell BK161.out 1).trans rfl; have hcz3_2 : w2.cell? ⟨gb161, 2, none⟩ = some (.string (⟨#[]⟩ : ByteArray)) := (blk_cell BK161.out 2).trans rfl; have hcz3_3 : w2.cell? ⟨gb161, 3, none⟩ = some (.slice none 0 0) := (blk_cell BK161.out 3).trans rfl; have hcz3_4 : w2.cell? ⟨gb161, 4, none⟩ = some (.slice none 0 0) := (blk_cell BK161.out 4).trans rfl; have hfz3_0 := blk_frozen BK161.out 0; have hfz3_1 := blk_frozen BK161.out 1; have hfz3_2 := blk_frozen BK161.out 2; have hfz3_3 := blk_frozen BK161.out 3; have hfz3_4 := blk_frozen BK161.out 4))
  refine bodyPost_ret (results_cell_row rfl _ _ gb161 48 #[.int .i64 3, .int .i64 0, .string a0, .slice none 0 0, .slice none 0 0] (0, 0) _ rfl (by (with_reducible repeat (first | refine blk_drewN ?_ _ | refine blk_drew ?_ | refine blk_alloc ?_ _)); refine blk_put (cs := #[.int .i64 3, .int .i64 0, .string a0, .slice none 0 0, .slice none 0 0]) ?_ 4 _ rfl; (with_reducible repeat (first | refine blk_drewN ?_ _ | refine blk_drew ?_ | refine blk_alloc ?_ _)); refine blk_put (cs := #[.int .i64 3, .int .i64 0, .string a0, .slice none 0 0, .slice none 0 0]) ?_ 3 _ rfl; (with_reducible repeat (first | refine blk_drewN ?_ _ | refine blk_drew ?_ | refine blk_alloc ?_ _)); refine blk_put (cs := #[.int .i64 3, .int .i64 0, .string (⟨#[]⟩ : ByteArray), .slice none 0 0, .slice none 0 0]) ?_ 2 _ rfl; (with_reducible repeat (first | refine blk_drewN ?_ _ | refine blk_drew ?_ | refine blk_alloc ?_ _)); refine blk_put (cs := #[.int .i64 3, .int .i64 0, .string (⟨#[]⟩ : ByteArray), .slice none 0 0, .slice none 0 0]) ?_ 1 _ rfl; (with_reducible repeat (first | refine blk_drewN ?_ _ | refine blk_drew ?_ | refine blk_alloc ?_ _)); refine blk_put (cs := #[.int .i64 0, .int .i64 0, .string (⟨#[]⟩ : ByteArray), .slice none 0 0, .slice none 0 0]) ?_ 0 _ rfl; (with_reducible repeat (first | refine blk_drewN ?_ _ | refine blk_drew ?_ | refine blk_alloc ?_ _)); exact BK161.out) Tryz.underlying48 rfl (by kernel_rfl)) rfl ?_
  exact ⟨_, _, by first | rfl | (simp [errW_none, errW_some] <;> rfl) | (simp [*, errW_none, errW_some] <;> rfl), by first | exact Kd.R_nil _ _ _ _ _ | exact Kd.N_nil _ _ _ _ _ | exact Kd.V_nil _ _ _ _ _ | exact Kd.Q_nil _ _ _ _ _ | exact Kd.S_nil _ _ _ _ _, by first | exact Kd.R_nil _ _ _ _ _ | exact Kd.N_nil _ _ _ _ _ | exact Kd.V_nil _ _ _ _ _ | exact Kd.Q_nil _ _ _ _ _ | exact Kd.S_nil _ _ _ _ _, by repeat (first | (with_reducible first | exact HB.out | apply below_alloc | apply pw_below_drewN | apply below_drew1 | refine below_set ?_ GE161.out) | exact HB.out)⟩
def heliastlaw15_Body.f (a0 : ByteArray) (a1 : ByteArray) : Option (Int × Int × ByteArray × List ByteArray × (List (S48))) := (heliastref02_Str.f a1).bind fun bt166 => (some (5, 0, (⟨#[]⟩ : ByteArray), (([a0] : List ByteArray)), (([(⟨bt166.1, bt166.2.1, bt166.2.2.1, bt166.2.2.2.1, bt166.2.2.2.2⟩ : S48)] : List (S48)))))
set_option maxHeartbeats 8000000 in
set_option maxRecDepth 100000 in
theorem heliastlaw15_Body.calls (a0 : ByteArray) (a1 : ByteArray) (r1 : Int) (r2 : Int) (r3 : ByteArray) (r4 : List ByteArray) (r5 : List (S48)) (w : World) (h : heliastlaw15_Body.f a0 a1 = some (r1, r2, r3, r4, r5)) :
    Calls Tryz.prog 58 #[.string a0, .string a1] w fun e w' => ∃ v3_ v4_ : Value, e = .returned (.agg #[.int .i64 r1, .int .i64 r2, .string r3, v3_, v4_]) ∧ Kd.R Kd.string 9 w' w.heap.size (fun k_ => (w.heap.size ≤ k_)) v3_ r4 ∧ Kd.N k48 48 w' w.heap.size (fun k_ => (w.heap.size ≤ k_) ∧ some k_ ≠ (v3_ : Value).ownBlock) v4_ r5 ∧ Below w.heap.size w w' := by
  have hu48 := Tryz.underlying48
  have HB := Aside0.mk (Below.refl w.heap.size w)
  have H : ((heliastref02_Str.f a1).bind fun bt166 => (some (5, 0, (⟨#[]⟩ : ByteArray), (([a0] : List ByteArray)), (([(⟨bt166.1, bt166.2.1, bt166.2.2.1, bt166.2.2.2.1, bt166.2.2.2.2⟩ : S48)] : List (S48)))))) = some (r1, r2, r3, r4, r5) := h
  clear h
  obtain ⟨y163, hy163⟩ : ∃ y_ : List ByteArray, y_ = (([a0] : List ByteArray)) := ⟨_, rfl⟩
  replace H : ((heliastref02_Str.f a1).bind fun bt166 => (some (5, 0, (⟨#[]⟩ : ByteArray), y163, (([(⟨bt166.1, bt166.2.1, bt166.2.2.1, bt166.2.2.2.1, bt166.2.2.2.2⟩ : S48)] : List (S48)))))) = some (r1, r2, r3, r4, r5) := by first | (rw [hy163]; with_reducible exact H) | (have H2_ := (Option.bind_some _ _).symm.trans H; rw [hy163]; with_reducible exact H2_) | (have H2_ := (Option.bind_some _ _).symm.trans H; with_reducible exact H2_) | with_reducible exact H | (rw [hy163]; exact H) | exact H
  have Ny163 := Aside0.mk hy163
  clear hy163
  replace H := Option.bind_eq_some_iff.mp H
  obtain ⟨⟨t166, t167, t168, t169, t172⟩, A30, H⟩ := H
  replace H : (some (5, 0, (⟨#[]⟩ : ByteArray), y163, (([(⟨t166, t167, t168, t169, t172⟩ : S48)] : List (S48))))) = some (r1, r2, r3, r4, r5) := H
  have A3 := Aside0.mk A30
  clear A30
  obtain ⟨y175, hy175⟩ : ∃ y_ : List (S48), y_ = (([(⟨t166, t167, t168, t169, t172⟩ : S48)] : List (S48))) := ⟨_, rfl⟩
  replace H : (some (5, 0, (⟨#[]⟩ : ByteArray), y163, y175)) = some (r1, r2, r3, r4, r5) := by first | (rw [hy175]; with_reducible exact H) | (have H2_ := (Option.bind_some _ _).symm.trans H; rw [hy175]; with_reducible exact H2_) | (have H2_ := (Option.bind_some _ _).symm.trans H; with_reducible exact H2_) | with_reducible exact H | (rw [hy175]; exact H) | exact H
  have Ny175 := Aside0.mk hy175
  clear hy175
  simp only [Option.some.injEq, Prod.mk.injEq] at H
  obtain ⟨rfl, rfl, rfl, rfl, rfl⟩ := H
  go_enter Tryz.func58, Tryz.ntmps58
  go_wp2_with (first | ((with_reducible refine gate_dst (N := 4) rfl ?_); refine box_event ?hg (N := 4) ?hd (cs := #[.int .i64 0, .int .i64 0, .string (⟨#[]⟩ : ByteArray), .slice none 0 0, .slice none 0 0]) (t := 48) ?hr ?_; (case hd => rfl); (case hg => rfl); (case hr => first | (go_simp; done) | (go_simp; rfl)); intro gb162 hg w4 hbox hb; have n0_ := Aside0.mk (below_step (by repeat (first | (with_reducible first | exact HB.out | apply below_alloc | apply pw_below_drewN | apply below_drew1) | exact HB.out)) hb); have n1_ := Aside0.mk (hbox); have n2_ := Aside0.mk ((by rw [hg]; exact (below_size (by repeat (first | (with_reducible first | exact HB.out | apply below_alloc | apply pw_below_drewN | apply below_drew1) | exact HB.out))) : w.heap.size ≤ gb162)); have n3_ := Aside0.mk ((by rw [hg]; exact (below_size (by repeat (first | (with_reducible first | exact HB.out | apply below_alloc | apply pw_below_drewN | apply below_drew1) | exact HB.out))) : w.heap.size ≤ gb162)); clear HB; have HB := n0_; have BK162 := n1_; have GW162 := n2_; have GE162 := n3_; clear n0_ n1_ n2_ n3_; clear hb hbox hg) | ((with_reducible refine gate_dst (N := 6) rfl ?_); refine Kd.R_lit Kd.string _ 9 ?hg (N := 6) ?hd (xs := ([a0] : List ByteArray)) (inner := [.string a0]) (ok := fun _ => True) (okp := fun _ => True) ?hr ?hp (fun _ hk => hk) trivial (Below.refl _ _) (Nat.le_refl _) (by simp) ?_; (case hd => rfl); (case hg => rfl); (case hr => first | (go_simp; done) | (go_simp; rfl)); (case hp => exact (Reps.one (show Kd.M Kd.string _ _ _ a0 [.string a0] from rfl) (Reps.none _ _))); intro v164 w5 ho6 hb hg_ hnew_; clear hg_ hnew_; (first | rw [← Ny163.out] at ho6 | (simp only [Int.reduceToNat] at ho6; rw [← Ny163.out] at ho6)); have n0_ := Aside0.mk (Kd.R_lower (Kd.R_newM (M := fun k_ => (w.heap.size ≤ k_)) ho6 (below_size (by repeat (first | (with_reducible first | exact HB.out | apply below_alloc | apply pw_below_drewN | apply below_drew1 | refine below_set ?_ GE162.out) | exact HB.out))) (fun k_ h_ => h_)) (below_size (by repeat (first | (with_reducible first | exact HB.out | apply below_alloc | apply pw_below_drewN | apply below_drew1 | refine below_set ?_ GE162.out) | exact HB.out)))); have n1_ := Aside0.mk (blk_below (g := gb162) (o := .cells #[.int .i64 0, .int .i64 0, .string (⟨#[]⟩ : ByteArray), .slice none 0 0, .slice none 0 0] 48 (0, 0)) (by (with_reducible repeat (first | refine blk_drewN ?_ _ | refine blk_drew ?_ | refine blk_alloc ?_ _)); exact BK162.out) hb); have n2_ := Aside0.mk (below_step (by repeat (first | (with_reducible first | exact HB.out | apply below_alloc | apply pw_below_drewN | apply below_drew1 | refine below_set ?_ GE162.out) | exact HB.out)) hb); clear BK162; clear HB; have HO165 := n0_; have BK162 := n1_; have HB := n2_; clear n0_ n1_ n2_; clear hb ho6) | ((with_reducible refine gate_callee (f := 94) rfl ?_); refine goesL_ (some 8) rfl rfl Tryz.func94 (by kernel_rfl) rfl #[.string a1] rfl (by (try simp only [List.map_toArray, List.map_cons, List.map_nil]); first | done | rfl | (simp only [List.length_drop, List.length_take]; rfl)) ?_; (with_reducible refine (heliastref02_Str.calls a1 t166 t167 t168 t169 t172 _ A3.out).mono ?_); rintro e w7 ⟨v170, v173, rfl, ho0, ho1, hb⟩; refine ⟨_, rfl, ?_⟩; have n0_ := Aside0.mk (Kd.R_elder' (by (with_reducible repeat (first | apply Kd.R_alloc | apply Kd.R_drewN | apply Kd.R_drew)); exact HO165.out) (Kd.R_base ho0) hb); have n1_ := Aside0.mk (Kd.R_lower (Kd.R_new' (Kd.R_newM (M := fun k_ => (w.heap.size ≤ k_)) ho0 (below_size (by repeat (first | (with_reducible first | exact HB.out | apply below_alloc | apply pw_below_drewN | apply below_drew1 | refine below_set ?_ GE162.out) | exact HB.out))) (fun k_ h_ => h_)) (Kd.R_lt (by (with_reducible repeat (first | apply Kd.R_alloc | apply Kd.R_drewN | apply Kd.R_drew)); exact HO165.out))) (below_size (by repeat (first | (with_reducible first | exact HB.out | apply below_alloc | apply pw_below_drewN | apply below_drew1 | refine below_set ?_ GE162.out) | exact HB.out)))); have n2_ := Aside0.mk (Kd.N_lower (Kd.N_mono (ok' := fun k_ => (w.heap.size ≤ k_) ∧ some k_ ≠ (v170 : Value).ownBlock ∧ some k_ ≠ (v164 : Value).ownBlock ∧ k_ ≠ gb162) (Kd.R_N (Kd.R_bound ho1)) (fun k_ hk_ => ⟨(Nat.le_trans (below_size (by repeat (first | (with_reducible first | exact HB.out | apply below_alloc | apply pw_below_drewN | apply below_drew1 | refine below_set ?_ GE162.out) | exact HB.out))) hk_.2.1), hk_.1, (Kd.fresh' (Kd.R_lt (by (with_reducible repeat (first | apply Kd.R_alloc | apply Kd.R_drewN | apply Kd.R_drew)); exact HO165.out)) k_ hk_.2.1), (Kd.freshB (g := gb162) (o := .cells #[.int .i64 0, .int .i64 0, .string (⟨#[]⟩ : ByteArray), .slice none 0 0, .slice none 0 0] 48 (0, 0)) (by (with_reducible repeat (first | refine blk_drewN ?_ _ | refine blk_drew ?_ | refine blk_alloc ?_ _)); exact BK162.out) k_ hk_.2.1)⟩)) (below_size (by repeat (first | (with_reducible first | exact HB.out | apply below_alloc | apply pw_below_drewN | apply below_drew1 | refine below_set ?_ GE162.out) | exact HB.out)))); have n3_ := Aside0.mk (blk_below (g := gb162) (o := .cells #[.int .i64 0, .int .i64 0, .string (⟨#[]⟩ : ByteArray), .slice none 0 0, .slice none 0 0] 48 (0, 0)) (by (with_reducible repeat (first | refine blk_drewN ?_ _ | refine blk_drew ?_ | refine blk_alloc ?_ _)); exact BK162.out) hb); have n4_ := Aside0.mk (below_step (by repeat (first | (with_reducible first | exact HB.out | apply below_alloc | apply pw_below_drewN | apply below_drew1 | refine below_set ?_ GE162.out) | exact HB.out)) hb); clear HO165; clear BK162; clear HB; have HO165 := n0_; have HO171 := n1_; have HO174 := n2_; have BK162 := n3_; have HB := n4_; clear n0_ n1_ n2_ n3_ n4_; (try clear hb); (try clear hb2); (try clear hk); (try clear hi); (try clear ho0); (try clear ho1); obtain ⟨Ao8, co8, eo8⟩ := Kd.R_slice HO171.out; subst eo8; obtain ⟨Ao9, co9, eo9⟩ := Kd.N_slice HO174.out; subst eo9) | ((with_reducible refine gate_dst (N := 9) rfl ?_); refine Kd.N_lit k48 _ 48 ?hg (N' := 9) ?hd (xs := ([(⟨t166, t167, t168, t169, t172⟩ : S48)] : List (S48))) (inner := [.int .i64 t166, .int .i64 t167, .string t168, .slice Ao8 t169.length co8, .slice Ao9 t172.length co9]) (ok := (fun k_ => (w.heap.size ≤ k_) ∧ some k_ ≠ (v164 : Value).ownBlock ∧ k_ ≠ gb162)) (okp := (fun k_ => (w.heap.size ≤ k_) ∧ some k_ ≠ (v164 : Value).ownBlock ∧ k_ ≠ gb162)) ?hr ?hp (fun _ hk => hk) ((show ∀ k_, w7.heap.size ≤ k_ → (fun k_ => (w.heap.size ≤ k_) ∧ some k_ ≠ (v164 : Value).ownBlock ∧ k_ ≠ gb162) k_ from fun k_ hk => ⟨(Nat.le_trans (below_size (by repeat (first | (with_reducible first | exact HB.out | apply below_alloc | apply pw_below_drewN | apply below_drew1 | refine below_set ?_ GE162.out) | exact HB.out))) hk), Kd.fresh' (Kd.R_lt (by (with_reducible repeat (first | apply Kd.R_alloc | apply Kd.R_drewN | apply Kd.R_drew)); exact HO165.out)) k_ hk, Kd.freshB (g := gb162) (o := .cells #[.int .i64 0, .int .i64 0, .string (⟨#[]⟩ : ByteArray), .slice none 0 0, .slice none 0 0] 48 (0, 0)) (by (with_reducible repeat (first | refine blk_drewN ?_ _ | refine blk_drew ?_ | refine blk_alloc ?_ _)); exact BK162.out) k_ hk⟩) _ (Nat.le_refl _)) (Below.refl _ _) (Nat.le_refl _) (by simp) ?_; (case hd => rfl); (case hg => rfl); (case hr => first | (go_simp; done) | (go_simp; rfl)); (case hp => exact (Reps.c5 (show Kd.FK k48 _ _ (⟨t166, t167, t168, t169, t172⟩ : S48) [.int .i64 t166, .int .i64 t167, .string t168, .slice Ao8 t169.length co8, .slice Ao9 t172.length co9] from (k48_mkF _ _ (⟨t166, t167, t168, t169, t172⟩ : S48) (Kd.R_reads' (Kd.R_mono (ok' := (fun k_ => (w.heap.size ≤ k_) ∧ some k_ ≠ (v164 : Value).ownBlock ∧ k_ ≠ gb162)) (Kd.R_types (HO171.out) BK162.out (by decide)) (fun k_ hk => ⟨hk.1.1.1, ⟨hk.1.2, hk.2⟩⟩))).2.1 (Kd.R_F (Kd.R_mono (ok' := (fun k_ => (w.heap.size ≤ k_) ∧ some k_ ≠ (v164 : Value).ownBlock ∧ k_ ≠ gb162)) (Kd.R_types (HO171.out) BK162.out (by decide)) (fun k_ hk => ⟨hk.1.1.1, ⟨hk.1.2, hk.2⟩⟩))) (Kd.N_reads' (Kd.N_mono (ok' := (fun k_ => (w.heap.size ≤ k_) ∧ some k_ ≠ (v164 : Value).ownBlock ∧ k_ ≠ gb162)) (HO174.out) (fun k_ hk => ⟨hk.1, ⟨hk.2.2.1, hk.2.2.2⟩⟩))).2.1 (Kd.N_F (Kd.N_mono (ok' := (fun k_ => (w.heap.size ≤ k_) ∧ some k_ ≠ (v164 : Value).ownBlock ∧ k_ ≠ gb162)) (HO174.out) (fun k_ hk => ⟨hk.1, ⟨hk.2.2.1, hk.2.2.2⟩⟩))))) (Reps.none _ _))); intro v176 w10 ho11 hb hg_ hnew_; clear hg_ hnew_; (first | rw [← Ny175.out] at ho11 | (simp only [Int.reduceToNat] at ho11; rw [← Ny175.out] at ho11)); have n0_ := Aside0.mk (Kd.R_below (by (with_reducible repeat (first | apply Kd.R_alloc | apply Kd.R_drewN | apply Kd.R_drew)); exact HO165.out) hb); have n1_ := Aside0.mk (Kd.N_lower ho11 (below_size (by repeat (first | (with_reducible first | exact HB.out | apply below_alloc | apply pw_below_drewN | apply below_drew1 | refine below_set ?_ GE162.out) | exact HB.out)))); have n2_ := Aside0.mk (blk_below (g := gb162) (o := .cells #[.int .i64 0, .int .i64 0, .string (⟨#[]⟩ : ByteArray), .slice none 0 0, .slice none 0 0] 48 (0, 0)) (by (with_reducible repeat (first | refine blk_drewN ?_ _ | refine blk_drew ?_ | refine blk_alloc ?_ _)); exact BK162.out) hb); have n3_ := Aside0.mk (below_step (by repeat (first | (with_reducible first | exact HB.out | apply below_alloc | apply pw_below_drewN | apply below_drew1 | refine below_set ?_ GE162.out) | exact HB.out)) hb); clear HO165; clear BK162; clear HB; clear HO171; clear HO174; have HO165 := n0_; have HO177 := n1_; have BK162 := n2_; have HB := n3_; clear n0_ n1_ n2_ n3_; clear hb ho11; obtain ⟨Ao12, co12, eo12⟩ := Kd.N_slice HO177.out; subst eo12; obtain ⟨Ao13, co13, eo13⟩ := Kd.R_slice HO165.out; subst eo13; have hcz14_0 : w10.cell? ⟨gb162, 0, none⟩ = some (.int .i64 0) := (blk_cell BK162.out 0).trans rfl; have hcz14_1 : w10.cell? ⟨gb162, 1, none⟩ = some (.int .i64 0) := (blk_cell BK162.out 1).trans rfl; have hcz14_2 : w10.cell? ⟨gb162, 2, none⟩ = some (.string (⟨#[]⟩ : ByteArray)) := (blk_cell BK162.out 2).trans rfl; have hcz14_3 : w10.cell? ⟨gb162, 3, none⟩ = some (.slice none 0 0) := (blk_cell BK162.out 3).trans rfl; have hcz14_4 : w10.cell? ⟨gb162, 4, none⟩ = some (.slice none 0 0) := (blk_cell BK162.out 4).trans rfl; have hfz14_0 := blk_frozen BK162.out 0; have hfz14_1 := blk_frozen BK162.out 1; have hfz14_2 := blk_frozen BK162.out 2; have hfz14_3 := blk_frozen BK162.out 3; have hfz14_4 := blk_frozen BK162.out 4))
  refine bodyPost_ret (results_cell_row rfl _ _ gb162 48 #[.int .i64 5, .int .i64 0, .string (⟨#[]⟩ : ByteArray), .slice Ao13 y163.length co13, .slice Ao12 y175.length co12] (0, 0) _ rfl (by (with_reducible repeat (first | refine blk_drewN ?_ _ | refine blk_drew ?_ | refine blk_alloc ?_ _)); refine blk_put (cs := #[.int .i64 5, .int .i64 0, .string (⟨#[]⟩ : ByteArray), .slice Ao13 y163.length co13, .slice none 0 0]) ?_ 4 _ rfl; (with_reducible repeat (first | refine blk_drewN ?_ _ | refine blk_drew ?_ | refine blk_alloc ?_ _)); refine blk_put (cs := #[.int .i64 5, .int .i64 0, .string (⟨#[]⟩ : ByteArray), .slice none 0 0, .slice none 0 0]) ?_ 3 _ rfl; (with_reducible repeat (first | refine blk_drewN ?_ _ | refine blk_drew ?_ | refine blk_alloc ?_ _)); refine blk_put (cs := #[.int .i64 5, .int .i64 0, .string (⟨#[]⟩ : ByteArray), .slice none 0 0, .slice none 0 0]) ?_ 2 _ rfl; (with_reducible repeat (first | refine blk_drewN ?_ _ | refine blk_drew ?_ | refine blk_alloc ?_ _)); refine blk_put (cs := #[.int .i64 5, .int .i64 0, .string (⟨#[]⟩ : ByteArray), .slice none 0 0, .slice none 0 0]) ?_ 1 _ rfl; (with_reducible repeat (first | refine blk_drewN ?_ _ | refine blk_drew ?_ | refine blk_alloc ?_ _)); refine blk_put (cs := #[.int .i64 0, .int .i64 0, .string (⟨#[]⟩ : ByteArray), .slice none 0 0, .slice none 0 0]) ?_ 0 _ rfl; (with_reducible repeat (first | refine blk_drewN ?_ _ | refine blk_drew ?_ | refine blk_alloc ?_ _)); exact BK162.out) Tryz.underlying48 rfl (by kernel_rfl)) rfl ?_
  exact ⟨_, _, by first | rfl | (simp [errW_none, errW_some] <;> rfl) | (simp [*, errW_none, errW_some] <;> rfl), by (with_reducible repeat (first | apply Kd.R_alloc | apply Kd.R_drewN | apply Kd.R_drew)); exact Kd.R_mono (Kd.R_far (p := ⟨gb162, 4, none⟩) (Kd.R_far (p := ⟨gb162, 3, none⟩) (Kd.R_far (p := ⟨gb162, 2, none⟩) (Kd.R_far (p := ⟨gb162, 1, none⟩) (Kd.R_far (p := ⟨gb162, 0, none⟩) (Kd.R_types HO165.out BK162.out (by decide)) (fun _ hk => hk.2) (.int .i64 5)) (fun _ hk => hk.2) (.int .i64 0)) (fun _ hk => hk.2) (.string (⟨#[]⟩ : ByteArray))) (fun _ hk => hk.2) (.slice Ao13 y163.length co13)) (fun _ hk => hk.2) (.slice Ao12 y175.length co12)) (fun _ hk => hk.1.1.1), by (with_reducible repeat (first | apply Kd.N_alloc | apply Kd.N_drewN | apply Kd.N_drew)); exact Kd.N_mono (Kd.N_far (p := ⟨gb162, 4, none⟩) (Kd.N_far (p := ⟨gb162, 3, none⟩) (Kd.N_far (p := ⟨gb162, 2, none⟩) (Kd.N_far (p := ⟨gb162, 1, none⟩) (Kd.N_far (p := ⟨gb162, 0, none⟩) (Kd.N_mono HO177.out (fun k_ hk => (⟨hk, hk.2.2⟩ : _ ∧ k_ ≠ gb162))) (fun _ hk => hk.2) (.int .i64 5)) (fun _ hk => hk.2) (.int .i64 0)) (fun _ hk => hk.2) (.string (⟨#[]⟩ : ByteArray))) (fun _ hk => hk.2) (.slice Ao13 y163.length co13)) (fun _ hk => hk.2) (.slice Ao12 y175.length co12)) (fun _ hk => ⟨hk.1.1, hk.1.2.1⟩), by repeat (first | (with_reducible first | exact HB.out | apply below_alloc | apply pw_below_drewN | apply below_drew1 | refine below_set ?_ GE162.out) | exact HB.out)⟩
def heliastlaw15_Membership.f (a0 : Int) : Option (ByteArray) := (some (([(⟨#[106, 111, 105, 110]⟩ : ByteArray), (⟨#[105, 110, 118, 105, 116, 101]⟩ : ByteArray), (⟨#[108, 101, 97, 118, 101]⟩ : ByteArray), (⟨#[98, 97, 110]⟩ : ByteArray), (⟨#[107, 110, 111, 99, 107]⟩ : ByteArray)] : List ByteArray) : List ByteArray)).bind fun y178 => (if 0 ≤ (Int.tmod a0 5) then (if (Int.tmod a0 5) < (y178.length : Int) then (some (rdOf ByteArray.empty y178 (Int.tmod a0 5))) else (none)) else (none))
set_option maxHeartbeats 8000000 in
set_option maxRecDepth 100000 in
theorem heliastlaw15_Membership.calls (a0 : Int) (r : ByteArray) (w : World) (h : heliastlaw15_Membership.f a0 = some r) :
    Calls Tryz.prog 64 #[.int .u8 a0] w fun e w' => e = .returned (.string r) ∧ Below w.heap.size w w' := by
  have HB := Aside0.mk (Below.refl w.heap.size w)
  have H : ((some (([(⟨#[106, 111, 105, 110]⟩ : ByteArray), (⟨#[105, 110, 118, 105, 116, 101]⟩ : ByteArray), (⟨#[108, 101, 97, 118, 101]⟩ : ByteArray), (⟨#[98, 97, 110]⟩ : ByteArray), (⟨#[107, 110, 111, 99, 107]⟩ : ByteArray)] : List ByteArray) : List ByteArray)).bind fun y178 => (if 0 ≤ (Int.tmod a0 5) then (if (Int.tmod a0 5) < (y178.length : Int) then (some (rdOf ByteArray.empty y178 (Int.tmod a0 5))) else (none)) else (none))) = some r := h
  clear h
  obtain ⟨y178, hy178⟩ : ∃ y_ : List ByteArray, y_ = (([(⟨#[106, 111, 105, 110]⟩ : ByteArray), (⟨#[105, 110, 118, 105, 116, 101]⟩ : ByteArray), (⟨#[108, 101, 97, 118, 101]⟩ : ByteArray), (⟨#[98, 97, 110]⟩ : ByteArray), (⟨#[107, 110, 111, 99, 107]⟩ : ByteArray)] : List ByteArray)) := ⟨_, rfl⟩
  replace H : (if 0 ≤ (Int.tmod a0 5) then (if (Int.tmod a0 5) < (y178.length : Int) then (some (rdOf ByteArray.empty y178 (Int.tmod a0 5))) else (none)) else (none)) = some r := by first | (rw [hy178]; with_reducible exact H) | (have H2_ := (Option.bind_some _ _).symm.trans H; rw [hy178]; with_reducible exact H2_) | (have H2_ := (Option.bind_some _ _).symm.trans H; with_reducible exact H2_) | with_reducible exact H | (rw [hy178]; exact H) | exact H
  have Ny178 := Aside0.mk hy178
  clear hy178
  obtain ⟨ji2, hji2⟩ : ∃ j_ : Int, (Int.tmod a0 5) = j_ := ⟨_, rfl⟩
  replace H : (if 0 ≤ (ji2) then (if (ji2) < (y178.length : Int) then (some (rdOf ByteArray.empty y178 (ji2))) else (none)) else (none)) = some r := by first | (rw [hji2] at H; exact H) | (simp only [hji2] at H ⊢; exact H)
  by_cases c3 : 0 ≤ (ji2)
  · rw [if_pos c3] at H
    have c3b0 : decide (0 ≤ (ji2)) = true := decide_eq_true c3
    clear c3
    by_cases c4 : (ji2) < (y178.length : Int)
    · rw [if_pos c4] at H
      have c4b0 : decide ((ji2) < (y178.length : Int)) = true := decide_eq_true c4
      clear c4
      obtain rfl := Option.some.inj H
      go_enter Tryz.func64, Tryz.ntmps64
      go_wp2_with (first | ((with_reducible refine gate_dst (N := 3) rfl ?_); refine Kd.R_lit Kd.string _ 9 ?hg (N := 3) ?hd (xs := ([(⟨#[106, 111, 105, 110]⟩ : ByteArray), (⟨#[105, 110, 118, 105, 116, 101]⟩ : ByteArray), (⟨#[108, 101, 97, 118, 101]⟩ : ByteArray), (⟨#[98, 97, 110]⟩ : ByteArray), (⟨#[107, 110, 111, 99, 107]⟩ : ByteArray)] : List ByteArray)) (inner := [.string (⟨#[106, 111, 105, 110]⟩ : ByteArray), .string (⟨#[105, 110, 118, 105, 116, 101]⟩ : ByteArray), .string (⟨#[108, 101, 97, 118, 101]⟩ : ByteArray), .string (⟨#[98, 97, 110]⟩ : ByteArray), .string (⟨#[107, 110, 111, 99, 107]⟩ : ByteArray)]) (ok := fun _ => True) (okp := fun _ => True) ?hr ?hp (fun _ hk => hk) trivial (Below.refl _ _) (Nat.le_refl _) (by simp) ?_; (case hd => rfl); (case hg => rfl); (case hr => first | (go_simp; done) | (go_simp; rfl)); (case hp => exact (Reps.one (show Kd.M Kd.string _ _ _ (⟨#[106, 111, 105, 110]⟩ : ByteArray) [.string (⟨#[106, 111, 105, 110]⟩ : ByteArray)] from rfl) (Reps.one (show Kd.M Kd.string _ _ _ (⟨#[105, 110, 118, 105, 116, 101]⟩ : ByteArray) [.string (⟨#[105, 110, 118, 105, 116, 101]⟩ : ByteArray)] from rfl) (Reps.one (show Kd.M Kd.string _ _ _ (⟨#[108, 101, 97, 118, 101]⟩ : ByteArray) [.string (⟨#[108, 101, 97, 118, 101]⟩ : ByteArray)] from rfl) (Reps.one (show Kd.M Kd.string _ _ _ (⟨#[98, 97, 110]⟩ : ByteArray) [.string (⟨#[98, 97, 110]⟩ : ByteArray)] from rfl) (Reps.one (show Kd.M Kd.string _ _ _ (⟨#[107, 110, 111, 99, 107]⟩ : ByteArray) [.string (⟨#[107, 110, 111, 99, 107]⟩ : ByteArray)] from rfl) (Reps.none _ _))))))); intro v179 w5 ho6 hb hg_ hnew_; clear hg_ hnew_; (first | rw [← Ny178.out] at ho6 | (simp only [Int.reduceToNat] at ho6; rw [← Ny178.out] at ho6)); have n0_ := Aside0.mk (Kd.R_lower ho6 (below_size (by repeat (first | (with_reducible first | exact HB.out | apply below_alloc | apply pw_below_drewN | apply below_drew1) | exact HB.out)))); have n1_ := Aside0.mk (below_step (by repeat (first | (with_reducible first | exact HB.out | apply below_alloc | apply pw_below_drewN | apply below_drew1) | exact HB.out)) hb); clear HB; have HO180 := n0_; have HB := n1_; clear n0_ n1_; clear hb ho6; obtain ⟨Ao7, co7, eo7⟩ := Kd.R_slice HO180.out; subst eo7; have p181 : 0 ≤ ((ji2) : Int) := of_decide_eq_true (by first | (with_reducible assumption) | assumption); have q181 : (ji2) < (y178.length : Int) := of_decide_eq_true (by first | (with_reducible assumption) | assumption); obtain ⟨ad181, e181, hx181_0⟩ := Kd.at_string (Kd.R_reads' HO180.out).2.2 (ji2) p181 q181; cases e181; replace p181 := eq_true p181; replace q181 := eq_true q181))
      go_ret
      exact ⟨by first | rfl | (simp [errW_none, errW_some] <;> rfl) | (simp only [← hji2]; first | rfl | (simp [errW_none, errW_some] <;> rfl)) | (simp [*, errW_none, errW_some] <;> rfl), by repeat (first | (with_reducible first | exact HB.out | apply below_alloc | apply pw_below_drewN | apply below_drew1) | exact HB.out)⟩
    · rw [if_neg c4] at H
      exact absurd H (by simp)
  · rw [if_neg c3] at H
    exact absurd H (by simp)
end Go.Proofs.YtmdjknkhjimgeaaGreat.S
end
section
namespace Go.Proofs.YtmdjknkhjimgeaaGreat.S
open Go.RowKit Go.Proofs.YtmdjknkhjimgeaaGreatW.PrintWords Go.Proofs.YtmdjknkhjimgeaaGreatW.PrintLast Go.Proofs.YtmdjknkhjimgeaaGreatW.PrintMore
attribute [local go_sem] max2_int min2_int max_two min_two max_three min_three max_four min_four
set_option linter.unusedVariables false
set_option linter.unusedSimpArgs false
open Go.Proofs.He
theorem ev15C {W : World} {b : Nat} {t : TypeId} {a0 a1 a2 a3 a4 a5 a6 a7 a8 a9 a10 a11 a12 a13 a14 : Value} (h : W.heap[b]? = some (.cells #[a0, a1, a2, a3, a4, a5, a6, a7, a8, a9, a10, a11, a12, a13, a14] t (0, 0))) : W.cell? ⟨b, 0, none⟩ = some a0 ∧ W.cell? ⟨b, 1, none⟩ = some a1 ∧ W.cell? ⟨b, 2, none⟩ = some a2 ∧ W.cell? ⟨b, 3, none⟩ = some a3 ∧ W.cell? ⟨b, 4, none⟩ = some a4 ∧ W.cell? ⟨b, 5, none⟩ = some a5 ∧ W.cell? ⟨b, 6, none⟩ = some a6 ∧ W.cell? ⟨b, 7, none⟩ = some a7 ∧ W.cell? ⟨b, 8, none⟩ = some a8 ∧ W.cell? ⟨b, 9, none⟩ = some a9 ∧ W.cell? ⟨b, 10, none⟩ = some a10 ∧ W.cell? ⟨b, 11, none⟩ = some a11 ∧ W.cell? ⟨b, 12, none⟩ = some a12 ∧ W.cell? ⟨b, 13, none⟩ = some a13 ∧ W.cell? ⟨b, 14, none⟩ = some a14 :=
  ⟨blk_cell h 0, blk_cell h 1, blk_cell h 2, blk_cell h 3, blk_cell h 4, blk_cell h 5, blk_cell h 6, blk_cell h 7, blk_cell h 8, blk_cell h 9, blk_cell h 10, blk_cell h 11, blk_cell h 12, blk_cell h 13, blk_cell h 14⟩
theorem ev15F {W : World} {b : Nat} {t : TypeId} {a0 a1 a2 a3 a4 a5 a6 a7 a8 a9 a10 a11 a12 a13 a14 : Value} (h : W.heap[b]? = some (.cells #[a0, a1, a2, a3, a4, a5, a6, a7, a8, a9, a10, a11, a12, a13, a14] t (0, 0))) : W.frozen? ⟨b, 0, none⟩ = false ∧ W.frozen? ⟨b, 1, none⟩ = false ∧ W.frozen? ⟨b, 2, none⟩ = false ∧ W.frozen? ⟨b, 3, none⟩ = false ∧ W.frozen? ⟨b, 4, none⟩ = false ∧ W.frozen? ⟨b, 5, none⟩ = false ∧ W.frozen? ⟨b, 6, none⟩ = false ∧ W.frozen? ⟨b, 7, none⟩ = false ∧ W.frozen? ⟨b, 8, none⟩ = false ∧ W.frozen? ⟨b, 9, none⟩ = false ∧ W.frozen? ⟨b, 10, none⟩ = false ∧ W.frozen? ⟨b, 11, none⟩ = false ∧ W.frozen? ⟨b, 12, none⟩ = false ∧ W.frozen? ⟨b, 13, none⟩ = false ∧ W.frozen? ⟨b, 14, none⟩ = false :=
  ⟨blk_frozen h 0, blk_frozen h 1, blk_frozen h 2, blk_frozen h 3, blk_frozen h 4, blk_frozen h 5, blk_frozen h 6, blk_frozen h 7, blk_frozen h 8, blk_frozen h 9, blk_frozen h 10, blk_frozen h 11, blk_frozen h 12, blk_frozen h 13, blk_frozen h 14⟩
theorem ev15_put {W : World} {b t : Nat} {cs : Array Value} (h : W.heap[b]? = some (.cells cs t (0, 0))) (hs : cs.size = 15) (l : List Value) (hl : l.length = 15) : (W.setCells b 0 l).heap[b]? = some (.cells l.toArray t (0, 0)) := by
  obtain ⟨cur, h1, h2, h3⟩ := setCells_row l 0 W cs h (by rw [hs, hl]; decide)
  have e : cur = l.toArray := Array.toList_inj.1 (by
    rw [h3, List.take_zero, List.nil_append, List.drop_of_length_le (by rw [Array.length_toList, hs, hl]; decide), List.append_nil])
  rw [h1, e]
def rS : ByteArray := ⟨#[33, 114, 58, 115]⟩
def evCells (ty key sender : ByteArray) (is : Bool) (time : Int) (v : SV) (A3 : Option Addr) (c3 : Nat) (A4 : Option Addr) (c4 : Nat) : Array Value := #[.string ⟨#[]⟩, .string ty, .string key, .bool is, .string sender, .string rS, .slice none 0 0, .slice none 0 0, .int .i64 0, .int .i64 time, .int .i64 v.f0, .int .i64 v.f1, .string v.f2, .slice A3 v.f3.length c3, .slice A4 v.f4.length c4]
def evZero : Array Value := #[.string ⟨#[]⟩, .string ⟨#[]⟩, .string ⟨#[]⟩, .bool false, .string ⟨#[]⟩, .string ⟨#[]⟩, .slice none 0 0, .slice none 0 0, .int .i64 0, .int .i64 0, .int .i64 0, .int .i64 0, .string ⟨#[]⟩, .slice none 0 0, .slice none 0 0]
def E15 (w : World) (b9 : Nat) (sender : ByteArray) (time : Int) (W : World) : Prop := ∃ (ty key : ByteArray) (is : Bool) (v : SV) (A3 : Option Addr) (c3 : Nat) (A4 : Option Addr) (c4 : Nat), W.heap[b9]? = some (.cells (evCells ty key sender is time v A3 c3 A4 c4) 50 (0, 0)) ∧ VF W (fun k => b9 < k) v A3 c3 A4 c4 ∧ Sm v 40 ∧ W.heap[w.heap.size]? = some (.cells evZero 50 (0, 0)) ∧ Below w.heap.size w W ∧ w.heap.size < b9
def ten (W : World) (b : Nat) (b0 b1 b2 b3 b4 : Value) : World := ((((W.setCell ⟨b, 10, none⟩ b0).setCell ⟨b, 11, none⟩ b1).setCell ⟨b, 12, none⟩ b2).setCell ⟨b, 13, none⟩ b3).setCell ⟨b, 14, none⟩ b4
theorem ten_put {W : World} {b : Nat} {ty key sender : ByteArray} {is : Bool} {time : Int} {v r : SV} {A3 A4 R3 R4 : Option Addr} {c3 c4 d3 d4 : Nat} {t : TypeId} (h : W.heap[b]? = some (.cells (evCells ty key sender is time v A3 c3 A4 c4) t (0, 0))) :
    (ten W b (.int .i64 r.f0) (.int .i64 r.f1) (.string r.f2) (.slice R3 r.f3.length d3) (.slice R4 r.f4.length d4)).heap[b]? = some (.cells (evCells ty key sender is time r R3 d3 R4 d4) t (0, 0)) :=
  blk_put (blk_put (blk_put (blk_put (blk_put h 10 (.int .i64 r.f0) rfl) 11 (.int .i64 r.f1) rfl) 12 (.string r.f2) rfl) 13 (.slice R3 r.f3.length d3) rfl) 14 (.slice R4 r.f4.length d4) rfl
theorem ten_far {W : World} {b : Nat} {b0 b1 b2 b3 b4 : Value} {k : Nat} (h : k ≠ b) : (ten W b b0 b1 b2 b3 b4).heap[k]? = W.heap[k]? :=
  (Below.heap_setCell _ ⟨b, 14, none⟩ b4 k h).trans ((Below.heap_setCell _ ⟨b, 13, none⟩ b3 k h).trans ((Below.heap_setCell _ ⟨b, 12, none⟩ b2 k h).trans ((Below.heap_setCell _ ⟨b, 11, none⟩ b1 k h).trans (Below.heap_setCell _ ⟨b, 10, none⟩ b0 k h))))
theorem ten_below {B : Nat} {w W : World} {b : Nat} {b0 b1 b2 b3 b4 : Value} (hB : B ≤ b) (h : Below B w W) : Below B w (ten W b b0 b1 b2 b3 b4) :=
  ((((h.setCell (p := ⟨b, 10, none⟩) hB b0).setCell (p := ⟨b, 11, none⟩) hB b1).setCell (p := ⟨b, 12, none⟩) hB b2).setCell (p := ⟨b, 13, none⟩) hB b3).setCell (p := ⟨b, 14, none⟩) hB b4
theorem Body_any (W : World) (a0 a1 : ByteArray) (h0 : a0.size < 100) : Calls Tryz.prog 58 #[.string a0, .string a1] W fun e w' => ∃ r A3' c3' A4' c4', e = .returned (.agg #[.int .i64 r.f0, .int .i64 r.f1, .string r.f2, .slice A3' r.f3.length c3', .slice A4' r.f4.length c4']) ∧ VF w' (fun k => W.heap.size ≤ k) r A3' c3' A4' c4' ∧ Sm r 40 ∧ Below W.heap.size W w' :=
  (heliastlaw15_Body.calls a0 a1 5 0 ⟨#[]⟩ [a0] [⟨3, 0, a1, [], []⟩] W rfl).mono fun e w' ⟨v3, v4, he, h3, h4, hb⟩ => by
    obtain ⟨A3, c3, rfl⟩ := Kd.R_slice h3
    obtain ⟨A4, c4, rfl⟩ := Kd.N_slice h4
    exact ⟨⟨5, 0, ⟨#[]⟩, [a0], [⟨3, 0, a1, [], []⟩]⟩, A3, c3, A4, c4, he, ⟨(Kd.R_reads' h3).2.1, Kd.F_mono (Kd.N_F (Kd.R_N h3)) (fun k hk => hk), (Kd.N_reads' h4).2.1, Kd.F_mono (Kd.N_F h4) (fun k hk => hk.1)⟩, ⟨by simp, by simp, (fun s hs => by rw [List.mem_singleton.1 hs]; exact h0), fun y hy => by rw [List.mem_singleton.1 hy]; exact Dq.le (d := 0) ⟨by show (0 : Nat) ≤ _; exact Nat.zero_le _, rfl⟩ (Nat.zero_le _)⟩, hb⟩
theorem mem_f (a : Nat) (ha : a < 256) : ∃ s, heliastlaw15_Membership.f (a : Int) = some s := by
  unfold heliastlaw15_Membership.f
  have e : Int.tmod (a : Int) 5 = ((a % 5 : Nat) : Int) := by rw [Int.tmod_eq_emod_of_nonneg (by omega)]; omega
  rw [Option.bind_some, e, if_pos (by omega), if_pos (by simp; omega)]
  exact ⟨_, rfl⟩
section
variable {w W W1 : World} {b9 : Nat} {ty key sender : ByteArray} {is : Bool} {time : Int} {v r : SV} {A3 A4 R3 R4 : Option Addr} {c3 c4 d3 d4 : Nat}
structure EB (w : World) (b9 : Nat) (W : World) (ty key sender : ByteArray) (is : Bool) (time : Int) (v : SV) (A3 : Option Addr) (c3 : Nat) (A4 : Option Addr) (c4 : Nat) : Prop where
  h9 : W.heap[b9]? = some (.cells (evCells ty key sender is time v A3 c3 A4 c4) 50 (0, 0))
  vf : VF W (fun k => b9 < k) v A3 c3 A4 c4
  sm : Sm v 40
  h8 : W.heap[w.heap.size]? = some (.cells evZero 50 (0, 0))
  below : Below w.heap.size w W
  lt : w.heap.size < b9
theorem EB.later (h : EB w b9 W ty key sender is time v A3 c3 A4 c4) (hb : Below W.heap.size W W1) : EB w b9 W1 ty key sender is time v A3 c3 A4 c4 :=
  ⟨(hb.block _ (blk_lt h.h9)).trans h.h9, h.vf.below hb, h.sm, (hb.block _ (blk_lt h.h8)).trans h.h8, below_then h.below h.below.size hb, h.lt⟩
theorem EB.e15 (h : EB w b9 W ty key sender is time v A3 c3 A4 c4) : E15 w b9 sender time W := ⟨ty, key, is, v, A3, c3, A4, c4, h.h9, h.vf, h.sm, h.h8, h.below, h.lt⟩
theorem EB.far {u : Value} {j : Nat} (h : EB w b9 W ty key sender is time v A3 c3 A4 c4) : VF (W.setCell ⟨b9, j, none⟩ u) (fun k => b9 < k) v A3 c3 A4 c4 ∧ (W.setCell ⟨b9, j, none⟩ u).heap[w.heap.size]? = some (.cells evZero 50 (0, 0)) ∧ Below w.heap.size w (W.setCell ⟨b9, j, none⟩ u) :=
  ⟨h.vf.step (fun k hk _ => Below.heap_setCell W ⟨b9, j, none⟩ u k (by have : b9 < k := hk; show k ≠ b9; omega)), (Below.heap_setCell W ⟨b9, j, none⟩ u _ (by have := h.lt; show w.heap.size ≠ b9; omega)).trans h.h8, h.below.setCell (p := ⟨b9, j, none⟩) (Nat.le_of_lt h.lt) u⟩
theorem EB.ty' (h : EB w b9 W ty key sender is time v A3 c3 A4 c4) (x : ByteArray) : EB w b9 (W.setCell ⟨b9, 1, none⟩ (.string x)) x key sender is time v A3 c3 A4 c4 := ⟨blk_put h.h9 1 _ rfl, h.far.1, h.sm, h.far.2.1, h.far.2.2, h.lt⟩
theorem EB.key' (h : EB w b9 W ty key sender is time v A3 c3 A4 c4) (x : ByteArray) : EB w b9 (W.setCell ⟨b9, 2, none⟩ (.string x)) ty x sender is time v A3 c3 A4 c4 := ⟨blk_put h.h9 2 _ rfl, h.far.1, h.sm, h.far.2.1, h.far.2.2, h.lt⟩
theorem EB.is' (h : EB w b9 W ty key sender is time v A3 c3 A4 c4) (x : Bool) : EB w b9 (W.setCell ⟨b9, 3, none⟩ (.bool x)) ty key sender x time v A3 c3 A4 c4 := ⟨blk_put h.h9 3 _ rfl, h.far.1, h.sm, h.far.2.1, h.far.2.2, h.lt⟩
theorem EB.body' (h : EB w b9 W ty key sender is time v A3 c3 A4 c4) (hr : VF W (fun k => b9 < k) r R3 d3 R4 d4) (hs : Sm r 40) : EB w b9 (ten W b9 (.int .i64 r.f0) (.int .i64 r.f1) (.string r.f2) (.slice R3 r.f3.length d3) (.slice R4 r.f4.length d4)) ty key sender is time r R3 d3 R4 d4 :=
  ⟨ten_put h.h9, hr.step (fun k hk _ => ten_far (by have : b9 < k := hk; omega)), hs, (ten_far (by have := h.lt; omega)).trans h.h8, ten_below (Nat.le_of_lt h.lt) h.below, h.lt⟩
end
set_option maxHeartbeats 8000000 in
set_option maxRecDepth 100000 in
theorem Event.walk (a b t : Nat) (ha : a < 256) (hb : b < 256) (ht : t < 256) (A0 : Option Addr) (c0 : Nat) (c : List Int) (w : World) (hr0 : (Kd.int .u8).C w A0 c.length c) (hc0 : c.length ≤ c0) (hcb : ∀ x ∈ c, 0 ≤ x ∧ x < 256) :
    Calls Tryz.prog 30 #[.int .u8 (a : Int), .int .u8 (b : Int), .int .u8 (t : Int), .slice A0 c.length c0] w fun e w' => ∃ (ty key sender : ByteArray) (is : Bool) (time : Int) (v : SV) (A3 : Option Addr) (c3 : Nat) (A4 : Option Addr) (c4 : Nat), e = .returned (.agg (evCells ty key sender is time v A3 c3 A4 c4)) ∧ VF w' (fun k => w.heap.size ≤ k) v A3 c3 A4 c4 ∧ Sm v 40 ∧ sender ≠ ⟨#[]⟩ ∧ Below w.heap.size w w' := by
  have hu32 := Tryz.underlying48
  have hu34 := Tryz.underlying50
  obtain ⟨sender, hus, -, hsn⟩ := user_f b hb
  have HUS := Aside0.mk (fun W => heliastlaw14_User.calls (b : Int) sender W hus)
  have HSN := Aside0.mk hsn
  have HLV := Aside0.mk (fun W (hW : Below w.heap.size w W) => Levels.walk A0 c0 c W (Kd.C_below hr0 hW) hc0 hcb)
  obtain ⟨q, hq⟩ : ∃ q, q = a % 10 := ⟨_, rfl⟩
  have HQ := Aside0.mk hq
  clear hus hsn hr0 hcb hq
  go_enter Tryz.func30, Tryz.ntmps30
  go_wp2_with fail
  refine (HUS.out _).mono ?_
  rintro e W1 ⟨rfl, hb1⟩
  have h81 := (hb1.block _ (by simp)).trans (heap_alloc_new w (.cells evZero 50))
  have hbw := below_then ((Below.refl w.heap.size w).alloc (Nat.le_refl _) (Obj.cells evZero 50)) (by simp) hb1
  have hs1 : w.heap.size < W1.heap.size := blk_lt h81
  have HB81 := Aside0.mk h81
  have HBW := Aside0.mk hbw
  clear h81 hbw hb1
  have ht6 : 0 ≤ (t : Int) % 6 := by omega
  go_upto_region 2 with fail
  generalize hw2 : W1.alloc _ = W2
  have HE : Aside0 (EB w W1.heap.size W2 ⟨#[116]⟩ ⟨#[]⟩ sender true ((t : Int) % 6) ⟨5, 0, ⟨#[]⟩, [], []⟩ none 0 none 0) := ⟨by
    have hb12 : Below W1.heap.size W1 W2 := by rw [← hw2]; exact (Below.refl _ _).alloc (Nat.le_refl _) _
    exact ⟨by rw [← hw2]; exact heap_alloc_new W1 _, VF_plain _ _ _ _ _, ⟨by simp, by simp, (fun s h => by cases h), fun s h => by cases h⟩, (hb12.block _ (blk_lt HB81.out)).trans HB81.out, below_then HBW.out HBW.out.size hb12, hs1⟩⟩
  obtain ⟨b9, hb9⟩ : ∃ b9, b9 = W1.heap.size := ⟨_, rfl⟩
  rw [← hb9] at HE hs1
  rw [← hb9]
  obtain ⟨time, htm⟩ : ∃ time : Int, time = (t : Int) % 6 := ⟨_, rfl⟩
  rw [← htm] at HE
  rw [← htm]
  clear hw2 HB81 HBW hb9 htm ht6
  have ha10 : 0 ≤ (a : Int) % 10 := by omega
  go_upto_block 0 with fail
  go_cut [] (fun wx => Aside0 (E15 w b9 sender time wx))
  case first =>
    obtain ⟨x0, x1, x2, x3, x4, x5, x6, x7, x8, x9, x10, x11, x12, x13, x14⟩ := ev15C HE.out.h9
    obtain ⟨f0, f1, f2, f3, f4, f5, f6, f7, f8, f9, f10, f11, f12, f13, f14⟩ := ev15F HE.out.h9
    have hcase : (a : Int) % 10 = 0 ∨ (a : Int) % 10 = 1 ∨ (a : Int) % 10 = 2 ∨ (a : Int) % 10 = 3 ∨ (a : Int) % 10 = 4 ∨ (a : Int) % 10 = 5 ∨ (a : Int) % 10 = 6 ∨ (a : Int) % 10 = 7 ∨ (a : Int) % 10 = 8 ∨ (a : Int) % 10 = 9 := by omega
    clear ha10
    rcases hcase with h | h | h | h | h | h | h | h | h | h
    · skip
      have b0 : ((a : Int) % 10 == 0) = true := beq_iff_eq.2 h
      have b1 : ((a : Int) % 10 == 1) = false := beq_eq_false_iff_ne.2 (by omega)
      have b2 : ((a : Int) % 10 == 2) = false := beq_eq_false_iff_ne.2 (by omega)
      have b3 : ((a : Int) % 10 == 3) = false := beq_eq_false_iff_ne.2 (by omega)
      have b4 : ((a : Int) % 10 == 4) = false := beq_eq_false_iff_ne.2 (by omega)
      have b5 : ((a : Int) % 10 == 5) = false := beq_eq_false_iff_ne.2 (by omega)
      have b6 : ((a : Int) % 10 == 6) = false := beq_eq_false_iff_ne.2 (by omega)
      have b7 : ((a : Int) % 10 == 7) = false := beq_eq_false_iff_ne.2 (by omega)
      have b8 : ((a : Int) % 10 == 8) = false := beq_eq_false_iff_ne.2 (by omega)
      clear h
      have HE1 := Aside0.mk (HE.out.ty' ⟨#[109, 46, 114, 111, 111, 109, 46, 112, 111, 119, 101, 114, 95, 108, 101, 118, 101, 108, 115]⟩)
      have HC1 := Aside0.mk (HLV.out _ HE1.out.below)
      go_wp2_with fail
      refine HC1.out.mono ?_
      rintro e W5 ⟨r, R3, d3, R4, d4, rfl, hr, hs, hb5⟩
      have HE5 := Aside0.mk (HE1.out.later hb5)
      have HR := Aside0.mk (hr.mono (fun k hk => (show b9 < k by have := blk_lt HE1.out.h9; have h_ : (W2.setCell ⟨b9, 1, none⟩ (.string ⟨#[109, 46, 114, 111, 111, 109, 46, 112, 111, 119, 101, 114, 95, 108, 101, 118, 101, 108, 115]⟩)).heap.size ≤ k := hk; omega)))
      have HS := Aside0.mk hs
      clear hr hs hb5 x0 x1 x2 x3 x4 x5 x6 x7 x8 x9 x10 x11 x12 x13 x14 f0 f1 f2 f3 f4 f5 f6 f7 f8 f9 f10 f11 f12 f13 f14
      obtain ⟨x0, x1, x2, x3, x4, x5, x6, x7, x8, x9, x10, x11, x12, x13, x14⟩ := ev15C HE5.out.h9
      obtain ⟨f0, f1, f2, f3, f4, f5, f6, f7, f8, f9, f10, f11, f12, f13, f14⟩ := ev15F HE5.out.h9
      go_wp2
      go_meet
      exact ⟨(HE5.out.body' HR.out HS.out).e15⟩
    · skip
      have b0 : ((a : Int) % 10 == 0) = false := beq_eq_false_iff_ne.2 (by omega)
      have b1 : ((a : Int) % 10 == 1) = true := beq_iff_eq.2 h
      have b2 : ((a : Int) % 10 == 2) = false := beq_eq_false_iff_ne.2 (by omega)
      have b3 : ((a : Int) % 10 == 3) = false := beq_eq_false_iff_ne.2 (by omega)
      have b4 : ((a : Int) % 10 == 4) = false := beq_eq_false_iff_ne.2 (by omega)
      have b5 : ((a : Int) % 10 == 5) = false := beq_eq_false_iff_ne.2 (by omega)
      have b6 : ((a : Int) % 10 == 6) = false := beq_eq_false_iff_ne.2 (by omega)
      have b7 : ((a : Int) % 10 == 7) = false := beq_eq_false_iff_ne.2 (by omega)
      have b8 : ((a : Int) % 10 == 8) = false := beq_eq_false_iff_ne.2 (by omega)
      clear h
      have HE1 := Aside0.mk (HE.out.ty' ⟨#[109, 46, 114, 111, 111, 109, 46, 112, 111, 119, 101, 114, 95, 108, 101, 118, 101, 108, 115]⟩)
      have HC1 := Aside0.mk (HLV.out _ HE1.out.below)
      go_wp2_with fail
      refine HC1.out.mono ?_
      rintro e W5 ⟨r, R3, d3, R4, d4, rfl, hr, hs, hb5⟩
      have HE5 := Aside0.mk (HE1.out.later hb5)
      have HR := Aside0.mk (hr.mono (fun k hk => (show b9 < k by have := blk_lt HE1.out.h9; have h_ : (W2.setCell ⟨b9, 1, none⟩ (.string ⟨#[109, 46, 114, 111, 111, 109, 46, 112, 111, 119, 101, 114, 95, 108, 101, 118, 101, 108, 115]⟩)).heap.size ≤ k := hk; omega)))
      have HS := Aside0.mk hs
      clear hr hs hb5 x0 x1 x2 x3 x4 x5 x6 x7 x8 x9 x10 x11 x12 x13 x14 f0 f1 f2 f3 f4 f5 f6 f7 f8 f9 f10 f11 f12 f13 f14
      obtain ⟨x0, x1, x2, x3, x4, x5, x6, x7, x8, x9, x10, x11, x12, x13, x14⟩ := ev15C HE5.out.h9
      obtain ⟨f0, f1, f2, f3, f4, f5, f6, f7, f8, f9, f10, f11, f12, f13, f14⟩ := ev15F HE5.out.h9
      go_wp2
      go_meet
      exact ⟨(HE5.out.body' HR.out HS.out).e15⟩
    · skip
      have b0 : ((a : Int) % 10 == 0) = false := beq_eq_false_iff_ne.2 (by omega)
      have b1 : ((a : Int) % 10 == 1) = false := beq_eq_false_iff_ne.2 (by omega)
      have b2 : ((a : Int) % 10 == 2) = true := beq_iff_eq.2 h
      have b3 : ((a : Int) % 10 == 3) = false := beq_eq_false_iff_ne.2 (by omega)
      have b4 : ((a : Int) % 10 == 4) = false := beq_eq_false_iff_ne.2 (by omega)
      have b5 : ((a : Int) % 10 == 5) = false := beq_eq_false_iff_ne.2 (by omega)
      have b6 : ((a : Int) % 10 == 6) = false := beq_eq_false_iff_ne.2 (by omega)
      have b7 : ((a : Int) % 10 == 7) = false := beq_eq_false_iff_ne.2 (by omega)
      have b8 : ((a : Int) % 10 == 8) = false := beq_eq_false_iff_ne.2 (by omega)
      clear h
      have HE0 := Aside0.mk (HE.out.ty' ⟨#[109, 46, 114, 111, 111, 109, 46, 106, 111, 105, 110, 95, 114, 117, 108, 101, 115]⟩)
      have HE1 := Aside0.mk (HE0.out.later ((Below.refl _ _).alloc (Nat.le_refl _) (.cells #[.string ⟨#[112, 117, 98, 108, 105, 99]⟩, .string ⟨#[105, 110, 118, 105, 116, 101]⟩, .string ⟨#[110, 111, 110, 101]⟩] 9)))
      obtain ⟨s, hnk⟩ : ∃ s : ByteArray, ([.string ⟨#[112, 117, 98, 108, 105, 99]⟩, .string ⟨#[105, 110, 118, 105, 116, 101]⟩, .string ⟨#[110, 111, 110, 101]⟩] : List Value)[b / 4 % 3]? = some (.string s) := by
        have hq : b / 4 % 3 < 3 := Nat.mod_lt _ (by decide)
        generalize b / 4 % 3 = q at hq ⊢
        match q, hq with
        | 0, _ => exact ⟨_, rfl⟩
        | 1, _ => exact ⟨_, rfl⟩
        | 2, _ => exact ⟨_, rfl⟩
      have h60 : 0 ≤ (b : Int) / 4 % 3 := by omega
      have h66 : (b : Int) / 4 % 3 < 3 := by omega
      have h6t : ((b : Int) / 4 % 3).toNat = b / 4 % 3 := by omega
      have HC1 := Aside0.mk (fun W => Body_any W ⟨#[106, 111, 105, 110, 95, 114, 117, 108, 101]⟩ s (by decide))
      go_wp2_with fail
      refine (HC1.out _).mono ?_
      rintro e W5 ⟨r, R3, d3, R4, d4, rfl, hr, hs, hb5⟩
      have HE5 := Aside0.mk (HE1.out.later hb5)
      have HR := Aside0.mk (hr.mono (fun k hk => (show b9 < k by have := blk_lt HE1.out.h9; have h_ : ((W2.setCell ⟨b9, 1, none⟩ (.string ⟨#[109, 46, 114, 111, 111, 109, 46, 106, 111, 105, 110, 95, 114, 117, 108, 101, 115]⟩)).alloc (.cells #[.string ⟨#[112, 117, 98, 108, 105, 99]⟩, .string ⟨#[105, 110, 118, 105, 116, 101]⟩, .string ⟨#[110, 111, 110, 101]⟩] 9)).heap.size ≤ k := hk; omega)))
      have HS := Aside0.mk hs
      clear hr hs hb5 x0 x1 x2 x3 x4 x5 x6 x7 x8 x9 x10 x11 x12 x13 x14 f0 f1 f2 f3 f4 f5 f6 f7 f8 f9 f10 f11 f12 f13 f14
      obtain ⟨x0, x1, x2, x3, x4, x5, x6, x7, x8, x9, x10, x11, x12, x13, x14⟩ := ev15C HE5.out.h9
      obtain ⟨f0, f1, f2, f3, f4, f5, f6, f7, f8, f9, f10, f11, f12, f13, f14⟩ := ev15F HE5.out.h9
      go_wp2
      go_meet
      exact ⟨(HE5.out.body' HR.out HS.out).e15⟩
    · skip
      have b0 : ((a : Int) % 10 == 0) = false := beq_eq_false_iff_ne.2 (by omega)
      have b1 : ((a : Int) % 10 == 1) = false := beq_eq_false_iff_ne.2 (by omega)
      have b2 : ((a : Int) % 10 == 2) = false := beq_eq_false_iff_ne.2 (by omega)
      have b3 : ((a : Int) % 10 == 3) = true := beq_iff_eq.2 h
      have b4 : ((a : Int) % 10 == 4) = false := beq_eq_false_iff_ne.2 (by omega)
      have b5 : ((a : Int) % 10 == 5) = false := beq_eq_false_iff_ne.2 (by omega)
      have b6 : ((a : Int) % 10 == 6) = false := beq_eq_false_iff_ne.2 (by omega)
      have b7 : ((a : Int) % 10 == 7) = false := beq_eq_false_iff_ne.2 (by omega)
      have b8 : ((a : Int) % 10 == 8) = false := beq_eq_false_iff_ne.2 (by omega)
      clear h
      have HE1 := Aside0.mk (HE.out.ty' ⟨#[109, 46, 114, 111, 111, 109, 46, 109, 101, 109, 98, 101, 114]⟩)
      obtain ⟨key, hky, -, -⟩ := user_f (b / 4) (by omega)
      obtain ⟨mem, hmm⟩ := mem_f (b / 16) (by omega)
      have HU4 := Aside0.mk (fun W => heliastlaw14_User.calls ((b / 4 : Nat) : Int) key W hky)
      have HM4 := Aside0.mk (fun W => heliastlaw15_Membership.calls ((b / 16 : Nat) : Int) mem W hmm)
      rw [show ((b / 4 : Nat) : Int) = (b : Int) / 4 by omega] at HU4
      rw [show ((b / 16 : Nat) : Int) = (b : Int) / 16 by omega] at HM4
      have HC1 := Aside0.mk (fun W => Body_any W ⟨#[109, 101, 109, 98, 101, 114, 115, 104, 105, 112]⟩ mem (by decide))
      clear hky hmm
      go_wp2_with fail
      refine (HU4.out _).mono ?_
      rintro e W3 ⟨rfl, hb3⟩
      have HE2 := Aside0.mk (HE1.out.later hb3)
      have HE3 := Aside0.mk ((HE2.out.key' key).key' sender)
      clear hb3 x0 x1 x2 x3 x4 x5 x6 x7 x8 x9 x10 x11 x12 x13 x14 f0 f1 f2 f3 f4 f5 f6 f7 f8 f9 f10 f11 f12 f13 f14
      obtain ⟨x0, x1, x2, x3, x4, x5, x6, x7, x8, x9, x10, x11, x12, x13, x14⟩ := ev15C HE2.out.h9
      obtain ⟨f0, f1, f2, f3, f4, f5, f6, f7, f8, f9, f10, f11, f12, f13, f14⟩ := ev15F HE2.out.h9
      go_wp2_with fail
      refine (HM4.out _).mono ?_
      rintro e W4 ⟨rfl, hb4⟩
      have HE4 := Aside0.mk (HE3.out.later hb4)
      clear hb4
      go_wp2_with fail
      refine (HC1.out _).mono ?_
      rintro e W5 ⟨r, R3, d3, R4, d4, rfl, hr, hs, hb5⟩
      have HE5 := Aside0.mk (HE4.out.later hb5)
      have HR := Aside0.mk (hr.mono (fun k hk => (show b9 < k by have := blk_lt HE4.out.h9; have h_ : (W4).heap.size ≤ k := hk; omega)))
      have HS := Aside0.mk hs
      clear hr hs hb5 x0 x1 x2 x3 x4 x5 x6 x7 x8 x9 x10 x11 x12 x13 x14 f0 f1 f2 f3 f4 f5 f6 f7 f8 f9 f10 f11 f12 f13 f14
      obtain ⟨x0, x1, x2, x3, x4, x5, x6, x7, x8, x9, x10, x11, x12, x13, x14⟩ := ev15C HE5.out.h9
      obtain ⟨f0, f1, f2, f3, f4, f5, f6, f7, f8, f9, f10, f11, f12, f13, f14⟩ := ev15F HE5.out.h9
      go_wp2
      go_meet
      exact ⟨(HE5.out.body' HR.out HS.out).e15⟩
    · skip
      have b0 : ((a : Int) % 10 == 0) = false := beq_eq_false_iff_ne.2 (by omega)
      have b1 : ((a : Int) % 10 == 1) = false := beq_eq_false_iff_ne.2 (by omega)
      have b2 : ((a : Int) % 10 == 2) = false := beq_eq_false_iff_ne.2 (by omega)
      have b3 : ((a : Int) % 10 == 3) = false := beq_eq_false_iff_ne.2 (by omega)
      have b4 : ((a : Int) % 10 == 4) = true := beq_iff_eq.2 h
      have b5 : ((a : Int) % 10 == 5) = false := beq_eq_false_iff_ne.2 (by omega)
      have b6 : ((a : Int) % 10 == 6) = false := beq_eq_false_iff_ne.2 (by omega)
      have b7 : ((a : Int) % 10 == 7) = false := beq_eq_false_iff_ne.2 (by omega)
      have b8 : ((a : Int) % 10 == 8) = false := beq_eq_false_iff_ne.2 (by omega)
      clear h
      have HE1 := Aside0.mk (HE.out.ty' ⟨#[109, 46, 114, 111, 111, 109, 46, 109, 101, 109, 98, 101, 114]⟩)
      obtain ⟨key, hky, -, -⟩ := user_f (b / 4) (by omega)
      obtain ⟨mem, hmm⟩ := mem_f (b / 16) (by omega)
      have HU4 := Aside0.mk (fun W => heliastlaw14_User.calls ((b / 4 : Nat) : Int) key W hky)
      have HM4 := Aside0.mk (fun W => heliastlaw15_Membership.calls ((b / 16 : Nat) : Int) mem W hmm)
      rw [show ((b / 4 : Nat) : Int) = (b : Int) / 4 by omega] at HU4
      rw [show ((b / 16 : Nat) : Int) = (b : Int) / 16 by omega] at HM4
      have HC1 := Aside0.mk (fun W => Body_any W ⟨#[109, 101, 109, 98, 101, 114, 115, 104, 105, 112]⟩ mem (by decide))
      clear hky hmm
      go_wp2_with fail
      refine (HU4.out _).mono ?_
      rintro e W3 ⟨rfl, hb3⟩
      have HE2 := Aside0.mk (HE1.out.later hb3)
      have HE3 := Aside0.mk (HE2.out.key' key)
      clear hb3 x0 x1 x2 x3 x4 x5 x6 x7 x8 x9 x10 x11 x12 x13 x14 f0 f1 f2 f3 f4 f5 f6 f7 f8 f9 f10 f11 f12 f13 f14
      obtain ⟨x0, x1, x2, x3, x4, x5, x6, x7, x8, x9, x10, x11, x12, x13, x14⟩ := ev15C HE2.out.h9
      obtain ⟨f0, f1, f2, f3, f4, f5, f6, f7, f8, f9, f10, f11, f12, f13, f14⟩ := ev15F HE2.out.h9
      go_wp2_with fail
      refine (HM4.out _).mono ?_
      rintro e W4 ⟨rfl, hb4⟩
      have HE4 := Aside0.mk (HE3.out.later hb4)
      clear hb4
      go_wp2_with fail
      refine (HC1.out _).mono ?_
      rintro e W5 ⟨r, R3, d3, R4, d4, rfl, hr, hs, hb5⟩
      have HE5 := Aside0.mk (HE4.out.later hb5)
      have HR := Aside0.mk (hr.mono (fun k hk => (show b9 < k by have := blk_lt HE4.out.h9; have h_ : (W4).heap.size ≤ k := hk; omega)))
      have HS := Aside0.mk hs
      clear hr hs hb5 x0 x1 x2 x3 x4 x5 x6 x7 x8 x9 x10 x11 x12 x13 x14 f0 f1 f2 f3 f4 f5 f6 f7 f8 f9 f10 f11 f12 f13 f14
      obtain ⟨x0, x1, x2, x3, x4, x5, x6, x7, x8, x9, x10, x11, x12, x13, x14⟩ := ev15C HE5.out.h9
      obtain ⟨f0, f1, f2, f3, f4, f5, f6, f7, f8, f9, f10, f11, f12, f13, f14⟩ := ev15F HE5.out.h9
      go_wp2
      go_meet
      exact ⟨(HE5.out.body' HR.out HS.out).e15⟩
    · skip
      have b0 : ((a : Int) % 10 == 0) = false := beq_eq_false_iff_ne.2 (by omega)
      have b1 : ((a : Int) % 10 == 1) = false := beq_eq_false_iff_ne.2 (by omega)
      have b2 : ((a : Int) % 10 == 2) = false := beq_eq_false_iff_ne.2 (by omega)
      have b3 : ((a : Int) % 10 == 3) = false := beq_eq_false_iff_ne.2 (by omega)
      have b4 : ((a : Int) % 10 == 4) = false := beq_eq_false_iff_ne.2 (by omega)
      have b5 : ((a : Int) % 10 == 5) = true := beq_iff_eq.2 h
      have b6 : ((a : Int) % 10 == 6) = false := beq_eq_false_iff_ne.2 (by omega)
      have b7 : ((a : Int) % 10 == 7) = false := beq_eq_false_iff_ne.2 (by omega)
      have b8 : ((a : Int) % 10 == 8) = false := beq_eq_false_iff_ne.2 (by omega)
      clear h
      have HE1 := Aside0.mk (HE.out.ty' ⟨#[109, 46, 114, 111, 111, 109, 46, 109, 101, 109, 98, 101, 114]⟩)
      obtain ⟨key, hky, -, -⟩ := user_f (b / 4) (by omega)
      obtain ⟨mem, hmm⟩ := mem_f (b / 16) (by omega)
      have HU4 := Aside0.mk (fun W => heliastlaw14_User.calls ((b / 4 : Nat) : Int) key W hky)
      have HM4 := Aside0.mk (fun W => heliastlaw15_Membership.calls ((b / 16 : Nat) : Int) mem W hmm)
      rw [show ((b / 4 : Nat) : Int) = (b : Int) / 4 by omega] at HU4
      rw [show ((b / 16 : Nat) : Int) = (b : Int) / 16 by omega] at HM4
      have HC1 := Aside0.mk (fun W => Body_any W ⟨#[109, 101, 109, 98, 101, 114, 115, 104, 105, 112]⟩ mem (by decide))
      clear hky hmm
      go_wp2_with fail
      refine (HU4.out _).mono ?_
      rintro e W3 ⟨rfl, hb3⟩
      have HE2 := Aside0.mk (HE1.out.later hb3)
      have HE3 := Aside0.mk (HE2.out.key' key)
      clear hb3 x0 x1 x2 x3 x4 x5 x6 x7 x8 x9 x10 x11 x12 x13 x14 f0 f1 f2 f3 f4 f5 f6 f7 f8 f9 f10 f11 f12 f13 f14
      obtain ⟨x0, x1, x2, x3, x4, x5, x6, x7, x8, x9, x10, x11, x12, x13, x14⟩ := ev15C HE2.out.h9
      obtain ⟨f0, f1, f2, f3, f4, f5, f6, f7, f8, f9, f10, f11, f12, f13, f14⟩ := ev15F HE2.out.h9
      go_wp2_with fail
      refine (HM4.out _).mono ?_
      rintro e W4 ⟨rfl, hb4⟩
      have HE4 := Aside0.mk (HE3.out.later hb4)
      clear hb4
      go_wp2_with fail
      refine (HC1.out _).mono ?_
      rintro e W5 ⟨r, R3, d3, R4, d4, rfl, hr, hs, hb5⟩
      have HE5 := Aside0.mk (HE4.out.later hb5)
      have HR := Aside0.mk (hr.mono (fun k hk => (show b9 < k by have := blk_lt HE4.out.h9; have h_ : (W4).heap.size ≤ k := hk; omega)))
      have HS := Aside0.mk hs
      clear hr hs hb5 x0 x1 x2 x3 x4 x5 x6 x7 x8 x9 x10 x11 x12 x13 x14 f0 f1 f2 f3 f4 f5 f6 f7 f8 f9 f10 f11 f12 f13 f14
      obtain ⟨x0, x1, x2, x3, x4, x5, x6, x7, x8, x9, x10, x11, x12, x13, x14⟩ := ev15C HE5.out.h9
      obtain ⟨f0, f1, f2, f3, f4, f5, f6, f7, f8, f9, f10, f11, f12, f13, f14⟩ := ev15F HE5.out.h9
      go_wp2
      go_meet
      exact ⟨(HE5.out.body' HR.out HS.out).e15⟩
    · skip
      have b0 : ((a : Int) % 10 == 0) = false := beq_eq_false_iff_ne.2 (by omega)
      have b1 : ((a : Int) % 10 == 1) = false := beq_eq_false_iff_ne.2 (by omega)
      have b2 : ((a : Int) % 10 == 2) = false := beq_eq_false_iff_ne.2 (by omega)
      have b3 : ((a : Int) % 10 == 3) = false := beq_eq_false_iff_ne.2 (by omega)
      have b4 : ((a : Int) % 10 == 4) = false := beq_eq_false_iff_ne.2 (by omega)
      have b5 : ((a : Int) % 10 == 5) = false := beq_eq_false_iff_ne.2 (by omega)
      have b6 : ((a : Int) % 10 == 6) = true := beq_iff_eq.2 h
      have b7 : ((a : Int) % 10 == 7) = false := beq_eq_false_iff_ne.2 (by omega)
      have b8 : ((a : Int) % 10 == 8) = false := beq_eq_false_iff_ne.2 (by omega)
      clear h
      have HE1 := Aside0.mk (HE.out.ty' ⟨#[109, 46, 114, 111, 111, 109, 46, 109, 101, 109, 98, 101, 114]⟩)
      obtain ⟨key, hky, -, -⟩ := user_f (b / 4) (by omega)
      obtain ⟨mem, hmm⟩ := mem_f (b / 16) (by omega)
      have HU4 := Aside0.mk (fun W => heliastlaw14_User.calls ((b / 4 : Nat) : Int) key W hky)
      have HM4 := Aside0.mk (fun W => heliastlaw15_Membership.calls ((b / 16 : Nat) : Int) mem W hmm)
      rw [show ((b / 4 : Nat) : Int) = (b : Int) / 4 by omega] at HU4
      rw [show ((b / 16 : Nat) : Int) = (b : Int) / 16 by omega] at HM4
      have HC1 := Aside0.mk (fun W => Body_any W ⟨#[109, 101, 109, 98, 101, 114, 115, 104, 105, 112]⟩ mem (by decide))
      clear hky hmm
      go_wp2_with fail
      refine (HU4.out _).mono ?_
      rintro e W3 ⟨rfl, hb3⟩
      have HE2 := Aside0.mk (HE1.out.later hb3)
      have HE3 := Aside0.mk (HE2.out.key' key)
      clear hb3 x0 x1 x2 x3 x4 x5 x6 x7 x8 x9 x10 x11 x12 x13 x14 f0 f1 f2 f3 f4 f5 f6 f7 f8 f9 f10 f11 f12 f13 f14
      obtain ⟨x0, x1, x2, x3, x4, x5, x6, x7, x8, x9, x10, x11, x12, x13, x14⟩ := ev15C HE2.out.h9
      obtain ⟨f0, f1, f2, f3, f4, f5, f6, f7, f8, f9, f10, f11, f12, f13, f14⟩ := ev15F HE2.out.h9
      go_wp2_with fail
      refine (HM4.out _).mono ?_
      rintro e W4 ⟨rfl, hb4⟩
      have HE4 := Aside0.mk (HE3.out.later hb4)
      clear hb4
      go_wp2_with fail
      refine (HC1.out _).mono ?_
      rintro e W5 ⟨r, R3, d3, R4, d4, rfl, hr, hs, hb5⟩
      have HE5 := Aside0.mk (HE4.out.later hb5)
      have HR := Aside0.mk (hr.mono (fun k hk => (show b9 < k by have := blk_lt HE4.out.h9; have h_ : (W4).heap.size ≤ k := hk; omega)))
      have HS := Aside0.mk hs
      clear hr hs hb5 x0 x1 x2 x3 x4 x5 x6 x7 x8 x9 x10 x11 x12 x13 x14 f0 f1 f2 f3 f4 f5 f6 f7 f8 f9 f10 f11 f12 f13 f14
      obtain ⟨x0, x1, x2, x3, x4, x5, x6, x7, x8, x9, x10, x11, x12, x13, x14⟩ := ev15C HE5.out.h9
      obtain ⟨f0, f1, f2, f3, f4, f5, f6, f7, f8, f9, f10, f11, f12, f13, f14⟩ := ev15F HE5.out.h9
      go_wp2
      go_meet
      exact ⟨(HE5.out.body' HR.out HS.out).e15⟩
    · skip
      have b0 : ((a : Int) % 10 == 0) = false := beq_eq_false_iff_ne.2 (by omega)
      have b1 : ((a : Int) % 10 == 1) = false := beq_eq_false_iff_ne.2 (by omega)
      have b2 : ((a : Int) % 10 == 2) = false := beq_eq_false_iff_ne.2 (by omega)
      have b3 : ((a : Int) % 10 == 3) = false := beq_eq_false_iff_ne.2 (by omega)
      have b4 : ((a : Int) % 10 == 4) = false := beq_eq_false_iff_ne.2 (by omega)
      have b5 : ((a : Int) % 10 == 5) = false := beq_eq_false_iff_ne.2 (by omega)
      have b6 : ((a : Int) % 10 == 6) = false := beq_eq_false_iff_ne.2 (by omega)
      have b7 : ((a : Int) % 10 == 7) = true := beq_iff_eq.2 h
      have b8 : ((a : Int) % 10 == 8) = false := beq_eq_false_iff_ne.2 (by omega)
      clear h
      go_wp2
      go_meet
      exact ⟨(HE.out.key' sender).e15⟩
    · skip
      have b0 : ((a : Int) % 10 == 0) = false := beq_eq_false_iff_ne.2 (by omega)
      have b1 : ((a : Int) % 10 == 1) = false := beq_eq_false_iff_ne.2 (by omega)
      have b2 : ((a : Int) % 10 == 2) = false := beq_eq_false_iff_ne.2 (by omega)
      have b3 : ((a : Int) % 10 == 3) = false := beq_eq_false_iff_ne.2 (by omega)
      have b4 : ((a : Int) % 10 == 4) = false := beq_eq_false_iff_ne.2 (by omega)
      have b5 : ((a : Int) % 10 == 5) = false := beq_eq_false_iff_ne.2 (by omega)
      have b6 : ((a : Int) % 10 == 6) = false := beq_eq_false_iff_ne.2 (by omega)
      have b7 : ((a : Int) % 10 == 7) = false := beq_eq_false_iff_ne.2 (by omega)
      have b8 : ((a : Int) % 10 == 8) = true := beq_iff_eq.2 h
      clear h
      go_wp2
      go_meet
      exact ⟨(HE.out.is' false).e15⟩
    · skip
      have b0 : ((a : Int) % 10 == 0) = false := beq_eq_false_iff_ne.2 (by omega)
      have b1 : ((a : Int) % 10 == 1) = false := beq_eq_false_iff_ne.2 (by omega)
      have b2 : ((a : Int) % 10 == 2) = false := beq_eq_false_iff_ne.2 (by omega)
      have b3 : ((a : Int) % 10 == 3) = false := beq_eq_false_iff_ne.2 (by omega)
      have b4 : ((a : Int) % 10 == 4) = false := beq_eq_false_iff_ne.2 (by omega)
      have b5 : ((a : Int) % 10 == 5) = false := beq_eq_false_iff_ne.2 (by omega)
      have b6 : ((a : Int) % 10 == 6) = false := beq_eq_false_iff_ne.2 (by omega)
      have b7 : ((a : Int) % 10 == 7) = false := beq_eq_false_iff_ne.2 (by omega)
      have b8 : ((a : Int) % 10 == 8) = false := beq_eq_false_iff_ne.2 (by omega)
      clear h
      go_wp2
      go_meet
      exact ⟨HE.out.e15⟩
  case rest =>
    obtain ⟨ty, key, is, v, A3, c3, A4, c4, h9, hv, hs, h8, hbl, hlt⟩ := hcut.out
    obtain ⟨x0, x1, x2, x3, x4, x5, x6, x7, x8, x9, x10, x11, x12, x13, x14⟩ := ev15C h9
    obtain ⟨y0, y1, y2, y3, y4, y5, y6, y7, y8, y9, y10, y11, y12, y13, y14⟩ := ev15C h8
    obtain ⟨f0, f1, f2, f3, f4, f5, f6, f7, f8, f9, f10, f11, f12, f13, f14⟩ := ev15F h8
    have H8 := Aside0.mk h8
    have HVV := Aside0.mk hv
    have HSM := Aside0.mk hs
    have HBL := Aside0.mk hbl
    clear h9 hv hs h8 hbl hcut
    go_wp2
    have hput := ev15_put H8.out rfl [.string ⟨#[]⟩, .string ty, .string key, .bool is, .string sender, .string rS, .slice none 0 0, .slice none 0 0, .int .i64 0, .int .i64 time, .int .i64 v.f0, .int .i64 v.f1, .string v.f2, .slice A3 v.f3.length c3, .slice A4 v.f4.length c4] rfl
    obtain ⟨s1, s2, s3, s4⟩ := setCells_same w.heap.size ([.string ⟨#[]⟩, .string ty, .string key, .bool is, .string sender, .string rS, .slice none 0 0, .slice none 0 0, .int .i64 0, .int .i64 time, .int .i64 v.f0, .int .i64 v.f1, .string v.f2, .slice A3 v.f3.length c3, .slice A4 v.f4.length c4] : List Value) 0 wc
    have hfin : VF (wc.setCells w.heap.size 0 [.string ⟨#[]⟩, .string ty, .string key, .bool is, .string sender, .string rS, .slice none 0 0, .slice none 0 0, .int .i64 0, .int .i64 time, .int .i64 v.f0, .int .i64 v.f1, .string v.f2, .slice A3 v.f3.length c3, .slice A4 v.f4.length c4]) (fun k => w.heap.size ≤ k) v A3 c3 A4 c4 ∧ Below w.heap.size w (wc.setCells w.heap.size 0 [.string ⟨#[]⟩, .string ty, .string key, .bool is, .string sender, .string rS, .slice none 0 0, .slice none 0 0, .int .i64 0, .int .i64 time, .int .i64 v.f0, .int .i64 v.f1, .string v.f2, .slice A3 v.f3.length c3, .slice A4 v.f4.length c4]) :=
      ⟨(HVV.out.step (fun k hk _ => setCells_far _ 0 k (by have : b9 < k := hk; omega))).mono (fun k hk => by have : b9 < k := hk; omega), ⟨s1.trans HBL.out.os, s2.trans HBL.out.tape, s3.trans HBL.out.output, by rw [s4]; exact HBL.out.size, fun k hk => (setCells_far _ 0 k (by omega)).trans (HBL.out.block k hk)⟩⟩
    refine bodyPost_ret (w := wc.setCells w.heap.size 0 [.string ⟨#[]⟩, .string ty, .string key, .bool is, .string sender, .string rS, .slice none 0 0, .slice none 0 0, .int .i64 0, .int .i64 time, .int .i64 v.f0, .int .i64 v.f1, .string v.f2, .slice A3 v.f3.length c3, .slice A4 v.f4.length c4]) (results_cell_row rfl _ _ w.heap.size 50 _ (0, 0) _ rfl hput Tryz.underlying50 rfl (by kernel_rfl)) rfl ?_
    exact ⟨ty, key, sender, is, time, v, A3, c3, A4, c4, rfl, hfin.1, HSM.out, HSN.out, hfin.2⟩
open Go.Proofs.He
abbrev SEv := S50
def mshB : ByteArray := ⟨#[109, 101, 109, 98, 101, 114, 115, 104, 105, 112]⟩
theorem get_ev (v : SV) (key : ByteArray) (h3 : v.f3.length < 1000) : ∃ r, Ev (fun k => heliastref02_Get.f k v.f0 v.f1 v.f2 v.f3 v.f4 key) r := by
  obtain ⟨p, hp, hq⟩ := place_ev v key h3
  by_cases h0 : p < 0
  · refine ⟨(0, 0, ⟨#[]⟩, [], [], false), Ev.congr (fun k => ?_) (Ev.bind hp (f := fun _ t => if t < 0 then some (0, 0, (⟨#[]⟩ : ByteArray), ([] : List ByteArray), ([] : List SV), false) else (if 0 ≤ t then (if t < (v.f4.length : Int) then (some ((rd_T48 v.f4 t).f0, (rd_T48 v.f4 t).f1, (rd_T48 v.f4 t).f2, (rd_T48 v.f4 t).f3, (rd_T48 v.f4 t).f4, true)) else none) else none)) (Ev.congr (f := fun _ => some (0, 0, (⟨#[]⟩ : ByteArray), ([] : List ByteArray), ([] : List SV), false)) (fun k => ?_) (Ev.now _)))⟩
    · rfl
    · show (if p < 0 then _ else _) = _
      rw [if_pos h0]
  · have hb : 0 ≤ p ∧ p < v.f4.length := by omega
    refine ⟨((rd_T48 v.f4 p).f0, (rd_T48 v.f4 p).f1, (rd_T48 v.f4 p).f2, (rd_T48 v.f4 p).f3, (rd_T48 v.f4 p).f4, true), Ev.congr (fun k => ?_) (Ev.bind hp (f := fun _ t => if t < 0 then some (0, 0, (⟨#[]⟩ : ByteArray), ([] : List ByteArray), ([] : List SV), false) else (if 0 ≤ t then (if t < (v.f4.length : Int) then (some ((rd_T48 v.f4 t).f0, (rd_T48 v.f4 t).f1, (rd_T48 v.f4 t).f2, (rd_T48 v.f4 t).f3, (rd_T48 v.f4 t).f4, true)) else none) else none)) (Ev.congr (f := fun _ => some ((rd_T48 v.f4 p).f0, (rd_T48 v.f4 p).f1, (rd_T48 v.f4 p).f2, (rd_T48 v.f4 p).f3, (rd_T48 v.f4 p).f4, true)) (fun k => ?_) (Ev.now _)))⟩
    · rfl
    · show (if p < 0 then _ else _) = _
      rw [if_neg h0, if_pos hb.1, if_pos hb.2]
theorem text_ev (x : SEv) (key : ByteArray) (h3 : x.f10.f3.length < 1000) : ∃ r, Ev (fun k => heliastref15_text.f k x.f0 x.f1 x.f2 x.f3 x.f4 x.f5 x.f6 x.f7 x.f8 x.f9 x.f10.f0 x.f10.f1 x.f10.f2 x.f10.f3 x.f10.f4 key) r := by
  obtain ⟨g, hg⟩ := get_ev x.f10 key h3
  by_cases h1 : g.2.2.2.2.2 = true
  · by_cases h2 : g.1 = 3
    · exact ⟨(g.2.2.1, true), Ev.congr (fun k => rfl) (Ev.bind hg (Ev.congr (f := fun _ => some (g.2.2.1, true)) (fun k => by rw [if_pos h1, if_pos h2]) (Ev.now _)))⟩
    · exact ⟨(⟨#[]⟩, false), Ev.congr (fun k => rfl) (Ev.bind hg (Ev.congr (f := fun _ => some (⟨#[]⟩, false)) (fun k => by rw [if_pos h1, if_neg h2]) (Ev.now _)))⟩
  · exact ⟨(⟨#[]⟩, false), Ev.congr (fun k => rfl) (Ev.bind hg (Ev.congr (f := fun _ => some (⟨#[]⟩, false)) (fun k => by rw [if_neg h1]) (Ev.now _)))⟩
theorem has_ev (l : List Int) (n : Int) (hl : l.length < 100000) : ∃ b, Ev (fun k => heliastref12_Has.f k l n) b := by
  have h : ∀ (d i : Nat), l.length - i = d → ∃ b, Ev (fun k => heliastref12_Has.l0 k l n (i : Int)) b := by
    intro d
    induction d with
    | zero =>
      intro i hd
      exact ⟨false, Ev.step (f := fun _ => some false) (fun k => by show heliastref12_Has.l0 (k + 1) l n i = _; rw [heliastref12_Has.l0, if_neg (by omega)]) (Ev.now _)⟩
    | succ d ih =>
      intro i hd
      by_cases e : rd l (i : Int) = n
      · exact ⟨true, Ev.step (f := fun _ => some true) (fun k => by show heliastref12_Has.l0 (k + 1) l n i = _; rw [heliastref12_Has.l0, if_pos (by omega), if_pos (by omega), if_pos e]) (Ev.now _)⟩
      · obtain ⟨b, hb⟩ := ih (i + 1) (by omega)
        exact ⟨b, Ev.step (fun k => by show heliastref12_Has.l0 (k + 1) l n i = _; rw [heliastref12_Has.l0, if_pos (by omega), if_pos (by omega), if_neg e, show wrap64 ((i : Int) + 1) = ((i + 1 : Nat) : Int) by unfold wrap64; omega]) hb⟩
  exact h _ 0 rfl
theorem lets_ev (l : List SEv) (a b : ByteArray) (o : Bool) (hl : l.length < 1000) : ∃ r : Int, Ev (fun _ : Nat => heliastlaw17_lets.f l a b o) r ∧ -1 ≤ r ∧ r < l.length :=
  ⟨letsGo l.length a b o (-1) 0 l, Ev.congr (f := fun _ => some (letsGo l.length a b o (-1) 0 l)) (fun k => by unfold heliastlaw17_lets.f; rw [if_pos (by omega)]) (Ev.now _), letsGo_bd l.length a b o l (-1) 0 (by omega) (by omega) (by omega)⟩
theorem slots_ev (x : SEv) (h3 : x.f10.f3.length < 1000) : ∃ r, Ev (fun k => heliastref15_Slots.f k x.f0 x.f1 x.f2 x.f3 x.f4 x.f5 x.f6 x.f7 x.f8 x.f9 x.f10.f0 x.f10.f1 x.f10.f2 x.f10.f3 x.f10.f4) r ∧ r.length ≤ 5 := by
  obtain ⟨t, ht⟩ := text_ev x mshB h3
  have hj : ∀ (y : List S122) (b : Bool), y.length ≤ 3 → ∃ r, Ev (fun k => heliastref15_Slots.j0 k y b x.f0 x.f1 x.f2 x.f3 x.f4 x.f5 x.f6 x.f7 x.f8 x.f9 x.f10.f0 x.f10.f1 x.f10.f2 x.f10.f3 x.f10.f4) r ∧ r.length ≤ 5 := by
    intro y b hy
    have hend : ∀ (z : List S122), z.length ≤ 4 → ∃ r, Ev (fun k => (heliastref15_text.f k x.f0 x.f1 x.f2 x.f3 x.f4 x.f5 x.f6 x.f7 x.f8 x.f9 x.f10.f0 x.f10.f1 x.f10.f2 x.f10.f3 x.f10.f4 mshB).bind fun bt => (if bt.1.toList = ([106, 111, 105, 110] : List UInt8) then (if z.length < 4398046511104 then (some (z ++ [(⟨(⟨#[109, 46, 114, 111, 111, 109, 46, 106, 111, 105, 110, 95, 114, 117, 108, 101, 115]⟩ : ByteArray), (⟨#[]⟩ : ByteArray)⟩ : S122)])) else (none)) else (if bt.1.toList = ([105, 110, 118, 105, 116, 101] : List UInt8) then (if z.length < 4398046511104 then (some (z ++ [(⟨(⟨#[109, 46, 114, 111, 111, 109, 46, 106, 111, 105, 110, 95, 114, 117, 108, 101, 115]⟩ : ByteArray), (⟨#[]⟩ : ByteArray)⟩ : S122)])) else (none)) else (some z)))) r ∧ r.length ≤ 5 := by
      intro z hz
      by_cases c1 : t.1.toList = ([106, 111, 105, 110] : List UInt8)
      · exact ⟨_, Ev.bind ht (Ev.congr (fun k => by rw [if_pos c1, if_pos (by omega)]) (Ev.now _)), by simp; omega⟩
      · by_cases c2 : t.1.toList = ([105, 110, 118, 105, 116, 101] : List UInt8)
        · exact ⟨_, Ev.bind ht (Ev.congr (fun k => by rw [if_neg c1, if_pos c2, if_pos (by omega)]) (Ev.now _)), by simp; omega⟩
        · exact ⟨_, Ev.bind ht (Ev.congr (fun k => by rw [if_neg c1, if_neg c2]) (Ev.now _)), by omega⟩
    cases b with
    | true => exact ⟨y, Ev.step (f := fun _ => some y) (fun k => by show heliastref15_Slots.j0 (k + 1) y true _ _ _ _ _ _ _ _ _ _ _ _ _ _ _ = _; rw [heliastref15_Slots.j0, if_pos rfl]) (Ev.now _), by omega⟩
    | false =>
      by_cases c : x.f2.toList = x.f4.toList
      · obtain ⟨r, hr, hl⟩ := hend y (by omega)
        exact ⟨r, Ev.step (fun k => by show heliastref15_Slots.j0 (k + 1) y false _ _ _ _ _ _ _ _ _ _ _ _ _ _ _ = _; rw [heliastref15_Slots.j0, if_neg (by decide), if_pos c]; rfl) hr, hl⟩
      · obtain ⟨r, hr, hl⟩ := hend (y ++ [⟨⟨#[109, 46, 114, 111, 111, 109, 46, 109, 101, 109, 98, 101, 114]⟩, x.f2⟩]) (by simp; omega)
        exact ⟨r, Ev.step (fun k => by show heliastref15_Slots.j0 (k + 1) y false _ _ _ _ _ _ _ _ _ _ _ _ _ _ _ = _; rw [heliastref15_Slots.j0, if_neg (by decide), if_neg c, if_pos (by omega)]; rfl) hr, hl⟩
  by_cases c1 : x.f1.toList = ([109, 46, 114, 111, 111, 109, 46, 99, 114, 101, 97, 116, 101] : List UInt8)
  · exact ⟨[], Ev.congr (f := fun _ => some []) (fun k => by show heliastref15_Slots.f k _ _ _ _ _ _ _ _ _ _ _ _ _ _ _ = _; rw [heliastref15_Slots.f, if_pos c1]) (Ev.now _), by simp⟩
  · by_cases c2 : x.f1.toList = ([109, 46, 114, 111, 111, 109, 46, 109, 101, 109, 98, 101, 114] : List UInt8)
    · obtain ⟨r, hr, hl⟩ := hj [⟨⟨#[109, 46, 114, 111, 111, 109, 46, 99, 114, 101, 97, 116, 101]⟩, ⟨#[]⟩⟩, ⟨⟨#[109, 46, 114, 111, 111, 109, 46, 112, 111, 119, 101, 114, 95, 108, 101, 118, 101, 108, 115]⟩, ⟨#[]⟩⟩, ⟨⟨#[109, 46, 114, 111, 111, 109, 46, 109, 101, 109, 98, 101, 114]⟩, x.f4⟩] (!x.f3) (by simp)
      exact ⟨r, Ev.congr (fun k => by show heliastref15_Slots.f k _ _ _ _ _ _ _ _ _ _ _ _ _ _ _ = _; rw [heliastref15_Slots.f, if_neg c1, Option.bind_some, if_pos c2]) hr, hl⟩
    · obtain ⟨r, hr, hl⟩ := hj [⟨⟨#[109, 46, 114, 111, 111, 109, 46, 99, 114, 101, 97, 116, 101]⟩, ⟨#[]⟩⟩, ⟨⟨#[109, 46, 114, 111, 111, 109, 46, 112, 111, 119, 101, 114, 95, 108, 101, 118, 101, 108, 115]⟩, ⟨#[]⟩⟩, ⟨⟨#[109, 46, 114, 111, 111, 109, 46, 109, 101, 109, 98, 101, 114]⟩, x.f4⟩] true (by simp)
      exact ⟨r, Ev.congr (fun k => by show heliastref15_Slots.f k _ _ _ _ _ _ _ _ _ _ _ _ _ _ _ = _; rw [heliastref15_Slots.f, if_neg c1, Option.bind_some, if_neg c2]) hr, hl⟩
theorem auth_ev (l : List SEv) (x : SEv) (a : Int) (h3 : x.f10.f3.length < 1000) (hl : l.length < 1000) : ∃ r, Ev (fun k => heliastlaw17_Auth.f k l x.f0 x.f1 x.f2 x.f3 x.f4 x.f5 x.f6 x.f7 x.f8 x.f9 x.f10.f0 x.f10.f1 x.f10.f2 x.f10.f3 x.f10.f4 a) r ∧ r.length ≤ l.length ∧ ∀ y ∈ r, 0 ≤ y ∧ y < (l.length : Int) := by
  obtain ⟨sl, hsl, hsn⟩ := slots_ev x h3
  have h1 : ∀ (some_ : List Int), some_.length < 1000 → ∀ (d i : Nat) (o : List Int), l.length - i = d → i ≤ l.length → o.length ≤ i → (∀ y ∈ o, 0 ≤ y ∧ y < (l.length : Int)) → ∃ r, Ev (fun k => heliastlaw17_Auth.l1 k l some_ o (i : Int)) r ∧ r.length ≤ l.length ∧ ∀ y ∈ r, 0 ≤ y ∧ y < (l.length : Int) := by
    intro some_ hs d
    induction d with
    | zero =>
      intro i o hd hi ho hm
      exact ⟨o, Ev.step (f := fun _ => some o) (fun k => by show heliastlaw17_Auth.l1 (k + 1) l some_ o i = _; rw [heliastlaw17_Auth.l1, if_neg (by omega)]) (Ev.now _), by omega, hm⟩
    | succ d ih =>
      intro i o hd hi ho hm
      have hw : wrap64 ((i : Int) + 1) = ((i + 1 : Nat) : Int) := by unfold wrap64; omega
      obtain ⟨b, hb⟩ := has_ev some_ (i : Int) (by omega)
      cases b with
      | true =>
        obtain ⟨r, hr, h⟩ := ih (i + 1) (o ++ [(i : Int)]) (by omega) (by omega) (by simp; omega) (fun y hy => by
          rcases List.mem_append.1 hy with hy | hy
          · exact hm y hy
          · rw [List.mem_singleton.1 hy]; omega)
        exact ⟨r, Ev.step (fun k => by show heliastlaw17_Auth.l1 (k + 1) l some_ o i = _; rw [heliastlaw17_Auth.l1, if_pos (by omega)]) (Ev.bind hb (Ev.congr (fun k => by rw [if_pos rfl, if_pos (by omega), hw]) hr)), h⟩
      | false =>
        obtain ⟨r, hr, h⟩ := ih (i + 1) o (by omega) (by omega) (by omega) hm
        exact ⟨r, Ev.step (fun k => by show heliastlaw17_Auth.l1 (k + 1) l some_ o i = _; rw [heliastlaw17_Auth.l1, if_pos (by omega)]) (Ev.bind hb (Ev.congr (fun k => by rw [if_neg (by decide), hw]) hr)), h⟩
  have h0 : ∀ (d i : Nat) (o : List Int), sl.length - i = d → o.length ≤ i → i ≤ sl.length → ∃ r, Ev (fun k => heliastlaw17_Auth.l0 k l a sl o (i : Int)) r ∧ r.length ≤ l.length ∧ ∀ y ∈ r, 0 ≤ y ∧ y < (l.length : Int) := by
    intro d
    induction d with
    | zero =>
      intro i o hd ho hi
      obtain ⟨r, hr, h⟩ := h1 o (by omega) l.length 0 [] rfl (Nat.zero_le _) (Nat.le_refl _) (fun y hy => by cases hy)
      exact ⟨r, Ev.step (fun k => by show heliastlaw17_Auth.l0 (k + 1) l a sl o i = _; rw [heliastlaw17_Auth.l0, if_neg (by omega)]; rfl) hr, h⟩
    | succ d ih =>
      intro i o hd ho hi
      have hw : wrap64 ((i : Int) + 1) = ((i + 1 : Nat) : Int) := by unfold wrap64; omega
      have hu : 0 ≤ IntKind.u64.wrap (i : Int) := by show 0 ≤ (i : Int) % 18446744073709551616; omega
      obtain ⟨t, ht, hb⟩ := lets_ev l (rd_T122 sl i).f0 (rd_T122 sl i).f1 (Int.tmod (shr .i64 (wrap64 a) (IntKind.u64.wrap (i : Int))) 2 == 1) hl
      by_cases c1 : t ≥ 0
      · by_cases c2 : Int.tmod (wrap64 (wrap64 a + (i : Int))) 11 < 10
        · obtain ⟨r, hr, h⟩ := ih (i + 1) (o ++ [t]) (by omega) (by simp; omega) (by omega)
          exact ⟨r, Ev.step (fun k => by show heliastlaw17_Auth.l0 (k + 1) l a sl o i = _; rw [heliastlaw17_Auth.l0, if_pos (by omega), if_pos (by omega), if_pos hu]) (Ev.bind ht (Ev.congr (fun k => by rw [if_pos c1, if_pos c2, if_pos (by omega), hw]) hr)), h⟩
        · obtain ⟨r, hr, h⟩ := ih (i + 1) o (by omega) (by omega) (by omega)
          exact ⟨r, Ev.step (fun k => by show heliastlaw17_Auth.l0 (k + 1) l a sl o i = _; rw [heliastlaw17_Auth.l0, if_pos (by omega), if_pos (by omega), if_pos hu]) (Ev.bind ht (Ev.congr (fun k => by rw [if_pos c1, if_neg c2, hw]) hr)), h⟩
      · obtain ⟨r, hr, h⟩ := ih (i + 1) o (by omega) (by omega) (by omega)
        exact ⟨r, Ev.step (fun k => by show heliastlaw17_Auth.l0 (k + 1) l a sl o i = _; rw [heliastlaw17_Auth.l0, if_pos (by omega), if_pos (by omega), if_pos hu]) (Ev.bind ht (Ev.congr (fun k => by rw [if_neg c1, hw]) hr)), h⟩
  obtain ⟨r, hr, h⟩ := h0 sl.length 0 [] rfl (Nat.zero_le _) (Nat.zero_le _)
  exact ⟨r, Ev.congr (fun k => rfl) (Ev.bind hsl hr), h⟩
abbrev kE := k50
abbrev kG := Kd.slice 3 (Kd.int .i64)
structure EF (W : World) (ok : Nat → Prop) (x : SEv) (A6 : Option Addr) (c6 : Nat) (A7 : Option Addr) (c7 : Nat) (A13 : Option Addr) (c13 : Nat) (A14 : Option Addr) (c14 : Nat) : Prop where
  l6 : x.f6.length ≤ c6
  g6 : Kd.F Kd.string W ok A6 x.f6.length x.f6
  l7 : x.f7.length ≤ c7
  g7 : Kd.F Kd.string W ok A7 x.f7.length x.f7
  b : VF W ok x.f10 A13 c13 A14 c14
section
variable {W W1 : World} {ok ok' : Nat → Prop} {x : SEv} {A6 A7 A13 A14 : Option Addr} {c6 c7 c13 c14 : Nat}
theorem EF.step (h : EF W ok x A6 c6 A7 c7 A13 c13 A14 c14) (hm : ∀ k, ok k → k < W.heap.size → W1.heap[k]? = W.heap[k]?) : EF W1 ok x A6 c6 A7 c7 A13 c13 A14 c14 := ⟨h.l6, Kd.F_step h.g6 hm, h.l7, Kd.F_step h.g7 hm, h.b.step hm⟩
theorem EF.below (h : EF W ok x A6 c6 A7 c7 A13 c13 A14 c14) (hb : Below W.heap.size W W1) : EF W1 ok x A6 c6 A7 c7 A13 c13 A14 c14 := h.step (fun k _ hk => hb.block k hk)
theorem EF.mono (h : EF W ok x A6 c6 A7 c7 A13 c13 A14 c14) (hk : ∀ k, ok k → ok' k) : EF W ok' x A6 c6 A7 c7 A13 c13 A14 c14 := ⟨h.l6, Kd.F_mono h.g6 hk, h.l7, Kd.F_mono h.g7 hk, h.b.mono hk⟩
theorem EF.id (h : EF W ok x A6 c6 A7 c7 A13 c13 A14 c14) (s : ByteArray) : EF W ok { x with f0 := s } A6 c6 A7 c7 A13 c13 A14 c14 := ⟨h.l6, h.g6, h.l7, h.g7, h.b⟩
theorem EF.fk (h : EF W ok x A6 c6 A7 c7 A13 c13 A14 c14) : Kd.FK kE W ok x (#[.string x.f0, .string x.f1, .string x.f2, .bool x.f3, .string x.f4, .string x.f5, .slice A6 x.f6.length c6, .slice A7 x.f7.length c7, .int .i64 x.f8, .int .i64 x.f9, .int .i64 x.f10.f0, .int .i64 x.f10.f1, .string x.f10.f2, .slice A13 x.f10.f3.length c13, .slice A14 x.f10.f4.length c14] : Array Value).toList := k50_mkF W ok x h.l6 h.g6 h.l7 h.g7 h.b.l3 h.b.g3 h.b.l4 h.b.g4
theorem F_ev1 {b : Nat} {t : TypeId} (h : W.heap[b]? = some (.cells #[.string x.f0, .string x.f1, .string x.f2, .bool x.f3, .string x.f4, .string x.f5, .slice A6 x.f6.length c6, .slice A7 x.f7.length c7, .int .i64 x.f8, .int .i64 x.f9, .int .i64 x.f10.f0, .int .i64 x.f10.f1, .string x.f10.f2, .slice A13 x.f10.f3.length c13, .slice A14 x.f10.f4.length c14] t (0, 0))) (hx : EF W ok x A6 c6 A7 c7 A13 c13 A14 c14) : Kd.F kE W (fun k => ok k ∨ k = b) (some ⟨b, 0, none⟩) 1 [x] := fun W' hW => by
  have h' := (hW b (.inr rfl) (blk_lt h)).trans h
  refine ⟨rfl, by decide, fun _ => ⟨_, rfl, fun j p hj => ?_⟩⟩
  obtain ⟨hjl, rfl⟩ := List.getElem?_eq_some_iff.1 hj
  have hj0 : j = 0 := by simpa using hjl
  subst hj0
  refine ⟨(#[.string x.f0, .string x.f1, .string x.f2, .bool x.f3, .string x.f4, .string x.f5, .slice A6 x.f6.length c6, .slice A7 x.f7.length c7, .int .i64 x.f8, .int .i64 x.f9, .int .i64 x.f10.f0, .int .i64 x.f10.f1, .string x.f10.f2, .slice A13 x.f10.f3.length c13, .slice A14 x.f10.f4.length c14] : Array Value).toList, rfl, hx.fk W' (fun k hk hl => hW k (.inl hk) hl), fun q u hu => ?_⟩
  rw [add_plain, blk_cell h', Nat.zero_mul, Nat.zero_add]
  simpa using hu
end
theorem F_row1 {W : World} {b : Nat} {t : TypeId} {A : Option Addr} {c : Nat} {ok : Nat → Prop} {xs : List Int} (h : W.heap[b]? = some (.cells #[.slice A xs.length c] t (0, 0))) (hl : xs.length ≤ c) (hx : Kd.F (Kd.int .i64) W ok A xs.length xs) : Kd.F kG W (fun k => ok k ∨ k = b) (some ⟨b, 0, none⟩) 1 [xs] := fun W' hW => by
  have h' := (hW b (.inr rfl) (blk_lt h)).trans h
  refine ⟨rfl, by decide, fun _ => ⟨_, rfl, fun j p hj => ?_⟩⟩
  obtain ⟨hjl, rfl⟩ := List.getElem?_eq_some_iff.1 hj
  have hj0 : j = 0 := by simpa using hjl
  subst hj0
  refine ⟨[.slice A xs.length c], rfl, ⟨A, c, rfl, hl, hx W' (fun k hk hl => hW k (.inl hk) hl)⟩, fun q u hu => ?_⟩
  rw [add_plain, blk_cell h', Nat.zero_mul, Nat.zero_add]
  simpa using hu
def nmL (k n : Nat) : ByteArray := ⟨#[36]⟩ ++ strOfNums [97 + (k : Int) / 6 % 26, 97 + (n : Int)]
theorem lit2_u8 {w : World} {g base : Nat} {m m' : Int} (h : w.heap[g]? = some (.cells #[.int .u8 m, .int .u8 m'] 5 (0, 0))) (hb : base ≤ g) : w.ownsRow base 5 1 (.slice (some ⟨g, 0, none⟩) 2 2) 2 (nums .u8 [m, m']) :=
  ⟨rfl, .inr ⟨g, 2, #[.int .u8 m, .int .u8 m'], rfl, hb, h, Nat.le_refl _, by decide, rfl, rfl⟩⟩
theorem infoE : (Tryz.prog.info? 50).map (fun i => (i.zero, i.size, i.bytes)) = some (some (.agg #[.string ⟨#[]⟩, .string ⟨#[]⟩, .string ⟨#[]⟩, .bool false, .string ⟨#[]⟩, .string ⟨#[]⟩, .slice none 0 0, .slice none 0 0, .int .i64 0, .int .i64 0, .int .i64 0, .int .i64 0, .string ⟨#[]⟩, .slice none 0 0, .slice none 0 0]), 15, 232) := by kernel_rfl
theorem infoIL : (Tryz.prog.info? 27).map (fun i => (i.zero, i.size, i.bytes)) = some (some (.slice none 0 0), 1, 24) := by kernel_rfl
set_option maxHeartbeats 8000000 in
set_option maxRecDepth 100000 in
theorem lay.walk {w : World} {B : Nat} {l : List SEv} {g : List (List Int)} {AL AG : Option Addr} {cL cG : Nat} {P : Nat → Prop} (x : SEv) (A6 : Option Addr) (c6 : Nat) (A7 : Option Addr) (c7 : Nat) (A13 : Option Addr) (c13 : Nat) (A14 : Option Addr) (c14 : Nat) (k : Nat) (hk : k < 256)
    (hL : Kd.N kE 50 w B (fun q => True ∧ some q ≠ (.slice AG g.length cG : Value).ownBlock) (.slice AL l.length cL) l) (hG : Kd.N kG 27 w B (fun q => True ∧ some q ≠ (.slice AL l.length cL : Value).ownBlock) (.slice AG g.length cG) g)
    (hx : EF w P x A6 c6 A7 c7 A13 c13 A14 c14) (hP : ∀ q, P q → q < w.heap.size ∧ some q ≠ (.slice AL l.length cL : Value).ownBlock ∧ some q ≠ (.slice AG g.length cG : Value).ownBlock) (hl : l.length ≤ 100) (hgl : g.length ≤ 100) (h3 : x.f10.f3.length < 1000) (hB : B ≤ w.heap.size) :
    Calls Tryz.prog 29 #[.slice AL l.length cL, .slice AG g.length cG, .agg #[.string x.f0, .string x.f1, .string x.f2, .bool x.f3, .string x.f4, .string x.f5, .slice A6 x.f6.length c6, .slice A7 x.f7.length c7, .int .i64 x.f8, .int .i64 x.f9, .int .i64 x.f10.f0, .int .i64 x.f10.f1, .string x.f10.f2, .slice A13 x.f10.f3.length c13, .slice A14 x.f10.f4.length c14], .int .u8 (k : Int)] w fun e w' => ∃ AL' cL' AG' cG' own, e = .returned (.tuple #[.slice AL' (l ++ [({ x with f0 := nmL k l.length } : SEv)]).length cL', .slice AG' (g ++ [own]).length cG']) ∧
      Kd.N kE 50 w' B (fun q => True ∧ some q ≠ (.slice AG' (g ++ [own]).length cG' : Value).ownBlock) (.slice AL' (l ++ [({ x with f0 := nmL k l.length } : SEv)]).length cL') (l ++ [({ x with f0 := nmL k l.length } : SEv)]) ∧ Kd.N kG 27 w' B (fun q => True ∧ some q ≠ (.slice AL' (l ++ [({ x with f0 := nmL k l.length } : SEv)]).length cL' : Value).ownBlock) (.slice AG' (g ++ [own]).length cG') (g ++ [own]) ∧
      (∀ y ∈ own, 0 ≤ y ∧ y < (l.length : Int)) ∧ Go.Proofs.He.Kept (fun q => some q = (.slice AL l.length cL : Value).ownBlock ∨ some q = (.slice AG g.length cG : Value).ownBlock) w w' := by
  have hu34 := Tryz.underlying50
  have HL := Aside0.mk hL
  have HG := Aside0.mk hG
  have HLw0 := Aside0.mk hL
  have HGw0 := Aside0.mk hG
  have HX := Aside0.mk hx
  have HP := Aside0.mk hP
  clear hL hG hx hP
  have hk1 : 0 ≤ (k : Int) / 6 % 26 := by omega
  have hk2 : (k : Int) / 6 % 26 < 26 := by omega
  have hwl : IntKind.u8.wrap (l.length : Int) = (l.length : Int) := by show (l.length : Int) % 256 = _; omega
  have hwl2 : IntKind.u8.wrap (97 + (l.length : Int)) = 97 + (l.length : Int) := by show (97 + (l.length : Int)) % 256 = _; omega
  have hwl3 : IntKind.u8.wrap (97 + (k : Int) / 6 % 26) = 97 + (k : Int) / 6 % 26 := by show (97 + (k : Int) / 6 % 26) % 256 = _; omega
  go_enter Tryz.func29, Tryz.ntmps29
  go_upto_region 1 with fail
  generalize hw1 : w.alloc _ = W1
  have hb1 : Below w.heap.size w W1 := by rw [← hw1]; exact (Below.refl _ _).alloc (Nat.le_refl _) _
  have hx1 : W1.heap[w.heap.size]? = some (.cells #[.string x.f0, .string x.f1, .string x.f2, .bool x.f3, .string x.f4, .string x.f5, .slice A6 x.f6.length c6, .slice A7 x.f7.length c7, .int .i64 x.f8, .int .i64 x.f9, .int .i64 x.f10.f0, .int .i64 x.f10.f1, .string x.f10.f2, .slice A13 x.f10.f3.length c13, .slice A14 x.f10.f4.length c14] 50 (0, 0)) := by rw [← hw1]; exact heap_alloc_new w _
  clear hw1
  obtain ⟨x0, x1, x2, x3, x4, x5, x6, x7, x8, x9, x10, x11, x12, x13, x14⟩ := ev15C hx1
  obtain ⟨f0, f1, f2, f3, f4, f5, f6, f7, f8, f9, f10, f11, f12, f13, f14⟩ := ev15F hx1
  have HB1 := Aside0.mk hb1
  have HX1 := Aside0.mk hx1
  clear hb1 hx1
  have hcv := own_string (P := Tryz.prog) Tryz.underlying22 Tryz.underlying5 Tryz.underlying9 (lit2_u8 (w := W1.alloc (Obj.cells #[.int .u8 (97 + (k : Int) / 6 % 26), .int .u8 (97 + (l.length : Int))] 5)) (heap_alloc_new W1 _) (Nat.zero_le _))
  have hsz : 1 + (strOfNums [97 + (k : Int) / 6 % 26, 97 + (l.length : Int)]).size ≤ 9223372036854775807 := by rw [strOfNums_size]; exact (by decide : (1 : Nat) + 2 ≤ 9223372036854775807)
  have hsz2 : (9223372036854775807 < 1 + (strOfNums [97 + (k : Int) / 6 % 26, 97 + (l.length : Int)]).size) = False := eq_false (Nat.not_lt.2 hsz)
  have y0 : ∀ o, (W1.alloc o).cell? ⟨w.heap.size, 0, none⟩ = some (.string x.f0) := fun o => blk_cell (blk_alloc HX1.out o) 0
  have z0 : ∀ o, (W1.alloc o).frozen? ⟨w.heap.size, 0, none⟩ = false := fun o => blk_frozen (blk_alloc HX1.out o) 0
  go_upto_region 2 with fail
  generalize hw2 : World.setCell _ _ _ = W2
  have hx2 : W2.heap[w.heap.size]? = some (.cells #[.string (nmL k l.length), .string x.f1, .string x.f2, .bool x.f3, .string x.f4, .string x.f5, .slice A6 x.f6.length c6, .slice A7 x.f7.length c7, .int .i64 x.f8, .int .i64 x.f9, .int .i64 x.f10.f0, .int .i64 x.f10.f1, .string x.f10.f2, .slice A13 x.f10.f3.length c13, .slice A14 x.f10.f4.length c14] 50 (0, 0)) := by rw [← hw2]; exact blk_put (blk_alloc HX1.out _) 0 (.string (nmL k l.length)) rfl
  have hb2 : Below w.heap.size w W2 := by rw [← hw2]; exact (HB1.out.alloc HB1.out.size _).setCell (p := ⟨w.heap.size, 0, none⟩) (Nat.le_refl _) _
  have HX2 := Aside0.mk hx2
  have HB2 := Aside0.mk hb2
  have HE2 := Aside0.mk ((HX.out.below hb2).id (nmL k l.length))
  have HL2 := Aside0.mk (Kd.N_below HL.out hb2)
  have HG2 := Aside0.mk (Kd.N_below HG.out hb2)
  clear hx2 hb2 hw2 hcv hsz hsz2 y0 z0 HB1 HX1 HX HL HG x0 x1 x2 x3 x4 x5 x6 x7 x8 x9 x10 x11 x12 x13 x14 f0 f1 f2 f3 f4 f5 f6 f7 f8 f9 f10 f11 f12 f13 f14
  obtain ⟨x0, x1, x2, x3, x4, x5, x6, x7, x8, x9, x10, x11, x12, x13, x14⟩ := ev15C HX2.out
  obtain ⟨own, ⟨hk0, hev⟩, hol, ho⟩ := auth_ev l { x with f0 := nmL k l.length } (k : Int) h3 (by omega)
  have HA := Aside0.mk (fun (hl0 : l.length ≤ cL) (hlr : Kd.C kE W2 AL l.length l) => heliastlaw17_Auth.calls _ AL cL l _ _ _ _ _ _ A6 c6 x.f6 A7 c7 x.f7 _ _ _ _ _ A13 c13 x.f10.f3 A14 c14 x.f10.f4 (k : Int) own W2 hlr hl0 (Kd.F_now HE2.out.g6) HE2.out.l6 (Kd.F_now HE2.out.g7) HE2.out.l7 (Kd.F_now HE2.out.b.g3) HE2.out.b.l3 (Kd.F_now HE2.out.b.g4) HE2.out.b.l4 (hev _ (Nat.le_refl _)))
  have HO := Aside0.mk ho
  clear hev ho
  go_wp2_with fail
  refine (HA.out (Kd.N_reads' HL2.out).2.1 (Kd.N_reads' HL2.out).2.2).mono ?_
  rintro e W3 ⟨v3, rfl, h3r, hb3⟩
  obtain ⟨AW, cW, rfl⟩ := Kd.R_slice h3r
  have hpos2 := blk_lt HX2.out
  have HOW := Aside0.mk (Kd.N_mono (ok' := fun q => W2.heap.size ≤ q) (Kd.R_N (Kd.R_tight rfl h3r)) (fun q hq => Kd.R_base h3r q hq.symm))
  have HB3 := Aside0.mk (below_then HB2.out HB2.out.size hb3)
  have HX3 := Aside0.mk ((hb3.block _ hpos2).trans HX2.out)
  have HE3 := Aside0.mk (HE2.out.below hb3)
  have HL3 := Aside0.mk (Kd.N_below HL2.out hb3)
  have HG3 := Aside0.mk (Kd.N_below HG2.out hb3)
  have hsz23 := hb3.size
  have hsz02 := HB2.out.size
  have HL := Aside0.mk (Kd.N_lt HL2.out)
  have HGl := Aside0.mk (Kd.N_lt HG2.out)
  have HLw := Aside0.mk (Kd.N_lt HLw0.out)
  have HGw := Aside0.mk (Kd.N_lt HGw0.out)
  clear h3r hb3 HL2 HG2 HE2 HX2 HB2 HA x0 x1 x2 x3 x4 x5 x6 x7 x8 x9 x10 x11 x12 x13 x14 HLw0 HGw0
  obtain ⟨x0, x1, x2, x3, x4, x5, x6, x7, x8, x9, x10, x11, x12, x13, x14⟩ := ev15C HX3.out
  go_upto_region 4 with ((with_reducible refine gate_dst (N := 30) rfl ?_); refine Kd.N_append_rows kE B rfl (.tmp 27) (.tmp 29) 23 50 (.agg #[.string ⟨#[]⟩, .string ⟨#[]⟩, .string ⟨#[]⟩, .bool false, .string ⟨#[]⟩, .string ⟨#[]⟩, .slice none 0 0, .slice none 0 0, .int .i64 0, .int .i64 0, .int .i64 0, .int .i64 0, .string ⟨#[]⟩, .slice none 0 0, .slice none 0 0]) 232 rfl Tryz.underlying23 infoE rfl (by decide) (by decide) (.slice AL l.length cL) l [({ x with f0 := nmL k l.length } : SEv)] (_) (_) (_) (fun q => True ∧ some q ≠ (.slice AG g.length cG : Value).ownBlock) (fun q => P q ∨ q = W3.heap.size) rfl rfl (Kd.N_alloc HL3.out _) (F_ev1 (heap_alloc_new W3 _) (HE3.out.below ((Below.refl _ _).alloc (Nat.le_refl _) _))) (fun q hq => hq.elim (fun h => ⟨⟨trivial, (HP.out q h).2.2⟩, (HP.out q h).2.1⟩) (fun h => ⟨⟨trivial, fun e => by have := HGw.out q e.symm; omega⟩, fun e => by have := HLw.out q e.symm; omega⟩)) (fun q hq => ⟨trivial, fun e => by have := HGw.out q e.symm; have h_ : W3.heap.size ≤ q := Nat.le_trans (Nat.le_of_lt (by simp)) hq; omega⟩) (Below.refl B _) (by have h_ : W3.heap.size ≤ (W3.alloc (Obj.cells #[] 0)).heap.size := Nat.le_of_lt (by simp); simp; omega) (by show (l.length + 1) * 232 ≤ _; omega) ?_; intro v4 W4 hn4 hb4 hg4 hat4; replace hn4 := Aside0.mk hn4; replace hg4 := Aside0.mk hg4; replace hat4 := Aside0.mk hat4; clear hb4)
  obtain ⟨l2, hl2, hn5⟩ : ∃ l2, l2 = l ++ [({ x with f0 := nmL k l.length } : SEv)] ∧ Kd.N kE 50 W4 B (fun q => True ∧ some q ≠ (.slice AG g.length cG : Value).ownBlock) v4 l2 := ⟨_, rfl, hn4.out⟩
  obtain ⟨AL2, cL2, rfl⟩ := Kd.N_slice hn5
  have HL5 := Aside0.mk hn5
  have HL5l := Aside0.mk (Kd.N_lt hn5)
  have HG5 := Aside0.mk (Kd.N_after (Kd.N_alloc HG3.out _) hg4.out hat4.out)
  have HOW5 : Aside0 (Kd.N (Kd.int .i64) 3 W4 W2.heap.size (fun q => W2.heap.size ≤ q ∧ q < W3.heap.size) (.slice AW own.length cW) own) := ⟨Kd.N_grown (Kd.N_alloc (Kd.N_bound HOW.out) _) hg4.out (fun q hq e => by have := HLw.out q e.symm; omega)⟩
  have HK4 : Aside0 (Go.Proofs.He.Kept (fun q => some q = (.slice AL l.length cL : Value).ownBlock ∨ some q = (.slice AG g.length cG : Value).ownBlock) w W4) := ⟨(Go.Proofs.He.Kept.of_below HB3.out).trans ((Go.Proofs.He.Kept.of_below (F := fun q => some q = (.slice AL l.length cL : Value).ownBlock ∨ some q = (.slice AG g.length cG : Value).ownBlock) ((Below.refl W3.heap.size W3).alloc (Nat.le_refl _) _)).trans (Go.Proofs.He.Kept.of_grown hg4.out (fun q h => .inl h.symm)) (fun _ _ h => h)) (fun _ _ h => h)⟩
  have HAT : Aside0 (∀ q, some q = (.slice AL2 l2.length cL2 : Value).ownBlock → q < w.heap.size ∨ W3.heap.size ≤ q) := ⟨fun q hq => by
    rcases hat4.out with h | ⟨b, hb, hle⟩
    · exact .inl (HLw.out q (h.symm.trans hq.symm))
    · have e := hq.trans hb
      injection e with e
      have h_ : W3.heap.size ≤ b := Nat.le_trans (Nat.le_of_lt (by simp)) hle
      exact .inr (by omega)⟩
  have HSZ : Aside0 (W3.heap.size ≤ W4.heap.size) := ⟨Nat.le_trans (Nat.le_of_lt (by simp)) hg4.out.size⟩
  have HL2E := Aside0.mk hl2
  clear hl2 hn5 hn4 hat4 hg4 HL3 HG3 HOW HE3 HX3 HB3 HL HGl x0 x1 x2 x3 x4 x5 x6 x7 x8 x9 x10 x11 x12 x13 x14
  go_upto_region 5 with ((with_reducible refine gate_dst (N := 34) rfl ?_); refine Kd.N_append_rows kG B rfl (.tmp 31) (.tmp 33) 24 27 (.slice none 0 0) 24 rfl Tryz.underlying24 infoIL rfl (by decide) (by decide) (.slice AG g.length cG) g [own] (_) (_) (_) (fun q => True ∧ some q ≠ (.slice AL2 l2.length cL2 : Value).ownBlock) (fun q => (W2.heap.size ≤ q ∧ q < W3.heap.size) ∨ q = W4.heap.size) rfl rfl (Kd.N_alloc HG5.out _) (F_row1 (heap_alloc_new W4 _) (Kd.N_reads' HOW5.out).2.1 (Kd.N_F (Kd.N_alloc HOW5.out _))) (fun q hq => hq.elim (fun h => ⟨⟨trivial, fun e => by have := HAT.out q e; omega⟩, fun e => by have := HGw.out q e.symm; omega⟩) (fun h => ⟨⟨trivial, fun e => by have := HL5l.out q e.symm; omega⟩, fun e => by have := HGw.out q e.symm; have := HSZ.out; omega⟩)) (fun q hq => ⟨trivial, fun e => by have := HL5l.out q e.symm; have h_ : W4.heap.size ≤ q := Nat.le_trans (Nat.le_of_lt (by simp)) hq; omega⟩) (Below.refl B _) (by have := HSZ.out; simp; omega) (by show (g.length + 1) * 24 ≤ _; omega) ?_; intro v6 W6 hn6 hb6 hg6 hat6; replace hn6 := Aside0.mk hn6; replace hg6 := Aside0.mk hg6; replace hat6 := Aside0.mk hat6; clear hb6)
  obtain ⟨g2, hg2, hn7⟩ : ∃ g2, g2 = g ++ [own] ∧ Kd.N kG 27 W6 B (fun q => True ∧ some q ≠ (.slice AL2 l2.length cL2 : Value).ownBlock) v6 g2 := ⟨_, rfl, hn6.out⟩
  obtain ⟨AG2, cG2, rfl⟩ := Kd.N_slice hn7
  have HL7 := Aside0.mk (Kd.N_after (Kd.N_alloc HL5.out _) hg6.out hat6.out)
  have HG7 := Aside0.mk hn7
  have HK6 := Aside0.mk (HK4.out.trans ((Go.Proofs.He.Kept.of_below (F := fun q => some q = (.slice AL l.length cL : Value).ownBlock ∨ some q = (.slice AG g.length cG : Value).ownBlock) ((Below.refl W4.heap.size W4).alloc (Nat.le_refl _) _)).trans (Go.Proofs.He.Kept.of_grown hg6.out (fun q h => .inr h.symm)) (fun _ _ h => h)) (fun _ _ h => h))
  have HG2E := Aside0.mk hg2
  clear hg2 hn7 hn6 hat6 hg6 HL5 HG5 HOW5 HK4
  go_wp2_with fail
  go_ret2
  refine ⟨AL2, cL2, AG2, cG2, own, ?_, ?_, ?_, HO.out, HK6.out⟩
  · rw [← HL2E.out, ← HG2E.out]; rfl
  · rw [← HL2E.out, ← HG2E.out]; exact HL7.out
  · rw [← HL2E.out, ← HG2E.out]; exact HG7.out
end Go.Proofs.YtmdjknkhjimgeaaGreat.S
end
section
namespace Go.Proofs.YtmdjknkhjimgeaaGreat.S
open Go.RowKit Go.Proofs.YtmdjknkhjimgeaaGreatW.PrintWords Go.Proofs.YtmdjknkhjimgeaaGreatW.PrintLast Go.Proofs.YtmdjknkhjimgeaaGreatW.PrintMore
attribute [local go_sem] max2_int min2_int max_two min_two max_three min_three max_four min_four
set_option linter.unusedVariables false
set_option linter.unusedSimpArgs false
open Go.Proofs.He
theorem N_litd {α : Type} {d : Kd α} {e : Nat} {W : World} {base : Nat} {ok okp : Nat → Prop} {xs : List α} {inner : List Value} (hrep : Reps (Kd.FK d W okp) d.sz xs inner) (hok : ∀ k, okp k → ok k) (hfresh : ok W.heap.size) (hbase : base ≤ W.heap.size) (hm : xs.length ≤ 9223372036854775807) : Kd.N d e (W.alloc (.cells inner.toArray e)) base ok (.slice (some ⟨W.heap.size, 0, none⟩) xs.length xs.length) xs := by
  have h1 := Kd.reps_raw hrep (fun y c hk => ⟨d.K_len (Kd.FK_now hk), d.K_one (Kd.FK_now hk)⟩)
  have hlen : (Kd.chunks d.sz xs.length inner).length = xs.length := Kd.chunks_length _ _ _
  have h2 : (Kd.raw d.sz).R e (W.alloc (.cells inner.toArray e)) base (fun k => k = W.heap.size) (.slice (some ⟨W.heap.size, 0, none⟩) xs.length xs.length) (Kd.chunks d.sz xs.length inner) := by
    refine ⟨fun k hk => ?_, inner, ?_, h1⟩
    · have : W.heap.size = k := by simpa [Value.ownBlock] using hk
      exact this.symm
    · rw [hlen]
      have h3 := World.ownsRow_lit (base := base) (e := e) (size := d.sz) W inner.toArray xs.length hbase (by simpa [maxLen] using hm) (by simpa using hrep.1)
      have h4 : (W.alloc (.cells inner.toArray e)).ownsRow base e d.sz (.slice (some ⟨W.heap.size, 0, none⟩) xs.length xs.length) xs.length inner := by simpa using h3
      exact h4
  exact Kd.N_made h2 (World.grownBy_alloc W _ none) ⟨W.heap.size, by simp [Value.ownBlock], Nat.le_refl _⟩ hlen (fun j y c hy hc => by rw [Kd.chunks_get hc]; exact hrep.2 j y hy) hok hfresh
theorem EF_body {W : World} {ok : Nat → Prop} {r : SV} {A3 A4 : Option Addr} {c3 c4 : Nat} (h : VF W ok r A3 c3 A4 c4) (ty key sender ver : ByteArray) (is : Bool) (tm : Int) : EF W ok (⟨⟨#[]⟩, ty, key, is, sender, ver, [], [], 0, tm, r⟩ : SEv) none 0 none 0 A3 c3 A4 c4 := ⟨Nat.le_refl _, Kd.F_nil _ _ _, Nat.le_refl _, Kd.F_nil _ _ _, h⟩
theorem dq_users {r : SV} {key a b : ByteArray} {z : Int} (h : WithOf (⟨5, 0, ⟨#[]⟩, [], []⟩ : SV) key (⟨5, 0, ⟨#[]⟩, [a, b], [⟨2, 100, ⟨#[]⟩, [], []⟩, ⟨2, z, ⟨#[]⟩, [], []⟩]⟩ : SV) r.f3 r.f4) : Dq 41 r := by
  refine Dq.le (d := 2) ⟨Nat.le_trans h.len4 (by decide), Nat.le_trans h.len5 (by decide), fun y hy => ?_⟩ (by decide)
  rcases h.elems y hy with hy | rfl
  · cases hy
  · refine ⟨by show (2 : Nat) ≤ _; decide, by show (2 : Nat) ≤ _; decide, fun y hy => ?_⟩
    rcases List.mem_cons.1 hy with rfl | hy
    · exact ⟨by show (0 : Nat) ≤ _; decide, rfl⟩
    · rw [List.mem_singleton.1 hy]; exact ⟨by show (0 : Nat) ≤ _; decide, rfl⟩
set_option maxHeartbeats 8000000 in
set_option maxRecDepth 100000 in
theorem Opening.walk (k : Nat) (hk : k < 256) (w : World) :
    Calls Tryz.prog 28 #[.int .u8 (k : Int)] w fun e w' => ∃ (xs : List SEv) (A : Option Addr) (c : Nat), e = .returned (.slice A xs.length c) ∧ xs.length ≤ c ∧ Kd.F kE w' (fun q => w.heap.size ≤ q) A xs.length xs ∧ xs.length ≤ 6 ∧ (k = 0 → xs ≠ []) ∧ (∀ x ∈ xs, x.f10.f3.length < 1000 ∧ x.f4 ≠ ⟨#[]⟩ ∧ Dq 41 x.f10) ∧ Below w.heap.size w w' := by
  have hu32 := Tryz.underlying48
  have hu34 := Tryz.underlying50
  go_enter Tryz.func28, Tryz.ntmps28
  go_wp2_with fail
  refine (Body_any w ⟨#[109, 101, 109, 98, 101, 114, 115, 104, 105, 112]⟩ ⟨#[106, 111, 105, 110]⟩ (by decide)).mono ?_
  rintro e W1 ⟨r1, A13, c13, A14, c14, rfl, v1, s1, hb1⟩
  have V1 := Aside0.mk v1
  have S1 := Aside0.mk s1
  have B1 := Aside0.mk hb1
  clear v1 s1 hb1
  go_wp2_with fail
  refine (Body_any W1 ⟨#[106, 111, 105, 110, 95, 114, 117, 108, 101]⟩ ⟨#[112, 117, 98, 108, 105, 99]⟩ (by decide)).mono ?_
  rintro e W2 ⟨r2, A23, c23, A24, c24, rfl, v2, s2, hb2⟩
  have V2 := Aside0.mk v2
  have S2 := Aside0.mk s2
  have B2 := Aside0.mk hb2
  clear v2 s2 hb2
  go_wp2_with fail
  refine (Body_any W2 ⟨#[109, 101, 109, 98, 101, 114, 115, 104, 105, 112]⟩ ⟨#[106, 111, 105, 110]⟩ (by decide)).mono ?_
  rintro e W3 ⟨r3, A33, c33, A34, c34, rfl, v3, s3, hb3⟩
  have V3 := Aside0.mk v3
  have S3 := Aside0.mk s3
  have B3 := Aside0.mk hb3
  clear v3 s3 hb3
  go_wp2_with fail
  refine (Body_any W3 ⟨#[109, 101, 109, 98, 101, 114, 115, 104, 105, 112]⟩ ⟨#[106, 111, 105, 110]⟩ (by decide)).mono ?_
  rintro e W4 ⟨r4, A43, c43, A44, c44, rfl, v4, s4, hb4⟩
  have V4 := Aside0.mk v4
  have S4 := Aside0.mk s4
  have B4 := Aside0.mk hb4
  clear v4 s4 hb4
  go_upto_region 3 with fail
  generalize hw5 : W4.alloc _ = W5
  have HN5 : Aside0 (∃ xs : List SEv, xs.length = 5 ∧ (∀ x ∈ xs, x.f10.f3.length < 1000 ∧ x.f4 ≠ ⟨#[]⟩ ∧ Dq 41 x.f10) ∧ Kd.N kE 50 W5 w.heap.size (fun q => w.heap.size ≤ q) (.slice (some ⟨W4.heap.size, 0, none⟩) 5 5) xs) := ⟨by
    have l1 := B1.out.size
    have l2 := B2.out.size
    have l3 := B3.out.size
    have l4 := B4.out.size
    have q0 := VF_plain W4 (fun q => w.heap.size ≤ q) 5 0 ⟨#[]⟩
    have q1 := (((V1.out.below B2.out).below B3.out).below B4.out)
    have q2 := (((V2.out.below B3.out).below B4.out).mono (ok' := fun q => w.heap.size ≤ q) (fun q h => by omega))
    have q3 := ((V3.out.below B4.out).mono (ok' := fun q => w.heap.size ≤ q) (fun q h => by omega))
    have q4 := (V4.out.mono (ok' := fun q => w.heap.size ≤ q) (fun q h => by omega))
    rw [← hw5]
    refine ⟨[(⟨⟨#[]⟩, (⟨#[109, 46, 114, 111, 111, 109, 46, 99, 114, 101, 97, 116, 101]⟩ : ByteArray), (⟨#[]⟩ : ByteArray), true, (⟨#[64, 97, 58, 115]⟩ : ByteArray), rS, [], [], 0, 0, (⟨5, 0, ⟨#[]⟩, [], []⟩ : SV)⟩ : SEv), (⟨⟨#[]⟩, (⟨#[109, 46, 114, 111, 111, 109, 46, 109, 101, 109, 98, 101, 114]⟩ : ByteArray), (⟨#[64, 97, 58, 115]⟩ : ByteArray), true, (⟨#[64, 97, 58, 115]⟩ : ByteArray), rS, [], [], 0, 0, r1⟩ : SEv), (⟨⟨#[]⟩, (⟨#[109, 46, 114, 111, 111, 109, 46, 106, 111, 105, 110, 95, 114, 117, 108, 101, 115]⟩ : ByteArray), (⟨#[]⟩ : ByteArray), true, (⟨#[64, 97, 58, 115]⟩ : ByteArray), rS, [], [], 0, 0, r2⟩ : SEv), (⟨⟨#[]⟩, (⟨#[109, 46, 114, 111, 111, 109, 46, 109, 101, 109, 98, 101, 114]⟩ : ByteArray), (⟨#[64, 98, 58, 115]⟩ : ByteArray), true, (⟨#[64, 98, 58, 115]⟩ : ByteArray), rS, [], [], 0, 0, r3⟩ : SEv), (⟨⟨#[]⟩, (⟨#[109, 46, 114, 111, 111, 109, 46, 109, 101, 109, 98, 101, 114]⟩ : ByteArray), (⟨#[64, 99, 58, 116]⟩ : ByteArray), true, (⟨#[64, 99, 58, 116]⟩ : ByteArray), rS, [], [], 0, 0, r4⟩ : SEv)], rfl, ?_, N_litd (d := kE) (Reps.front (EF_body q0 (⟨#[109, 46, 114, 111, 111, 109, 46, 99, 114, 101, 97, 116, 101]⟩ : ByteArray) (⟨#[]⟩ : ByteArray) (⟨#[64, 97, 58, 115]⟩ : ByteArray) rS true 0).fk rfl (Reps.front (EF_body q1 (⟨#[109, 46, 114, 111, 111, 109, 46, 109, 101, 109, 98, 101, 114]⟩ : ByteArray) (⟨#[64, 97, 58, 115]⟩ : ByteArray) (⟨#[64, 97, 58, 115]⟩ : ByteArray) rS true 0).fk rfl (Reps.front (EF_body q2 (⟨#[109, 46, 114, 111, 111, 109, 46, 106, 111, 105, 110, 95, 114, 117, 108, 101, 115]⟩ : ByteArray) (⟨#[]⟩ : ByteArray) (⟨#[64, 97, 58, 115]⟩ : ByteArray) rS true 0).fk rfl (Reps.front (EF_body q3 (⟨#[109, 46, 114, 111, 111, 109, 46, 109, 101, 109, 98, 101, 114]⟩ : ByteArray) (⟨#[64, 98, 58, 115]⟩ : ByteArray) (⟨#[64, 98, 58, 115]⟩ : ByteArray) rS true 0).fk rfl (Reps.front (EF_body q4 (⟨#[109, 46, 114, 111, 111, 109, 46, 109, 101, 109, 98, 101, 114]⟩ : ByteArray) (⟨#[64, 99, 58, 116]⟩ : ByteArray) (⟨#[64, 99, 58, 116]⟩ : ByteArray) rS true 0).fk rfl (Reps.none _ _) rfl) rfl) rfl) rfl) rfl) (fun k h => h) (by show w.heap.size ≤ W4.heap.size; omega) (by omega) (by show (5 : Nat) ≤ _; decide)⟩
    simp only [List.mem_cons, List.not_mem_nil, or_false]
    rintro y (rfl | rfl | rfl | rfl | rfl)
    · exact ⟨by decide, by decide, Dq.le (d := 0) ⟨by decide, rfl⟩ (by decide)⟩
    · exact ⟨by have := S1.out.a; show r1.f3.length < 1000; omega, by show (⟨#[64, 97, 58, 115]⟩ : ByteArray) ≠ ⟨#[]⟩; decide, S1.out.dq (by decide)⟩
    · exact ⟨by have := S2.out.a; show r2.f3.length < 1000; omega, by show (⟨#[64, 97, 58, 115]⟩ : ByteArray) ≠ ⟨#[]⟩; decide, S2.out.dq (by decide)⟩
    · exact ⟨by have := S3.out.a; show r3.f3.length < 1000; omega, by show (⟨#[64, 98, 58, 115]⟩ : ByteArray) ≠ ⟨#[]⟩; decide, S3.out.dq (by decide)⟩
    · exact ⟨by have := S4.out.a; show r4.f3.length < 1000; omega, by show (⟨#[64, 99, 58, 116]⟩ : ByteArray) ≠ ⟨#[]⟩; decide, S4.out.dq (by decide)⟩⟩
  have HB5 : Aside0 (Below w.heap.size w W5 ∧ W4.heap.size < W5.heap.size) := ⟨by
    have h4 := below_then (below_then (below_then B1.out B1.out.size B2.out) (Nat.le_trans B1.out.size B2.out.size) B3.out) (Nat.le_trans (Nat.le_trans B1.out.size B2.out.size) B3.out.size) B4.out
    rw [← hw5]
    exact ⟨h4.alloc h4.size _, by simp⟩⟩
  clear hw5 V1 V2 V3 V4 S1 S2 S3 S4 B1 B2 B3 B4
  have hk4 : 0 ≤ (k : Int) % 4 := by omega
  have hcase : (k : Int) % 4 = 0 ∨ ((k : Int) % 4 = 1 ∨ (k : Int) % 4 = 2) ∨ (k : Int) % 4 = 3 := by omega
  rcases hcase with h | h | h
  · have b1 : ((k : Int) % 4 == 1) = false := beq_eq_false_iff_ne.2 (by omega)
    have b2 : ((k : Int) % 4 == 2) = false := beq_eq_false_iff_ne.2 (by omega)
    have b3 : ((k : Int) % 4 == 3) = false := beq_eq_false_iff_ne.2 (by omega)
    clear h hk4
    go_wp2_with fail
    go_ret
    obtain ⟨xs, h5, hx, hn⟩ := HN5.out
    exact ⟨xs, some ⟨W4.heap.size, 0, none⟩, 5, by rw [h5]; rfl, by omega, by rw [h5]; exact Kd.N_F hn, by omega, (fun _ e => by rw [e] at h5; cases h5), hx, HB5.out.1⟩
  · have hk101 : 0 ≤ (k : Int) % 101 := by omega
    have b3 : ((k : Int) % 4 == 3) = false := beq_eq_false_iff_ne.2 (by omega)
    have hbb : ((k : Int) % 4 == 1) = true ∨ (((k : Int) % 4 == 1) = false ∧ ((k : Int) % 4 == 2) = true) := h.elim (fun h => .inl (beq_iff_eq.2 h)) (fun h => .inr ⟨beq_eq_false_iff_ne.2 (by omega), beq_iff_eq.2 h⟩)
    clear h
    rcases hbb with b1 | ⟨b1, b2⟩
    · skip
      go_wp2_with fail
      generalize hw6 : W5.alloc _ = W6
      have HN6 : Aside0 (Kd.N Kd.string 9 W6 W5.heap.size (fun q => W5.heap.size ≤ q) (.slice (some ⟨W5.heap.size, 0, none⟩) 2 2) [(⟨#[64, 97, 58, 115]⟩ : ByteArray), ⟨#[64, 98, 58, 115]⟩]) := ⟨by
        rw [← hw6]
        exact N_litd (d := Kd.string) (okp := fun q => W5.heap.size ≤ q) (Reps.front (c := [.string ⟨#[64, 97, 58, 115]⟩]) (fun _ _ => rfl) rfl (Reps.front (c := [.string ⟨#[64, 98, 58, 115]⟩]) (fun _ _ => rfl) rfl (Reps.none _ _) rfl) rfl) (fun k h => h) (Nat.le_refl _) (Nat.le_refl _) (by show (2 : Nat) ≤ _; decide)⟩
      have HB56 : Aside0 (Below W5.heap.size W5 W6) := ⟨by rw [← hw6]; exact (Below.refl _ _).alloc (Nat.le_refl _) _⟩
      clear hw6
      refine (heliastref02_Num.calls 100 2 100 ⟨#[]⟩ [] [] W6 rfl).mono ?_
      rintro e W7 ⟨n3, n4, rfl, hr3, hr4, hb7⟩
      obtain ⟨X3, Xc3, rfl⟩ := Kd.R_slice hr3
      obtain ⟨X4, Xc4, rfl⟩ := Kd.R_slice hr4
      have HV7 : Aside0 (VF W7 (fun q => W6.heap.size ≤ q) (⟨2, 100, ⟨#[]⟩, [], []⟩ : SV) X3 Xc3 X4 Xc4) := ⟨(Kd.R_reads' hr3).2.1, Kd.F_mono (Kd.N_F (Kd.R_N (Kd.R_bound hr3))) (fun k hk => hk.2.1), (Kd.R_reads' hr4).2.1, Kd.F_mono (Kd.N_F (Kd.R_N (Kd.R_bound hr4))) (fun k hk => hk.2.1)⟩
      have HB7 := Aside0.mk hb7
      clear hr3 hr4 hb7
      go_wp2_with fail
      refine (heliastref02_Num.calls ((k : Int) % 101) 2 ((k : Int) % 101) ⟨#[]⟩ [] [] W7 rfl).mono ?_
      rintro e W8 ⟨n3, n4, rfl, hr3, hr4, hb8⟩
      obtain ⟨Y3, Yc3, rfl⟩ := Kd.R_slice hr3
      obtain ⟨Y4, Yc4, rfl⟩ := Kd.R_slice hr4
      have HV8 : Aside0 (VF W8 (fun q => W7.heap.size ≤ q) (⟨2, (k : Int) % 101, ⟨#[]⟩, [], []⟩ : SV) Y3 Yc3 Y4 Yc4) := ⟨(Kd.R_reads' hr3).2.1, Kd.F_mono (Kd.N_F (Kd.R_N (Kd.R_bound hr3))) (fun k hk => hk.2.1), (Kd.R_reads' hr4).2.1, Kd.F_mono (Kd.N_F (Kd.R_N (Kd.R_bound hr4))) (fun k hk => hk.2.1)⟩
      have HB8 := Aside0.mk hb8
      clear hr3 hr4 hb8
      go_upto_region 5 with fail
      generalize hw9 : W8.alloc _ = W9
      generalize hw10 : W9.alloc _ = W10
      have hs56 := HB56.out.size
      have hs67 := HB7.out.size
      have hs78 := HB8.out.size
      have hs05 := HB5.out.1.size
      have HB89 : Aside0 (Below W8.heap.size W8 W9) := ⟨by rw [← hw9]; exact (Below.refl _ _).alloc (Nat.le_refl _) _⟩
      have HB910 : Aside0 (Below W9.heap.size W9 W10) := ⟨by rw [← hw10]; exact (Below.refl _ _).alloc (Nat.le_refl _) _⟩
      have HX10 : Aside0 (W10.heap[W8.heap.size + 1]? = some (.cells #[.int .i64 5, .int .i64 0, .string ⟨#[]⟩, .slice (some ⟨W5.heap.size, 0, none⟩) 2 2, .slice (some ⟨W8.heap.size, 0, none⟩) 2 2] 48 (0, 0))) := ⟨by rw [show W8.heap.size + 1 = W9.heap.size from (by rw [← hw9]; simp), ← hw10]; exact heap_alloc_new W9 _⟩
      have HN9 : Aside0 (Kd.N kSV 48 W9 W5.heap.size (fun q => W5.heap.size ≤ q) (.slice (some ⟨W8.heap.size, 0, none⟩) 2 2) [(⟨2, 100, ⟨#[]⟩, [], []⟩ : SV), ⟨2, (k : Int) % 101, ⟨#[]⟩, [], []⟩]) := ⟨by
        rw [← hw9]
        exact N_litd (d := kSV) (okp := fun q => W5.heap.size ≤ q) (Reps.front ((HV7.out.below HB8.out).mono (ok' := fun q => W5.heap.size ≤ q) (fun q h => by omega)).fk rfl (Reps.front (HV8.out.mono (ok' := fun q => W5.heap.size ≤ q) (fun q h => by omega)).fk rfl (Reps.none _ _) rfl) rfl) (fun k h => h) (by show W5.heap.size ≤ W8.heap.size; omega) (by omega) (by show (2 : Nat) ≤ _; decide)⟩
      have HB610 : Aside0 (Below W6.heap.size W6 W10) := ⟨below_then (below_then (below_then HB7.out hs67 HB8.out) (by omega) HB89.out) (by have := HB89.out.size; omega) HB910.out⟩
      have HB510 : Aside0 (Below W5.heap.size W5 W10) := ⟨below_then HB56.out hs56 HB610.out⟩
      have HVX : Aside0 (VF W10 (fun q => W5.heap.size ≤ q ∧ q < W10.heap.size) (⟨5, 0, ⟨#[]⟩, [⟨#[64, 97, 58, 115]⟩, ⟨#[64, 98, 58, 115]⟩], [⟨2, 100, ⟨#[]⟩, [], []⟩, ⟨2, (k : Int) % 101, ⟨#[]⟩, [], []⟩]⟩ : SV) (some ⟨W5.heap.size, 0, none⟩) 2 (some ⟨W8.heap.size, 0, none⟩) 2) := ⟨Nat.le_refl _, Kd.N_F (Kd.N_bound (Kd.N_below HN6.out HB610.out)), Nat.le_refl _, Kd.N_F (Kd.N_bound (Kd.N_below HN9.out HB910.out))⟩
      have HN10 : Aside0 (∃ xs : List SEv, xs.length = 5 ∧ (∀ x ∈ xs, x.f10.f3.length < 1000 ∧ x.f4 ≠ ⟨#[]⟩ ∧ Dq 41 x.f10) ∧ Kd.N kE 50 W10 w.heap.size (fun q => w.heap.size ≤ q) (.slice (some ⟨W4.heap.size, 0, none⟩) 5 5) xs) := ⟨by
        obtain ⟨xs, h5, hx, hn⟩ := HN5.out
        exact ⟨xs, h5, hx, Kd.N_below hn HB510.out⟩⟩
      have HB10 : Aside0 (Below w.heap.size w W10) := ⟨below_then HB5.out.1 hs05 HB510.out⟩
      have hs45 := HB5.out.2
      have hs510 := HB510.out.size
      clear hw9 hw10 HN6 HN9 HV7 HV8 HB56 HB7 HB8 HB89 HB910 HB610 HB510 HN5 HB5 hs56 hs67 hs78
      obtain ⟨e0, e1, e2, e3, e4⟩ := bx_cells HX10.out
      go_wp2_with fail
      refine (With.walk (⟨5, 0, ⟨#[]⟩, [], []⟩ : SV) none 0 none 0 ⟨#[117, 115, 101, 114, 115]⟩ _ _ _ _ _ (fun q => W5.heap.size ≤ q ∧ q < W10.heap.size) W10 (VF_plain _ _ _ _ _) HVX.out (fun q h => h.2) (by decide) (by decide) (fun s h => by cases h)).mono ?_
      rintro e W11 ⟨r, R3, rc3, R4, rc4, rfl, hv11, hof, hb11⟩
      have HV11 := Aside0.mk hv11
      have HOF := Aside0.mk hof
      have HB11 := Aside0.mk hb11
      clear hv11 hof hb11 e0 e1 e2 e3 e4 HVX HX10
      have hs1011 := HB11.out.size
      have hs010 := HB10.out.size
      obtain ⟨xs, h5, hxs, hn⟩ := HN10.out
      have HN11 : Aside0 (Kd.N kE 50 W11 w.heap.size (fun q => w.heap.size ≤ q) (.slice (some ⟨W4.heap.size, 0, none⟩) 5 5) xs) := ⟨Kd.N_below hn HB11.out⟩
      have HXS := Aside0.mk hxs
      have HX5 := Aside0.mk h5
      have HEV : Aside0 (EF W11 (fun q => (W5.heap.size ≤ q ∧ q < W10.heap.size) ∨ W10.heap.size ≤ q) (⟨⟨#[]⟩, (⟨#[109, 46, 114, 111, 111, 109, 46, 112, 111, 119, 101, 114, 95, 108, 101, 118, 101, 108, 115]⟩ : ByteArray), ⟨#[]⟩, true, (⟨#[64, 97, 58, 115]⟩ : ByteArray), rS, [], [], 0, 0, r⟩ : SEv) none 0 none 0 R3 rc3 R4 rc4) := ⟨EF_body HV11.out _ _ _ _ _ _⟩
      have HBW : Aside0 (Below w.heap.size w W11) := ⟨below_then HB10.out HB10.out.size HB11.out⟩
      clear hxs hn h5 HN10 HV11 HB11 HB10
      go_upto_region 6 with ((with_reducible refine gate_dst (N := 45) rfl ?_); refine Kd.N_append_rows kE w.heap.size rfl (.tmp 38) (.tmp 44) 23 50 (.agg #[.string ⟨#[]⟩, .string ⟨#[]⟩, .string ⟨#[]⟩, .bool false, .string ⟨#[]⟩, .string ⟨#[]⟩, .slice none 0 0, .slice none 0 0, .int .i64 0, .int .i64 0, .int .i64 0, .int .i64 0, .string ⟨#[]⟩, .slice none 0 0, .slice none 0 0]) 232 rfl Tryz.underlying23 infoE rfl (by decide) (by decide) (.slice (some ⟨W4.heap.size, 0, none⟩) 5 5) xs [(⟨⟨#[]⟩, (⟨#[109, 46, 114, 111, 111, 109, 46, 112, 111, 119, 101, 114, 95, 108, 101, 118, 101, 108, 115]⟩ : ByteArray), ⟨#[]⟩, true, (⟨#[64, 97, 58, 115]⟩ : ByteArray), rS, [], [], 0, 0, r⟩ : SEv)] (_) (_) (_) (fun q => w.heap.size ≤ q) (fun q => ((W5.heap.size ≤ q ∧ q < W10.heap.size) ∨ W10.heap.size ≤ q) ∨ q = W11.heap.size) rfl rfl (Kd.N_alloc HN11.out _) (F_ev1 (heap_alloc_new W11 _) (HEV.out.below ((Below.refl _ _).alloc (Nat.le_refl _) _))) (fun q hq => ⟨by omega, fun e => by have e2 : q = W4.heap.size := (by simpa [Value.ownBlock] using e); omega⟩) (fun q hq => by have h_ : W11.heap.size ≤ q := Nat.le_trans (Nat.le_of_lt (by simp)) hq; omega) (HBW.out.alloc HBW.out.size _) (by simp; omega) (by rw [HX5.out]; decide) ?_; intro v12 W12 hn12 hb12 hg12 hat12; replace hn12 := Aside0.mk hn12; replace hb12 := Aside0.mk hb12; clear hg12 hat12)
      obtain ⟨ys, hys, hy6, hym, hyn⟩ : ∃ ys : List SEv, ys ≠ [] ∧ ys.length = 6 ∧ (∀ x ∈ ys, x.f10.f3.length < 1000 ∧ x.f4 ≠ ⟨#[]⟩ ∧ Dq 41 x.f10) ∧ Kd.N kE 50 W12 w.heap.size (fun q => w.heap.size ≤ q) v12 ys := ⟨_, by simp, by rw [List.length_append, HX5.out]; rfl, fun x hx => by
        rcases List.mem_append.1 hx with hx | hx
        · exact HXS.out x hx
        · rw [List.mem_singleton.1 hx]
          exact ⟨by have h1_ := HOF.out.len4; show r.f3.length < 1000; exact Nat.lt_of_le_of_lt h1_ (by decide), by show (⟨#[64, 97, 58, 115]⟩ : ByteArray) ≠ (⟨#[]⟩ : ByteArray); decide, dq_users HOF.out⟩, hn12.out⟩
      obtain ⟨AY, cY, rfl⟩ := Kd.N_slice hyn
      have HYN := Aside0.mk hyn
      have HYM := Aside0.mk hym
      have HYS := Aside0.mk (And.intro hys hy6)
      clear hys hy6 hym hyn hn12
      go_wp2_with fail
      go_ret
      exact ⟨ys, AY, cY, rfl, (Kd.N_reads' HYN.out).2.1, Kd.N_F HYN.out, by rw [HYS.out.2]; decide, fun _ => HYS.out.1, HYM.out, hb12.out⟩
    · skip
      go_wp2_with fail
      generalize hw6 : W5.alloc _ = W6
      have HN6 : Aside0 (Kd.N Kd.string 9 W6 W5.heap.size (fun q => W5.heap.size ≤ q) (.slice (some ⟨W5.heap.size, 0, none⟩) 2 2) [(⟨#[64, 97, 58, 115]⟩ : ByteArray), ⟨#[64, 98, 58, 115]⟩]) := ⟨by
        rw [← hw6]
        exact N_litd (d := Kd.string) (okp := fun q => W5.heap.size ≤ q) (Reps.front (c := [.string ⟨#[64, 97, 58, 115]⟩]) (fun _ _ => rfl) rfl (Reps.front (c := [.string ⟨#[64, 98, 58, 115]⟩]) (fun _ _ => rfl) rfl (Reps.none _ _) rfl) rfl) (fun k h => h) (Nat.le_refl _) (Nat.le_refl _) (by show (2 : Nat) ≤ _; decide)⟩
      have HB56 : Aside0 (Below W5.heap.size W5 W6) := ⟨by rw [← hw6]; exact (Below.refl _ _).alloc (Nat.le_refl _) _⟩
      clear hw6
      refine (heliastref02_Num.calls 100 2 100 ⟨#[]⟩ [] [] W6 rfl).mono ?_
      rintro e W7 ⟨n3, n4, rfl, hr3, hr4, hb7⟩
      obtain ⟨X3, Xc3, rfl⟩ := Kd.R_slice hr3
      obtain ⟨X4, Xc4, rfl⟩ := Kd.R_slice hr4
      have HV7 : Aside0 (VF W7 (fun q => W6.heap.size ≤ q) (⟨2, 100, ⟨#[]⟩, [], []⟩ : SV) X3 Xc3 X4 Xc4) := ⟨(Kd.R_reads' hr3).2.1, Kd.F_mono (Kd.N_F (Kd.R_N (Kd.R_bound hr3))) (fun k hk => hk.2.1), (Kd.R_reads' hr4).2.1, Kd.F_mono (Kd.N_F (Kd.R_N (Kd.R_bound hr4))) (fun k hk => hk.2.1)⟩
      have HB7 := Aside0.mk hb7
      clear hr3 hr4 hb7
      go_wp2_with fail
      refine (heliastref02_Num.calls ((k : Int) % 101) 2 ((k : Int) % 101) ⟨#[]⟩ [] [] W7 rfl).mono ?_
      rintro e W8 ⟨n3, n4, rfl, hr3, hr4, hb8⟩
      obtain ⟨Y3, Yc3, rfl⟩ := Kd.R_slice hr3
      obtain ⟨Y4, Yc4, rfl⟩ := Kd.R_slice hr4
      have HV8 : Aside0 (VF W8 (fun q => W7.heap.size ≤ q) (⟨2, (k : Int) % 101, ⟨#[]⟩, [], []⟩ : SV) Y3 Yc3 Y4 Yc4) := ⟨(Kd.R_reads' hr3).2.1, Kd.F_mono (Kd.N_F (Kd.R_N (Kd.R_bound hr3))) (fun k hk => hk.2.1), (Kd.R_reads' hr4).2.1, Kd.F_mono (Kd.N_F (Kd.R_N (Kd.R_bound hr4))) (fun k hk => hk.2.1)⟩
      have HB8 := Aside0.mk hb8
      clear hr3 hr4 hb8
      go_upto_region 5 with fail
      generalize hw9 : W8.alloc _ = W9
      generalize hw10 : W9.alloc _ = W10
      have hs56 := HB56.out.size
      have hs67 := HB7.out.size
      have hs78 := HB8.out.size
      have hs05 := HB5.out.1.size
      have HB89 : Aside0 (Below W8.heap.size W8 W9) := ⟨by rw [← hw9]; exact (Below.refl _ _).alloc (Nat.le_refl _) _⟩
      have HB910 : Aside0 (Below W9.heap.size W9 W10) := ⟨by rw [← hw10]; exact (Below.refl _ _).alloc (Nat.le_refl _) _⟩
      have HX10 : Aside0 (W10.heap[W8.heap.size + 1]? = some (.cells #[.int .i64 5, .int .i64 0, .string ⟨#[]⟩, .slice (some ⟨W5.heap.size, 0, none⟩) 2 2, .slice (some ⟨W8.heap.size, 0, none⟩) 2 2] 48 (0, 0))) := ⟨by rw [show W8.heap.size + 1 = W9.heap.size from (by rw [← hw9]; simp), ← hw10]; exact heap_alloc_new W9 _⟩
      have HN9 : Aside0 (Kd.N kSV 48 W9 W5.heap.size (fun q => W5.heap.size ≤ q) (.slice (some ⟨W8.heap.size, 0, none⟩) 2 2) [(⟨2, 100, ⟨#[]⟩, [], []⟩ : SV), ⟨2, (k : Int) % 101, ⟨#[]⟩, [], []⟩]) := ⟨by
        rw [← hw9]
        exact N_litd (d := kSV) (okp := fun q => W5.heap.size ≤ q) (Reps.front ((HV7.out.below HB8.out).mono (ok' := fun q => W5.heap.size ≤ q) (fun q h => by omega)).fk rfl (Reps.front (HV8.out.mono (ok' := fun q => W5.heap.size ≤ q) (fun q h => by omega)).fk rfl (Reps.none _ _) rfl) rfl) (fun k h => h) (by show W5.heap.size ≤ W8.heap.size; omega) (by omega) (by show (2 : Nat) ≤ _; decide)⟩
      have HB610 : Aside0 (Below W6.heap.size W6 W10) := ⟨below_then (below_then (below_then HB7.out hs67 HB8.out) (by omega) HB89.out) (by have := HB89.out.size; omega) HB910.out⟩
      have HB510 : Aside0 (Below W5.heap.size W5 W10) := ⟨below_then HB56.out hs56 HB610.out⟩
      have HVX : Aside0 (VF W10 (fun q => W5.heap.size ≤ q ∧ q < W10.heap.size) (⟨5, 0, ⟨#[]⟩, [⟨#[64, 97, 58, 115]⟩, ⟨#[64, 98, 58, 115]⟩], [⟨2, 100, ⟨#[]⟩, [], []⟩, ⟨2, (k : Int) % 101, ⟨#[]⟩, [], []⟩]⟩ : SV) (some ⟨W5.heap.size, 0, none⟩) 2 (some ⟨W8.heap.size, 0, none⟩) 2) := ⟨Nat.le_refl _, Kd.N_F (Kd.N_bound (Kd.N_below HN6.out HB610.out)), Nat.le_refl _, Kd.N_F (Kd.N_bound (Kd.N_below HN9.out HB910.out))⟩
      have HN10 : Aside0 (∃ xs : List SEv, xs.length = 5 ∧ (∀ x ∈ xs, x.f10.f3.length < 1000 ∧ x.f4 ≠ ⟨#[]⟩ ∧ Dq 41 x.f10) ∧ Kd.N kE 50 W10 w.heap.size (fun q => w.heap.size ≤ q) (.slice (some ⟨W4.heap.size, 0, none⟩) 5 5) xs) := ⟨by
        obtain ⟨xs, h5, hx, hn⟩ := HN5.out
        exact ⟨xs, h5, hx, Kd.N_below hn HB510.out⟩⟩
      have HB10 : Aside0 (Below w.heap.size w W10) := ⟨below_then HB5.out.1 hs05 HB510.out⟩
      have hs45 := HB5.out.2
      have hs510 := HB510.out.size
      clear hw9 hw10 HN6 HN9 HV7 HV8 HB56 HB7 HB8 HB89 HB910 HB610 HB510 HN5 HB5 hs56 hs67 hs78
      obtain ⟨e0, e1, e2, e3, e4⟩ := bx_cells HX10.out
      go_wp2_with fail
      refine (With.walk (⟨5, 0, ⟨#[]⟩, [], []⟩ : SV) none 0 none 0 ⟨#[117, 115, 101, 114, 115]⟩ _ _ _ _ _ (fun q => W5.heap.size ≤ q ∧ q < W10.heap.size) W10 (VF_plain _ _ _ _ _) HVX.out (fun q h => h.2) (by decide) (by decide) (fun s h => by cases h)).mono ?_
      rintro e W11 ⟨r, R3, rc3, R4, rc4, rfl, hv11, hof, hb11⟩
      have HV11 := Aside0.mk hv11
      have HOF := Aside0.mk hof
      have HB11 := Aside0.mk hb11
      clear hv11 hof hb11 e0 e1 e2 e3 e4 HVX HX10
      have hs1011 := HB11.out.size
      have hs010 := HB10.out.size
      obtain ⟨xs, h5, hxs, hn⟩ := HN10.out
      have HN11 : Aside0 (Kd.N kE 50 W11 w.heap.size (fun q => w.heap.size ≤ q) (.slice (some ⟨W4.heap.size, 0, none⟩) 5 5) xs) := ⟨Kd.N_below hn HB11.out⟩
      have HXS := Aside0.mk hxs
      have HX5 := Aside0.mk h5
      have HEV : Aside0 (EF W11 (fun q => (W5.heap.size ≤ q ∧ q < W10.heap.size) ∨ W10.heap.size ≤ q) (⟨⟨#[]⟩, (⟨#[109, 46, 114, 111, 111, 109, 46, 112, 111, 119, 101, 114, 95, 108, 101, 118, 101, 108, 115]⟩ : ByteArray), ⟨#[]⟩, true, (⟨#[64, 97, 58, 115]⟩ : ByteArray), rS, [], [], 0, 0, r⟩ : SEv) none 0 none 0 R3 rc3 R4 rc4) := ⟨EF_body HV11.out _ _ _ _ _ _⟩
      have HBW : Aside0 (Below w.heap.size w W11) := ⟨below_then HB10.out HB10.out.size HB11.out⟩
      clear hxs hn h5 HN10 HV11 HB11 HB10
      go_upto_region 6 with ((with_reducible refine gate_dst (N := 45) rfl ?_); refine Kd.N_append_rows kE w.heap.size rfl (.tmp 38) (.tmp 44) 23 50 (.agg #[.string ⟨#[]⟩, .string ⟨#[]⟩, .string ⟨#[]⟩, .bool false, .string ⟨#[]⟩, .string ⟨#[]⟩, .slice none 0 0, .slice none 0 0, .int .i64 0, .int .i64 0, .int .i64 0, .int .i64 0, .string ⟨#[]⟩, .slice none 0 0, .slice none 0 0]) 232 rfl Tryz.underlying23 infoE rfl (by decide) (by decide) (.slice (some ⟨W4.heap.size, 0, none⟩) 5 5) xs [(⟨⟨#[]⟩, (⟨#[109, 46, 114, 111, 111, 109, 46, 112, 111, 119, 101, 114, 95, 108, 101, 118, 101, 108, 115]⟩ : ByteArray), ⟨#[]⟩, true, (⟨#[64, 97, 58, 115]⟩ : ByteArray), rS, [], [], 0, 0, r⟩ : SEv)] (_) (_) (_) (fun q => w.heap.size ≤ q) (fun q => ((W5.heap.size ≤ q ∧ q < W10.heap.size) ∨ W10.heap.size ≤ q) ∨ q = W11.heap.size) rfl rfl (Kd.N_alloc HN11.out _) (F_ev1 (heap_alloc_new W11 _) (HEV.out.below ((Below.refl _ _).alloc (Nat.le_refl _) _))) (fun q hq => ⟨by omega, fun e => by have e2 : q = W4.heap.size := (by simpa [Value.ownBlock] using e); omega⟩) (fun q hq => by have h_ : W11.heap.size ≤ q := Nat.le_trans (Nat.le_of_lt (by simp)) hq; omega) (HBW.out.alloc HBW.out.size _) (by simp; omega) (by rw [HX5.out]; decide) ?_; intro v12 W12 hn12 hb12 hg12 hat12; replace hn12 := Aside0.mk hn12; replace hb12 := Aside0.mk hb12; clear hg12 hat12)
      obtain ⟨ys, hys, hy6, hym, hyn⟩ : ∃ ys : List SEv, ys ≠ [] ∧ ys.length = 6 ∧ (∀ x ∈ ys, x.f10.f3.length < 1000 ∧ x.f4 ≠ ⟨#[]⟩ ∧ Dq 41 x.f10) ∧ Kd.N kE 50 W12 w.heap.size (fun q => w.heap.size ≤ q) v12 ys := ⟨_, by simp, by rw [List.length_append, HX5.out]; rfl, fun x hx => by
        rcases List.mem_append.1 hx with hx | hx
        · exact HXS.out x hx
        · rw [List.mem_singleton.1 hx]
          exact ⟨by have h1_ := HOF.out.len4; show r.f3.length < 1000; exact Nat.lt_of_le_of_lt h1_ (by decide), by show (⟨#[64, 97, 58, 115]⟩ : ByteArray) ≠ (⟨#[]⟩ : ByteArray); decide, dq_users HOF.out⟩, hn12.out⟩
      obtain ⟨AY, cY, rfl⟩ := Kd.N_slice hyn
      have HYN := Aside0.mk hyn
      have HYM := Aside0.mk hym
      have HYS := Aside0.mk (And.intro hys hy6)
      clear hys hy6 hym hyn hn12
      go_wp2_with fail
      go_ret
      exact ⟨ys, AY, cY, rfl, (Kd.N_reads' HYN.out).2.1, Kd.N_F HYN.out, by rw [HYS.out.2]; decide, fun _ => HYS.out.1, HYM.out, hb12.out⟩
  · have b1 : ((k : Int) % 4 == 1) = false := beq_eq_false_iff_ne.2 (by omega)
    have b2 : ((k : Int) % 4 == 2) = false := beq_eq_false_iff_ne.2 (by omega)
    have b3 : ((k : Int) % 4 == 3) = true := beq_iff_eq.2 h
    have HK0 : Aside0 (k ≠ 0) := ⟨by omega⟩
    clear h hk4
    go_wp2_with fail
    go_ret
    exact ⟨[], none, 0, rfl, Nat.le_refl _, Kd.F_nil _ _ _, by decide, fun e => absurd e HK0.out, (fun x hx => by cases hx), HB5.out.1⟩
end Go.Proofs.YtmdjknkhjimgeaaGreat.S
end
section
namespace Go.Proofs.YtmdjknkhjimgeaaGreat.S
open Go.RowKit Go.Proofs.YtmdjknkhjimgeaaGreatW.PrintWords Go.Proofs.YtmdjknkhjimgeaaGreatW.PrintLast Go.Proofs.YtmdjknkhjimgeaaGreatW.PrintMore
attribute [local go_sem] max2_int min2_int max_two min_two max_three min_three max_four min_four
set_option linter.unusedVariables false
set_option linter.unusedSimpArgs false
open Go.Proofs.He
structure RoomOf (l : List SEv) (g : List (List Int)) : Prop where
  len : g.length = l.length
  edges : ∀ (n : Nat) (r : List Int), g[n]? = some r → ∀ y ∈ r, 0 ≤ y ∧ y < (n : Int)
  senders : ∀ x ∈ l, x.f4 ≠ ⟨#[]⟩
  bodies : ∀ x ∈ l, x.f10.f3.length < 1000
  deep : ∀ x ∈ l, Dq 41 x.f10
  names : ∀ (n : Nat) (x : SEv), l[n]? = some x → ∃ k : Nat, k < 256 ∧ x.f0 = nmL k n
theorem RoomOf.nil : RoomOf [] [] := ⟨rfl, (fun n r h => by simp at h), (fun x h => nomatch h), (fun x h => nomatch h), (fun x h => nomatch h), (fun n x h => by simp at h)⟩
theorem RoomOf.snoc {l : List SEv} {g : List (List Int)} (h : RoomOf l g) (x : SEv) (own : List Int) (k : Nat) (hk : k < 256) (hs : x.f4 ≠ ⟨#[]⟩) (hb : x.f10.f3.length < 1000) (hq : Dq 41 x.f10) (ho : ∀ y ∈ own, 0 ≤ y ∧ y < (l.length : Int)) : RoomOf (l ++ [({ x with f0 := nmL k l.length } : SEv)]) (g ++ [own]) := by
  refine ⟨by simp [h.len], fun n r hn => ?_, fun y hy => ?_, fun y hy => ?_, fun y hy => ?_, fun n y hn => ?_⟩
  · rcases Nat.lt_or_ge n g.length with hl | hl
    · rw [List.getElem?_append_left hl] at hn
      exact h.edges n r hn
    · rw [List.getElem?_append_right hl] at hn
      have h0 : n - g.length = 0 := by
        rcases Nat.eq_zero_or_pos (n - g.length) with h0 | h0
        · exact h0
        · rw [List.getElem?_eq_none (by simp; omega)] at hn; cases hn
      rw [h0] at hn
      have hr : own = r := by simpa using hn
      have hnl : n = l.length := by have := h.len; omega
      rw [hnl, ← hr]
      exact ho
  · rcases List.mem_append.1 hy with hy | hy
    · exact h.senders y hy
    · rw [List.mem_singleton.1 hy]; exact hs
  · rcases List.mem_append.1 hy with hy | hy
    · exact h.bodies y hy
    · rw [List.mem_singleton.1 hy]; exact hb
  · rcases List.mem_append.1 hy with hy | hy
    · exact h.deep y hy
    · rw [List.mem_singleton.1 hy]; exact hq
  · rcases Nat.lt_or_ge n l.length with hl | hl
    · rw [List.getElem?_append_left hl] at hn
      exact h.names n y hn
    · rw [List.getElem?_append_right hl] at hn
      have h0 : n - l.length = 0 := by
        rcases Nat.eq_zero_or_pos (n - l.length) with h0 | h0
        · exact h0
        · rw [List.getElem?_eq_none (by simp; omega)] at hn; cases hn
      rw [h0] at hn
      have hr : ({ x with f0 := nmL k l.length } : SEv) = y := by simpa using hn
      have hnl : n = l.length := by omega
      exact ⟨k, hk, by rw [← hr, hnl]⟩
theorem EF_at {W : World} {A : Option Addr} {n : Nat} {xs : List SEv} {ok : Nat → Prop} (h : Kd.F kE W ok A n xs) (i : Int) (h0 : 0 ≤ i) (h1 : i < n) : ∃ ad A6 c6 A7 c7 A13 c13 A14 c14, A = some ad ∧ W.cell? (ad.add (i.toNat * 15)) = some (.string (rd_T50 xs i).f0) ∧ W.cell? ⟨(ad.add (i.toNat * 15)).block, (ad.add (i.toNat * 15)).off + 1, none⟩ = some (.string (rd_T50 xs i).f1) ∧ W.cell? ⟨(ad.add (i.toNat * 15)).block, (ad.add (i.toNat * 15)).off + 2, none⟩ = some (.string (rd_T50 xs i).f2) ∧ W.cell? ⟨(ad.add (i.toNat * 15)).block, (ad.add (i.toNat * 15)).off + 3, none⟩ = some (.bool (rd_T50 xs i).f3) ∧ W.cell? ⟨(ad.add (i.toNat * 15)).block, (ad.add (i.toNat * 15)).off + 4, none⟩ = some (.string (rd_T50 xs i).f4) ∧ W.cell? ⟨(ad.add (i.toNat * 15)).block, (ad.add (i.toNat * 15)).off + 5, none⟩ = some (.string (rd_T50 xs i).f5) ∧ W.cell? ⟨(ad.add (i.toNat * 15)).block, (ad.add (i.toNat * 15)).off + 6, none⟩ = some (.slice A6 (rd_T50 xs i).f6.length c6) ∧ W.cell? ⟨(ad.add (i.toNat * 15)).block, (ad.add (i.toNat * 15)).off + 7, none⟩ = some (.slice A7 (rd_T50 xs i).f7.length c7) ∧ W.cell? ⟨(ad.add (i.toNat * 15)).block, (ad.add (i.toNat * 15)).off + 8, none⟩ = some (.int .i64 (rd_T50 xs i).f8) ∧ W.cell? ⟨(ad.add (i.toNat * 15)).block, (ad.add (i.toNat * 15)).off + 9, none⟩ = some (.int .i64 (rd_T50 xs i).f9) ∧ W.cell? ⟨(ad.add (i.toNat * 15)).block, (ad.add (i.toNat * 15)).off + 10, none⟩ = some (.int .i64 (rd_T50 xs i).f10.f0) ∧ W.cell? ⟨(ad.add (i.toNat * 15)).block, (ad.add (i.toNat * 15)).off + 11, none⟩ = some (.int .i64 (rd_T50 xs i).f10.f1) ∧ W.cell? ⟨(ad.add (i.toNat * 15)).block, (ad.add (i.toNat * 15)).off + 12, none⟩ = some (.string (rd_T50 xs i).f10.f2) ∧ W.cell? ⟨(ad.add (i.toNat * 15)).block, (ad.add (i.toNat * 15)).off + 13, none⟩ = some (.slice A13 (rd_T50 xs i).f10.f3.length c13) ∧ W.cell? ⟨(ad.add (i.toNat * 15)).block, (ad.add (i.toNat * 15)).off + 14, none⟩ = some (.slice A14 (rd_T50 xs i).f10.f4.length c14) ∧ EF W ok (rd_T50 xs i) A6 c6 A7 c7 A13 c13 A14 c14 := by
  obtain ⟨ad, c, e, _, hK, hc0, _⟩ := Kd.F_get h z50 i h0 h1
  have hc : ∀ j u, c[j]? = some u → W.cell? (ad.add (i.toNat * 15 + j)) = some u := hc0
  obtain ⟨A6, c6, A7, c7, A13, c13, A14, c14, rfl, l6, g6, l7, g7, l13, g13, l14, g14⟩ := k50_openF hK
  exact ⟨ad, A6, c6, A7, c7, A13, c13, A14, c14, e, hc 0 _ rfl, by rw [← add_field _ _ 1 (by omega)]; exact hc 1 _ rfl, by rw [← add_field _ _ 2 (by omega)]; exact hc 2 _ rfl, by rw [← add_field _ _ 3 (by omega)]; exact hc 3 _ rfl, by rw [← add_field _ _ 4 (by omega)]; exact hc 4 _ rfl, by rw [← add_field _ _ 5 (by omega)]; exact hc 5 _ rfl, by rw [← add_field _ _ 6 (by omega)]; exact hc 6 _ rfl, by rw [← add_field _ _ 7 (by omega)]; exact hc 7 _ rfl, by rw [← add_field _ _ 8 (by omega)]; exact hc 8 _ rfl, by rw [← add_field _ _ 9 (by omega)]; exact hc 9 _ rfl, by rw [← add_field _ _ 10 (by omega)]; exact hc 10 _ rfl, by rw [← add_field _ _ 11 (by omega)]; exact hc 11 _ rfl, by rw [← add_field _ _ 12 (by omega)]; exact hc 12 _ rfl, by rw [← add_field _ _ 13 (by omega)]; exact hc 13 _ rfl, by rw [← add_field _ _ 14 (by omega)]; exact hc 14 _ rfl, ⟨l6, g6, l7, g7, ⟨l13, g13, l14, g14⟩⟩⟩
theorem F_take' {α : Type} {d : Kd α} {W : World} {ok : Nat → Prop} {A : Option Addr} {n m : Nat} {xs : List α} (h : Kd.F d W ok A n xs) (hm : m ≤ n) : Kd.F d W ok A (xs.take m).length (xs.take m) := fun W' hW => by
  have h' : d.C W' A n xs := h W' hW
  have e : xs.length = n := h'.1
  subst e
  exact Kd.C_take h' hm
theorem EF.bound {W : World} {ok : Nat → Prop} {x : SEv} {A6 A7 A13 A14 : Option Addr} {c6 c7 c13 c14 : Nat} (h : EF W ok x A6 c6 A7 c7 A13 c13 A14 c14) : EF W (fun q => ok q ∧ q < W.heap.size) x A6 c6 A7 c7 A13 c13 A14 c14 := ⟨h.l6, Kd.F_bound h.g6, h.l7, Kd.F_bound h.g7, h.b.bound⟩
structure RoomAt (W0 W : World) (l : List SEv) (g : List (List Int)) (AL : Option Addr) (cL : Nat) (AG : Option Addr) (cG : Nat) : Prop where
  hl : Kd.N kE 50 W W0.heap.size (fun q => True ∧ some q ≠ (.slice AG g.length cG : Value).ownBlock) (.slice AL l.length cL) l
  hg : Kd.N kG 27 W W0.heap.size (fun q => True ∧ some q ≠ (.slice AL l.length cL : Value).ownBlock) (.slice AG g.length cG) g
  room : RoomOf l g
  below : Below W0.heap.size W0 W
theorem RoomAt.later {W0 W W1 : World} {l : List SEv} {g : List (List Int)} {AL AG : Option Addr} {cL cG : Nat} (h : RoomAt W0 W l g AL cL AG cG) (hb : Below W.heap.size W W1) : RoomAt W0 W1 l g AL cL AG cG := ⟨Kd.N_below h.hl hb, Kd.N_below h.hg hb, h.room, below_then h.below h.below.size hb⟩
theorem RoomAt.start (W : World) : RoomAt W W [] [] none 0 none 0 := ⟨Kd.N_nil _ _ _ _ _, Kd.N_nil _ _ _ _ _, RoomOf.nil, Below.refl _ _⟩
theorem RoomAt.lay {W0 Wr W : World} {l : List SEv} {g : List (List Int)} {AL AG : Option Addr} {cL cG : Nat} (h : RoomAt W0 Wr l g AL cL AG cG) (hb : Below Wr.heap.size Wr W) (x : SEv) {A6 A7 A13 A14 : Option Addr} {c6 c7 c13 c14 : Nat} (k : Nat) (hk : k < 256)
    (hx : EF W (fun q => q < W0.heap.size ∨ Wr.heap.size ≤ q) x A6 c6 A7 c7 A13 c13 A14 c14) (h3 : x.f10.f3.length < 1000) (h4 : x.f4 ≠ ⟨#[]⟩) (hq : Dq 41 x.f10) (hl : l.length ≤ 100) :
    Calls Tryz.prog 29 #[.slice AL l.length cL, .slice AG g.length cG, .agg #[.string x.f0, .string x.f1, .string x.f2, .bool x.f3, .string x.f4, .string x.f5, .slice A6 x.f6.length c6, .slice A7 x.f7.length c7, .int .i64 x.f8, .int .i64 x.f9, .int .i64 x.f10.f0, .int .i64 x.f10.f1, .string x.f10.f2, .slice A13 x.f10.f3.length c13, .slice A14 x.f10.f4.length c14], .int .u8 (k : Int)] W fun e w' => ∃ l' g' AL' cL' AG' cG', e = .returned (.tuple #[.slice AL' l'.length cL', .slice AG' g'.length cG']) ∧ RoomAt W0 w' l' g' AL' cL' AG' cG' ∧ l'.length = l.length + 1 := by
  have h1 := h.later hb
  have hlt := Kd.N_lt h.hl
  have hgt := Kd.N_lt h.hg
  have hlb := Kd.N_base h.hl
  have hgb := Kd.N_base h.hg
  refine (lay.walk (P := fun q => (q < W0.heap.size ∨ Wr.heap.size ≤ q) ∧ q < W.heap.size) x A6 c6 A7 c7 A13 c13 A14 c14 k hk h1.hl h1.hg hx.bound (fun q hq => ⟨hq.2, fun e => by have h5 := hlt q e.symm; have h6 := hlb q e.symm; have := hq.1; omega, fun e => by have h5 := hgt q e.symm; have h6 := hgb q e.symm; have := hq.1; omega⟩) hl (by have := h.room.len; omega) h3 h1.below.size).mono ?_
  rintro e W2 ⟨AL', cL', AG', cG', own, rfl, hl', hg', ho, hk2⟩
  refine ⟨_, _, AL', cL', AG', cG', rfl, ⟨hl', hg', h.room.snoc x own k hk h4 h3 hq ho, ?_⟩, by simp⟩
  exact hk2.below h1.below h1.below.size (fun q _ hq => by rcases hq with hq | hq; exact hlb q hq.symm; exact hgb q hq.symm)
theorem ix_facts (i : Nat) (h : i ≤ 36) : wrap64 ((i : Int) + 1) = (i : Int) + 1 ∧ wrap64 ((i : Int) + 2) = (i : Int) + 2 ∧ wrap64 ((i : Int) + 9) = (i : Int) + 9 ∧ ((i : Int) + 1).toNat = i + 1 ∧ ((i : Int) + 2).toNat = i + 2 ∧ 0 ≤ (i : Int) + 1 ∧ 0 ≤ (i : Int) + 2 ∧ 0 ≤ (i : Int) + 9 ∧ (i : Int) ≤ (i : Int) + 9 ∧ ((i : Int) + 9).toNat = i + 9 := by
  refine ⟨?_, ?_, ?_, by omega, by omega, by omega, by omega, by omega, by omega, by omega⟩ <;> (unfold wrap64; omega)
theorem add_pos (ad : Addr) (n : Nat) (h : 0 < n) : ad.add n = ⟨ad.block, ad.off + n, none⟩ := by
  obtain ⟨m, rfl⟩ : ∃ m, n = m + 1 := ⟨n - 1, by omega⟩
  exact add_one' ad m
theorem C_mid {W : World} {ad : Addr} {cs : List Int} (h : (Kd.int .u8).C W (some ad) cs.length cs) (i n : Nat) (hn : i + n ≤ cs.length) (hn0 : 0 < n) : (Kd.int .u8).C W (some (ad.add i)) ((cs.drop i).take n).length ((cs.drop i).take n) := by
  have h1 := Kd.C_drop (c := cs.length) h (show i ≤ cs.length by omega) (Nat.le_refl _)
  rw [if_neg (by omega)] at h1
  have h2 := Kd.C_take h1 (m := n) (by rw [List.length_drop]; omega)
  have e : (some ad).map (fun x => Addr.add x (i * (Kd.int .u8).sz)) = some (ad.add i) := by show some (ad.add (i * 1)) = _; rw [Nat.mul_one]
  rw [e] at h2
  exact h2
theorem mid_len {cs : List Int} {i n : Nat} (hn : i + n ≤ cs.length) : ((cs.drop i).take n).length = n := by rw [List.length_take, List.length_drop]; omega
theorem Event.ef (a b t : Nat) (ha : a < 256) (hb : b < 256) (ht : t < 256) (A0 : Option Addr) (c0 n : Nat) (c : List Int) (w : World) (hn : c.length = n) (hr0 : (Kd.int .u8).C w A0 c.length c) (hc0 : n ≤ c0) (hcb : ∀ x ∈ c, 0 ≤ x ∧ x < 256) :
    Calls Tryz.prog 30 #[.int .u8 (a : Int), .int .u8 (b : Int), .int .u8 (t : Int), .slice A0 n c0] w fun e w' => ∃ (x : SEv) (A6 : Option Addr) (c6 : Nat) (A7 : Option Addr) (c7 : Nat) (A13 : Option Addr) (c13 : Nat) (A14 : Option Addr) (c14 : Nat), e = .returned (.agg #[.string x.f0, .string x.f1, .string x.f2, .bool x.f3, .string x.f4, .string x.f5, .slice A6 x.f6.length c6, .slice A7 x.f7.length c7, .int .i64 x.f8, .int .i64 x.f9, .int .i64 x.f10.f0, .int .i64 x.f10.f1, .string x.f10.f2, .slice A13 x.f10.f3.length c13, .slice A14 x.f10.f4.length c14]) ∧ EF w' (fun k => w.heap.size ≤ k) x A6 c6 A7 c7 A13 c13 A14 c14 ∧ (x.f10.f3.length < 1000 ∧ x.f4 ≠ ⟨#[]⟩ ∧ Dq 41 x.f10) ∧ Below w.heap.size w w' := by
  subst hn
  refine (Event.walk a b t ha hb ht A0 c0 c w hr0 hc0 hcb).mono ?_
  rintro e w' ⟨ty, key, sender, is, time, v, A3, c3, A4, c4, rfl, hv, hs, hn, hb⟩
  exact ⟨(⟨⟨#[]⟩, ty, key, is, sender, rS, [], [], 0, time, v⟩ : SEv), none, 0, none, 0, A3, c3, A4, c4, rfl, ⟨Nat.le_refl _, Kd.F_nil _ _ _, Nat.le_refl _, Kd.F_nil _ _ _, hv⟩, ⟨by have := hs.a; show v.f3.length < 1000; omega, hn, hs.dq (by decide)⟩, hb⟩
set_option maxHeartbeats 1500000 in
set_option maxRecDepth 100000 in
theorem Room.walk (A0 : Option Addr) (c0 : Nat) (cs : List Int) (w : World) (hr0 : (Kd.int .u8).C w A0 cs.length cs) (hc0 : cs.length ≤ c0) (hcb : ∀ x ∈ cs, 0 ≤ x ∧ x < 256) :
    Calls Tryz.prog 7 #[.slice A0 cs.length c0] w fun e w' => ∃ (l : List SEv) (g : List (List Int)) (AL : Option Addr) (cL : Nat) (AG : Option Addr) (cG : Nat), e = .returned (.tuple #[.slice AL l.length cL, .slice AG g.length cG]) ∧
      Kd.N kE 50 w' w.heap.size (fun q => True ∧ some q ≠ (.slice AG g.length cG : Value).ownBlock) (.slice AL l.length cL) l ∧ Kd.N kG 27 w' w.heap.size (fun q => True ∧ some q ≠ (.slice AL l.length cL : Value).ownBlock) (.slice AG g.length cG) g ∧ RoomOf l g ∧ 0 < l.length ∧ l.length ≤ 18 ∧ Below w.heap.size w w' := by
  have hu34 := Tryz.underlying50
  have HR := Aside0.mk hr0
  have HC := Aside0.mk hc0
  have HCB := Aside0.mk hcb
  clear hr0 hc0 hcb
  go_enter Tryz.func7, Tryz.ntmps7
  go_upto_if 17 with fail
  go_cut [4] (fun s4 wx => ∃ k : Nat, s4 = .int .u8 (k : Int) ∧ Aside0 (k < 256) ∧ w = wx)
  case first =>
    by_cases hl : 0 < cs.length
    · obtain ⟨ad, e, hx⟩ := C_num HR.out hl
      subst e
      have hcx := HCB.out _ (List.getElem_mem hl)
      obtain ⟨y, hy⟩ : ∃ y, y = cs[0] := ⟨_, rfl⟩
      rw [← hy] at hx hcx
      clear hy
      have hx0 : w.cell? ad = some (.int .u8 y) := by rw [show ad.add 0 = ad from by cases ad; rfl] at hx; exact hx
      have hlz : 0 < (cs.length : Int) := by omega
      go_wp2_with fail
      go_meet
      exact ⟨y.toNat, by rw [Int.toNat_of_nonneg hcx.1], ⟨by omega⟩, rfl⟩
    · have hlz : ¬ 0 < (cs.length : Int) := by omega
      go_wp2_with fail
      go_meet
      exact ⟨0, rfl, ⟨by decide⟩, rfl⟩
  case rest =>
    obtain ⟨k0, rfl, HK0, rfl⟩ := hcut
    have HOP := Aside0.mk (Opening.walk k0 HK0.out w)
    go_upto_if 25 with (go_at_call 28; refine HOP.out.mono ?_; rintro e W1 ⟨xs, A1, c1, rfl, hc1, hF1, hx6, hk01, hxs, hb1⟩; replace hc1 := Aside0.mk hc1; replace hF1 := Aside0.mk hF1; replace hk01 := Aside0.mk hk01; replace hxs := Aside0.mk hxs; replace hb1 := Aside0.mk hb1; replace hx6 := Aside0.mk hx6)
    go_cut [5] (fun s5 wx => ∃ (ys : List SEv) (A : Option Addr) (c : Nat), s5 = .slice A ys.length c ∧ Aside0 (ys.length ≤ c) ∧ Aside0 (Kd.F kE wx (fun q => w.heap.size ≤ q) A ys.length ys) ∧ 0 < ys.length ∧ ys.length ≤ 6 ∧ Aside0 (∀ x ∈ ys, x.f10.f3.length < 1000 ∧ x.f4 ≠ ⟨#[]⟩ ∧ Dq 41 x.f10) ∧ Aside0 (Below w.heap.size w wx))
    case first =>
      clear HOP
      by_cases hn : xs.length = 0
      · have hlz : ((xs.length : Int) == 0) = true := by rw [beq_iff_eq]; omega
        clear hn
        have HO0 := Aside0.mk (Opening.walk 0 (by decide) W1)
        go_wp2_with (go_at_call 28; refine HO0.out.mono ?_; rintro e W2 ⟨ys, A2, c2, rfl, hc2, hF2, hy6, hk02, hys, hb2⟩; replace hc2 := Aside0.mk hc2; replace hF2 := Aside0.mk hF2; replace hk02 := Aside0.mk hk02; replace hys := Aside0.mk hys; replace hb2 := Aside0.mk hb2; replace hy6 := Aside0.mk hy6; have hpz : 0 < ys.length := List.length_pos_iff.2 (hk02.out rfl); have hc2z : (1 : Int) ≤ (c2 : Int) := by have := hc2.out; omega)
        go_meet
        refine ⟨ys.take 1, A2, c2, ?_, ⟨?_⟩, ⟨Kd.F_mono (F_take' hF2.out hpz) (fun q hq => Nat.le_trans hb1.out.size hq)⟩, ?_, ?_, ⟨fun x hx => hys.out x (List.mem_of_mem_take hx)⟩, ⟨below_then hb1.out hb1.out.size hb2.out⟩⟩
        · rw [List.length_take, Nat.min_eq_left hpz]
        · rw [List.length_take]; have := hc2.out; omega
        · rw [List.length_take]; omega
        · rw [List.length_take]; have := hy6.out; omega
      · have hlz : ((xs.length : Int) == 0) = false := by rw [beq_eq_false_iff_ne]; omega
        have HN := Aside0.mk (Nat.pos_of_ne_zero hn)
        clear hn
        go_wp2_with fail
        go_meet
        exact ⟨xs, A1, c1, rfl, hc1, hF1, HN.out, hx6.out, hxs, hb1⟩
    case rest =>
      obtain ⟨xs, A, c, rfl, HXC, HXF, hx0, hx6, HXS, HB1⟩ := hcut
      have HXB : Aside0 (Kd.F kE wc (fun q => q < wc.heap.size) A xs.length xs) := ⟨Kd.F_mono (Kd.F_bound HXF.out) (fun q hq => hq.2)⟩
      have HST := Aside0.mk (RoomAt.start wc)
      have hc1z : xs.length ≤ c := HXC.out
      clear HOP HXF
      go_upto_block 0 with fail
      go_cut [6, 7] (fun s6 s7 wx => ∃ (l : List SEv) (g : List (List Int)) (AL : Option Addr) (cL : Nat) (AG : Option Addr) (cG : Nat), s6 = .slice AL l.length cL ∧ s7 = .slice AG g.length cG ∧ 0 < l.length ∧ l.length ≤ 6 ∧ Aside0 (RoomAt wc wx l g AL cL AG cG))
      case first =>
        go_wp2_with fail
        go_loopg [6, 7, 8] xs.length (fun gg v6 v7 v8 wr => ∃ (i : Nat) (l : List SEv) (g : List (List Int)) (AL : Option Addr) (cL : Nat) (AG : Option Addr) (cG : Nat), i ≤ xs.length ∧ xs.length - i ≤ gg ∧ v8 = .int .i64 (i : Int) ∧ v6 = .slice AL l.length cL ∧ v7 = .slice AG g.length cG ∧ Aside0 (RoomAt wc wr l g AL cL AG cG) ∧ Aside0 (l.length = i))
        case atStart => exact ⟨0, [], [], none, 0, none, 0, Nat.zero_le _, by omega, rfl, rfl, rfl, HST, ⟨rfl⟩⟩
        case round =>
          obtain ⟨i, l, g, AL, cL, AG, cG, hi, hgg, rfl, rfl, rfl, HRA, HLI⟩ := hrel
          by_cases hlt : i < xs.length
          · have hltz : (i : Int) < (xs.length : Int) := by omega
            obtain ⟨ad, A6, c6, A7, c7, A13, c13, A14, c14, e, x0, x1, x2, x3, x4, x5, x6, x7, x8, x9, x10, x11, x12, x13, x14, hE⟩ := EF_at (Kd.F_below HXB.out HRA.out.below) (i : Int) (by omega) (by omega)
            subst e
            obtain ⟨x, hx⟩ : ∃ x, x = rd_T50 xs (i : Int) := ⟨_, rfl⟩
            rw [← hx] at x0 x1 x2 x3 x4 x5 x6 x7 x8 x9 x10 x11 x12 x13 x14 hE
            simp only [Int.toNat_natCast] at x0 x1 x2 x3 x4 x5 x6 x7 x8 x9 x10 x11 x12 x13 x14
            have HXX : Aside0 (x.f10.f3.length < 1000 ∧ x.f4 ≠ ⟨#[]⟩ ∧ Dq 41 x.f10) := ⟨HXS.out x (by rw [hx]; show xs.getD _ _ ∈ xs; rw [Int.toNat_natCast, List.getD_eq_getElem?_getD, List.getElem?_eq_getElem hlt]; exact List.getElem_mem _)⟩
            have HE := Aside0.mk hE
            clear hE hx
            by_cases hi1 : i = 1
            · have hi1z : ((i : Int) == 1) = true := by rw [beq_iff_eq]; omega
              obtain ⟨gl, capl, el, -, hglt, -⟩ := Kd.N_form HRA.out.hl (by have := HLI.out; omega)
              injection el with el1 el3 el2
              clear el3
              subst el1
              subst el2
              obtain ⟨ad2, B6, d6, B7, d7, B13, d13, B14, d14, e2, y0, -⟩ := at_T50 (Kd.N_reads' HRA.out.hl).2.2 0 (by omega) (by have := HLI.out; omega)
              injection e2 with e2
              subst e2
              obtain ⟨s0, hs0⟩ : ∃ s0, s0 = (rd_T50 l 0).f0 := ⟨_, rfl⟩
              rw [← hs0] at y0
              replace y0 : wr.cell? ⟨gl, 0, none⟩ = some (.string s0) := y0
              have hlz : 0 < (l.length : Int) := by have := HLI.out; omega
              clear hs0 hi1
              go_upto_region 15 with fail
              generalize hw2 : wr.alloc _ = W2
              have hb2 : Below wr.heap.size wr W2 := by rw [← hw2]; exact (Below.refl _ _).alloc (Nat.le_refl _) _
              have hx2 : W2.heap[wr.heap.size]? = some (.cells #[.string x.f0, .string x.f1, .string x.f2, .bool x.f3, .string x.f4, .string x.f5, .slice A6 x.f6.length c6, .slice A7 x.f7.length c7, .int .i64 x.f8, .int .i64 x.f9, .int .i64 x.f10.f0, .int .i64 x.f10.f1, .string x.f10.f2, .slice A13 x.f10.f3.length c13, .slice A14 x.f10.f4.length c14] 50 (0, 0)) := by rw [← hw2]; exact heap_alloc_new wr _
              clear hw2 x0 x1 x2 x3 x4 x5 x6 x7 x8 x9 x10 x11 x12 x13 x14
              obtain ⟨x0, x1, x2, x3, x4, x5, x6, x7, x8, x9, x10, x11, x12, x13, x14⟩ := ev15C hx2
              have hy0 : W2.cell? ⟨gl, 0, none⟩ = some (.string s0) := (hb2.cell hglt).trans y0
              have hy1 : ∀ o, (W2.alloc o).cell? ⟨gl, 0, none⟩ = some (.string s0) := fun o => (Below.cell ((Below.refl _ _).alloc (Nat.le_refl _) o) (Nat.lt_of_lt_of_le hglt hb2.size)).trans hy0
              have hz1 : ∀ o, (W2.alloc o).frozen? ⟨wr.heap.size, 6, none⟩ = false := fun o => blk_frozen (blk_alloc hx2 o) 6
              have hz2 : ∀ o, (W2.alloc o).cell? ⟨wr.heap.size, 6, none⟩ = some (.slice A6 x.f6.length c6) := fun o => blk_cell (blk_alloc hx2 o) 6
              have HB2 := Aside0.mk hb2
              have HX2 := Aside0.mk hx2
              clear hb2 hx2 y0
              go_upto_region 16 with fail
              generalize hw3 : World.setCell _ _ _ = W3
              have hb3 : Below wr.heap.size wr W3 := by rw [← hw3]; exact (HB2.out.alloc HB2.out.size _).setCell (p := ⟨wr.heap.size, 6, none⟩) (Nat.le_refl _) _
              have hx3 : W3.heap[wr.heap.size]? = some (.cells #[.string x.f0, .string x.f1, .string x.f2, .bool x.f3, .string x.f4, .string x.f5, .slice (some ⟨W2.heap.size, 0, none⟩) 1 1, .slice A7 x.f7.length c7, .int .i64 x.f8, .int .i64 x.f9, .int .i64 x.f10.f0, .int .i64 x.f10.f1, .string x.f10.f2, .slice A13 x.f10.f3.length c13, .slice A14 x.f10.f4.length c14] 50 (0, 0)) := by rw [← hw3]; exact blk_put (blk_alloc HX2.out _) 6 (.slice (some ⟨W2.heap.size, 0, none⟩) 1 1) rfl
              have hs3 : W3.heap[W2.heap.size]? = some (.cells #[.string s0] 9 (0, 0)) := by rw [← hw3]; exact (Below.heap_setCell _ _ _ _ (show W2.heap.size ≠ wr.heap.size by have := blk_lt HX2.out; omega)).trans (heap_alloc_new W2 _)
              have hs2 : wr.heap.size ≤ W2.heap.size := HB2.out.size
              have hE3 := (HE.out.below hb3).mono (ok' := fun q => q < wc.heap.size ∨ wr.heap.size ≤ q) (fun q h => .inl h)
              have HLY := Aside0.mk (HRA.out.lay hb3 ({ x with f6 := [s0] } : SEv) 0 (by decide) (⟨Nat.le_refl 1, Kd.F_mono (F_str1 hs3) (fun q h => .inr (by rw [h]; exact hs2)), hE3.l7, hE3.g7, hE3.b⟩ : EF W3 (fun q => q < wc.heap.size ∨ wr.heap.size ≤ q) ({ x with f6 := [s0] } : SEv) (some ⟨W2.heap.size, 0, none⟩) 1 A7 c7 A13 c13 A14 c14) HXX.out.1 HXX.out.2.1 HXX.out.2.2 (by have := HLI.out; omega))
              clear hw3 hb3 hs3 hs2 hE3 HB2 HX2 hy0 hy1 hz1 hz2 x0 x1 x2 x3 x4 x5 x6 x7 x8 x9 x10 x11 x12 x13 x14
              obtain ⟨x0, x1, x2, x3, x4, x5, x6, x7, x8, x9, x10, x11, x12, x13, x14⟩ := ev15C hx3
              clear hx3
              go_wp2_with (go_at_call 29; refine HLY.out.mono ?_; rintro e W3 ⟨l', g', AL', cL', AG', cG', rfl, hra, hll⟩; replace hra := Aside0.mk hra; replace hll := Aside0.mk hll)
              go_roundg (xs.length - (i + 1))
              case measure => omega
              case rel => exact ⟨i + 1, l', g', AL', cL', AG', cG', by omega, by omega, by go_num, rfl, rfl, hra, ⟨by rw [hll.out, HLI.out]⟩⟩
            · have hi1z : ((i : Int) == 1) = false := by rw [beq_eq_false_iff_ne]; omega
              clear hi1
              go_upto_region 16 with fail
              generalize hw2 : wr.alloc _ = W2
              have hb2 : Below wr.heap.size wr W2 := by rw [← hw2]; exact (Below.refl _ _).alloc (Nat.le_refl _) _
              have hx2 : W2.heap[wr.heap.size]? = some (.cells #[.string x.f0, .string x.f1, .string x.f2, .bool x.f3, .string x.f4, .string x.f5, .slice A6 x.f6.length c6, .slice A7 x.f7.length c7, .int .i64 x.f8, .int .i64 x.f9, .int .i64 x.f10.f0, .int .i64 x.f10.f1, .string x.f10.f2, .slice A13 x.f10.f3.length c13, .slice A14 x.f10.f4.length c14] 50 (0, 0)) := by rw [← hw2]; exact heap_alloc_new wr _
              clear hw2 x0 x1 x2 x3 x4 x5 x6 x7 x8 x9 x10 x11 x12 x13 x14
              obtain ⟨x0, x1, x2, x3, x4, x5, x6, x7, x8, x9, x10, x11, x12, x13, x14⟩ := ev15C hx2
              have HLY := Aside0.mk (HRA.out.lay hb2 x 0 (by decide) ((HE.out.below hb2).mono (fun q h => .inl h)) HXX.out.1 HXX.out.2.1 HXX.out.2.2 (by have := HLI.out; omega))
              clear hb2 hx2
              go_wp2_with (go_at_call 29; refine HLY.out.mono ?_; rintro e W3 ⟨l', g', AL', cL', AG', cG', rfl, hra, hll⟩; replace hra := Aside0.mk hra; replace hll := Aside0.mk hll)
              go_roundg (xs.length - (i + 1))
              case measure => omega
              case rel => exact ⟨i + 1, l', g', AL', cL', AG', cG', by omega, by omega, by go_num, rfl, rfl, hra, ⟨by rw [hll.out, HLI.out]⟩⟩
          · have hltz : ¬ (i : Int) < (xs.length : Int) := by omega
            have HII : Aside0 (xs.length = i) := ⟨by omega⟩
            go_wp2_with fail
            go_meet
            exact ⟨l, g, AL, cL, AG, cG, rfl, rfl, by have := HII.out; have := HLI.out; omega, by have := HII.out; have := HLI.out; omega, HRA⟩
      case rest =>
        obtain ⟨l, g, AL, cL, AG, cG, rfl, rfl, hl0, hl6, HRA⟩ := hcut
        clear HXB HST
        rename World => WL
        go_wp2_with fail
        go_loopg [6, 7, 12] 60 (fun gg v6 v7 v12 wr => ∃ (i : Nat) (l : List SEv) (g : List (List Int)) (AL : Option Addr) (cL : Nat) (AG : Option Addr) (cG : Nat), i ≤ 36 ∧ 60 - i ≤ gg ∧ v12 = .int .i64 (i : Int) ∧ v6 = .slice AL l.length cL ∧ v7 = .slice AG g.length cG ∧ Aside0 (i % 3 = 0 ∧ 0 < l.length ∧ 3 * l.length ≤ 18 + i) ∧ Aside0 (RoomAt wc wr l g AL cL AG cG))
        case atStart => exact ⟨0, l, g, AL, cL, AG, cG, by omega, by omega, rfl, rfl, rfl, ⟨by omega⟩, HRA⟩
        case round =>
          clear HRA hl0 hl6 l g AL cL AG cG
          obtain ⟨i, l, g, AL, cL, AG, cG, hi36, hgg, rfl, rfl, rfl, HLN, HRA⟩ := hrel
          by_cases hgo : i + 2 < cs.length
          · have hz2 : (i : Int) + 2 < (cs.length : Int) := by omega
            have hz1 : (i : Int) + 1 < (cs.length : Int) := by omega
            have hz0 : (i : Int) < (cs.length : Int) := by omega
            by_cases h36 : i < 36
            · have h36z : (i : Int) < 36 := by omega
              have hbw : Below w.heap.size w wr := below_then HB1.out HB1.out.size HRA.out.below
              obtain ⟨ad, e, hx0⟩ := C_num HR.out (show i < cs.length by omega)
              cases e
              obtain ⟨ad2, e, hx1⟩ := C_num HR.out (show i + 1 < cs.length by omega)
              cases e
              obtain ⟨ad2, e, hx2⟩ := C_num HR.out hgo
              cases e
              obtain ⟨a0, b0⟩ := HCB.out cs[i] (List.getElem_mem (by omega))
              obtain ⟨a1, b1⟩ := HCB.out cs[i + 1] (List.getElem_mem (by omega))
              obtain ⟨a2, b2⟩ := HCB.out cs[i + 2] (List.getElem_mem hgo)
              obtain ⟨x0, hX0⟩ : ∃ x0 : Nat, cs[i] = (x0 : Int) := ⟨cs[i].toNat, by omega⟩
              obtain ⟨x1, hX1⟩ : ∃ x1 : Nat, cs[i + 1] = (x1 : Int) := ⟨cs[i + 1].toNat, by omega⟩
              obtain ⟨x2, hX2⟩ : ∃ x2 : Nat, cs[i + 2] = (x2 : Int) := ⟨cs[i + 2].toNat, by omega⟩
              rw [hX0] at hx0 b0
              rw [hX1] at hx1 b1
              rw [hX2] at hx2 b2
              replace hx0 := (hbw.cell (World.block_lt_of_cell? w _ hx0)).trans hx0
              replace hx1 := (hbw.cell (World.block_lt_of_cell? w _ hx1)).trans hx1
              replace hx2 := (hbw.cell (World.block_lt_of_cell? w _ hx2)).trans hx2
              rw [add_pos _ _ (by omega)] at hx1 hx2
              have HBW := Aside0.mk hbw
              have hcc : cs.length ≤ c0 := HC.out
              have hicc : (i : Int) ≤ (c0 : Int) := by omega
              have hb0n : x0 < 256 := by omega
              have hb1n : x1 < 256 := by omega
              have hb2n : x2 < 256 := by omega
              have hl100 : l.length ≤ 100 := by have := HLN.out; omega
              clear hX0 hX1 hX2 a0 a1 a2 b0 b1 b2 hbw
              have hci : ¬ c0 = i := by omega
              by_cases hm : i + 9 < cs.length
              · have hmz : (i : Int) + 9 < (cs.length : Int) := by omega
                have hmz2 : (i : Int) + 9 ≤ (c0 : Int) := by omega
                have HEV := Aside0.mk (fun (W5 : World) (hb : Below wr.heap.size wr W5) => Event.ef x0 x1 x2 hb0n hb1n hb2n (some (ad.add i)) (c0 - i) (9) ((cs.drop i).take (9)) W5 (mid_len (by omega)) (Kd.C_below (C_mid HR.out i (9) (by omega) (by omega)) (below_then HBW.out HBW.out.size hb)) (by omega) (fun y hy => HCB.out y (List.mem_of_mem_drop (List.mem_of_mem_take hy))))
                clear hm
                go_upto_region 22 with fail
                obtain ⟨hw1, hw2, hw9, ht1, ht2, hp1, hp2, hp9, hr9, ht9⟩ := ix_facts i hi36
                refine start_ (n := 36) (S := fun w' => w'.cell? (ad.add i) = some (.int .u8 (x0 : Int)) ∧ w'.cell? ⟨ad.block, ad.off + (i + 1), none⟩ = some (.int .u8 (x1 : Int)) ∧ w'.cell? ⟨ad.block, ad.off + (i + 2), none⟩ = some (.int .u8 (x2 : Int))) (ds := [30]) #[false, false, false, false, false, false, false, false, false, false, false, false, false, false, false, false, false, false, false, false, false, false, false, false, false, false, false, false, false, false, false, false, false, false, false, false] (by kernel_rfl) rfl rfl ⟨hx0, hx1, hx2⟩ (fun hHeld => ?_)
                refine pure_ (i := 0) (N := some 68) (v := ?_) (a' := ?_) #[true, false, false, false, false, false, false, false, false, false, false, false, false, false, false, false, false, false, false, false, false, false, false, false, false, false, false, false, false, false, false, false, false, false, false, false] rfl rfl (by kernel_rfl) (fun _ _ _ h => h) (Or.inl ⟨by rfl, ?_⟩) ?_ ?_
                rotate_left
                · intro w'
                  go_simp
                  with_reducible rfl
                rotate_left
                · simp only [Act.put, List.setIfInBounds_toArray, List.set_cons_zero, List.set_cons_succ, i64_w, i32_w]
                  rfl
                refine pure_ (i := 1) (N := some 69) (v := ?_) (a' := ?_) #[true, true, false, false, false, false, false, false, false, false, false, false, false, false, false, false, false, false, false, false, false, false, false, false, false, false, false, false, false, false, false, false, false, false, false, false] rfl rfl (by kernel_rfl) (fun _ _ _ h => h) (Or.inl ⟨by rfl, ?_⟩) ?_ ?_
                rotate_left
                · intro w'
                  go_simp
                  with_reducible rfl
                rotate_left
                · simp only [Act.put, List.setIfInBounds_toArray, List.set_cons_zero, List.set_cons_succ, i64_w, i32_w]
                  rfl
                refine pure_ (i := 2) (N := some 70) (v := ?_) (a' := ?_) #[true, true, true, false, false, false, false, false, false, false, false, false, false, false, false, false, false, false, false, false, false, false, false, false, false, false, false, false, false, false, false, false, false, false, false, false] rfl rfl (by kernel_rfl) (fun _ _ _ h => h) (Or.inl ⟨by rfl, ?_⟩) ?_ ?_
                rotate_left
                · intro w'
                  go_simp
                  with_reducible rfl
                rotate_left
                · simp only [Act.put, List.setIfInBounds_toArray, List.set_cons_zero, List.set_cons_succ, i64_w, i32_w]
                  rfl
                refine pure_ (i := 3) (N := some 71) (v := ?_) (a' := ?_) #[true, true, true, true, false, false, false, false, false, false, false, false, false, false, false, false, false, false, false, false, false, false, false, false, false, false, false, false, false, false, false, false, false, false, false, false] rfl rfl (by kernel_rfl) (fun _ _ _ h => h) (Or.inl ⟨by rfl, ?_⟩) ?_ ?_
                rotate_left
                · intro w'
                  go_simp
                  with_reducible rfl
                rotate_left
                · simp only [Act.put, List.setIfInBounds_toArray, List.set_cons_zero, List.set_cons_succ, i64_w, i32_w]
                  rfl
                refine pure_ (i := 4) (N := some 72) (v := ?_) (a' := ?_) #[true, true, true, true, true, false, false, false, false, false, false, false, false, false, false, false, false, false, false, false, false, false, false, false, false, false, false, false, false, false, false, false, false, false, false, false] rfl rfl (by kernel_rfl) (fun _ _ _ h => h) (Or.inl ⟨by rfl, ?_⟩) ?_ ?_
                rotate_left
                · intro w'
                  go_simp
                  with_reducible rfl
                rotate_left
                · simp only [Act.put, List.setIfInBounds_toArray, List.set_cons_zero, List.set_cons_succ, i64_w, i32_w]
                  rfl
                refine pure_ (i := 6) (N := some 74) (v := ?_) (a' := ?_) #[true, true, true, true, true, false, true, false, false, false, false, false, false, false, false, false, false, false, false, false, false, false, false, false, false, false, false, false, false, false, false, false, false, false, false, false] rfl rfl (by kernel_rfl) (fun _ _ _ h => h) (Or.inl ⟨by rfl, ?_⟩) ?_ ?_
                rotate_left
                · intro w'
                  go_simp
                  with_reducible rfl
                rotate_left
                · simp only [Act.put, List.setIfInBounds_toArray, List.set_cons_zero, List.set_cons_succ, i64_w, i32_w]
                  rfl
                refine pure_ (i := 7) (N := some 75) (v := ?_) (a' := ?_) #[true, true, true, true, true, false, true, true, false, false, false, false, false, false, false, false, false, false, false, false, false, false, false, false, false, false, false, false, false, false, false, false, false, false, false, false] rfl rfl (by kernel_rfl) (fun _ _ _ h => h) (Or.inl ⟨by rfl, ?_⟩) ?_ ?_
                rotate_left
                · intro w'
                  go_simp
                  with_reducible rfl
                rotate_left
                · simp only [Act.put, List.setIfInBounds_toArray, List.set_cons_zero, List.set_cons_succ, i64_w, i32_w]
                  rfl
                refine pure_ (i := 8) (N := some 76) (v := ?_) (a' := ?_) #[true, true, true, true, true, false, true, true, true, false, false, false, false, false, false, false, false, false, false, false, false, false, false, false, false, false, false, false, false, false, false, false, false, false, false, false] rfl rfl (by kernel_rfl) (fun _ _ _ h => h) (Or.inl ⟨by rfl, ?_⟩) ?_ ?_
                rotate_left
                · intro w'
                  go_simp
                  with_reducible rfl
                rotate_left
                · simp only [Act.put, List.setIfInBounds_toArray, List.set_cons_zero, List.set_cons_succ, i64_w, i32_w]
                  rfl
                refine pure_ (i := 9) (N := some 77) (v := ?_) (a' := ?_) #[true, true, true, true, true, false, true, true, true, true, false, false, false, false, false, false, false, false, false, false, false, false, false, false, false, false, false, false, false, false, false, false, false, false, false, false] rfl rfl (by kernel_rfl) (fun _ _ _ h => h) (Or.inl ⟨by rfl, ?_⟩) ?_ ?_
                rotate_left
                · intro w'
                  go_simp
                  with_reducible rfl
                rotate_left
                · simp only [Act.put, List.setIfInBounds_toArray, List.set_cons_zero, List.set_cons_succ, i64_w, i32_w]
                  rfl
                refine pure_ (i := 11) (N := some 79) (v := ?_) (a' := ?_) #[true, true, true, true, true, false, true, true, true, true, false, true, false, false, false, false, false, false, false, false, false, false, false, false, false, false, false, false, false, false, false, false, false, false, false, false] rfl rfl (by kernel_rfl) (fun _ _ _ h => h) (Or.inl ⟨by rfl, ?_⟩) ?_ ?_
                rotate_left
                · intro w'
                  go_simp
                  with_reducible rfl
                rotate_left
                · simp only [Act.put, List.setIfInBounds_toArray, List.set_cons_zero, List.set_cons_succ, i64_w, i32_w]
                  rfl
                refine pure_ (i := 12) (N := some 80) (v := ?_) (a' := ?_) #[true, true, true, true, true, false, true, true, true, true, false, true, true, false, false, false, false, false, false, false, false, false, false, false, false, false, false, false, false, false, false, false, false, false, false, false] rfl rfl (by kernel_rfl) (fun _ _ _ h => h) (Or.inl ⟨by rfl, ?_⟩) ?_ ?_
                rotate_left
                · intro w'
                  go_simp
                  with_reducible rfl
                rotate_left
                · simp only [Act.put, List.setIfInBounds_toArray, List.set_cons_zero, List.set_cons_succ, i64_w, i32_w]
                  rfl
                refine pure_ (i := 13) (N := some 81) (v := ?_) (a' := ?_) #[true, true, true, true, true, false, true, true, true, true, false, true, true, true, false, false, false, false, false, false, false, false, false, false, false, false, false, false, false, false, false, false, false, false, false, false] rfl rfl (by kernel_rfl) (fun _ _ _ h => h) (Or.inl ⟨by rfl, ?_⟩) ?_ ?_
                rotate_left
                · intro w'
                  go_simp
                  with_reducible rfl
                rotate_left
                · simp only [Act.put, List.setIfInBounds_toArray, List.set_cons_zero, List.set_cons_succ, i64_w, i32_w]
                  rfl
                refine pure_ (i := 14) (N := some 82) (v := ?_) (a' := ?_) #[true, true, true, true, true, false, true, true, true, true, false, true, true, true, true, false, false, false, false, false, false, false, false, false, false, false, false, false, false, false, false, false, false, false, false, false] rfl rfl (by kernel_rfl) (fun _ _ _ h => h) (Or.inl ⟨by rfl, ?_⟩) ?_ ?_
                rotate_left
                · intro w'
                  go_simp
                  with_reducible rfl
                rotate_left
                · simp only [Act.put, List.setIfInBounds_toArray, List.set_cons_zero, List.set_cons_succ, i64_w, i32_w]
                  rfl
                refine pure_ (i := 16) (N := some 84) (v := ?_) (a' := ?_) #[true, true, true, true, true, false, true, true, true, true, false, true, true, true, true, false, true, false, false, false, false, false, false, false, false, false, false, false, false, false, false, false, false, false, false, false] rfl rfl (by kernel_rfl) (fun _ _ _ h => h) (Or.inl ⟨by rfl, ?_⟩) ?_ ?_
                rotate_left
                · intro w'
                  go_simp
                  with_reducible rfl
                rotate_left
                · simp only [Act.put, List.setIfInBounds_toArray, List.set_cons_zero, List.set_cons_succ, i64_w, i32_w]
                  rfl
                refine pure_ (i := 17) (N := some 85) (v := ?_) (a' := ?_) #[true, true, true, true, true, false, true, true, true, true, false, true, true, true, true, false, true, true, false, false, false, false, false, false, false, false, false, false, false, false, false, false, false, false, false, false] rfl rfl (by kernel_rfl) (fun _ _ _ h => h) (Or.inl ⟨by rfl, ?_⟩) ?_ ?_
                rotate_left
                · intro w'
                  go_simp
                  with_reducible rfl
                rotate_left
                · simp only [Act.put, List.setIfInBounds_toArray, List.set_cons_zero, List.set_cons_succ, i64_w, i32_w]
                  rfl
                refine pure_ (i := 18) (N := some 86) (v := ?_) (a' := ?_) #[true, true, true, true, true, false, true, true, true, true, false, true, true, true, true, false, true, true, true, false, false, false, false, false, false, false, false, false, false, false, false, false, false, false, false, false] rfl rfl (by kernel_rfl) (fun _ _ _ h => h) (Or.inl ⟨by rfl, ?_⟩) ?_ ?_
                rotate_left
                · intro w'
                  go_simp
                  with_reducible rfl
                rotate_left
                · simp only [Act.put, List.setIfInBounds_toArray, List.set_cons_zero, List.set_cons_succ, i64_w, i32_w]
                  rfl
                refine pure_ (i := 19) (N := some 87) (v := ?_) (a' := ?_) #[true, true, true, true, true, false, true, true, true, true, false, true, true, true, true, false, true, true, true, true, false, false, false, false, false, false, false, false, false, false, false, false, false, false, false, false] rfl rfl (by kernel_rfl) (fun _ _ _ h => h) (Or.inl ⟨by rfl, ?_⟩) ?_ ?_
                rotate_left
                · intro w'
                  go_simp
                  with_reducible rfl
                rotate_left
                · simp only [Act.put, List.setIfInBounds_toArray, List.set_cons_zero, List.set_cons_succ, i64_w, i32_w]
                  rfl
                refine pure_ (i := 20) (N := some 88) (v := ?_) (a' := ?_) #[true, true, true, true, true, false, true, true, true, true, false, true, true, true, true, false, true, true, true, true, true, false, false, false, false, false, false, false, false, false, false, false, false, false, false, false] rfl rfl (by kernel_rfl) (fun _ _ _ h => h) (Or.inl ⟨by rfl, ?_⟩) ?_ ?_
                rotate_left
                · intro w'
                  go_simp
                  with_reducible rfl
                rotate_left
                · simp only [Act.put, List.setIfInBounds_toArray, List.set_cons_zero, List.set_cons_succ, i64_w, i32_w]
                  rfl
                refine pure_ (i := 21) (N := some 89) (v := ?_) (a' := ?_) #[true, true, true, true, true, false, true, true, true, true, false, true, true, true, true, false, true, true, true, true, true, true, false, false, false, false, false, false, false, false, false, false, false, false, false, false] rfl rfl (by kernel_rfl) (fun _ _ _ h => h) (Or.inl ⟨by rfl, ?_⟩) ?_ ?_
                rotate_left
                · intro w'
                  go_simp
                  with_reducible rfl
                rotate_left
                · simp only [Act.put, List.setIfInBounds_toArray, List.set_cons_zero, List.set_cons_succ, i64_w, i32_w]
                  rfl
                refine pure_ (i := 22) (N := some 90) (v := ?_) (a' := ?_) #[true, true, true, true, true, false, true, true, true, true, false, true, true, true, true, false, true, true, true, true, true, true, true, false, false, false, false, false, false, false, false, false, false, false, false, false] rfl rfl (by kernel_rfl) (fun _ _ _ h => h) (Or.inl ⟨by rfl, ?_⟩) ?_ ?_
                rotate_left
                · intro w'
                  go_simp
                  with_reducible rfl
                rotate_left
                · simp only [Act.put, List.setIfInBounds_toArray, List.set_cons_zero, List.set_cons_succ, i64_w, i32_w]
                  rfl
                refine pure_ (i := 23) (N := some 91) (v := ?_) (a' := ?_) #[true, true, true, true, true, false, true, true, true, true, false, true, true, true, true, false, true, true, true, true, true, true, true, true, false, false, false, false, false, false, false, false, false, false, false, false] rfl rfl (by kernel_rfl) (fun _ _ _ h => h) (Or.inl ⟨by rfl, ?_⟩) ?_ ?_
                rotate_left
                · intro w'
                  go_simp
                  with_reducible rfl
                rotate_left
                · simp only [Act.put, List.setIfInBounds_toArray, List.set_cons_zero, List.set_cons_succ, i64_w, i32_w]
                  rfl
                refine pure_ (i := 25) (N := some 93) (v := ?_) (a' := ?_) #[true, true, true, true, true, false, true, true, true, true, false, true, true, true, true, false, true, true, true, true, true, true, true, true, false, true, false, false, false, false, false, false, false, false, false, false] rfl rfl (by kernel_rfl) (fun _ _ _ h => h) (Or.inl ⟨by rfl, ?_⟩) ?_ ?_
                rotate_left
                · intro w'
                  go_simp
                  with_reducible rfl
                rotate_left
                · simp only [Act.put, List.setIfInBounds_toArray, List.set_cons_zero, List.set_cons_succ, i64_w, i32_w]
                  rfl
                refine pure_ (i := 26) (N := some 94) (v := ?_) (a' := ?_) #[true, true, true, true, true, false, true, true, true, true, false, true, true, true, true, false, true, true, true, true, true, true, true, true, false, true, true, false, false, false, false, false, false, false, false, false] rfl rfl (by kernel_rfl) (fun _ _ _ h => h) (Or.inl ⟨by rfl, ?_⟩) ?_ ?_
                rotate_left
                · intro w'
                  go_simp
                  with_reducible rfl
                rotate_left
                · simp only [Act.put, List.setIfInBounds_toArray, List.set_cons_zero, List.set_cons_succ, i64_w, i32_w]
                  rfl
                refine pure_ (i := 27) (N := some 95) (v := ?_) (a' := ?_) #[true, true, true, true, true, false, true, true, true, true, false, true, true, true, true, false, true, true, true, true, true, true, true, true, false, true, true, true, false, false, false, false, false, false, false, false] rfl rfl (by kernel_rfl) (fun _ _ _ h => h) (Or.inl ⟨by rfl, ?_⟩) ?_ ?_
                rotate_left
                · intro w'
                  go_simp
                  with_reducible rfl
                rotate_left
                · simp only [Act.put, List.setIfInBounds_toArray, List.set_cons_zero, List.set_cons_succ, i64_w, i32_w]
                  rfl
                refine pure_ (i := 28) (N := some 96) (v := ?_) (a' := ?_) #[true, true, true, true, true, false, true, true, true, true, false, true, true, true, true, false, true, true, true, true, true, true, true, true, false, true, true, true, true, false, false, false, false, false, false, false] rfl rfl (by kernel_rfl) (fun _ _ _ h => h) (Or.inl ⟨by rfl, ?_⟩) ?_ ?_
                rotate_left
                · intro w'
                  go_simp
                  with_reducible rfl
                rotate_left
                · simp only [Act.put, List.setIfInBounds_toArray, List.set_cons_zero, List.set_cons_succ, i64_w, i32_w]
                  rfl
                refine take_ (i := 5) (N := some 73) (v := ?_) (a' := ?_) #[true, true, true, true, true, true, true, true, true, true, false, true, true, true, true, false, true, true, true, true, true, true, true, true, false, true, true, true, true, false, false, false, false, false, false, false] rfl rfl (by kernel_rfl) (fun _ _ _ h => h) (Or.inl ⟨by rfl, ?_⟩) hHeld ?_ ?_
                rotate_left
                · rintro w' ⟨s0, s1, s2⟩
                  go_simp
                  with_reducible rfl
                rotate_left
                · simp only [Act.put, List.setIfInBounds_toArray, List.set_cons_zero, List.set_cons_succ, i64_w, i32_w]
                  rfl
                refine take_ (i := 10) (N := some 78) (v := ?_) (a' := ?_) #[true, true, true, true, true, true, true, true, true, true, true, true, true, true, true, false, true, true, true, true, true, true, true, true, false, true, true, true, true, false, false, false, false, false, false, false] rfl rfl (by kernel_rfl) (fun _ _ _ h => h) (Or.inl ⟨by rfl, ?_⟩) hHeld ?_ ?_
                rotate_left
                · rintro w' ⟨s0, s1, s2⟩
                  go_simp
                  with_reducible rfl
                rotate_left
                · simp only [Act.put, List.setIfInBounds_toArray, List.set_cons_zero, List.set_cons_succ, i64_w, i32_w]
                  rfl
                refine take_ (i := 15) (N := some 83) (v := ?_) (a' := ?_) #[true, true, true, true, true, true, true, true, true, true, true, true, true, true, true, true, true, true, true, true, true, true, true, true, false, true, true, true, true, false, false, false, false, false, false, false] rfl rfl (by kernel_rfl) (fun _ _ _ h => h) (Or.inl ⟨by rfl, ?_⟩) hHeld ?_ ?_
                rotate_left
                · rintro w' ⟨s0, s1, s2⟩
                  go_simp
                  with_reducible rfl
                rotate_left
                · simp only [Act.put, List.setIfInBounds_toArray, List.set_cons_zero, List.set_cons_succ, i64_w, i32_w]
                  rfl
                refine take_ (i := 29) (N := some 97) (v := ?_) (a' := ?_) #[true, true, true, true, true, true, true, true, true, true, true, true, true, true, true, true, true, true, true, true, true, true, true, true, false, true, true, true, true, true, false, false, false, false, false, false] rfl rfl (by kernel_rfl) (fun _ _ _ h => h) (Or.inl ⟨by rfl, ?_⟩) hHeld ?_ ?_
                rotate_left
                · rintro w' ⟨s0, s1, s2⟩
                  go_simp
                  with_reducible rfl
                rotate_left
                · simp only [Act.put, List.setIfInBounds_toArray, List.set_cons_zero, List.set_cons_succ, i64_w, i32_w]
                  rfl
                refine one_ (i := 24) (N := some 92) #[true, true, true, true, true, true, true, true, true, true, true, true, true, true, true, true, true, true, true, true, true, true, true, true, true, true, true, true, true, true, false, false, false, false, false, false] rfl rfl (by kernel_rfl) (by decide) (fun K hK => ?_)
                refine goes_ Tryz.func30 (by kernel_rfl) rfl #[.int .u8 (x0 : Int), .int .u8 (x1 : Int), .int .u8 (x2 : Int), .slice (some (ad.add i)) 9 (c0 - i)] (by rfl) rfl rfl (by simp only [List.map_toArray, List.map_cons, List.map_nil]; rfl) ?_
                with_reducible refine (HEV.out _ (below_drew1 (Below.refl _ _))).mono ?_
                rintro e W5 ⟨x, A6, c6, A7, c7, A13, c13, A14, c14, rfl, hx5, hs5, hb5⟩
                refine ⟨_, rfl, ?_⟩
                have HS5 := Aside0.mk hs5
                have HX5 : Aside0 (EF W5 (fun q => q < wc.heap.size ∨ wr.heap.size ≤ q) x A6 c6 A7 c7 A13 c13 A14 c14) := ⟨hx5.mono (fun q h => .inr h)⟩
                clear hs5 hx5
                refine hK.out _ _ ⟨(pw_cell_below hb5 hHeld.1), (pw_cell_below hb5 hHeld.2.1), (pw_cell_below hb5 hHeld.2.2)⟩ (fun hHeld => ?_)
                clear hK K
                refine norm_ (a' := ?_) ?_ ?_
                rotate_left
                · show Act.put _ (some 92) _ = _
                  simp only [Act.put, List.setIfInBounds_toArray, List.set_cons_zero, List.set_cons_succ, i64_w, i32_w]
                  rfl
                refine last_ (i := 30) (N := some 98) #[true, true, true, true, true, true, true, true, true, true, true, true, true, true, true, true, true, true, true, true, true, true, true, true, true, true, true, true, true, true, true, false, false, false, false, false] rfl rfl (by kernel_rfl) (by decide) (fun K hK => ?_)
                refine goes_ Tryz.func29 (by kernel_rfl) rfl #[.slice AL l.length cL, .slice AG g.length cG, .agg #[.string x.f0, .string x.f1, .string x.f2, .bool x.f3, .string x.f4, .string x.f5, .slice A6 x.f6.length c6, .slice A7 x.f7.length c7, .int .i64 x.f8, .int .i64 x.f9, .int .i64 x.f10.f0, .int .i64 x.f10.f1, .string x.f10.f2, .slice A13 x.f10.f3.length c13, .slice A14 x.f10.f4.length c14], .int .u8 (x2 : Int)] (by rfl) rfl rfl (by simp only [List.map_toArray, List.map_cons, List.map_nil]; rfl) ?_
                with_reducible refine (HRA.out.lay (below_then (below_drew1 (Below.refl _ _)) (Nat.le_refl _) hb5) x x2 hb2n HX5.out HS5.out.1 HS5.out.2.1 HS5.out.2.2 hl100).mono ?_
                rintro e W6 ⟨l2, g2, AL2, cL2, AG2, cG2, rfl, hra, hll⟩
                refine ⟨_, rfl, ?_⟩
                have HRA2 := Aside0.mk hra
                have HLL := Aside0.mk hll
                clear hra hll
                refine hK.out _ _ ?_
                clear hK K
                refine norm_ (a' := ?_) ?_ ?_
                rotate_left
                · show Act.put _ (some 98) _ = _
                  simp only [Act.put, List.setIfInBounds_toArray, List.set_cons_zero, List.set_cons_succ, i64_w, i32_w]
                  rfl
                refine pure_ (i := 31) (N := some 67) (v := ?_) (a' := ?_) #[true, true, true, true, true, true, true, true, true, true, true, true, true, true, true, true, true, true, true, true, true, true, true, true, true, true, true, true, true, true, true, true, false, false, false, false] rfl rfl (by kernel_rfl) (fun _ _ _ h => h) (Or.inl ⟨by rfl, ?_⟩) ?_ ?_
                rotate_left
                · intro w'
                  go_simp
                  with_reducible rfl
                rotate_left
                · simp only [Act.put, List.setIfInBounds_toArray, List.set_cons_zero, List.set_cons_succ, i64_w, i32_w]
                  rfl
                refine pure_ (i := 32) (N := some 99) (v := ?_) (a' := ?_) #[true, true, true, true, true, true, true, true, true, true, true, true, true, true, true, true, true, true, true, true, true, true, true, true, true, true, true, true, true, true, true, true, true, false, false, false] rfl rfl (by kernel_rfl) (fun _ _ _ h => h) (Or.inl ⟨by rfl, ?_⟩) ?_ ?_
                rotate_left
                · intro w'
                  go_simp
                  with_reducible rfl
                rotate_left
                · simp only [Act.put, List.setIfInBounds_toArray, List.set_cons_zero, List.set_cons_succ, i64_w, i32_w]
                  rfl
                refine pure_ (i := 33) (N := some 100) (v := ?_) (a' := ?_) #[true, true, true, true, true, true, true, true, true, true, true, true, true, true, true, true, true, true, true, true, true, true, true, true, true, true, true, true, true, true, true, true, true, true, false, false] rfl rfl (by kernel_rfl) (fun _ _ _ h => h) (Or.inl ⟨by rfl, ?_⟩) ?_ ?_
                rotate_left
                · intro w'
                  go_simp
                  with_reducible rfl
                rotate_left
                · simp only [Act.put, List.setIfInBounds_toArray, List.set_cons_zero, List.set_cons_succ, i64_w, i32_w]
                  rfl
                refine pure_ (i := 34) (N := some 13) (v := ?_) (a' := ?_) #[true, true, true, true, true, true, true, true, true, true, true, true, true, true, true, true, true, true, true, true, true, true, true, true, true, true, true, true, true, true, true, true, true, true, true, false] rfl rfl (by kernel_rfl) (fun _ _ _ h => h) (Or.inl ⟨by rfl, ?_⟩) ?_ ?_
                rotate_left
                · intro w'
                  go_simp
                  with_reducible rfl
                rotate_left
                · simp only [Act.put, List.setIfInBounds_toArray, List.set_cons_zero, List.set_cons_succ, i64_w, i32_w]
                  rfl
                refine pure_ (i := 35) (N := some 14) (v := ?_) (a' := ?_) #[true, true, true, true, true, true, true, true, true, true, true, true, true, true, true, true, true, true, true, true, true, true, true, true, true, true, true, true, true, true, true, true, true, true, true, true] rfl rfl (by kernel_rfl) (fun _ _ _ h => h) (Or.inl ⟨by rfl, ?_⟩) ?_ ?_
                rotate_left
                · intro w'
                  go_simp
                  with_reducible rfl
                rotate_left
                · simp only [Act.put, List.setIfInBounds_toArray, List.set_cons_zero, List.set_cons_succ, i64_w, i32_w]
                  rfl
                refine done_ (by kernel_rfl) ?_

                clear hw1 hw2 hw9 ht1 ht2 hp1 hp2 hp9 hr9 ht9 hHeld hx0 hx1 hx2 HEV HX5
                go_wp2_with fail
                go_roundg (60 - (i + 3))
                case measure => omega
                case rel => exact ⟨i + 3, l2, g2, AL2, cL2, AG2, cG2, by have := HLN.out; omega, by omega, by go_num, rfl, rfl, ⟨by have := HLN.out; have := HLL.out; omega⟩, HRA2⟩
              · have hmz : ¬ (i : Int) + 9 < (cs.length : Int) := by omega
                have hmz2 : (cs.length : Int) ≤ (c0 : Int) := by omega
                have hmz3 : (i : Int) ≤ (cs.length : Int) := by omega
                have HEV := Aside0.mk (fun (W5 : World) (hb : Below wr.heap.size wr W5) => Event.ef x0 x1 x2 hb0n hb1n hb2n (some (ad.add i)) (c0 - i) (cs.length - i) ((cs.drop i).take (cs.length - i)) W5 (mid_len (by omega)) (Kd.C_below (C_mid HR.out i (cs.length - i) (by omega) (by omega)) (below_then HBW.out HBW.out.size hb)) (by omega) (fun y hy => HCB.out y (List.mem_of_mem_drop (List.mem_of_mem_take hy))))
                clear hm
                go_upto_region 22 with fail
                obtain ⟨hw1, hw2, hw9, ht1, ht2, hp1, hp2, hp9, hr9, ht9⟩ := ix_facts i hi36
                refine start_ (n := 36) (S := fun w' => w'.cell? (ad.add i) = some (.int .u8 (x0 : Int)) ∧ w'.cell? ⟨ad.block, ad.off + (i + 1), none⟩ = some (.int .u8 (x1 : Int)) ∧ w'.cell? ⟨ad.block, ad.off + (i + 2), none⟩ = some (.int .u8 (x2 : Int))) (ds := [30]) #[false, false, false, false, false, false, false, false, false, false, false, false, false, false, false, false, false, false, false, false, false, false, false, false, false, false, false, false, false, false, false, false, false, false, false, false] (by kernel_rfl) rfl rfl ⟨hx0, hx1, hx2⟩ (fun hHeld => ?_)
                refine pure_ (i := 0) (N := some 68) (v := ?_) (a' := ?_) #[true, false, false, false, false, false, false, false, false, false, false, false, false, false, false, false, false, false, false, false, false, false, false, false, false, false, false, false, false, false, false, false, false, false, false, false] rfl rfl (by kernel_rfl) (fun _ _ _ h => h) (Or.inl ⟨by rfl, ?_⟩) ?_ ?_
                rotate_left
                · intro w'
                  go_simp
                  with_reducible rfl
                rotate_left
                · simp only [Act.put, List.setIfInBounds_toArray, List.set_cons_zero, List.set_cons_succ, i64_w, i32_w]
                  rfl
                refine pure_ (i := 1) (N := some 69) (v := ?_) (a' := ?_) #[true, true, false, false, false, false, false, false, false, false, false, false, false, false, false, false, false, false, false, false, false, false, false, false, false, false, false, false, false, false, false, false, false, false, false, false] rfl rfl (by kernel_rfl) (fun _ _ _ h => h) (Or.inl ⟨by rfl, ?_⟩) ?_ ?_
                rotate_left
                · intro w'
                  go_simp
                  with_reducible rfl
                rotate_left
                · simp only [Act.put, List.setIfInBounds_toArray, List.set_cons_zero, List.set_cons_succ, i64_w, i32_w]
                  rfl
                refine pure_ (i := 2) (N := some 70) (v := ?_) (a' := ?_) #[true, true, true, false, false, false, false, false, false, false, false, false, false, false, false, false, false, false, false, false, false, false, false, false, false, false, false, false, false, false, false, false, false, false, false, false] rfl rfl (by kernel_rfl) (fun _ _ _ h => h) (Or.inl ⟨by rfl, ?_⟩) ?_ ?_
                rotate_left
                · intro w'
                  go_simp
                  with_reducible rfl
                rotate_left
                · simp only [Act.put, List.setIfInBounds_toArray, List.set_cons_zero, List.set_cons_succ, i64_w, i32_w]
                  rfl
                refine pure_ (i := 3) (N := some 71) (v := ?_) (a' := ?_) #[true, true, true, true, false, false, false, false, false, false, false, false, false, false, false, false, false, false, false, false, false, false, false, false, false, false, false, false, false, false, false, false, false, false, false, false] rfl rfl (by kernel_rfl) (fun _ _ _ h => h) (Or.inl ⟨by rfl, ?_⟩) ?_ ?_
                rotate_left
                · intro w'
                  go_simp
                  with_reducible rfl
                rotate_left
                · simp only [Act.put, List.setIfInBounds_toArray, List.set_cons_zero, List.set_cons_succ, i64_w, i32_w]
                  rfl
                refine pure_ (i := 4) (N := some 72) (v := ?_) (a' := ?_) #[true, true, true, true, true, false, false, false, false, false, false, false, false, false, false, false, false, false, false, false, false, false, false, false, false, false, false, false, false, false, false, false, false, false, false, false] rfl rfl (by kernel_rfl) (fun _ _ _ h => h) (Or.inl ⟨by rfl, ?_⟩) ?_ ?_
                rotate_left
                · intro w'
                  go_simp
                  with_reducible rfl
                rotate_left
                · simp only [Act.put, List.setIfInBounds_toArray, List.set_cons_zero, List.set_cons_succ, i64_w, i32_w]
                  rfl
                refine pure_ (i := 6) (N := some 74) (v := ?_) (a' := ?_) #[true, true, true, true, true, false, true, false, false, false, false, false, false, false, false, false, false, false, false, false, false, false, false, false, false, false, false, false, false, false, false, false, false, false, false, false] rfl rfl (by kernel_rfl) (fun _ _ _ h => h) (Or.inl ⟨by rfl, ?_⟩) ?_ ?_
                rotate_left
                · intro w'
                  go_simp
                  with_reducible rfl
                rotate_left
                · simp only [Act.put, List.setIfInBounds_toArray, List.set_cons_zero, List.set_cons_succ, i64_w, i32_w]
                  rfl
                refine pure_ (i := 7) (N := some 75) (v := ?_) (a' := ?_) #[true, true, true, true, true, false, true, true, false, false, false, false, false, false, false, false, false, false, false, false, false, false, false, false, false, false, false, false, false, false, false, false, false, false, false, false] rfl rfl (by kernel_rfl) (fun _ _ _ h => h) (Or.inl ⟨by rfl, ?_⟩) ?_ ?_
                rotate_left
                · intro w'
                  go_simp
                  with_reducible rfl
                rotate_left
                · simp only [Act.put, List.setIfInBounds_toArray, List.set_cons_zero, List.set_cons_succ, i64_w, i32_w]
                  rfl
                refine pure_ (i := 8) (N := some 76) (v := ?_) (a' := ?_) #[true, true, true, true, true, false, true, true, true, false, false, false, false, false, false, false, false, false, false, false, false, false, false, false, false, false, false, false, false, false, false, false, false, false, false, false] rfl rfl (by kernel_rfl) (fun _ _ _ h => h) (Or.inl ⟨by rfl, ?_⟩) ?_ ?_
                rotate_left
                · intro w'
                  go_simp
                  with_reducible rfl
                rotate_left
                · simp only [Act.put, List.setIfInBounds_toArray, List.set_cons_zero, List.set_cons_succ, i64_w, i32_w]
                  rfl
                refine pure_ (i := 9) (N := some 77) (v := ?_) (a' := ?_) #[true, true, true, true, true, false, true, true, true, true, false, false, false, false, false, false, false, false, false, false, false, false, false, false, false, false, false, false, false, false, false, false, false, false, false, false] rfl rfl (by kernel_rfl) (fun _ _ _ h => h) (Or.inl ⟨by rfl, ?_⟩) ?_ ?_
                rotate_left
                · intro w'
                  go_simp
                  with_reducible rfl
                rotate_left
                · simp only [Act.put, List.setIfInBounds_toArray, List.set_cons_zero, List.set_cons_succ, i64_w, i32_w]
                  rfl
                refine pure_ (i := 11) (N := some 79) (v := ?_) (a' := ?_) #[true, true, true, true, true, false, true, true, true, true, false, true, false, false, false, false, false, false, false, false, false, false, false, false, false, false, false, false, false, false, false, false, false, false, false, false] rfl rfl (by kernel_rfl) (fun _ _ _ h => h) (Or.inl ⟨by rfl, ?_⟩) ?_ ?_
                rotate_left
                · intro w'
                  go_simp
                  with_reducible rfl
                rotate_left
                · simp only [Act.put, List.setIfInBounds_toArray, List.set_cons_zero, List.set_cons_succ, i64_w, i32_w]
                  rfl
                refine pure_ (i := 12) (N := some 80) (v := ?_) (a' := ?_) #[true, true, true, true, true, false, true, true, true, true, false, true, true, false, false, false, false, false, false, false, false, false, false, false, false, false, false, false, false, false, false, false, false, false, false, false] rfl rfl (by kernel_rfl) (fun _ _ _ h => h) (Or.inl ⟨by rfl, ?_⟩) ?_ ?_
                rotate_left
                · intro w'
                  go_simp
                  with_reducible rfl
                rotate_left
                · simp only [Act.put, List.setIfInBounds_toArray, List.set_cons_zero, List.set_cons_succ, i64_w, i32_w]
                  rfl
                refine pure_ (i := 13) (N := some 81) (v := ?_) (a' := ?_) #[true, true, true, true, true, false, true, true, true, true, false, true, true, true, false, false, false, false, false, false, false, false, false, false, false, false, false, false, false, false, false, false, false, false, false, false] rfl rfl (by kernel_rfl) (fun _ _ _ h => h) (Or.inl ⟨by rfl, ?_⟩) ?_ ?_
                rotate_left
                · intro w'
                  go_simp
                  with_reducible rfl
                rotate_left
                · simp only [Act.put, List.setIfInBounds_toArray, List.set_cons_zero, List.set_cons_succ, i64_w, i32_w]
                  rfl
                refine pure_ (i := 14) (N := some 82) (v := ?_) (a' := ?_) #[true, true, true, true, true, false, true, true, true, true, false, true, true, true, true, false, false, false, false, false, false, false, false, false, false, false, false, false, false, false, false, false, false, false, false, false] rfl rfl (by kernel_rfl) (fun _ _ _ h => h) (Or.inl ⟨by rfl, ?_⟩) ?_ ?_
                rotate_left
                · intro w'
                  go_simp
                  with_reducible rfl
                rotate_left
                · simp only [Act.put, List.setIfInBounds_toArray, List.set_cons_zero, List.set_cons_succ, i64_w, i32_w]
                  rfl
                refine pure_ (i := 16) (N := some 84) (v := ?_) (a' := ?_) #[true, true, true, true, true, false, true, true, true, true, false, true, true, true, true, false, true, false, false, false, false, false, false, false, false, false, false, false, false, false, false, false, false, false, false, false] rfl rfl (by kernel_rfl) (fun _ _ _ h => h) (Or.inl ⟨by rfl, ?_⟩) ?_ ?_
                rotate_left
                · intro w'
                  go_simp
                  with_reducible rfl
                rotate_left
                · simp only [Act.put, List.setIfInBounds_toArray, List.set_cons_zero, List.set_cons_succ, i64_w, i32_w]
                  rfl
                refine pure_ (i := 17) (N := some 85) (v := ?_) (a' := ?_) #[true, true, true, true, true, false, true, true, true, true, false, true, true, true, true, false, true, true, false, false, false, false, false, false, false, false, false, false, false, false, false, false, false, false, false, false] rfl rfl (by kernel_rfl) (fun _ _ _ h => h) (Or.inl ⟨by rfl, ?_⟩) ?_ ?_
                rotate_left
                · intro w'
                  go_simp
                  with_reducible rfl
                rotate_left
                · simp only [Act.put, List.setIfInBounds_toArray, List.set_cons_zero, List.set_cons_succ, i64_w, i32_w]
                  rfl
                refine pure_ (i := 18) (N := some 86) (v := ?_) (a' := ?_) #[true, true, true, true, true, false, true, true, true, true, false, true, true, true, true, false, true, true, true, false, false, false, false, false, false, false, false, false, false, false, false, false, false, false, false, false] rfl rfl (by kernel_rfl) (fun _ _ _ h => h) (Or.inl ⟨by rfl, ?_⟩) ?_ ?_
                rotate_left
                · intro w'
                  go_simp
                  with_reducible rfl
                rotate_left
                · simp only [Act.put, List.setIfInBounds_toArray, List.set_cons_zero, List.set_cons_succ, i64_w, i32_w]
                  rfl
                refine pure_ (i := 19) (N := some 87) (v := ?_) (a' := ?_) #[true, true, true, true, true, false, true, true, true, true, false, true, true, true, true, false, true, true, true, true, false, false, false, false, false, false, false, false, false, false, false, false, false, false, false, false] rfl rfl (by kernel_rfl) (fun _ _ _ h => h) (Or.inl ⟨by rfl, ?_⟩) ?_ ?_
                rotate_left
                · intro w'
                  go_simp
                  with_reducible rfl
                rotate_left
                · simp only [Act.put, List.setIfInBounds_toArray, List.set_cons_zero, List.set_cons_succ, i64_w, i32_w]
                  rfl
                refine pure_ (i := 20) (N := some 88) (v := ?_) (a' := ?_) #[true, true, true, true, true, false, true, true, true, true, false, true, true, true, true, false, true, true, true, true, true, false, false, false, false, false, false, false, false, false, false, false, false, false, false, false] rfl rfl (by kernel_rfl) (fun _ _ _ h => h) (Or.inl ⟨by rfl, ?_⟩) ?_ ?_
                rotate_left
                · intro w'
                  go_simp
                  with_reducible rfl
                rotate_left
                · simp only [Act.put, List.setIfInBounds_toArray, List.set_cons_zero, List.set_cons_succ, i64_w, i32_w]
                  rfl
                refine pure_ (i := 21) (N := some 89) (v := ?_) (a' := ?_) #[true, true, true, true, true, false, true, true, true, true, false, true, true, true, true, false, true, true, true, true, true, true, false, false, false, false, false, false, false, false, false, false, false, false, false, false] rfl rfl (by kernel_rfl) (fun _ _ _ h => h) (Or.inl ⟨by rfl, ?_⟩) ?_ ?_
                rotate_left
                · intro w'
                  go_simp
                  with_reducible rfl
                rotate_left
                · simp only [Act.put, List.setIfInBounds_toArray, List.set_cons_zero, List.set_cons_succ, i64_w, i32_w]
                  rfl
                refine pure_ (i := 22) (N := some 90) (v := ?_) (a' := ?_) #[true, true, true, true, true, false, true, true, true, true, false, true, true, true, true, false, true, true, true, true, true, true, true, false, false, false, false, false, false, false, false, false, false, false, false, false] rfl rfl (by kernel_rfl) (fun _ _ _ h => h) (Or.inl ⟨by rfl, ?_⟩) ?_ ?_
                rotate_left
                · intro w'
                  go_simp
                  with_reducible rfl
                rotate_left
                · simp only [Act.put, List.setIfInBounds_toArray, List.set_cons_zero, List.set_cons_succ, i64_w, i32_w]
                  rfl
                refine pure_ (i := 23) (N := some 91) (v := ?_) (a' := ?_) #[true, true, true, true, true, false, true, true, true, true, false, true, true, true, true, false, true, true, true, true, true, true, true, true, false, false, false, false, false, false, false, false, false, false, false, false] rfl rfl (by kernel_rfl) (fun _ _ _ h => h) (Or.inl ⟨by rfl, ?_⟩) ?_ ?_
                rotate_left
                · intro w'
                  go_simp
                  with_reducible rfl
                rotate_left
                · simp only [Act.put, List.setIfInBounds_toArray, List.set_cons_zero, List.set_cons_succ, i64_w, i32_w]
                  rfl
                refine pure_ (i := 25) (N := some 93) (v := ?_) (a' := ?_) #[true, true, true, true, true, false, true, true, true, true, false, true, true, true, true, false, true, true, true, true, true, true, true, true, false, true, false, false, false, false, false, false, false, false, false, false] rfl rfl (by kernel_rfl) (fun _ _ _ h => h) (Or.inl ⟨by rfl, ?_⟩) ?_ ?_
                rotate_left
                · intro w'
                  go_simp
                  with_reducible rfl
                rotate_left
                · simp only [Act.put, List.setIfInBounds_toArray, List.set_cons_zero, List.set_cons_succ, i64_w, i32_w]
                  rfl
                refine pure_ (i := 26) (N := some 94) (v := ?_) (a' := ?_) #[true, true, true, true, true, false, true, true, true, true, false, true, true, true, true, false, true, true, true, true, true, true, true, true, false, true, true, false, false, false, false, false, false, false, false, false] rfl rfl (by kernel_rfl) (fun _ _ _ h => h) (Or.inl ⟨by rfl, ?_⟩) ?_ ?_
                rotate_left
                · intro w'
                  go_simp
                  with_reducible rfl
                rotate_left
                · simp only [Act.put, List.setIfInBounds_toArray, List.set_cons_zero, List.set_cons_succ, i64_w, i32_w]
                  rfl
                refine pure_ (i := 27) (N := some 95) (v := ?_) (a' := ?_) #[true, true, true, true, true, false, true, true, true, true, false, true, true, true, true, false, true, true, true, true, true, true, true, true, false, true, true, true, false, false, false, false, false, false, false, false] rfl rfl (by kernel_rfl) (fun _ _ _ h => h) (Or.inl ⟨by rfl, ?_⟩) ?_ ?_
                rotate_left
                · intro w'
                  go_simp
                  with_reducible rfl
                rotate_left
                · simp only [Act.put, List.setIfInBounds_toArray, List.set_cons_zero, List.set_cons_succ, i64_w, i32_w]
                  rfl
                refine pure_ (i := 28) (N := some 96) (v := ?_) (a' := ?_) #[true, true, true, true, true, false, true, true, true, true, false, true, true, true, true, false, true, true, true, true, true, true, true, true, false, true, true, true, true, false, false, false, false, false, false, false] rfl rfl (by kernel_rfl) (fun _ _ _ h => h) (Or.inl ⟨by rfl, ?_⟩) ?_ ?_
                rotate_left
                · intro w'
                  go_simp
                  with_reducible rfl
                rotate_left
                · simp only [Act.put, List.setIfInBounds_toArray, List.set_cons_zero, List.set_cons_succ, i64_w, i32_w]
                  rfl
                refine take_ (i := 5) (N := some 73) (v := ?_) (a' := ?_) #[true, true, true, true, true, true, true, true, true, true, false, true, true, true, true, false, true, true, true, true, true, true, true, true, false, true, true, true, true, false, false, false, false, false, false, false] rfl rfl (by kernel_rfl) (fun _ _ _ h => h) (Or.inl ⟨by rfl, ?_⟩) hHeld ?_ ?_
                rotate_left
                · rintro w' ⟨s0, s1, s2⟩
                  go_simp
                  with_reducible rfl
                rotate_left
                · simp only [Act.put, List.setIfInBounds_toArray, List.set_cons_zero, List.set_cons_succ, i64_w, i32_w]
                  rfl
                refine take_ (i := 10) (N := some 78) (v := ?_) (a' := ?_) #[true, true, true, true, true, true, true, true, true, true, true, true, true, true, true, false, true, true, true, true, true, true, true, true, false, true, true, true, true, false, false, false, false, false, false, false] rfl rfl (by kernel_rfl) (fun _ _ _ h => h) (Or.inl ⟨by rfl, ?_⟩) hHeld ?_ ?_
                rotate_left
                · rintro w' ⟨s0, s1, s2⟩
                  go_simp
                  with_reducible rfl
                rotate_left
                · simp only [Act.put, List.setIfInBounds_toArray, List.set_cons_zero, List.set_cons_succ, i64_w, i32_w]
                  rfl
                refine take_ (i := 15) (N := some 83) (v := ?_) (a' := ?_) #[true, true, true, true, true, true, true, true, true, true, true, true, true, true, true, true, true, true, true, true, true, true, true, true, false, true, true, true, true, false, false, false, false, false, false, false] rfl rfl (by kernel_rfl) (fun _ _ _ h => h) (Or.inl ⟨by rfl, ?_⟩) hHeld ?_ ?_
                rotate_left
                · rintro w' ⟨s0, s1, s2⟩
                  go_simp
                  with_reducible rfl
                rotate_left
                · simp only [Act.put, List.setIfInBounds_toArray, List.set_cons_zero, List.set_cons_succ, i64_w, i32_w]
                  rfl
                refine take_ (i := 29) (N := some 97) (v := ?_) (a' := ?_) #[true, true, true, true, true, true, true, true, true, true, true, true, true, true, true, true, true, true, true, true, true, true, true, true, false, true, true, true, true, true, false, false, false, false, false, false] rfl rfl (by kernel_rfl) (fun _ _ _ h => h) (Or.inl ⟨by rfl, ?_⟩) hHeld ?_ ?_
                rotate_left
                · rintro w' ⟨s0, s1, s2⟩
                  go_simp
                  with_reducible rfl
                rotate_left
                · simp only [Act.put, List.setIfInBounds_toArray, List.set_cons_zero, List.set_cons_succ, i64_w, i32_w]
                  rfl
                refine one_ (i := 24) (N := some 92) #[true, true, true, true, true, true, true, true, true, true, true, true, true, true, true, true, true, true, true, true, true, true, true, true, true, true, true, true, true, true, false, false, false, false, false, false] rfl rfl (by kernel_rfl) (by decide) (fun K hK => ?_)
                refine goes_ Tryz.func30 (by kernel_rfl) rfl #[.int .u8 (x0 : Int), .int .u8 (x1 : Int), .int .u8 (x2 : Int), .slice (some (ad.add i)) (cs.length - i) (c0 - i)] (by rfl) rfl rfl (by simp only [List.map_toArray, List.map_cons, List.map_nil]; rfl) ?_
                with_reducible refine (HEV.out _ (below_drew1 (Below.refl _ _))).mono ?_
                rintro e W5 ⟨x, A6, c6, A7, c7, A13, c13, A14, c14, rfl, hx5, hs5, hb5⟩
                refine ⟨_, rfl, ?_⟩
                have HS5 := Aside0.mk hs5
                have HX5 : Aside0 (EF W5 (fun q => q < wc.heap.size ∨ wr.heap.size ≤ q) x A6 c6 A7 c7 A13 c13 A14 c14) := ⟨hx5.mono (fun q h => .inr h)⟩
                clear hs5 hx5
                refine hK.out _ _ ⟨(pw_cell_below hb5 hHeld.1), (pw_cell_below hb5 hHeld.2.1), (pw_cell_below hb5 hHeld.2.2)⟩ (fun hHeld => ?_)
                clear hK K
                refine norm_ (a' := ?_) ?_ ?_
                rotate_left
                · show Act.put _ (some 92) _ = _
                  simp only [Act.put, List.setIfInBounds_toArray, List.set_cons_zero, List.set_cons_succ, i64_w, i32_w]
                  rfl
                refine last_ (i := 30) (N := some 98) #[true, true, true, true, true, true, true, true, true, true, true, true, true, true, true, true, true, true, true, true, true, true, true, true, true, true, true, true, true, true, true, false, false, false, false, false] rfl rfl (by kernel_rfl) (by decide) (fun K hK => ?_)
                refine goes_ Tryz.func29 (by kernel_rfl) rfl #[.slice AL l.length cL, .slice AG g.length cG, .agg #[.string x.f0, .string x.f1, .string x.f2, .bool x.f3, .string x.f4, .string x.f5, .slice A6 x.f6.length c6, .slice A7 x.f7.length c7, .int .i64 x.f8, .int .i64 x.f9, .int .i64 x.f10.f0, .int .i64 x.f10.f1, .string x.f10.f2, .slice A13 x.f10.f3.length c13, .slice A14 x.f10.f4.length c14], .int .u8 (x2 : Int)] (by rfl) rfl rfl (by simp only [List.map_toArray, List.map_cons, List.map_nil]; rfl) ?_
                with_reducible refine (HRA.out.lay (below_then (below_drew1 (Below.refl _ _)) (Nat.le_refl _) hb5) x x2 hb2n HX5.out HS5.out.1 HS5.out.2.1 HS5.out.2.2 hl100).mono ?_
                rintro e W6 ⟨l2, g2, AL2, cL2, AG2, cG2, rfl, hra, hll⟩
                refine ⟨_, rfl, ?_⟩
                have HRA2 := Aside0.mk hra
                have HLL := Aside0.mk hll
                clear hra hll
                refine hK.out _ _ ?_
                clear hK K
                refine norm_ (a' := ?_) ?_ ?_
                rotate_left
                · show Act.put _ (some 98) _ = _
                  simp only [Act.put, List.setIfInBounds_toArray, List.set_cons_zero, List.set_cons_succ, i64_w, i32_w]
                  rfl
                refine pure_ (i := 31) (N := some 67) (v := ?_) (a' := ?_) #[true, true, true, true, true, true, true, true, true, true, true, true, true, true, true, true, true, true, true, true, true, true, true, true, true, true, true, true, true, true, true, true, false, false, false, false] rfl rfl (by kernel_rfl) (fun _ _ _ h => h) (Or.inl ⟨by rfl, ?_⟩) ?_ ?_
                rotate_left
                · intro w'
                  go_simp
                  with_reducible rfl
                rotate_left
                · simp only [Act.put, List.setIfInBounds_toArray, List.set_cons_zero, List.set_cons_succ, i64_w, i32_w]
                  rfl
                refine pure_ (i := 32) (N := some 99) (v := ?_) (a' := ?_) #[true, true, true, true, true, true, true, true, true, true, true, true, true, true, true, true, true, true, true, true, true, true, true, true, true, true, true, true, true, true, true, true, true, false, false, false] rfl rfl (by kernel_rfl) (fun _ _ _ h => h) (Or.inl ⟨by rfl, ?_⟩) ?_ ?_
                rotate_left
                · intro w'
                  go_simp
                  with_reducible rfl
                rotate_left
                · simp only [Act.put, List.setIfInBounds_toArray, List.set_cons_zero, List.set_cons_succ, i64_w, i32_w]
                  rfl
                refine pure_ (i := 33) (N := some 100) (v := ?_) (a' := ?_) #[true, true, true, true, true, true, true, true, true, true, true, true, true, true, true, true, true, true, true, true, true, true, true, true, true, true, true, true, true, true, true, true, true, true, false, false] rfl rfl (by kernel_rfl) (fun _ _ _ h => h) (Or.inl ⟨by rfl, ?_⟩) ?_ ?_
                rotate_left
                · intro w'
                  go_simp
                  with_reducible rfl
                rotate_left
                · simp only [Act.put, List.setIfInBounds_toArray, List.set_cons_zero, List.set_cons_succ, i64_w, i32_w]
                  rfl
                refine pure_ (i := 34) (N := some 13) (v := ?_) (a' := ?_) #[true, true, true, true, true, true, true, true, true, true, true, true, true, true, true, true, true, true, true, true, true, true, true, true, true, true, true, true, true, true, true, true, true, true, true, false] rfl rfl (by kernel_rfl) (fun _ _ _ h => h) (Or.inl ⟨by rfl, ?_⟩) ?_ ?_
                rotate_left
                · intro w'
                  go_simp
                  with_reducible rfl
                rotate_left
                · simp only [Act.put, List.setIfInBounds_toArray, List.set_cons_zero, List.set_cons_succ, i64_w, i32_w]
                  rfl
                refine pure_ (i := 35) (N := some 14) (v := ?_) (a' := ?_) #[true, true, true, true, true, true, true, true, true, true, true, true, true, true, true, true, true, true, true, true, true, true, true, true, true, true, true, true, true, true, true, true, true, true, true, true] rfl rfl (by kernel_rfl) (fun _ _ _ h => h) (Or.inl ⟨by rfl, ?_⟩) ?_ ?_
                rotate_left
                · intro w'
                  go_simp
                  with_reducible rfl
                rotate_left
                · simp only [Act.put, List.setIfInBounds_toArray, List.set_cons_zero, List.set_cons_succ, i64_w, i32_w]
                  rfl
                refine done_ (by kernel_rfl) ?_

                clear hw1 hw2 hw9 ht1 ht2 hp1 hp2 hp9 hr9 ht9 hHeld hx0 hx1 hx2 HEV HX5
                go_wp2_with fail
                go_roundg (60 - (i + 3))
                case measure => omega
                case rel => exact ⟨i + 3, l2, g2, AL2, cL2, AG2, cG2, by have := HLN.out; omega, by omega, by go_num, rfl, rfl, ⟨by have := HLN.out; have := HLL.out; omega⟩, HRA2⟩
            · have h36z : ¬ (i : Int) < 36 := by omega
              go_wp2_with fail
              go_ret2
              exact ⟨l, g, AL, cL, AG, cG, rfl, by first | exact Kd.N_lower HRA.out.hl HB1.out.size | exact Kd.N_mono (Kd.N_lower HRA.out.hl HB1.out.size) (fun q h => h.2), by first | exact Kd.N_lower HRA.out.hg HB1.out.size | exact Kd.N_mono (Kd.N_lower HRA.out.hg HB1.out.size) (fun q h => h.2), HRA.out.room, HLN.out.2.1, by have := HLN.out; omega, below_then HB1.out HB1.out.size HRA.out.below⟩
          · have hz2 : ¬ (i : Int) + 2 < (cs.length : Int) := by omega
            go_wp2_with fail
            go_ret2
            exact ⟨l, g, AL, cL, AG, cG, rfl, by first | exact Kd.N_lower HRA.out.hl HB1.out.size | exact Kd.N_mono (Kd.N_lower HRA.out.hl HB1.out.size) (fun q h => h.2), by first | exact Kd.N_lower HRA.out.hg HB1.out.size | exact Kd.N_mono (Kd.N_lower HRA.out.hg HB1.out.size) (fun q h => h.2), HRA.out.room, HLN.out.2.1, by have := HLN.out; omega, below_then HB1.out HB1.out.size HRA.out.below⟩
end Go.Proofs.YtmdjknkhjimgeaaGreat.S
end

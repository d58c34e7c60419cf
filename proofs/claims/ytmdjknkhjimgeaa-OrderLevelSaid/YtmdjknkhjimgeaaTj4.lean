/- Parts of the walk and of the plain law, joined for this claim alone by a program of this session. -/
import Derived.Test.YtmdjknkhjimgeaaTj1
import Derived.Test.YtmdjknkhjimgeaaTj0
import Derived.Test.YtmdjknkhjimgeaaTj2
import Derived.Test.YtmdjknkhjimgeaaTj3
import Derived.Sort.LoopGhostIn
section
namespace Go.Proofs.Ytmdjknkhjimgeaa.S
open Go.RowKit Go.Proofs.YtmdjknkhjimgeaaW.PrintWords Go.Proofs.YtmdjknkhjimgeaaW.PrintLast Go.Proofs.YtmdjknkhjimgeaaW.PrintMore
attribute [local go_sem] max2_int min2_int max_two min_two max_three min_three max_four min_four
set_option linter.unusedVariables false
set_option linter.unusedSimpArgs false
open Go.Proofs.He
structure RoomOf (l : List SEv) (g : List (List Int)) : Prop where
  len : g.length = l.length
  edges : ∀ (n : Nat) (r : List Int), g[n]? = some r → ∀ y ∈ r, 0 ≤ y ∧ y < (n : Int)
  senders : ∀ x ∈ l, x.f4 ≠ ⟨#[]⟩
  bodies : ∀ x ∈ l, x.f10.f3.length < 1000
  deep : ∀ x ∈ l, Dq 41 x.f10
  names : ∀ (n : Nat) (x : SEv), l[n]? = some x → ∃ k : Nat, k < 256 ∧ x.f0 = nmL k n
theorem RoomOf.nil : RoomOf [] [] := ⟨rfl, (fun n r h => by simp at h), (fun x h => nomatch h), (fun x h => nomatch h), (fun x h => nomatch h), (fun n x h => by simp at h)⟩
theorem RoomOf.snoc {l : List SEv} {g : List (List Int)} (h : RoomOf l g) (x : SEv) (own : List Int) (k : Nat) (hk : k < 256) (hs : x.f4 ≠ ⟨#[]⟩) (hb : x.f10.f3.length < 1000) (hq : Dq 41 x.f10) (ho : ∀ y ∈ own, 0 ≤ y ∧ y < (l.length : Int)) : RoomOf (l ++ [({ x with f0 := nmL k l.length } : SEv)]) (g ++ [own]) := by
  refine ⟨by simp [h.len], fun n r hn => ?_, fun y hy => ?_, fun y hy => ?_, fun y hy => ?_, fun n y hn => ?_⟩
  · rcases Nat.lt_or_ge n g.length with hl | hl
    · rw [List.getElem?_append_left hl] at hn
      exact h.edges n r hn
    · rw [List.getElem?_append_right hl] at hn
      have h0 : n - g.length = 0 := by
        rcases Nat.eq_zero_or_pos (n - g.length) with h0 | h0
        · exact h0
        · rw [List.getElem?_eq_none (by simp; omega)] at hn; cases hn
      rw [h0] at hn
      have hr : own = r := by simpa using hn
      have hnl : n = l.length := by have := h.len; omega
      rw [hnl, ← hr]
      exact ho
  · rcases List.mem_append.1 hy with hy | hy
    · exact h.senders y hy
    · rw [List.mem_singleton.1 hy]; exact hs
  · rcases List.mem_append.1 hy with hy | hy
    · exact h.bodies y hy
    · rw [List.mem_singleton.1 hy]; exact hb
  · rcases List.mem_append.1 hy with hy | hy
    · exact h.deep y hy
    · rw [List.mem_singleton.1 hy]; exact hq
  · rcases Nat.lt_or_ge n l.length with hl | hl
    · rw [List.getElem?_append_left hl] at hn
      exact h.names n y hn
    · rw [List.getElem?_append_right hl] at hn
      have h0 : n - l.length = 0 := by
        rcases Nat.eq_zero_or_pos (n - l.length) with h0 | h0
        · exact h0
        · rw [List.getElem?_eq_none (by simp; omega)] at hn; cases hn
      rw [h0] at hn
      have hr : ({ x with f0 := nmL k l.length } : SEv) = y := by simpa using hn
      have hnl : n = l.length := by omega
      exact ⟨k, hk, by rw [← hr, hnl]⟩
theorem EF_at {W : World} {A : Option Addr} {n : Nat} {xs : List SEv} {ok : Nat → Prop} (h : Kd.F kE W ok A n xs) (i : Int) (h0 : 0 ≤ i) (h1 : i < n) : ∃ ad A6 c6 A7 c7 A13 c13 A14 c14, A = some ad ∧ W.cell? (ad.add (i.toNat * 15)) = some (.string (rd_T34 xs i).f0) ∧ W.cell? ⟨(ad.add (i.toNat * 15)).block, (ad.add (i.toNat * 15)).off + 1, none⟩ = some (.string (rd_T34 xs i).f1) ∧ W.cell? ⟨(ad.add (i.toNat * 15)).block, (ad.add (i.toNat * 15)).off + 2, none⟩ = some (.string (rd_T34 xs i).f2) ∧ W.cell? ⟨(ad.add (i.toNat * 15)).block, (ad.add (i.toNat * 15)).off + 3, none⟩ = some (.bool (rd_T34 xs i).f3) ∧ W.cell? ⟨(ad.add (i.toNat * 15)).block, (ad.add (i.toNat * 15)).off + 4, none⟩ = some (.string (rd_T34 xs i).f4) ∧ W.cell? ⟨(ad.add (i.toNat * 15)).block, (ad.add (i.toNat * 15)).off + 5, none⟩ = some (.string (rd_T34 xs i).f5) ∧ W.cell? ⟨(ad.add (i.toNat * 15)).block, (ad.add (i.toNat * 15)).off + 6, none⟩ = some (.slice A6 (rd_T34 xs i).f6.length c6) ∧ W.cell? ⟨(ad.add (i.toNat * 15)).block, (ad.add (i.toNat * 15)).off + 7, none⟩ = some (.slice A7 (rd_T34 xs i).f7.length c7) ∧ W.cell? ⟨(ad.add (i.toNat * 15)).block, (ad.add (i.toNat * 15)).off + 8, none⟩ = some (.int .i64 (rd_T34 xs i).f8) ∧ W.cell? ⟨(ad.add (i.toNat * 15)).block, (ad.add (i.toNat * 15)).off + 9, none⟩ = some (.int .i64 (rd_T34 xs i).f9) ∧ W.cell? ⟨(ad.add (i.toNat * 15)).block, (ad.add (i.toNat * 15)).off + 10, none⟩ = some (.int .i64 (rd_T34 xs i).f10.f0) ∧ W.cell? ⟨(ad.add (i.toNat * 15)).block, (ad.add (i.toNat * 15)).off + 11, none⟩ = some (.int .i64 (rd_T34 xs i).f10.f1) ∧ W.cell? ⟨(ad.add (i.toNat * 15)).block, (ad.add (i.toNat * 15)).off + 12, none⟩ = some (.string (rd_T34 xs i).f10.f2) ∧ W.cell? ⟨(ad.add (i.toNat * 15)).block, (ad.add (i.toNat * 15)).off + 13, none⟩ = some (.slice A13 (rd_T34 xs i).f10.f3.length c13) ∧ W.cell? ⟨(ad.add (i.toNat * 15)).block, (ad.add (i.toNat * 15)).off + 14, none⟩ = some (.slice A14 (rd_T34 xs i).f10.f4.length c14) ∧ EF W ok (rd_T34 xs i) A6 c6 A7 c7 A13 c13 A14 c14 := by
  obtain ⟨ad, c, e, _, hK, hc0, _⟩ := Kd.F_get h z34 i h0 h1
  have hc : ∀ j u, c[j]? = some u → W.cell? (ad.add (i.toNat * 15 + j)) = some u := hc0
  obtain ⟨A6, c6, A7, c7, A13, c13, A14, c14, rfl, l6, g6, l7, g7, l13, g13, l14, g14⟩ := k34_openF hK
  exact ⟨ad, A6, c6, A7, c7, A13, c13, A14, c14, e, hc 0 _ rfl, by rw [← add_field _ _ 1 (by omega)]; exact hc 1 _ rfl, by rw [← add_field _ _ 2 (by omega)]; exact hc 2 _ rfl, by rw [← add_field _ _ 3 (by omega)]; exact hc 3 _ rfl, by rw [← add_field _ _ 4 (by omega)]; exact hc 4 _ rfl, by rw [← add_field _ _ 5 (by omega)]; exact hc 5 _ rfl, by rw [← add_field _ _ 6 (by omega)]; exact hc 6 _ rfl, by rw [← add_field _ _ 7 (by omega)]; exact hc 7 _ rfl, by rw [← add_field _ _ 8 (by omega)]; exact hc 8 _ rfl, by rw [← add_field _ _ 9 (by omega)]; exact hc 9 _ rfl, by rw [← add_field _ _ 10 (by omega)]; exact hc 10 _ rfl, by rw [← add_field _ _ 11 (by omega)]; exact hc 11 _ rfl, by rw [← add_field _ _ 12 (by omega)]; exact hc 12 _ rfl, by rw [← add_field _ _ 13 (by omega)]; exact hc 13 _ rfl, by rw [← add_field _ _ 14 (by omega)]; exact hc 14 _ rfl, ⟨l6, g6, l7, g7, ⟨l13, g13, l14, g14⟩⟩⟩
theorem F_take' {α : Type} {d : Kd α} {W : World} {ok : Nat → Prop} {A : Option Addr} {n m : Nat} {xs : List α} (h : Kd.F d W ok A n xs) (hm : m ≤ n) : Kd.F d W ok A (xs.take m).length (xs.take m) := fun W' hW => by
  have h' : d.C W' A n xs := h W' hW
  have e : xs.length = n := h'.1
  subst e
  exact Kd.C_take h' hm
theorem EF.bound {W : World} {ok : Nat → Prop} {x : SEv} {A6 A7 A13 A14 : Option Addr} {c6 c7 c13 c14 : Nat} (h : EF W ok x A6 c6 A7 c7 A13 c13 A14 c14) : EF W (fun q => ok q ∧ q < W.heap.size) x A6 c6 A7 c7 A13 c13 A14 c14 := ⟨h.l6, Kd.F_bound h.g6, h.l7, Kd.F_bound h.g7, h.b.bound⟩
structure RoomAt (W0 W : World) (l : List SEv) (g : List (List Int)) (AL : Option Addr) (cL : Nat) (AG : Option Addr) (cG : Nat) : Prop where
  hl : Kd.N kE 34 W W0.heap.size (fun q => True ∧ some q ≠ (.slice AG g.length cG : Value).ownBlock) (.slice AL l.length cL) l
  hg : Kd.N kG 49 W W0.heap.size (fun q => True ∧ some q ≠ (.slice AL l.length cL : Value).ownBlock) (.slice AG g.length cG) g
  room : RoomOf l g
  below : Below W0.heap.size W0 W
theorem RoomAt.later {W0 W W1 : World} {l : List SEv} {g : List (List Int)} {AL AG : Option Addr} {cL cG : Nat} (h : RoomAt W0 W l g AL cL AG cG) (hb : Below W.heap.size W W1) : RoomAt W0 W1 l g AL cL AG cG := ⟨Kd.N_below h.hl hb, Kd.N_below h.hg hb, h.room, below_then h.below h.below.size hb⟩
theorem RoomAt.start (W : World) : RoomAt W W [] [] none 0 none 0 := ⟨Kd.N_nil _ _ _ _ _, Kd.N_nil _ _ _ _ _, RoomOf.nil, Below.refl _ _⟩
theorem RoomAt.lay {W0 Wr W : World} {l : List SEv} {g : List (List Int)} {AL AG : Option Addr} {cL cG : Nat} (h : RoomAt W0 Wr l g AL cL AG cG) (hb : Below Wr.heap.size Wr W) (x : SEv) {A6 A7 A13 A14 : Option Addr} {c6 c7 c13 c14 : Nat} (k : Nat) (hk : k < 256)
    (hx : EF W (fun q => q < W0.heap.size ∨ Wr.heap.size ≤ q) x A6 c6 A7 c7 A13 c13 A14 c14) (h3 : x.f10.f3.length < 1000) (h4 : x.f4 ≠ ⟨#[]⟩) (hq : Dq 41 x.f10) (hl : l.length ≤ 100) :
    Calls Try.prog 44 #[.slice AL l.length cL, .slice AG g.length cG, .agg #[.string x.f0, .string x.f1, .string x.f2, .bool x.f3, .string x.f4, .string x.f5, .slice A6 x.f6.length c6, .slice A7 x.f7.length c7, .int .i64 x.f8, .int .i64 x.f9, .int .i64 x.f10.f0, .int .i64 x.f10.f1, .string x.f10.f2, .slice A13 x.f10.f3.length c13, .slice A14 x.f10.f4.length c14], .int .u8 (k : Int)] W fun e w' => ∃ l' g' AL' cL' AG' cG', e = .returned (.tuple #[.slice AL' l'.length cL', .slice AG' g'.length cG']) ∧ RoomAt W0 w' l' g' AL' cL' AG' cG' ∧ l'.length = l.length + 1 := by
  have h1 := h.later hb
  have hlt := Kd.N_lt h.hl
  have hgt := Kd.N_lt h.hg
  have hlb := Kd.N_base h.hl
  have hgb := Kd.N_base h.hg
  refine (lay.walk (P := fun q => (q < W0.heap.size ∨ Wr.heap.size ≤ q) ∧ q < W.heap.size) x A6 c6 A7 c7 A13 c13 A14 c14 k hk h1.hl h1.hg hx.bound (fun q hq => ⟨hq.2, fun e => by have h5 := hlt q e.symm; have h6 := hlb q e.symm; have := hq.1; omega, fun e => by have h5 := hgt q e.symm; have h6 := hgb q e.symm; have := hq.1; omega⟩) hl (by have := h.room.len; omega) h3 h1.below.size).mono ?_
  rintro e W2 ⟨AL', cL', AG', cG', own, rfl, hl', hg', ho, hk2⟩
  refine ⟨_, _, AL', cL', AG', cG', rfl, ⟨hl', hg', h.room.snoc x own k hk h4 h3 hq ho, ?_⟩, by simp⟩
  exact hk2.below h1.below h1.below.size (fun q _ hq => by rcases hq with hq | hq; exact hlb q hq.symm; exact hgb q hq.symm)
theorem ix_facts (i : Nat) (h : i ≤ 36) : wrap64 ((i : Int) + 1) = (i : Int) + 1 ∧ wrap64 ((i : Int) + 2) = (i : Int) + 2 ∧ wrap64 ((i : Int) + 9) = (i : Int) + 9 ∧ ((i : Int) + 1).toNat = i + 1 ∧ ((i : Int) + 2).toNat = i + 2 ∧ 0 ≤ (i : Int) + 1 ∧ 0 ≤ (i : Int) + 2 ∧ 0 ≤ (i : Int) + 9 ∧ (i : Int) ≤ (i : Int) + 9 ∧ ((i : Int) + 9).toNat = i + 9 := by
  refine ⟨?_, ?_, ?_, by omega, by omega, by omega, by omega, by omega, by omega, by omega⟩ <;> (unfold wrap64; omega)
theorem add_pos (ad : Addr) (n : Nat) (h : 0 < n) : ad.add n = ⟨ad.block, ad.off + n, none⟩ := by
  obtain ⟨m, rfl⟩ : ∃ m, n = m + 1 := ⟨n - 1, by omega⟩
  exact add_one' ad m
theorem C_mid {W : World} {ad : Addr} {cs : List Int} (h : (Kd.int .u8).C W (some ad) cs.length cs) (i n : Nat) (hn : i + n ≤ cs.length) (hn0 : 0 < n) : (Kd.int .u8).C W (some (ad.add i)) ((cs.drop i).take n).length ((cs.drop i).take n) := by
  have h1 := Kd.C_drop (c := cs.length) h (show i ≤ cs.length by omega) (Nat.le_refl _)
  rw [if_neg (by omega)] at h1
  have h2 := Kd.C_take h1 (m := n) (by rw [List.length_drop]; omega)
  have e : (some ad).map (fun x => Addr.add x (i * (Kd.int .u8).sz)) = some (ad.add i) := by show some (ad.add (i * 1)) = _; rw [Nat.mul_one]
  rw [e] at h2
  exact h2
theorem mid_len {cs : List Int} {i n : Nat} (hn : i + n ≤ cs.length) : ((cs.drop i).take n).length = n := by rw [List.length_take, List.length_drop]; omega
theorem Event.ef (a b t : Nat) (ha : a < 256) (hb : b < 256) (ht : t < 256) (A0 : Option Addr) (c0 n : Nat) (c : List Int) (w : World) (hn : c.length = n) (hr0 : (Kd.int .u8).C w A0 c.length c) (hc0 : n ≤ c0) (hcb : ∀ x ∈ c, 0 ≤ x ∧ x < 256) :
    Calls Try.prog 45 #[.int .u8 (a : Int), .int .u8 (b : Int), .int .u8 (t : Int), .slice A0 n c0] w fun e w' => ∃ (x : SEv) (A6 : Option Addr) (c6 : Nat) (A7 : Option Addr) (c7 : Nat) (A13 : Option Addr) (c13 : Nat) (A14 : Option Addr) (c14 : Nat), e = .returned (.agg #[.string x.f0, .string x.f1, .string x.f2, .bool x.f3, .string x.f4, .string x.f5, .slice A6 x.f6.length c6, .slice A7 x.f7.length c7, .int .i64 x.f8, .int .i64 x.f9, .int .i64 x.f10.f0, .int .i64 x.f10.f1, .string x.f10.f2, .slice A13 x.f10.f3.length c13, .slice A14 x.f10.f4.length c14]) ∧ EF w' (fun k => w.heap.size ≤ k) x A6 c6 A7 c7 A13 c13 A14 c14 ∧ (x.f10.f3.length < 1000 ∧ x.f4 ≠ ⟨#[]⟩ ∧ Dq 41 x.f10) ∧ Below w.heap.size w w' := by
  subst hn
  refine (Event.walk a b t ha hb ht A0 c0 c w hr0 hc0 hcb).mono ?_
  rintro e w' ⟨ty, key, sender, is, time, v, A3, c3, A4, c4, rfl, hv, hs, hn, hb⟩
  exact ⟨(⟨⟨#[]⟩, ty, key, is, sender, rS, [], [], 0, time, v⟩ : SEv), none, 0, none, 0, A3, c3, A4, c4, rfl, ⟨Nat.le_refl _, Kd.F_nil _ _ _, Nat.le_refl _, Kd.F_nil _ _ _, hv⟩, ⟨by have := hs.a; show v.f3.length < 1000; omega, hn, hs.dq (by decide)⟩, hb⟩
set_option maxHeartbeats 1500000 in
set_option maxRecDepth 100000 in
theorem Room.walk (A0 : Option Addr) (c0 : Nat) (cs : List Int) (w : World) (hr0 : (Kd.int .u8).C w A0 cs.length cs) (hc0 : cs.length ≤ c0) (hcb : ∀ x ∈ cs, 0 ≤ x ∧ x < 256) :
    Calls Try.prog 18 #[.slice A0 cs.length c0] w fun e w' => ∃ (l : List SEv) (g : List (List Int)) (AL : Option Addr) (cL : Nat) (AG : Option Addr) (cG : Nat), e = .returned (.tuple #[.slice AL l.length cL, .slice AG g.length cG]) ∧
      Kd.N kE 34 w' w.heap.size (fun q => True ∧ some q ≠ (.slice AG g.length cG : Value).ownBlock) (.slice AL l.length cL) l ∧ Kd.N kG 49 w' w.heap.size (fun q => True ∧ some q ≠ (.slice AL l.length cL : Value).ownBlock) (.slice AG g.length cG) g ∧ RoomOf l g ∧ 0 < l.length ∧ l.length ≤ 18 ∧ Below w.heap.size w w' := by
  have hu34 := Try.underlying34
  have HR := Aside0.mk hr0
  have HC := Aside0.mk hc0
  have HCB := Aside0.mk hcb
  clear hr0 hc0 hcb
  go_enter Try.func18, Try.ntmps18
  go_upto_if 17 with fail
  go_cut [4] (fun s4 wx => ∃ k : Nat, s4 = .int .u8 (k : Int) ∧ Aside0 (k < 256) ∧ w = wx)
  case first =>
    by_cases hl : 0 < cs.length
    · obtain ⟨ad, e, hx⟩ := C_num HR.out hl
      subst e
      have hcx := HCB.out _ (List.getElem_mem hl)
      obtain ⟨y, hy⟩ : ∃ y, y = cs[0] := ⟨_, rfl⟩
      rw [← hy] at hx hcx
      clear hy
      have hx0 : w.cell? ad = some (.int .u8 y) := by rw [show ad.add 0 = ad from by cases ad; rfl] at hx; exact hx
      have hlz : 0 < (cs.length : Int) := by omega
      go_wp2_with fail
      go_meet
      exact ⟨y.toNat, by rw [Int.toNat_of_nonneg hcx.1], ⟨by omega⟩, rfl⟩
    · have hlz : ¬ 0 < (cs.length : Int) := by omega
      go_wp2_with fail
      go_meet
      exact ⟨0, rfl, ⟨by decide⟩, rfl⟩
  case rest =>
    obtain ⟨k0, rfl, HK0, rfl⟩ := hcut
    have HOP := Aside0.mk (Opening.walk k0 HK0.out w)
    go_upto_if 25 with (go_at_call 43; refine HOP.out.mono ?_; rintro e W1 ⟨xs, A1, c1, rfl, hc1, hF1, hx6, hk01, hxs, hb1⟩; replace hc1 := Aside0.mk hc1; replace hF1 := Aside0.mk hF1; replace hk01 := Aside0.mk hk01; replace hxs := Aside0.mk hxs; replace hb1 := Aside0.mk hb1; replace hx6 := Aside0.mk hx6)
    go_cut [5] (fun s5 wx => ∃ (ys : List SEv) (A : Option Addr) (c : Nat), s5 = .slice A ys.length c ∧ Aside0 (ys.length ≤ c) ∧ Aside0 (Kd.F kE wx (fun q => w.heap.size ≤ q) A ys.length ys) ∧ 0 < ys.length ∧ ys.length ≤ 6 ∧ Aside0 (∀ x ∈ ys, x.f10.f3.length < 1000 ∧ x.f4 ≠ ⟨#[]⟩ ∧ Dq 41 x.f10) ∧ Aside0 (Below w.heap.size w wx))
    case first =>
      clear HOP
      by_cases hn : xs.length = 0
      · have hlz : ((xs.length : Int) == 0) = true := by rw [beq_iff_eq]; omega
        clear hn
        have HO0 := Aside0.mk (Opening.walk 0 (by decide) W1)
        go_wp2_with (go_at_call 43; refine HO0.out.mono ?_; rintro e W2 ⟨ys, A2, c2, rfl, hc2, hF2, hy6, hk02, hys, hb2⟩; replace hc2 := Aside0.mk hc2; replace hF2 := Aside0.mk hF2; replace hk02 := Aside0.mk hk02; replace hys := Aside0.mk hys; replace hb2 := Aside0.mk hb2; replace hy6 := Aside0.mk hy6; have hpz : 0 < ys.length := List.length_pos_iff.2 (hk02.out rfl); have hc2z : (1 : Int) ≤ (c2 : Int) := by have := hc2.out; omega)
        go_meet
        refine ⟨ys.take 1, A2, c2, ?_, ⟨?_⟩, ⟨Kd.F_mono (F_take' hF2.out hpz) (fun q hq => Nat.le_trans hb1.out.size hq)⟩, ?_, ?_, ⟨fun x hx => hys.out x (List.mem_of_mem_take hx)⟩, ⟨below_then hb1.out hb1.out.size hb2.out⟩⟩
        · rw [List.length_take, Nat.min_eq_left hpz]
        · rw [List.length_take]; have := hc2.out; omega
        · rw [List.length_take]; omega
        · rw [List.length_take]; have := hy6.out; omega
      · have hlz : ((xs.length : Int) == 0) = false := by rw [beq_eq_false_iff_ne]; omega
        have HN := Aside0.mk (Nat.pos_of_ne_zero hn)
        clear hn
        go_wp2_with fail
        go_meet
        exact ⟨xs, A1, c1, rfl, hc1, hF1, HN.out, hx6.out, hxs, hb1⟩
    case rest =>
      obtain ⟨xs, A, c, rfl, HXC, HXF, hx0, hx6, HXS, HB1⟩ := hcut
      have HXB : Aside0 (Kd.F kE wc (fun q => q < wc.heap.size) A xs.length xs) := ⟨Kd.F_mono (Kd.F_bound HXF.out) (fun q hq => hq.2)⟩
      have HST := Aside0.mk (RoomAt.start wc)
      have hc1z : xs.length ≤ c := HXC.out
      clear HOP HXF
      go_upto_block 0 with fail
      go_cut [6, 7] (fun s6 s7 wx => ∃ (l : List SEv) (g : List (List Int)) (AL : Option Addr) (cL : Nat) (AG : Option Addr) (cG : Nat), s6 = .slice AL l.length cL ∧ s7 = .slice AG g.length cG ∧ 0 < l.length ∧ l.length ≤ 6 ∧ Aside0 (RoomAt wc wx l g AL cL AG cG))
      case first =>
        go_wp2_with fail
        go_loopg [6, 7, 8] xs.length (fun gg v6 v7 v8 wr => ∃ (i : Nat) (l : List SEv) (g : List (List Int)) (AL : Option Addr) (cL : Nat) (AG : Option Addr) (cG : Nat), i ≤ xs.length ∧ xs.length - i ≤ gg ∧ v8 = .int .i64 (i : Int) ∧ v6 = .slice AL l.length cL ∧ v7 = .slice AG g.length cG ∧ Aside0 (RoomAt wc wr l g AL cL AG cG) ∧ Aside0 (l.length = i))
        case atStart => exact ⟨0, [], [], none, 0, none, 0, Nat.zero_le _, by omega, rfl, rfl, rfl, HST, ⟨rfl⟩⟩
        case round =>
          obtain ⟨i, l, g, AL, cL, AG, cG, hi, hgg, rfl, rfl, rfl, HRA, HLI⟩ := hrel
          by_cases hlt : i < xs.length
          · have hltz : (i : Int) < (xs.length : Int) := by omega
            obtain ⟨ad, A6, c6, A7, c7, A13, c13, A14, c14, e, x0, x1, x2, x3, x4, x5, x6, x7, x8, x9, x10, x11, x12, x13, x14, hE⟩ := EF_at (Kd.F_below HXB.out HRA.out.below) (i : Int) (by omega) (by omega)
            subst e
            obtain ⟨x, hx⟩ : ∃ x, x = rd_T34 xs (i : Int) := ⟨_, rfl⟩
            rw [← hx] at x0 x1 x2 x3 x4 x5 x6 x7 x8 x9 x10 x11 x12 x13 x14 hE
            simp only [Int.toNat_natCast] at x0 x1 x2 x3 x4 x5 x6 x7 x8 x9 x10 x11 x12 x13 x14
            have HXX : Aside0 (x.f10.f3.length < 1000 ∧ x.f4 ≠ ⟨#[]⟩ ∧ Dq 41 x.f10) := ⟨HXS.out x (by rw [hx]; show xs.getD _ _ ∈ xs; rw [Int.toNat_natCast, List.getD_eq_getElem?_getD, List.getElem?_eq_getElem hlt]; exact List.getElem_mem _)⟩
            have HE := Aside0.mk hE
            clear hE hx
            by_cases hi1 : i = 1
            · have hi1z : ((i : Int) == 1) = true := by rw [beq_iff_eq]; omega
              obtain ⟨gl, capl, el, -, hglt, -⟩ := Kd.N_form HRA.out.hl (by have := HLI.out; omega)
              injection el with el1 el3 el2
              clear el3
              subst el1
              subst el2
              obtain ⟨ad2, B6, d6, B7, d7, B13, d13, B14, d14, e2, y0, -⟩ := at_T34 (Kd.N_reads' HRA.out.hl).2.2 0 (by omega) (by have := HLI.out; omega)
              injection e2 with e2
              subst e2
              obtain ⟨s0, hs0⟩ : ∃ s0, s0 = (rd_T34 l 0).f0 := ⟨_, rfl⟩
              rw [← hs0] at y0
              replace y0 : wr.cell? ⟨gl, 0, none⟩ = some (.string s0) := y0
              have hlz : 0 < (l.length : Int) := by have := HLI.out; omega
              clear hs0 hi1
              go_upto_region 15 with fail
              generalize hw2 : wr.alloc _ = W2
              have hb2 : Below wr.heap.size wr W2 := by rw [← hw2]; exact (Below.refl _ _).alloc (Nat.le_refl _) _
              have hx2 : W2.heap[wr.heap.size]? = some (.cells #[.string x.f0, .string x.f1, .string x.f2, .bool x.f3, .string x.f4, .string x.f5, .slice A6 x.f6.length c6, .slice A7 x.f7.length c7, .int .i64 x.f8, .int .i64 x.f9, .int .i64 x.f10.f0, .int .i64 x.f10.f1, .string x.f10.f2, .slice A13 x.f10.f3.length c13, .slice A14 x.f10.f4.length c14] 34 (0, 0)) := by rw [← hw2]; exact heap_alloc_new wr _
              clear hw2 x0 x1 x2 x3 x4 x5 x6 x7 x8 x9 x10 x11 x12 x13 x14
              obtain ⟨x0, x1, x2, x3, x4, x5, x6, x7, x8, x9, x10, x11, x12, x13, x14⟩ := ev15C hx2
              have hy0 : W2.cell? ⟨gl, 0, none⟩ = some (.string s0) := (hb2.cell hglt).trans y0
              have hy1 : ∀ o, (W2.alloc o).cell? ⟨gl, 0, none⟩ = some (.string s0) := fun o => (Below.cell ((Below.refl _ _).alloc (Nat.le_refl _) o) (Nat.lt_of_lt_of_le hglt hb2.size)).trans hy0
              have hz1 : ∀ o, (W2.alloc o).frozen? ⟨wr.heap.size, 6, none⟩ = false := fun o => blk_frozen (blk_alloc hx2 o) 6
              have hz2 : ∀ o, (W2.alloc o).cell? ⟨wr.heap.size, 6, none⟩ = some (.slice A6 x.f6.length c6) := fun o => blk_cell (blk_alloc hx2 o) 6
              have HB2 := Aside0.mk hb2
              have HX2 := Aside0.mk hx2
              clear hb2 hx2 y0
              go_upto_region 16 with fail
              generalize hw3 : World.setCell _ _ _ = W3
              have hb3 : Below wr.heap.size wr W3 := by rw [← hw3]; exact (HB2.out.alloc HB2.out.size _).setCell (p := ⟨wr.heap.size, 6, none⟩) (Nat.le_refl _) _
              have hx3 : W3.heap[wr.heap.size]? = some (.cells #[.string x.f0, .string x.f1, .string x.f2, .bool x.f3, .string x.f4, .string x.f5, .slice (some ⟨W2.heap.size, 0, none⟩) 1 1, .slice A7 x.f7.length c7, .int .i64 x.f8, .int .i64 x.f9, .int .i64 x.f10.f0, .int .i64 x.f10.f1, .string x.f10.f2, .slice A13 x.f10.f3.length c13, .slice A14 x.f10.f4.length c14] 34 (0, 0)) := by rw [← hw3]; exact blk_put (blk_alloc HX2.out _) 6 (.slice (some ⟨W2.heap.size, 0, none⟩) 1 1) rfl
              have hs3 : W3.heap[W2.heap.size]? = some (.cells #[.string s0] 9 (0, 0)) := by rw [← hw3]; exact (Below.heap_setCell _ _ _ _ (show W2.heap.size ≠ wr.heap.size by have := blk_lt HX2.out; omega)).trans (heap_alloc_new W2 _)
              have hs2 : wr.heap.size ≤ W2.heap.size := HB2.out.size
              have hE3 := (HE.out.below hb3).mono (ok' := fun q => q < wc.heap.size ∨ wr.heap.size ≤ q) (fun q h => .inl h)
              have HLY := Aside0.mk (HRA.out.lay hb3 ({ x with f6 := [s0] } : SEv) 0 (by decide) (⟨Nat.le_refl 1, Kd.F_mono (F_str1 hs3) (fun q h => .inr (by rw [h]; exact hs2)), hE3.l7, hE3.g7, hE3.b⟩ : EF W3 (fun q => q < wc.heap.size ∨ wr.heap.size ≤ q) ({ x with f6 := [s0] } : SEv) (some ⟨W2.heap.size, 0, none⟩) 1 A7 c7 A13 c13 A14 c14) HXX.out.1 HXX.out.2.1 HXX.out.2.2 (by have := HLI.out; omega))
              clear hw3 hb3 hs3 hs2 hE3 HB2 HX2 hy0 hy1 hz1 hz2 x0 x1 x2 x3 x4 x5 x6 x7 x8 x9 x10 x11 x12 x13 x14
              obtain ⟨x0, x1, x2, x3, x4, x5, x6, x7, x8, x9, x10, x11, x12, x13, x14⟩ := ev15C hx3
              clear hx3
              go_wp2_with (go_at_call 44; refine HLY.out.mono ?_; rintro e W3 ⟨l', g', AL', cL', AG', cG', rfl, hra, hll⟩; replace hra := Aside0.mk hra; replace hll := Aside0.mk hll)
              go_roundg (xs.length - (i + 1))
              case measure => omega
              case rel => exact ⟨i + 1, l', g', AL', cL', AG', cG', by omega, by omega, by go_num, rfl, rfl, hra, ⟨by rw [hll.out, HLI.out]⟩⟩
            · have hi1z : ((i : Int) == 1) = false := by rw [beq_eq_false_iff_ne]; omega
              clear hi1
              go_upto_region 16 with fail
              generalize hw2 : wr.alloc _ = W2
              have hb2 : Below wr.heap.size wr W2 := by rw [← hw2]; exact (Below.refl _ _).alloc (Nat.le_refl _) _
              have hx2 : W2.heap[wr.heap.size]? = some (.cells #[.string x.f0, .string x.f1, .string x.f2, .bool x.f3, .string x.f4, .string x.f5, .slice A6 x.f6.length c6, .slice A7 x.f7.length c7, .int .i64 x.f8, .int .i64 x.f9, .int .i64 x.f10.f0, .int .i64 x.f10.f1, .string x.f10.f2, .slice A13 x.f10.f3.length c13, .slice A14 x.f10.f4.length c14] 34 (0, 0)) := by rw [← hw2]; exact heap_alloc_new wr _
              clear hw2 x0 x1 x2 x3 x4 x5 x6 x7 x8 x9 x10 x11 x12 x13 x14
              obtain ⟨x0, x1, x2, x3, x4, x5, x6, x7, x8, x9, x10, x11, x12, x13, x14⟩ := ev15C hx2
              have HLY := Aside0.mk (HRA.out.lay hb2 x 0 (by decide) ((HE.out.below hb2).mono (fun q h => .inl h)) HXX.out.1 HXX.out.2.1 HXX.out.2.2 (by have := HLI.out; omega))
              clear hb2 hx2
              go_wp2_with (go_at_call 44; refine HLY.out.mono ?_; rintro e W3 ⟨l', g', AL', cL', AG', cG', rfl, hra, hll⟩; replace hra := Aside0.mk hra; replace hll := Aside0.mk hll)
              go_roundg (xs.length - (i + 1))
              case measure => omega
              case rel => exact ⟨i + 1, l', g', AL', cL', AG', cG', by omega, by omega, by go_num, rfl, rfl, hra, ⟨by rw [hll.out, HLI.out]⟩⟩
          · have hltz : ¬ (i : Int) < (xs.length : Int) := by omega
            have HII : Aside0 (xs.length = i) := ⟨by omega⟩
            go_wp2_with fail
            go_meet
            exact ⟨l, g, AL, cL, AG, cG, rfl, rfl, by have := HII.out; have := HLI.out; omega, by have := HII.out; have := HLI.out; omega, HRA⟩
      case rest =>
        obtain ⟨l, g, AL, cL, AG, cG, rfl, rfl, hl0, hl6, HRA⟩ := hcut
        clear HXB HST
        rename World => WL
        go_wp2_with fail
        go_loopg [6, 7, 12] 60 (fun gg v6 v7 v12 wr => ∃ (i : Nat) (l : List SEv) (g : List (List Int)) (AL : Option Addr) (cL : Nat) (AG : Option Addr) (cG : Nat), i ≤ 36 ∧ 60 - i ≤ gg ∧ v12 = .int .i64 (i : Int) ∧ v6 = .slice AL l.length cL ∧ v7 = .slice AG g.length cG ∧ Aside0 (i % 3 = 0 ∧ 0 < l.length ∧ 3 * l.length ≤ 18 + i) ∧ Aside0 (RoomAt wc wr l g AL cL AG cG))
        case atStart => exact ⟨0, l, g, AL, cL, AG, cG, by omega, by omega, rfl, rfl, rfl, ⟨by omega⟩, HRA⟩
        case round =>
          clear HRA hl0 hl6 l g AL cL AG cG
          obtain ⟨i, l, g, AL, cL, AG, cG, hi36, hgg, rfl, rfl, rfl, HLN, HRA⟩ := hrel
          by_cases hgo : i + 2 < cs.length
          · have hz2 : (i : Int) + 2 < (cs.length : Int) := by omega
            have hz1 : (i : Int) + 1 < (cs.length : Int) := by omega
            have hz0 : (i : Int) < (cs.length : Int) := by omega
            by_cases h36 : i < 36
            · have h36z : (i : Int) < 36 := by omega
              have hbw : Below w.heap.size w wr := below_then HB1.out HB1.out.size HRA.out.below
              obtain ⟨ad, e, hx0⟩ := C_num HR.out (show i < cs.length by omega)
              cases e
              obtain ⟨ad2, e, hx1⟩ := C_num HR.out (show i + 1 < cs.length by omega)
              cases e
              obtain ⟨ad2, e, hx2⟩ := C_num HR.out hgo
              cases e
              obtain ⟨a0, b0⟩ := HCB.out cs[i] (List.getElem_mem (by omega))
              obtain ⟨a1, b1⟩ := HCB.out cs[i + 1] (List.getElem_mem (by omega))
              obtain ⟨a2, b2⟩ := HCB.out cs[i + 2] (List.getElem_mem hgo)
              obtain ⟨x0, hX0⟩ : ∃ x0 : Nat, cs[i] = (x0 : Int) := ⟨cs[i].toNat, by omega⟩
              obtain ⟨x1, hX1⟩ : ∃ x1 : Nat, cs[i + 1] = (x1 : Int) := ⟨cs[i + 1].toNat, by omega⟩
              obtain ⟨x2, hX2⟩ : ∃ x2 : Nat, cs[i + 2] = (x2 : Int) := ⟨cs[i + 2].toNat, by omega⟩
              rw [hX0] at hx0 b0
              rw [hX1] at hx1 b1
              rw [hX2] at hx2 b2
              replace hx0 := (hbw.cell (World.block_lt_of_cell? w _ hx0)).trans hx0
              replace hx1 := (hbw.cell (World.block_lt_of_cell? w _ hx1)).trans hx1
              replace hx2 := (hbw.cell (World.block_lt_of_cell? w _ hx2)).trans hx2
              rw [add_pos _ _ (by omega)] at hx1 hx2
              have HBW := Aside0.mk hbw
              have hcc : cs.length ≤ c0 := HC.out
              have hicc : (i : Int) ≤ (c0 : Int) := by omega
              have hb0n : x0 < 256 := by omega
              have hb1n : x1 < 256 := by omega
              have hb2n : x2 < 256 := by omega
              have hl100 : l.length ≤ 100 := by have := HLN.out; omega
              clear hX0 hX1 hX2 a0 a1 a2 b0 b1 b2 hbw
              have hci : ¬ c0 = i := by omega
              by_cases hm : i + 9 < cs.length
              · have hmz : (i : Int) + 9 < (cs.length : Int) := by omega
                have hmz2 : (i : Int) + 9 ≤ (c0 : Int) := by omega
                have HEV := Aside0.mk (fun (W5 : World) (hb : Below wr.heap.size wr W5) => Event.ef x0 x1 x2 hb0n hb1n hb2n (some (ad.add i)) (c0 - i) (9) ((cs.drop i).take (9)) W5 (mid_len (by omega)) (Kd.C_below (C_mid HR.out i (9) (by omega) (by omega)) (below_then HBW.out HBW.out.size hb)) (by omega) (fun y hy => HCB.out y (List.mem_of_mem_drop (List.mem_of_mem_take hy))))
                clear hm
                go_upto_region 22 with fail
                obtain ⟨hw1, hw2, hw9, ht1, ht2, hp1, hp2, hp9, hr9, ht9⟩ := ix_facts i hi36
                refine start_ (n := 36) (S := fun w' => w'.cell? (ad.add i) = some (.int .u8 (x0 : Int)) ∧ w'.cell? ⟨ad.block, ad.off + (i + 1), none⟩ = some (.int .u8 (x1 : Int)) ∧ w'.cell? ⟨ad.block, ad.off + (i + 2), none⟩ = some (.int .u8 (x2 : Int))) (ds := [30]) #[false, false, false, false, false, false, false, false, false, false, false, false, false, false, false, false, false, false, false, false, false, false, false, false, false, false, false, false, false, false, false, false, false, false, false, false] (by kernel_rfl) rfl rfl ⟨hx0, hx1, hx2⟩ (fun hHeld => ?_)
                refine pure_ (i := 0) (N := some 68) (v := ?_) (a' := ?_) #[true, false, false, false, false, false, false, false, false, false, false, false, false, false, false, false, false, false, false, false, false, false, false, false, false, false, false, false, false, false, false, false, false, false, false, false] rfl rfl (by kernel_rfl) (fun _ _ _ h => h) (Or.inl ⟨by rfl, ?_⟩) ?_ ?_
                rotate_left
                · intro w'
                  go_simp
                  with_reducible rfl
                rotate_left
                · simp only [Act.put, List.setIfInBounds_toArray, List.set_cons_zero, List.set_cons_succ, i64_w, i32_w]
                  rfl
                refine pure_ (i := 1) (N := some 69) (v := ?_) (a' := ?_) #[true, true, false, false, false, false, false, false, false, false, false, false, false, false, false, false, false, false, false, false, false, false, false, false, false, false, false, false, false, false, false, false, false, false, false, false] rfl rfl (by kernel_rfl) (fun _ _ _ h => h) (Or.inl ⟨by rfl, ?_⟩) ?_ ?_
                rotate_left
                · intro w'
                  go_simp
                  with_reducible rfl
                rotate_left
                · simp only [Act.put, List.setIfInBounds_toArray, List.set_cons_zero, List.set_cons_succ, i64_w, i32_w]
                  rfl
                refine pure_ (i := 2) (N := some 70) (v := ?_) (a' := ?_) #[true, true, true, false, false, false, false, false, false, false, false, false, false, false, false, false, false, false, false, false, false, false, false, false, false, false, false, false, false, false, false, false, false, false, false, false] rfl rfl (by kernel_rfl) (fun _ _ _ h => h) (Or.inl ⟨by rfl, ?_⟩) ?_ ?_
                rotate_left
                · intro w'
                  go_simp
                  with_reducible rfl
                rotate_left
                · simp only [Act.put, List.setIfInBounds_toArray, List.set_cons_zero, List.set_cons_succ, i64_w, i32_w]
                  rfl
                refine pure_ (i := 3) (N := some 71) (v := ?_) (a' := ?_) #[true, true, true, true, false, false, false, false, false, false, false, false, false, false, false, false, false, false, false, false, false, false, false, false, false, false, false, false, false, false, false, false, false, false, false, false] rfl rfl (by kernel_rfl) (fun _ _ _ h => h) (Or.inl ⟨by rfl, ?_⟩) ?_ ?_
                rotate_left
                · intro w'
                  go_simp
                  with_reducible rfl
                rotate_left
                · simp only [Act.put, List.setIfInBounds_toArray, List.set_cons_zero, List.set_cons_succ, i64_w, i32_w]
                  rfl
                refine pure_ (i := 4) (N := some 72) (v := ?_) (a' := ?_) #[true, true, true, true, true, false, false, false, false, false, false, false, false, false, false, false, false, false, false, false, false, false, false, false, false, false, false, false, false, false, false, false, false, false, false, false] rfl rfl (by kernel_rfl) (fun _ _ _ h => h) (Or.inl ⟨by rfl, ?_⟩) ?_ ?_
                rotate_left
                · intro w'
                  go_simp
                  with_reducible rfl
                rotate_left
                · simp only [Act.put, List.setIfInBounds_toArray, List.set_cons_zero, List.set_cons_succ, i64_w, i32_w]
                  rfl
                refine pure_ (i := 6) (N := some 74) (v := ?_) (a' := ?_) #[true, true, true, true, true, false, true, false, false, false, false, false, false, false, false, false, false, false, false, false, false, false, false, false, false, false, false, false, false, false, false, false, false, false, false, false] rfl rfl (by kernel_rfl) (fun _ _ _ h => h) (Or.inl ⟨by rfl, ?_⟩) ?_ ?_
                rotate_left
                · intro w'
                  go_simp
                  with_reducible rfl
                rotate_left
                · simp only [Act.put, List.setIfInBounds_toArray, List.set_cons_zero, List.set_cons_succ, i64_w, i32_w]
                  rfl
                refine pure_ (i := 7) (N := some 75) (v := ?_) (a' := ?_) #[true, true, true, true, true, false, true, true, false, false, false, false, false, false, false, false, false, false, false, false, false, false, false, false, false, false, false, false, false, false, false, false, false, false, false, false] rfl rfl (by kernel_rfl) (fun _ _ _ h => h) (Or.inl ⟨by rfl, ?_⟩) ?_ ?_
                rotate_left
                · intro w'
                  go_simp
                  with_reducible rfl
                rotate_left
                · simp only [Act.put, List.setIfInBounds_toArray, List.set_cons_zero, List.set_cons_succ, i64_w, i32_w]
                  rfl
                refine pure_ (i := 8) (N := some 76) (v := ?_) (a' := ?_) #[true, true, true, true, true, false, true, true, true, false, false, false, false, false, false, false, false, false, false, false, false, false, false, false, false, false, false, false, false, false, false, false, false, false, false, false] rfl rfl (by kernel_rfl) (fun _ _ _ h => h) (Or.inl ⟨by rfl, ?_⟩) ?_ ?_
                rotate_left
                · intro w'
                  go_simp
                  with_reducible rfl
                rotate_left
                · simp only [Act.put, List.setIfInBounds_toArray, List.set_cons_zero, List.set_cons_succ, i64_w, i32_w]
                  rfl
                refine pure_ (i := 9) (N := some 77) (v := ?_) (a' := ?_) #[true, true, true, true, true, false, true, true, true, true, false, false, false, false, false, false, false, false, false, false, false, false, false, false, false, false, false, false, false, false, false, false, false, false, false, false] rfl rfl (by kernel_rfl) (fun _ _ _ h => h) (Or.inl ⟨by rfl, ?_⟩) ?_ ?_
                rotate_left
                · intro w'
                  go_simp
                  with_reducible rfl
                rotate_left
                · simp only [Act.put, List.setIfInBounds_toArray, List.set_cons_zero, List.set_cons_succ, i64_w, i32_w]
                  rfl
                refine pure_ (i := 11) (N := some 79) (v := ?_) (a' := ?_) #[true, true, true, true, true, false, true, true, true, true, false, true, false, false, false, false, false, false, false, false, false, false, false, false, false, false, false, false, false, false, false, false, false, false, false, false] rfl rfl (by kernel_rfl) (fun _ _ _ h => h) (Or.inl ⟨by rfl, ?_⟩) ?_ ?_
                rotate_left
                · intro w'
                  go_simp
                  with_reducible rfl
                rotate_left
                · simp only [Act.put, List.setIfInBounds_toArray, List.set_cons_zero, List.set_cons_succ, i64_w, i32_w]
                  rfl
                refine pure_ (i := 12) (N := some 80) (v := ?_) (a' := ?_) #[true, true, true, true, true, false, true, true, true, true, false, true, true, false, false, false, false, false, false, false, false, false, false, false, false, false, false, false, false, false, false, false, false, false, false, false] rfl rfl (by kernel_rfl) (fun _ _ _ h => h) (Or.inl ⟨by rfl, ?_⟩) ?_ ?_
                rotate_left
                · intro w'
                  go_simp
                  with_reducible rfl
                rotate_left
                · simp only [Act.put, List.setIfInBounds_toArray, List.set_cons_zero, List.set_cons_succ, i64_w, i32_w]
                  rfl
                refine pure_ (i := 13) (N := some 81) (v := ?_) (a' := ?_) #[true, true, true, true, true, false, true, true, true, true, false, true, true, true, false, false, false, false, false, false, false, false, false, false, false, false, false, false, false, false, false, false, false, false, false, false] rfl rfl (by kernel_rfl) (fun _ _ _ h => h) (Or.inl ⟨by rfl, ?_⟩) ?_ ?_
                rotate_left
                · intro w'
                  go_simp
                  with_reducible rfl
                rotate_left
                · simp only [Act.put, List.setIfInBounds_toArray, List.set_cons_zero, List.set_cons_succ, i64_w, i32_w]
                  rfl
                refine pure_ (i := 14) (N := some 82) (v := ?_) (a' := ?_) #[true, true, true, true, true, false, true, true, true, true, false, true, true, true, true, false, false, false, false, false, false, false, false, false, false, false, false, false, false, false, false, false, false, false, false, false] rfl rfl (by kernel_rfl) (fun _ _ _ h => h) (Or.inl ⟨by rfl, ?_⟩) ?_ ?_
                rotate_left
                · intro w'
                  go_simp
                  with_reducible rfl
                rotate_left
                · simp only [Act.put, List.setIfInBounds_toArray, List.set_cons_zero, List.set_cons_succ, i64_w, i32_w]
                  rfl
                refine pure_ (i := 16) (N := some 84) (v := ?_) (a' := ?_) #[true, true, true, true, true, false, true, true, true, true, false, true, true, true, true, false, true, false, false, false, false, false, false, false, false, false, false, false, false, false, false, false, false, false, false, false] rfl rfl (by kernel_rfl) (fun _ _ _ h => h) (Or.inl ⟨by rfl, ?_⟩) ?_ ?_
                rotate_left
                · intro w'
                  go_simp
                  with_reducible rfl
                rotate_left
                · simp only [Act.put, List.setIfInBounds_toArray, List.set_cons_zero, List.set_cons_succ, i64_w, i32_w]
                  rfl
                refine pure_ (i := 17) (N := some 85) (v := ?_) (a' := ?_) #[true, true, true, true, true, false, true, true, true, true, false, true, true, true, true, false, true, true, false, false, false, false, false, false, false, false, false, false, false, false, false, false, false, false, false, false] rfl rfl (by kernel_rfl) (fun _ _ _ h => h) (Or.inl ⟨by rfl, ?_⟩) ?_ ?_
                rotate_left
                · intro w'
                  go_simp
                  with_reducible rfl
                rotate_left
                · simp only [Act.put, List.setIfInBounds_toArray, List.set_cons_zero, List.set_cons_succ, i64_w, i32_w]
                  rfl
                refine pure_ (i := 18) (N := some 86) (v := ?_) (a' := ?_) #[true, true, true, true, true, false, true, true, true, true, false, true, true, true, true, false, true, true, true, false, false, false, false, false, false, false, false, false, false, false, false, false, false, false, false, false] rfl rfl (by kernel_rfl) (fun _ _ _ h => h) (Or.inl ⟨by rfl, ?_⟩) ?_ ?_
                rotate_left
                · intro w'
                  go_simp
                  with_reducible rfl
                rotate_left
                · simp only [Act.put, List.setIfInBounds_toArray, List.set_cons_zero, List.set_cons_succ, i64_w, i32_w]
                  rfl
                refine pure_ (i := 19) (N := some 87) (v := ?_) (a' := ?_) #[true, true, true, true, true, false, true, true, true, true, false, true, true, true, true, false, true, true, true, true, false, false, false, false, false, false, false, false, false, false, false, false, false, false, false, false] rfl rfl (by kernel_rfl) (fun _ _ _ h => h) (Or.inl ⟨by rfl, ?_⟩) ?_ ?_
                rotate_left
                · intro w'
                  go_simp
                  with_reducible rfl
                rotate_left
                · simp only [Act.put, List.setIfInBounds_toArray, List.set_cons_zero, List.set_cons_succ, i64_w, i32_w]
                  rfl
                refine pure_ (i := 20) (N := some 88) (v := ?_) (a' := ?_) #[true, true, true, true, true, false, true, true, true, true, false, true, true, true, true, false, true, true, true, true, true, false, false, false, false, false, false, false, false, false, false, false, false, false, false, false] rfl rfl (by kernel_rfl) (fun _ _ _ h => h) (Or.inl ⟨by rfl, ?_⟩) ?_ ?_
                rotate_left
                · intro w'
                  go_simp
                  with_reducible rfl
                rotate_left
                · simp only [Act.put, List.setIfInBounds_toArray, List.set_cons_zero, List.set_cons_succ, i64_w, i32_w]
                  rfl
                refine pure_ (i := 21) (N := some 89) (v := ?_) (a' := ?_) #[true, true, true, true, true, false, true, true, true, true, false, true, true, true, true, false, true, true, true, true, true, true, false, false, false, false, false, false, false, false, false, false, false, false, false, false] rfl rfl (by kernel_rfl) (fun _ _ _ h => h) (Or.inl ⟨by rfl, ?_⟩) ?_ ?_
                rotate_left
                · intro w'
                  go_simp
                  with_reducible rfl
                rotate_left
                · simp only [Act.put, List.setIfInBounds_toArray, List.set_cons_zero, List.set_cons_succ, i64_w, i32_w]
                  rfl
                refine pure_ (i := 22) (N := some 90) (v := ?_) (a' := ?_) #[true, true, true, true, true, false, true, true, true, true, false, true, true, true, true, false, true, true, true, true, true, true, true, false, false, false, false, false, false, false, false, false, false, false, false, false] rfl rfl (by kernel_rfl) (fun _ _ _ h => h) (Or.inl ⟨by rfl, ?_⟩) ?_ ?_
                rotate_left
                · intro w'
                  go_simp
                  with_reducible rfl
                rotate_left
                · simp only [Act.put, List.setIfInBounds_toArray, List.set_cons_zero, List.set_cons_succ, i64_w, i32_w]
                  rfl
                refine pure_ (i := 23) (N := some 91) (v := ?_) (a' := ?_) #[true, true, true, true, true, false, true, true, true, true, false, true, true, true, true, false, true, true, true, true, true, true, true, true, false, false, false, false, false, false, false, false, false, false, false, false] rfl rfl (by kernel_rfl) (fun _ _ _ h => h) (Or.inl ⟨by rfl, ?_⟩) ?_ ?_
                rotate_left
                · intro w'
                  go_simp
                  with_reducible rfl
                rotate_left
                · simp only [Act.put, List.setIfInBounds_toArray, List.set_cons_zero, List.set_cons_succ, i64_w, i32_w]
                  rfl
                refine pure_ (i := 25) (N := some 93) (v := ?_) (a' := ?_) #[true, true, true, true, true, false, true, true, true, true, false, true, true, true, true, false, true, true, true, true, true, true, true, true, false, true, false, false, false, false, false, false, false, false, false, false] rfl rfl (by kernel_rfl) (fun _ _ _ h => h) (Or.inl ⟨by rfl, ?_⟩) ?_ ?_
                rotate_left
                · intro w'
                  go_simp
                  with_reducible rfl
                rotate_left
                · simp only [Act.put, List.setIfInBounds_toArray, List.set_cons_zero, List.set_cons_succ, i64_w, i32_w]
                  rfl
                refine pure_ (i := 26) (N := some 94) (v := ?_) (a' := ?_) #[true, true, true, true, true, false, true, true, true, true, false, true, true, true, true, false, true, true, true, true, true, true, true, true, false, true, true, false, false, false, false, false, false, false, false, false] rfl rfl (by kernel_rfl) (fun _ _ _ h => h) (Or.inl ⟨by rfl, ?_⟩) ?_ ?_
                rotate_left
                · intro w'
                  go_simp
                  with_reducible rfl
                rotate_left
                · simp only [Act.put, List.setIfInBounds_toArray, List.set_cons_zero, List.set_cons_succ, i64_w, i32_w]
                  rfl
                refine pure_ (i := 27) (N := some 95) (v := ?_) (a' := ?_) #[true, true, true, true, true, false, true, true, true, true, false, true, true, true, true, false, true, true, true, true, true, true, true, true, false, true, true, true, false, false, false, false, false, false, false, false] rfl rfl (by kernel_rfl) (fun _ _ _ h => h) (Or.inl ⟨by rfl, ?_⟩) ?_ ?_
                rotate_left
                · intro w'
                  go_simp
                  with_reducible rfl
                rotate_left
                · simp only [Act.put, List.setIfInBounds_toArray, List.set_cons_zero, List.set_cons_succ, i64_w, i32_w]
                  rfl
                refine pure_ (i := 28) (N := some 96) (v := ?_) (a' := ?_) #[true, true, true, true, true, false, true, true, true, true, false, true, true, true, true, false, true, true, true, true, true, true, true, true, false, true, true, true, true, false, false, false, false, false, false, false] rfl rfl (by kernel_rfl) (fun _ _ _ h => h) (Or.inl ⟨by rfl, ?_⟩) ?_ ?_
                rotate_left
                · intro w'
                  go_simp
                  with_reducible rfl
                rotate_left
                · simp only [Act.put, List.setIfInBounds_toArray, List.set_cons_zero, List.set_cons_succ, i64_w, i32_w]
                  rfl
                refine take_ (i := 5) (N := some 73) (v := ?_) (a' := ?_) #[true, true, true, true, true, true, true, true, true, true, false, true, true, true, true, false, true, true, true, true, true, true, true, true, false, true, true, true, true, false, false, false, false, false, false, false] rfl rfl (by kernel_rfl) (fun _ _ _ h => h) (Or.inl ⟨by rfl, ?_⟩) hHeld ?_ ?_
                rotate_left
                · rintro w' ⟨s0, s1, s2⟩
                  go_simp
                  with_reducible rfl
                rotate_left
                · simp only [Act.put, List.setIfInBounds_toArray, List.set_cons_zero, List.set_cons_succ, i64_w, i32_w]
                  rfl
                refine take_ (i := 10) (N := some 78) (v := ?_) (a' := ?_) #[true, true, true, true, true, true, true, true, true, true, true, true, true, true, true, false, true, true, true, true, true, true, true, true, false, true, true, true, true, false, false, false, false, false, false, false] rfl rfl (by kernel_rfl) (fun _ _ _ h => h) (Or.inl ⟨by rfl, ?_⟩) hHeld ?_ ?_
                rotate_left
                · rintro w' ⟨s0, s1, s2⟩
                  go_simp
                  with_reducible rfl
                rotate_left
                · simp only [Act.put, List.setIfInBounds_toArray, List.set_cons_zero, List.set_cons_succ, i64_w, i32_w]
                  rfl
                refine take_ (i := 15) (N := some 83) (v := ?_) (a' := ?_) #[true, true, true, true, true, true, true, true, true, true, true, true, true, true, true, true, true, true, true, true, true, true, true, true, false, true, true, true, true, false, false, false, false, false, false, false] rfl rfl (by kernel_rfl) (fun _ _ _ h => h) (Or.inl ⟨by rfl, ?_⟩) hHeld ?_ ?_
                rotate_left
                · rintro w' ⟨s0, s1, s2⟩
                  go_simp
                  with_reducible rfl
                rotate_left
                · simp only [Act.put, List.setIfInBounds_toArray, List.set_cons_zero, List.set_cons_succ, i64_w, i32_w]
                  rfl
                refine take_ (i := 29) (N := some 97) (v := ?_) (a' := ?_) #[true, true, true, true, true, true, true, true, true, true, true, true, true, true, true, true, true, true, true, true, true, true, true, true, false, true, true, true, true, true, false, false, false, false, false, false] rfl rfl (by kernel_rfl) (fun _ _ _ h => h) (Or.inl ⟨by rfl, ?_⟩) hHeld ?_ ?_
                rotate_left
                · rintro w' ⟨s0, s1, s2⟩
                  go_simp
                  with_reducible rfl
                rotate_left
                · simp only [Act.put, List.setIfInBounds_toArray, List.set_cons_zero, List.set_cons_succ, i64_w, i32_w]
                  rfl
                refine one_ (i := 24) (N := some 92) #[true, true, true, true, true, true, true, true, true, true, true, true, true, true, true, true, true, true, true, true, true, true, true, true, true, true, true, true, true, true, false, false, false, false, false, false] rfl rfl (by kernel_rfl) (by decide) (fun K hK => ?_)
                refine goes_ Try.func45 (by kernel_rfl) rfl #[.int .u8 (x0 : Int), .int .u8 (x1 : Int), .int .u8 (x2 : Int), .slice (some (ad.add i)) 9 (c0 - i)] (by rfl) rfl rfl (by simp only [List.map_toArray, List.map_cons, List.map_nil]; rfl) ?_
                with_reducible refine (HEV.out _ (below_drew1 (Below.refl _ _))).mono ?_
                rintro e W5 ⟨x, A6, c6, A7, c7, A13, c13, A14, c14, rfl, hx5, hs5, hb5⟩
                refine ⟨_, rfl, ?_⟩
                have HS5 := Aside0.mk hs5
                have HX5 : Aside0 (EF W5 (fun q => q < wc.heap.size ∨ wr.heap.size ≤ q) x A6 c6 A7 c7 A13 c13 A14 c14) := ⟨hx5.mono (fun q h => .inr h)⟩
                clear hs5 hx5
                refine hK.out _ _ ⟨(pw_cell_below hb5 hHeld.1), (pw_cell_below hb5 hHeld.2.1), (pw_cell_below hb5 hHeld.2.2)⟩ (fun hHeld => ?_)
                clear hK K
                refine norm_ (a' := ?_) ?_ ?_
                rotate_left
                · show Act.put _ (some 92) _ = _
                  simp only [Act.put, List.setIfInBounds_toArray, List.set_cons_zero, List.set_cons_succ, i64_w, i32_w]
                  rfl
                refine last_ (i := 30) (N := some 98) #[true, true, true, true, true, true, true, true, true, true, true, true, true, true, true, true, true, true, true, true, true, true, true, true, true, true, true, true, true, true, true, false, false, false, false, false] rfl rfl (by kernel_rfl) (by decide) (fun K hK => ?_)
                refine goes_ Try.func44 (by kernel_rfl) rfl #[.slice AL l.length cL, .slice AG g.length cG, .agg #[.string x.f0, .string x.f1, .string x.f2, .bool x.f3, .string x.f4, .string x.f5, .slice A6 x.f6.length c6, .slice A7 x.f7.length c7, .int .i64 x.f8, .int .i64 x.f9, .int .i64 x.f10.f0, .int .i64 x.f10.f1, .string x.f10.f2, .slice A13 x.f10.f3.length c13, .slice A14 x.f10.f4.length c14], .int .u8 (x2 : Int)] (by rfl) rfl rfl (by simp only [List.map_toArray, List.map_cons, List.map_nil]; rfl) ?_
                with_reducible refine (HRA.out.lay (below_then (below_drew1 (Below.refl _ _)) (Nat.le_refl _) hb5) x x2 hb2n HX5.out HS5.out.1 HS5.out.2.1 HS5.out.2.2 hl100).mono ?_
                rintro e W6 ⟨l2, g2, AL2, cL2, AG2, cG2, rfl, hra, hll⟩
                refine ⟨_, rfl, ?_⟩
                have HRA2 := Aside0.mk hra
                have HLL := Aside0.mk hll
                clear hra hll
                refine hK.out _ _ ?_
                clear hK K
                refine norm_ (a' := ?_) ?_ ?_
                rotate_left
                · show Act.put _ (some 98) _ = _
                  simp only [Act.put, List.setIfInBounds_toArray, List.set_cons_zero, List.set_cons_succ, i64_w, i32_w]
                  rfl
                refine pure_ (i := 31) (N := some 67) (v := ?_) (a' := ?_) #[true, true, true, true, true, true, true, true, true, true, true, true, true, true, true, true, true, true, true, true, true, true, true, true, true, true, true, true, true, true, true, true, false, false, false, false] rfl rfl (by kernel_rfl) (fun _ _ _ h => h) (Or.inl ⟨by rfl, ?_⟩) ?_ ?_
                rotate_left
                · intro w'
                  go_simp
                  with_reducible rfl
                rotate_left
                · simp only [Act.put, List.setIfInBounds_toArray, List.set_cons_zero, List.set_cons_succ, i64_w, i32_w]
                  rfl
                refine pure_ (i := 32) (N := some 99) (v := ?_) (a' := ?_) #[true, true, true, true, true, true, true, true, true, true, true, true, true, true, true, true, true, true, true, true, true, true, true, true, true, true, true, true, true, true, true, true, true, false, false, false] rfl rfl (by kernel_rfl) (fun _ _ _ h => h) (Or.inl ⟨by rfl, ?_⟩) ?_ ?_
                rotate_left
                · intro w'
                  go_simp
                  with_reducible rfl
                rotate_left
                · simp only [Act.put, List.setIfInBounds_toArray, List.set_cons_zero, List.set_cons_succ, i64_w, i32_w]
                  rfl
                refine pure_ (i := 33) (N := some 100) (v := ?_) (a' := ?_) #[true, true, true, true, true, true, true, true, true, true, true, true, true, true, true, true, true, true, true, true, true, true, true, true, true, true, true, true, true, true, true, true, true, true, false, false] rfl rfl (by kernel_rfl) (fun _ _ _ h => h) (Or.inl ⟨by rfl, ?_⟩) ?_ ?_
                rotate_left
                · intro w'
                  go_simp
                  with_reducible rfl
                rotate_left
                · simp only [Act.put, List.setIfInBounds_toArray, List.set_cons_zero, List.set_cons_succ, i64_w, i32_w]
                  rfl
                refine pure_ (i := 34) (N := some 13) (v := ?_) (a' := ?_) #[true, true, true, true, true, true, true, true, true, true, true, true, true, true, true, true, true, true, true, true, true, true, true, true, true, true, true, true, true, true, true, true, true, true, true, false] rfl rfl (by kernel_rfl) (fun _ _ _ h => h) (Or.inl ⟨by rfl, ?_⟩) ?_ ?_
                rotate_left
                · intro w'
                  go_simp
                  with_reducible rfl
                rotate_left
                · simp only [Act.put, List.setIfInBounds_toArray, List.set_cons_zero, List.set_cons_succ, i64_w, i32_w]
                  rfl
                refine pure_ (i := 35) (N := some 14) (v := ?_) (a' := ?_) #[true, true, true, true, true, true, true, true, true, true, true, true, true, true, true, true, true, true, true, true, true, true, true, true, true, true, true, true, true, true, true, true, true, true, true, true] rfl rfl (by kernel_rfl) (fun _ _ _ h => h) (Or.inl ⟨by rfl, ?_⟩) ?_ ?_
                rotate_left
                · intro w'
                  go_simp
                  with_reducible rfl
                rotate_left
                · simp only [Act.put, List.setIfInBounds_toArray, List.set_cons_zero, List.set_cons_succ, i64_w, i32_w]
                  rfl
                refine done_ (by kernel_rfl) ?_

                clear hw1 hw2 hw9 ht1 ht2 hp1 hp2 hp9 hr9 ht9 hHeld hx0 hx1 hx2 HEV HX5
                go_wp2_with fail
                go_roundg (60 - (i + 3))
                case measure => omega
                case rel => exact ⟨i + 3, l2, g2, AL2, cL2, AG2, cG2, by have := HLN.out; omega, by omega, by go_num, rfl, rfl, ⟨by have := HLN.out; have := HLL.out; omega⟩, HRA2⟩
              · have hmz : ¬ (i : Int) + 9 < (cs.length : Int) := by omega
                have hmz2 : (cs.length : Int) ≤ (c0 : Int) := by omega
                have hmz3 : (i : Int) ≤ (cs.length : Int) := by omega
                have HEV := Aside0.mk (fun (W5 : World) (hb : Below wr.heap.size wr W5) => Event.ef x0 x1 x2 hb0n hb1n hb2n (some (ad.add i)) (c0 - i) (cs.length - i) ((cs.drop i).take (cs.length - i)) W5 (mid_len (by omega)) (Kd.C_below (C_mid HR.out i (cs.length - i) (by omega) (by omega)) (below_then HBW.out HBW.out.size hb)) (by omega) (fun y hy => HCB.out y (List.mem_of_mem_drop (List.mem_of_mem_take hy))))
                clear hm
                go_upto_region 22 with fail
                obtain ⟨hw1, hw2, hw9, ht1, ht2, hp1, hp2, hp9, hr9, ht9⟩ := ix_facts i hi36
                refine start_ (n := 36) (S := fun w' => w'.cell? (ad.add i) = some (.int .u8 (x0 : Int)) ∧ w'.cell? ⟨ad.block, ad.off + (i + 1), none⟩ = some (.int .u8 (x1 : Int)) ∧ w'.cell? ⟨ad.block, ad.off + (i + 2), none⟩ = some (.int .u8 (x2 : Int))) (ds := [30]) #[false, false, false, false, false, false, false, false, false, false, false, false, false, false, false, false, false, false, false, false, false, false, false, false, false, false, false, false, false, false, false, false, false, false, false, false] (by kernel_rfl) rfl rfl ⟨hx0, hx1, hx2⟩ (fun hHeld => ?_)
                refine pure_ (i := 0) (N := some 68) (v := ?_) (a' := ?_) #[true, false, false, false, false, false, false, false, false, false, false, false, false, false, false, false, false, false, false, false, false, false, false, false, false, false, false, false, false, false, false, false, false, false, false, false] rfl rfl (by kernel_rfl) (fun _ _ _ h => h) (Or.inl ⟨by rfl, ?_⟩) ?_ ?_
                rotate_left
                · intro w'
                  go_simp
                  with_reducible rfl
                rotate_left
                · simp only [Act.put, List.setIfInBounds_toArray, List.set_cons_zero, List.set_cons_succ, i64_w, i32_w]
                  rfl
                refine pure_ (i := 1) (N := some 69) (v := ?_) (a' := ?_) #[true, true, false, false, false, false, false, false, false, false, false, false, false, false, false, false, false, false, false, false, false, false, false, false, false, false, false, false, false, false, false, false, false, false, false, false] rfl rfl (by kernel_rfl) (fun _ _ _ h => h) (Or.inl ⟨by rfl, ?_⟩) ?_ ?_
                rotate_left
                · intro w'
                  go_simp
                  with_reducible rfl
                rotate_left
                · simp only [Act.put, List.setIfInBounds_toArray, List.set_cons_zero, List.set_cons_succ, i64_w, i32_w]
                  rfl
                refine pure_ (i := 2) (N := some 70) (v := ?_) (a' := ?_) #[true, true, true, false, false, false, false, false, false, false, false, false, false, false, false, false, false, false, false, false, false, false, false, false, false, false, false, false, false, false, false, false, false, false, false, false] rfl rfl (by kernel_rfl) (fun _ _ _ h => h) (Or.inl ⟨by rfl, ?_⟩) ?_ ?_
                rotate_left
                · intro w'
                  go_simp
                  with_reducible rfl
                rotate_left
                · simp only [Act.put, List.setIfInBounds_toArray, List.set_cons_zero, List.set_cons_succ, i64_w, i32_w]
                  rfl
                refine pure_ (i := 3) (N := some 71) (v := ?_) (a' := ?_) #[true, true, true, true, false, false, false, false, false, false, false, false, false, false, false, false, false, false, false, false, false, false, false, false, false, false, false, false, false, false, false, false, false, false, false, false] rfl rfl (by kernel_rfl) (fun _ _ _ h => h) (Or.inl ⟨by rfl, ?_⟩) ?_ ?_
                rotate_left
                · intro w'
                  go_simp
                  with_reducible rfl
                rotate_left
                · simp only [Act.put, List.setIfInBounds_toArray, List.set_cons_zero, List.set_cons_succ, i64_w, i32_w]
                  rfl
                refine pure_ (i := 4) (N := some 72) (v := ?_) (a' := ?_) #[true, true, true, true, true, false, false, false, false, false, false, false, false, false, false, false, false, false, false, false, false, false, false, false, false, false, false, false, false, false, false, false, false, false, false, false] rfl rfl (by kernel_rfl) (fun _ _ _ h => h) (Or.inl ⟨by rfl, ?_⟩) ?_ ?_
                rotate_left
                · intro w'
                  go_simp
                  with_reducible rfl
                rotate_left
                · simp only [Act.put, List.setIfInBounds_toArray, List.set_cons_zero, List.set_cons_succ, i64_w, i32_w]
                  rfl
                refine pure_ (i := 6) (N := some 74) (v := ?_) (a' := ?_) #[true, true, true, true, true, false, true, false, false, false, false, false, false, false, false, false, false, false, false, false, false, false, false, false, false, false, false, false, false, false, false, false, false, false, false, false] rfl rfl (by kernel_rfl) (fun _ _ _ h => h) (Or.inl ⟨by rfl, ?_⟩) ?_ ?_
                rotate_left
                · intro w'
                  go_simp
                  with_reducible rfl
                rotate_left
                · simp only [Act.put, List.setIfInBounds_toArray, List.set_cons_zero, List.set_cons_succ, i64_w, i32_w]
                  rfl
                refine pure_ (i := 7) (N := some 75) (v := ?_) (a' := ?_) #[true, true, true, true, true, false, true, true, false, false, false, false, false, false, false, false, false, false, false, false, false, false, false, false, false, false, false, false, false, false, false, false, false, false, false, false] rfl rfl (by kernel_rfl) (fun _ _ _ h => h) (Or.inl ⟨by rfl, ?_⟩) ?_ ?_
                rotate_left
                · intro w'
                  go_simp
                  with_reducible rfl
                rotate_left
                · simp only [Act.put, List.setIfInBounds_toArray, List.set_cons_zero, List.set_cons_succ, i64_w, i32_w]
                  rfl
                refine pure_ (i := 8) (N := some 76) (v := ?_) (a' := ?_) #[true, true, true, true, true, false, true, true, true, false, false, false, false, false, false, false, false, false, false, false, false, false, false, false, false, false, false, false, false, false, false, false, false, false, false, false] rfl rfl (by kernel_rfl) (fun _ _ _ h => h) (Or.inl ⟨by rfl, ?_⟩) ?_ ?_
                rotate_left
                · intro w'
                  go_simp
                  with_reducible rfl
                rotate_left
                · simp only [Act.put, List.setIfInBounds_toArray, List.set_cons_zero, List.set_cons_succ, i64_w, i32_w]
                  rfl
                refine pure_ (i := 9) (N := some 77) (v := ?_) (a' := ?_) #[true, true, true, true, true, false, true, true, true, true, false, false, false, false, false, false, false, false, false, false, false, false, false, false, false, false, false, false, false, false, false, false, false, false, false, false] rfl rfl (by kernel_rfl) (fun _ _ _ h => h) (Or.inl ⟨by rfl, ?_⟩) ?_ ?_
                rotate_left
                · intro w'
                  go_simp
                  with_reducible rfl
                rotate_left
                · simp only [Act.put, List.setIfInBounds_toArray, List.set_cons_zero, List.set_cons_succ, i64_w, i32_w]
                  rfl
                refine pure_ (i := 11) (N := some 79) (v := ?_) (a' := ?_) #[true, true, true, true, true, false, true, true, true, true, false, true, false, false, false, false, false, false, false, false, false, false, false, false, false, false, false, false, false, false, false, false, false, false, false, false] rfl rfl (by kernel_rfl) (fun _ _ _ h => h) (Or.inl ⟨by rfl, ?_⟩) ?_ ?_
                rotate_left
                · intro w'
                  go_simp
                  with_reducible rfl
                rotate_left
                · simp only [Act.put, List.setIfInBounds_toArray, List.set_cons_zero, List.set_cons_succ, i64_w, i32_w]
                  rfl
                refine pure_ (i := 12) (N := some 80) (v := ?_) (a' := ?_) #[true, true, true, true, true, false, true, true, true, true, false, true, true, false, false, false, false, false, false, false, false, false, false, false, false, false, false, false, false, false, false, false, false, false, false, false] rfl rfl (by kernel_rfl) (fun _ _ _ h => h) (Or.inl ⟨by rfl, ?_⟩) ?_ ?_
                rotate_left
                · intro w'
                  go_simp
                  with_reducible rfl
                rotate_left
                · simp only [Act.put, List.setIfInBounds_toArray, List.set_cons_zero, List.set_cons_succ, i64_w, i32_w]
                  rfl
                refine pure_ (i := 13) (N := some 81) (v := ?_) (a' := ?_) #[true, true, true, true, true, false, true, true, true, true, false, true, true, true, false, false, false, false, false, false, false, false, false, false, false, false, false, false, false, false, false, false, false, false, false, false] rfl rfl (by kernel_rfl) (fun _ _ _ h => h) (Or.inl ⟨by rfl, ?_⟩) ?_ ?_
                rotate_left
                · intro w'
                  go_simp
                  with_reducible rfl
                rotate_left
                · simp only [Act.put, List.setIfInBounds_toArray, List.set_cons_zero, List.set_cons_succ, i64_w, i32_w]
                  rfl
                refine pure_ (i := 14) (N := some 82) (v := ?_) (a' := ?_) #[true, true, true, true, true, false, true, true, true, true, false, true, true, true, true, false, false, false, false, false, false, false, false, false, false, false, false, false, false, false, false, false, false, false, false, false] rfl rfl (by kernel_rfl) (fun _ _ _ h => h) (Or.inl ⟨by rfl, ?_⟩) ?_ ?_
                rotate_left
                · intro w'
                  go_simp
                  with_reducible rfl
                rotate_left
                · simp only [Act.put, List.setIfInBounds_toArray, List.set_cons_zero, List.set_cons_succ, i64_w, i32_w]
                  rfl
                refine pure_ (i := 16) (N := some 84) (v := ?_) (a' := ?_) #[true, true, true, true, true, false, true, true, true, true, false, true, true, true, true, false, true, false, false, false, false, false, false, false, false, false, false, false, false, false, false, false, false, false, false, false] rfl rfl (by kernel_rfl) (fun _ _ _ h => h) (Or.inl ⟨by rfl, ?_⟩) ?_ ?_
                rotate_left
                · intro w'
                  go_simp
                  with_reducible rfl
                rotate_left
                · simp only [Act.put, List.setIfInBounds_toArray, List.set_cons_zero, List.set_cons_succ, i64_w, i32_w]
                  rfl
                refine pure_ (i := 17) (N := some 85) (v := ?_) (a' := ?_) #[true, true, true, true, true, false, true, true, true, true, false, true, true, true, true, false, true, true, false, false, false, false, false, false, false, false, false, false, false, false, false, false, false, false, false, false] rfl rfl (by kernel_rfl) (fun _ _ _ h => h) (Or.inl ⟨by rfl, ?_⟩) ?_ ?_
                rotate_left
                · intro w'
                  go_simp
                  with_reducible rfl
                rotate_left
                · simp only [Act.put, List.setIfInBounds_toArray, List.set_cons_zero, List.set_cons_succ, i64_w, i32_w]
                  rfl
                refine pure_ (i := 18) (N := some 86) (v := ?_) (a' := ?_) #[true, true, true, true, true, false, true, true, true, true, false, true, true, true, true, false, true, true, true, false, false, false, false, false, false, false, false, false, false, false, false, false, false, false, false, false] rfl rfl (by kernel_rfl) (fun _ _ _ h => h) (Or.inl ⟨by rfl, ?_⟩) ?_ ?_
                rotate_left
                · intro w'
                  go_simp
                  with_reducible rfl
                rotate_left
                · simp only [Act.put, List.setIfInBounds_toArray, List.set_cons_zero, List.set_cons_succ, i64_w, i32_w]
                  rfl
                refine pure_ (i := 19) (N := some 87) (v := ?_) (a' := ?_) #[true, true, true, true, true, false, true, true, true, true, false, true, true, true, true, false, true, true, true, true, false, false, false, false, false, false, false, false, false, false, false, false, false, false, false, false] rfl rfl (by kernel_rfl) (fun _ _ _ h => h) (Or.inl ⟨by rfl, ?_⟩) ?_ ?_
                rotate_left
                · intro w'
                  go_simp
                  with_reducible rfl
                rotate_left
                · simp only [Act.put, List.setIfInBounds_toArray, List.set_cons_zero, List.set_cons_succ, i64_w, i32_w]
                  rfl
                refine pure_ (i := 20) (N := some 88) (v := ?_) (a' := ?_) #[true, true, true, true, true, false, true, true, true, true, false, true, true, true, true, false, true, true, true, true, true, false, false, false, false, false, false, false, false, false, false, false, false, false, false, false] rfl rfl (by kernel_rfl) (fun _ _ _ h => h) (Or.inl ⟨by rfl, ?_⟩) ?_ ?_
                rotate_left
                · intro w'
                  go_simp
                  with_reducible rfl
                rotate_left
                · simp only [Act.put, List.setIfInBounds_toArray, List.set_cons_zero, List.set_cons_succ, i64_w, i32_w]
                  rfl
                refine pure_ (i := 21) (N := some 89) (v := ?_) (a' := ?_) #[true, true, true, true, true, false, true, true, true, true, false, true, true, true, true, false, true, true, true, true, true, true, false, false, false, false, false, false, false, false, false, false, false, false, false, false] rfl rfl (by kernel_rfl) (fun _ _ _ h => h) (Or.inl ⟨by rfl, ?_⟩) ?_ ?_
                rotate_left
                · intro w'
                  go_simp
                  with_reducible rfl
                rotate_left
                · simp only [Act.put, List.setIfInBounds_toArray, List.set_cons_zero, List.set_cons_succ, i64_w, i32_w]
                  rfl
                refine pure_ (i := 22) (N := some 90) (v := ?_) (a' := ?_) #[true, true, true, true, true, false, true, true, true, true, false, true, true, true, true, false, true, true, true, true, true, true, true, false, false, false, false, false, false, false, false, false, false, false, false, false] rfl rfl (by kernel_rfl) (fun _ _ _ h => h) (Or.inl ⟨by rfl, ?_⟩) ?_ ?_
                rotate_left
                · intro w'
                  go_simp
                  with_reducible rfl
                rotate_left
                · simp only [Act.put, List.setIfInBounds_toArray, List.set_cons_zero, List.set_cons_succ, i64_w, i32_w]
                  rfl
                refine pure_ (i := 23) (N := some 91) (v := ?_) (a' := ?_) #[true, true, true, true, true, false, true, true, true, true, false, true, true, true, true, false, true, true, true, true, true, true, true, true, false, false, false, false, false, false, false, false, false, false, false, false] rfl rfl (by kernel_rfl) (fun _ _ _ h => h) (Or.inl ⟨by rfl, ?_⟩) ?_ ?_
                rotate_left
                · intro w'
                  go_simp
                  with_reducible rfl
                rotate_left
                · simp only [Act.put, List.setIfInBounds_toArray, List.set_cons_zero, List.set_cons_succ, i64_w, i32_w]
                  rfl
                refine pure_ (i := 25) (N := some 93) (v := ?_) (a' := ?_) #[true, true, true, true, true, false, true, true, true, true, false, true, true, true, true, false, true, true, true, true, true, true, true, true, false, true, false, false, false, false, false, false, false, false, false, false] rfl rfl (by kernel_rfl) (fun _ _ _ h => h) (Or.inl ⟨by rfl, ?_⟩) ?_ ?_
                rotate_left
                · intro w'
                  go_simp
                  with_reducible rfl
                rotate_left
                · simp only [Act.put, List.setIfInBounds_toArray, List.set_cons_zero, List.set_cons_succ, i64_w, i32_w]
                  rfl
                refine pure_ (i := 26) (N := some 94) (v := ?_) (a' := ?_) #[true, true, true, true, true, false, true, true, true, true, false, true, true, true, true, false, true, true, true, true, true, true, true, true, false, true, true, false, false, false, false, false, false, false, false, false] rfl rfl (by kernel_rfl) (fun _ _ _ h => h) (Or.inl ⟨by rfl, ?_⟩) ?_ ?_
                rotate_left
                · intro w'
                  go_simp
                  with_reducible rfl
                rotate_left
                · simp only [Act.put, List.setIfInBounds_toArray, List.set_cons_zero, List.set_cons_succ, i64_w, i32_w]
                  rfl
                refine pure_ (i := 27) (N := some 95) (v := ?_) (a' := ?_) #[true, true, true, true, true, false, true, true, true, true, false, true, true, true, true, false, true, true, true, true, true, true, true, true, false, true, true, true, false, false, false, false, false, false, false, false] rfl rfl (by kernel_rfl) (fun _ _ _ h => h) (Or.inl ⟨by rfl, ?_⟩) ?_ ?_
                rotate_left
                · intro w'
                  go_simp
                  with_reducible rfl
                rotate_left
                · simp only [Act.put, List.setIfInBounds_toArray, List.set_cons_zero, List.set_cons_succ, i64_w, i32_w]
                  rfl
                refine pure_ (i := 28) (N := some 96) (v := ?_) (a' := ?_) #[true, true, true, true, true, false, true, true, true, true, false, true, true, true, true, false, true, true, true, true, true, true, true, true, false, true, true, true, true, false, false, false, false, false, false, false] rfl rfl (by kernel_rfl) (fun _ _ _ h => h) (Or.inl ⟨by rfl, ?_⟩) ?_ ?_
                rotate_left
                · intro w'
                  go_simp
                  with_reducible rfl
                rotate_left
                · simp only [Act.put, List.setIfInBounds_toArray, List.set_cons_zero, List.set_cons_succ, i64_w, i32_w]
                  rfl
                refine take_ (i := 5) (N := some 73) (v := ?_) (a' := ?_) #[true, true, true, true, true, true, true, true, true, true, false, true, true, true, true, false, true, true, true, true, true, true, true, true, false, true, true, true, true, false, false, false, false, false, false, false] rfl rfl (by kernel_rfl) (fun _ _ _ h => h) (Or.inl ⟨by rfl, ?_⟩) hHeld ?_ ?_
                rotate_left
                · rintro w' ⟨s0, s1, s2⟩
                  go_simp
                  with_reducible rfl
                rotate_left
                · simp only [Act.put, List.setIfInBounds_toArray, List.set_cons_zero, List.set_cons_succ, i64_w, i32_w]
                  rfl
                refine take_ (i := 10) (N := some 78) (v := ?_) (a' := ?_) #[true, true, true, true, true, true, true, true, true, true, true, true, true, true, true, false, true, true, true, true, true, true, true, true, false, true, true, true, true, false, false, false, false, false, false, false] rfl rfl (by kernel_rfl) (fun _ _ _ h => h) (Or.inl ⟨by rfl, ?_⟩) hHeld ?_ ?_
                rotate_left
                · rintro w' ⟨s0, s1, s2⟩
                  go_simp
                  with_reducible rfl
                rotate_left
                · simp only [Act.put, List.setIfInBounds_toArray, List.set_cons_zero, List.set_cons_succ, i64_w, i32_w]
                  rfl
                refine take_ (i := 15) (N := some 83) (v := ?_) (a' := ?_) #[true, true, true, true, true, true, true, true, true, true, true, true, true, true, true, true, true, true, true, true, true, true, true, true, false, true, true, true, true, false, false, false, false, false, false, false] rfl rfl (by kernel_rfl) (fun _ _ _ h => h) (Or.inl ⟨by rfl, ?_⟩) hHeld ?_ ?_
                rotate_left
                · rintro w' ⟨s0, s1, s2⟩
                  go_simp
                  with_reducible rfl
                rotate_left
                · simp only [Act.put, List.setIfInBounds_toArray, List.set_cons_zero, List.set_cons_succ, i64_w, i32_w]
                  rfl
                refine take_ (i := 29) (N := some 97) (v := ?_) (a' := ?_) #[true, true, true, true, true, true, true, true, true, true, true, true, true, true, true, true, true, true, true, true, true, true, true, true, false, true, true, true, true, true, false, false, false, false, false, false] rfl rfl (by kernel_rfl) (fun _ _ _ h => h) (Or.inl ⟨by rfl, ?_⟩) hHeld ?_ ?_
                rotate_left
                · rintro w' ⟨s0, s1, s2⟩
                  go_simp
                  with_reducible rfl
                rotate_left
                · simp only [Act.put, List.setIfInBounds_toArray, List.set_cons_zero, List.set_cons_succ, i64_w, i32_w]
                  rfl
                refine one_ (i := 24) (N := some 92) #[true, true, true, true, true, true, true, true, true, true, true, true, true, true, true, true, true, true, true, true, true, true, true, true, true, true, true, true, true, true, false, false, false, false, false, false] rfl rfl (by kernel_rfl) (by decide) (fun K hK => ?_)
                refine goes_ Try.func45 (by kernel_rfl) rfl #[.int .u8 (x0 : Int), .int .u8 (x1 : Int), .int .u8 (x2 : Int), .slice (some (ad.add i)) (cs.length - i) (c0 - i)] (by rfl) rfl rfl (by simp only [List.map_toArray, List.map_cons, List.map_nil]; rfl) ?_
                with_reducible refine (HEV.out _ (below_drew1 (Below.refl _ _))).mono ?_
                rintro e W5 ⟨x, A6, c6, A7, c7, A13, c13, A14, c14, rfl, hx5, hs5, hb5⟩
                refine ⟨_, rfl, ?_⟩
                have HS5 := Aside0.mk hs5
                have HX5 : Aside0 (EF W5 (fun q => q < wc.heap.size ∨ wr.heap.size ≤ q) x A6 c6 A7 c7 A13 c13 A14 c14) := ⟨hx5.mono (fun q h => .inr h)⟩
                clear hs5 hx5
                refine hK.out _ _ ⟨(pw_cell_below hb5 hHeld.1), (pw_cell_below hb5 hHeld.2.1), (pw_cell_below hb5 hHeld.2.2)⟩ (fun hHeld => ?_)
                clear hK K
                refine norm_ (a' := ?_) ?_ ?_
                rotate_left
                · show Act.put _ (some 92) _ = _
                  simp only [Act.put, List.setIfInBounds_toArray, List.set_cons_zero, List.set_cons_succ, i64_w, i32_w]
                  rfl
                refine last_ (i := 30) (N := some 98) #[true, true, true, true, true, true, true, true, true, true, true, true, true, true, true, true, true, true, true, true, true, true, true, true, true, true, true, true, true, true, true, false, false, false, false, false] rfl rfl (by kernel_rfl) (by decide) (fun K hK => ?_)
                refine goes_ Try.func44 (by kernel_rfl) rfl #[.slice AL l.length cL, .slice AG g.length cG, .agg #[.string x.f0, .string x.f1, .string x.f2, .bool x.f3, .string x.f4, .string x.f5, .slice A6 x.f6.length c6, .slice A7 x.f7.length c7, .int .i64 x.f8, .int .i64 x.f9, .int .i64 x.f10.f0, .int .i64 x.f10.f1, .string x.f10.f2, .slice A13 x.f10.f3.length c13, .slice A14 x.f10.f4.length c14], .int .u8 (x2 : Int)] (by rfl) rfl rfl (by simp only [List.map_toArray, List.map_cons, List.map_nil]; rfl) ?_
                with_reducible refine (HRA.out.lay (below_then (below_drew1 (Below.refl _ _)) (Nat.le_refl _) hb5) x x2 hb2n HX5.out HS5.out.1 HS5.out.2.1 HS5.out.2.2 hl100).mono ?_
                rintro e W6 ⟨l2, g2, AL2, cL2, AG2, cG2, rfl, hra, hll⟩
                refine ⟨_, rfl, ?_⟩
                have HRA2 := Aside0.mk hra
                have HLL := Aside0.mk hll
                clear hra hll
                refine hK.out _ _ ?_
                clear hK K
                refine norm_ (a' := ?_) ?_ ?_
                rotate_left
                · show Act.put _ (some 98) _ = _
                  simp only [Act.put, List.setIfInBounds_toArray, List.set_cons_zero, List.set_cons_succ, i64_w, i32_w]
                  rfl
                refine pure_ (i := 31) (N := some 67) (v := ?_) (a' := ?_) #[true, true, true, true, true, true, true, true, true, true, true, true, true, true, true, true, true, true, true, true, true, true, true, true, true, true, true, true, true, true, true, true, false, false, false, false] rfl rfl (by kernel_rfl) (fun _ _ _ h => h) (Or.inl ⟨by rfl, ?_⟩) ?_ ?_
                rotate_left
                · intro w'
                  go_simp
                  with_reducible rfl
                rotate_left
                · simp only [Act.put, List.setIfInBounds_toArray, List.set_cons_zero, List.set_cons_succ, i64_w, i32_w]
                  rfl
                refine pure_ (i := 32) (N := some 99) (v := ?_) (a' := ?_) #[true, true, true, true, true, true, true, true, true, true, true, true, true, true, true, true, true, true, true, true, true, true, true, true, true, true, true, true, true, true, true, true, true, false, false, false] rfl rfl (by kernel_rfl) (fun _ _ _ h => h) (Or.inl ⟨by rfl, ?_⟩) ?_ ?_
                rotate_left
                · intro w'
                  go_simp
                  with_reducible rfl
                rotate_left
                · simp only [Act.put, List.setIfInBounds_toArray, List.set_cons_zero, List.set_cons_succ, i64_w, i32_w]
                  rfl
                refine pure_ (i := 33) (N := some 100) (v := ?_) (a' := ?_) #[true, true, true, true, true, true, true, true, true, true, true, true, true, true, true, true, true, true, true, true, true, true, true, true, true, true, true, true, true, true, true, true, true, true, false, false] rfl rfl (by kernel_rfl) (fun _ _ _ h => h) (Or.inl ⟨by rfl, ?_⟩) ?_ ?_
                rotate_left
                · intro w'
                  go_simp
                  with_reducible rfl
                rotate_left
                · simp only [Act.put, List.setIfInBounds_toArray, List.set_cons_zero, List.set_cons_succ, i64_w, i32_w]
                  rfl
                refine pure_ (i := 34) (N := some 13) (v := ?_) (a' := ?_) #[true, true, true, true, true, true, true, true, true, true, true, true, true, true, true, true, true, true, true, true, true, true, true, true, true, true, true, true, true, true, true, true, true, true, true, false] rfl rfl (by kernel_rfl) (fun _ _ _ h => h) (Or.inl ⟨by rfl, ?_⟩) ?_ ?_
                rotate_left
                · intro w'
                  go_simp
                  with_reducible rfl
                rotate_left
                · simp only [Act.put, List.setIfInBounds_toArray, List.set_cons_zero, List.set_cons_succ, i64_w, i32_w]
                  rfl
                refine pure_ (i := 35) (N := some 14) (v := ?_) (a' := ?_) #[true, true, true, true, true, true, true, true, true, true, true, true, true, true, true, true, true, true, true, true, true, true, true, true, true, true, true, true, true, true, true, true, true, true, true, true] rfl rfl (by kernel_rfl) (fun _ _ _ h => h) (Or.inl ⟨by rfl, ?_⟩) ?_ ?_
                rotate_left
                · intro w'
                  go_simp
                  with_reducible rfl
                rotate_left
                · simp only [Act.put, List.setIfInBounds_toArray, List.set_cons_zero, List.set_cons_succ, i64_w, i32_w]
                  rfl
                refine done_ (by kernel_rfl) ?_

                clear hw1 hw2 hw9 ht1 ht2 hp1 hp2 hp9 hr9 ht9 hHeld hx0 hx1 hx2 HEV HX5
                go_wp2_with fail
                go_roundg (60 - (i + 3))
                case measure => omega
                case rel => exact ⟨i + 3, l2, g2, AL2, cL2, AG2, cG2, by have := HLN.out; omega, by omega, by go_num, rfl, rfl, ⟨by have := HLN.out; have := HLL.out; omega⟩, HRA2⟩
            · have h36z : ¬ (i : Int) < 36 := by omega
              go_wp2_with fail
              go_ret2
              exact ⟨l, g, AL, cL, AG, cG, rfl, by first | exact Kd.N_lower HRA.out.hl HB1.out.size | exact Kd.N_mono (Kd.N_lower HRA.out.hl HB1.out.size) (fun q h => h.2), by first | exact Kd.N_lower HRA.out.hg HB1.out.size | exact Kd.N_mono (Kd.N_lower HRA.out.hg HB1.out.size) (fun q h => h.2), HRA.out.room, HLN.out.2.1, by have := HLN.out; omega, below_then HB1.out HB1.out.size HRA.out.below⟩
          · have hz2 : ¬ (i : Int) + 2 < (cs.length : Int) := by omega
            go_wp2_with fail
            go_ret2
            exact ⟨l, g, AL, cL, AG, cG, rfl, by first | exact Kd.N_lower HRA.out.hl HB1.out.size | exact Kd.N_mono (Kd.N_lower HRA.out.hl HB1.out.size) (fun q h => h.2), by first | exact Kd.N_lower HRA.out.hg HB1.out.size | exact Kd.N_mono (Kd.N_lower HRA.out.hg HB1.out.size) (fun q h => h.2), HRA.out.room, HLN.out.2.1, by have := HLN.out; omega, below_then HB1.out HB1.out.size HRA.out.below⟩
end Go.Proofs.Ytmdjknkhjimgeaa.S
end
section
namespace Go.Proofs.Ytmdjknkhjimgeaa.S
open Go.RowKit Go.Proofs.YtmdjknkhjimgeaaW.PrintWords Go.Proofs.YtmdjknkhjimgeaaW.PrintLast Go.Proofs.YtmdjknkhjimgeaaW.PrintMore
attribute [local go_sem] max2_int min2_int max_two min_two max_three min_three max_four min_four
set_option linter.unusedVariables false
set_option linter.unusedSimpArgs false
open Go.Proofs.He
abbrev SE := S34
abbrev rdE (l : List SE) (i : Int) : SE := rd_T34 l i
def slotIs (l : List SE) (kind : ByteArray) (k : Int) : Bool := if 0 ≤ k then (if k < (l.length : Int) then (if (rdE l k).f3 = true then (if (rdE l k).f1 = kind then decide ((rdE l k).f2 = ⟨#[]⟩) else false) else false) else false) else false
def byF (l : List SE) (g : List (List Int)) (n : Int) (kind : ByteArray) : Int := if n < 0 ∨ n ≥ (l.length : Int) ∨ n ≥ (g.length : Int) then -1 else ((g.getD n.toNat []).find? (slotIs l kind)).getD (-1)
theorem byF_hit {l : List SE} {g : List (List Int)} {n : Int} {kind : ByteArray} (h : ¬ (n < 0 ∨ n ≥ (l.length : Int) ∨ n ≥ (g.length : Int))) {j : Nat} {x : Int} (hj : (g.getD n.toNat [])[j]? = some x) (hx : slotIs l kind x = true) (hn : ∀ (i : Nat) (y : Int), i < j → (g.getD n.toNat [])[i]? = some y → slotIs l kind y = false) : byF l g n kind = x := by
  unfold byF
  rw [if_neg h]
  obtain ⟨hl, e⟩ := List.getElem?_eq_some_iff.1 hj
  have : (g.getD n.toNat []).find? (slotIs l kind) = some x := by
    rw [List.find?_eq_some_iff_getElem]
    exact ⟨hx, j, hl, e, fun i hi => by rw [hn i _ hi (List.getElem?_eq_getElem (by omega))]; rfl⟩
  rw [this]; rfl
theorem byF_miss {l : List SE} {g : List (List Int)} {n : Int} {kind : ByteArray} (h : ¬ (n < 0 ∨ n ≥ (l.length : Int) ∨ n ≥ (g.length : Int))) (hn : ∀ (i : Nat) (y : Int), (g.getD n.toNat [])[i]? = some y → slotIs l kind y = false) : byF l g n kind = -1 := by
  unfold byF
  rw [if_neg h]
  have : (g.getD n.toNat []).find? (slotIs l kind) = none := by
    rw [List.find?_eq_none]
    intro x hx
    obtain ⟨i, hi⟩ := List.mem_iff_getElem?.1 hx
    rw [hn i x hi]; simp
  rw [this]; rfl
theorem byF_spec {l : List SE} {g : List (List Int)} {n : Int} {kind : ByteArray} : byF l g n kind = -1 ∨ (0 ≤ n ∧ n < l.length ∧ n < g.length ∧ byF l g n kind ∈ g.getD n.toNat [] ∧ slotIs l kind (byF l g n kind) = true) := by
  unfold byF
  split
  · exact .inl rfl
  · rename_i h
    cases e : (g.getD n.toNat []).find? (slotIs l kind) with
    | none => exact .inl rfl
    | some x => exact .inr ⟨by omega, by omega, by omega, List.mem_of_find?_eq_some e, List.find?_some e⟩
theorem slotIs_bd {l : List SE} {kind : ByteArray} {k : Int} (h : slotIs l kind k = true) : 0 ≤ k ∧ k < (l.length : Int) ∧ (rdE l k).f3 = true ∧ (rdE l k).f1 = kind ∧ (rdE l k).f2 = ⟨#[]⟩ := by
  unfold slotIs at h
  split at h
  · split at h
    · split at h
      · split at h
        · exact ⟨by assumption, by assumption, by assumption, by assumption, of_decide_eq_true h⟩
        · cases h
      · cases h
    · cases h
  · cases h
set_option maxHeartbeats 4000000 in
set_option maxRecDepth 100000 in
theorem order_By.walk (A0 : Option Addr) (c0 : Nat) (l : List SE) (A1 : Option Addr) (c1 : Nat) (g : List (List Int)) (n : Int) (kind : ByteArray) (w : World) (hr0 : Kd.C k34 w A0 l.length l) (hr1 : Kd.C (Kd.slice 3 (Kd.int .i64)) w A1 g.length g) :
    Calls Try.prog 20 #[.slice A0 l.length c0, .slice A1 g.length c1, .int .i64 n, .string kind] w fun e w' => e = .returned (.int .i64 (byF l g n kind)) ∧ w' = w := by
  have HR0 := Aside0.mk hr0
  have HR1 := Aside0.mk hr1
  have hl0 : l.length ≤ 9223372036854775807 := hr0.2.1
  have hl1 : g.length ≤ 9223372036854775807 := hr1.2.1
  clear hr0 hr1
  by_cases hc : n < 0 ∨ n ≥ (l.length : Int) ∨ n ≥ (g.length : Int)
  · have HV : Aside0 (byF l g n kind = -1) := ⟨by unfold byF; rw [if_pos hc]⟩
    by_cases h0 : n < 0
    · clear hc
      go_enter Try.func20, Try.ntmps20
      go_wp2
      go_ret
      exact ⟨by rw [HV.out]; rfl, rfl⟩
    · have hm : (if (g.length : Int) < (l.length : Int) then (g.length : Int) else (l.length : Int)) ≤ n := by split <;> omega
      by_cases hgl : (g.length : Int) < (l.length : Int)
      all_goals
        clear hc
        go_enter Try.func20, Try.ntmps20
        go_wp2
        go_ret
        exact ⟨by rw [HV.out]; rfl, rfl⟩
  · have h0 : ¬ n < 0 := by omega
    have hm : ¬ (if (g.length : Int) < (l.length : Int) then (g.length : Int) else (l.length : Int)) ≤ n := by split <;> omega
    have h0' : 0 ≤ n := by omega
    have hng : n < (g.length : Int) := by omega
    obtain ⟨adg, A2, c2, e, hgx, hgl, hgc⟩ := at_rows HR1.out n h0' hng
    cases e
    obtain ⟨row, hrow⟩ : ∃ row, row = g.getD n.toNat [] := ⟨_, rfl⟩
    rw [← hrow] at hgx hgl hgc
    have HROW := Aside0.mk hrow
    have HGC := Aside0.mk hgc
    have hrl : row.length ≤ 9223372036854775807 := hgc.2.1
    have HC := Aside0.mk hc
    clear hc hrow hgc
    by_cases hgl : (g.length : Int) < (l.length : Int)
    all_goals
      go_enter Try.func20, Try.ntmps20
      go_wp2
      go_loopg [10, 27] row.length (fun gg v10 v27 wr => ∃ j : Nat, j ≤ row.length ∧ row.length - j ≤ gg ∧ v27 = .int .i64 (j : Int) ∧ wr = w ∧ Aside0 (∀ (i : Nat) (y : Int), i < j → row[i]? = some y → slotIs l kind y = false))
      case atStart => exact ⟨0, Nat.zero_le _, by omega, rfl, rfl, ⟨fun i y hi => absurd hi (Nat.not_lt_zero _)⟩⟩
      case round =>
        obtain ⟨j, hj, hg, rfl, rfl, HN⟩ := hrel
        by_cases hlt : j < row.length
        · have hltz : (j : Int) < (row.length : Int) := by omega
          obtain ⟨ad2, e, hx⟩ := C_num HGC.out hlt
          cases e
          obtain ⟨x, hxe⟩ : ∃ x, x = row[j] := ⟨_, rfl⟩
          rw [← hxe] at hx
          have HX : Aside0 (row[j]? = some x) := ⟨by rw [hxe]; exact List.getElem?_eq_getElem hlt⟩
          clear hxe
          by_cases hs : slotIs l kind x = true
          · have HV : Aside0 (byF l g n kind = x) := ⟨byF_hit HC.out (by rw [← HROW.out]; exact HX.out) hs (by rw [← HROW.out]; exact HN.out)⟩
            obtain ⟨q0, q1, q2, q3, q4⟩ := slotIs_bd hs
            obtain ⟨ad3, A6, c6, A7, c7, A13, c13, A14, c14, e, hx0, hx1, hx2, hx3, _⟩ := at_T34 HR0.out x q0 q1
            cases e
            rw [show (rd_T34 l x).f1 = kind from q3] at hx1
            rw [show (rd_T34 l x).f2 = ⟨#[]⟩ from q4] at hx2
            rw [show (rd_T34 l x).f3 = true from q2] at hx3
            clear q2 q3 q4 hx0
            go_wp2
            go_ret
            exact ⟨by rw [HV.out]; rfl, rfl⟩
          · have hs' := Bool.eq_false_iff.2 hs
            have HN2 : Aside0 (∀ (i : Nat) (y : Int), i < j + 1 → row[i]? = some y → slotIs l kind y = false) := ⟨fun i y hi hy => by
              by_cases e : i = j
              · subst e; rw [HX.out] at hy; cases hy; exact hs'
              · exact HN.out i y (by omega) hy⟩
            have hcase : (¬ 0 ≤ x) ∨ (0 ≤ x ∧ ¬ x < (l.length : Int)) ∨ (0 ≤ x ∧ x < (l.length : Int)) := by omega
            unfold slotIs at hs'
            clear hs HN
            rcases hcase with q0 | ⟨q0, q1⟩ | ⟨q0, q1⟩
            · clear hs'
              go_wp2
              go_roundg (row.length - (j + 1))
              case measure => omega
              case rel => exact ⟨j + 1, by omega, by omega, by go_num, rfl, HN2⟩
            · clear hs'
              go_wp2
              go_roundg (row.length - (j + 1))
              case measure => omega
              case rel => exact ⟨j + 1, by omega, by omega, by go_num, rfl, HN2⟩
            · rw [if_pos q0, if_pos q1] at hs'
              obtain ⟨ad3, A6, c6, A7, c7, A13, c13, A14, c14, e, hx0, hx1, hx2, hx3, _⟩ := at_T34 HR0.out x q0 q1
              cases e
              clear hx0
              obtain ⟨ev, hev⟩ : ∃ ev, ev = rd_T34 l x := ⟨_, rfl⟩
              rw [show rdE l x = rd_T34 l x from rfl, ← hev] at hs'
              rw [← hev] at hx1 hx2 hx3
              clear hev
              by_cases q2 : ev.f3 = true
              · rw [if_pos q2] at hs'
                rw [q2] at hx3
                by_cases q3 : ev.f1 = kind
                · rw [if_pos q3] at hs'
                  rw [q3] at hx1
                  have q4 : ev.f2 ≠ ⟨#[]⟩ := of_decide_eq_false hs'
                  have q4b : (ev.f2.toList == (⟨#[]⟩ : ByteArray).toList) = false := beq_eq_false_iff_ne.mpr (fun e => q4 (ba_ext e))
                  have q4c : ev.f2.toList ≠ [] := fun e => q4 (ba_ext (e.trans (by rw [Lib.toList_data])))
                  have q4d : ev.f2.toList.isEmpty = false := by rw [List.isEmpty_eq_false_iff]; exact q4c
                  clear q2 q3 hs' q4
                  go_wp2
                  go_roundg (row.length - (j + 1))
                  case measure => omega
                  case rel => exact ⟨j + 1, by omega, by omega, by go_num, rfl, HN2⟩
                · have q3b : (ev.f1.toList == kind.toList) = false := beq_eq_false_iff_ne.mpr (fun e => q3 (ba_ext e))
                  clear q2 hs' q3
                  go_wp2
                  go_roundg (row.length - (j + 1))
                  case measure => omega
                  case rel => exact ⟨j + 1, by omega, by omega, by go_num, rfl, HN2⟩
              · have q2' := Bool.eq_false_iff.2 q2
                rw [q2'] at hx3
                clear q2 hs' q2'
                go_wp2
                go_roundg (row.length - (j + 1))
                case measure => omega
                case rel => exact ⟨j + 1, by omega, by omega, by go_num, rfl, HN2⟩
        · have hltz : ¬ (j : Int) < (row.length : Int) := by omega
          have HV : Aside0 (byF l g n kind = -1) := ⟨byF_miss HC.out (by rw [← HROW.out]; exact fun i y hi => HN.out i y (by have := (List.getElem?_eq_some_iff.1 hi).1; omega) hi)⟩
          go_wp2
          go_ret
          exact ⟨by rw [HV.out]; rfl, rfl⟩
def order_By.f (l : List SE) (g : List (List Int)) (n : Int) (kind : ByteArray) : Option Int := some (byF l g n kind)
theorem order_By.calls (A0 : Option Addr) (c0 : Nat) (l0 : List SE) (A1 : Option Addr) (c1 : Nat) (l1 : List (List Int)) (a2 : Int) (a3 : ByteArray) (r : Int) (w : World) (hr0 : Kd.C k34 w A0 l0.length l0) (hc0 : l0.length ≤ c0) (hr1 : Kd.C (Kd.slice 3 (Kd.int .i64)) w A1 l1.length l1) (hc1 : l1.length ≤ c1) (h : order_By.f l0 l1 a2 a3 = some r) :
    Calls Try.prog 20 #[.slice A0 l0.length c0, .slice A1 l1.length c1, .int .i64 a2, .string a3] w fun e w' => e = .returned (.int .i64 r) ∧ Below w.heap.size w w' := by
  obtain rfl := Option.some.inj h
  exact (order_By.walk A0 c0 l0 A1 c1 l1 a2 a3 w hr0 hr1).mono fun e w' ⟨he, hw⟩ => ⟨he, hw ▸ Below.refl _ _⟩
open Go.Proofs.He Go.Shelf
attribute [local go_sem] Oper.semAt_some
def pwB : ByteArray := ⟨#[109, 46, 114, 111, 111, 109, 46, 112, 111, 119, 101, 114, 95, 108, 101, 118, 101, 108, 115]⟩
def mlF (l : List SE) (g : List (List Int)) : Nat → Int → List Int
  | 0, _ => []
  | k + 1, n => if 0 ≤ n ∧ n < (l.length : Int) then n :: (if byF l g n pwB ≥ n then [] else mlF l g k (byF l g n pwB)) else []
def mainF (l : List SE) (g : List (List Int)) (n : Int) : List Int := mlF l g (n.toNat + 1) n
theorem mlF_neg (l : List SE) (g : List (List Int)) (k : Nat) (n : Int) (h : n < 0) : mlF l g k n = [] := by
  cases k with
  | zero => rfl
  | succ k => rw [mlF, if_neg (by omega)]
theorem mlF_same (l : List SE) (g : List (List Int)) : ∀ (k k' : Nat) (n : Int), n.toNat + 1 ≤ k → n.toNat + 1 ≤ k' → mlF l g k n = mlF l g k' n := by
  intro k
  induction k with
  | zero => intro k' n h; omega
  | succ k ih =>
    intro k' n h h'
    cases k' with
    | zero => omega
    | succ k' =>
      rw [mlF, mlF]
      split
      · rename_i hc
        congr 1
        split
        · rfl
        · rename_i hx
          by_cases hb : byF l g n pwB < 0
          · rw [mlF_neg _ _ _ _ hb, mlF_neg _ _ _ _ hb]
          · exact ih _ _ (by omega) (by omega)
      · rfl
theorem mainF_out (l : List SE) (g : List (List Int)) (n : Int) (h : ¬ (0 ≤ n ∧ n < (l.length : Int))) : mainF l g n = [] := by
  unfold mainF; rw [mlF, if_neg h]
theorem mainF_last (l : List SE) (g : List (List Int)) (n : Int) (h : 0 ≤ n ∧ n < (l.length : Int)) (hb : byF l g n pwB ≥ n) : mainF l g n = [n] := by
  unfold mainF; rw [mlF, if_pos h, if_pos hb]
theorem mainF_step (l : List SE) (g : List (List Int)) (n : Int) (h : 0 ≤ n ∧ n < (l.length : Int)) (hb : ¬ byF l g n pwB ≥ n) : mainF l g n = n :: mainF l g (byF l g n pwB) := by
  unfold mainF
  rw [mlF, if_pos h, if_neg hb]
  by_cases h0 : byF l g n pwB < 0
  · rw [mlF_neg _ _ _ _ h0, mlF_neg _ _ _ _ h0]
  · rw [mlF_same l g n.toNat ((byF l g n pwB).toNat + 1) _ (by omega) (Nat.le_refl _)]
theorem mainF_len (l : List SE) (g : List (List Int)) : ∀ (k : Nat) (n : Int), n.toNat ≤ k → (mainF l g n).length ≤ n.toNat + 1 := by
  intro k
  induction k with
  | zero =>
    intro n h
    by_cases hc : 0 ≤ n ∧ n < (l.length : Int)
    · by_cases hb : byF l g n pwB ≥ n
      · rw [mainF_last l g n hc hb]; simp
      · rw [mainF_step l g n hc hb, mainF_out l g _ (by omega)]; simp
    · rw [mainF_out l g n hc]; simp
  | succ k ih =>
    intro n h
    by_cases hc : 0 ≤ n ∧ n < (l.length : Int)
    · by_cases hb : byF l g n pwB ≥ n
      · rw [mainF_last l g n hc hb]; simp
      · rw [mainF_step l g n hc hb]
        by_cases h0 : byF l g n pwB < 0
        · rw [mainF_out l g _ (by omega)]; simp
        · have := ih (byF l g n pwB) (by omega)
          simp only [List.length_cons]; omega
    · rw [mainF_out l g n hc]; simp
theorem mainF_le (l : List SE) (g : List (List Int)) (n : Int) : (mainF l g n).length ≤ l.length := by
  by_cases hc : 0 ≤ n ∧ n < (l.length : Int)
  · have := mainF_len l g n.toNat n (Nat.le_refl _); omega
  · rw [mainF_out l g n hc]; simp
structure BackAt (w0 : World) (A0 : Option Addr) (c0 : Nat) (l : List SE) (A1 : Option Addr) (c1 : Nat) (g : List (List Int)) (Bn Bl Bg : Nat) (n : Int) (W : World) : Prop where
  bn : Boxed W Bn 3 (.int .i64 n)
  bl : Boxed W Bl 45 (.slice A0 l.length c0)
  bg : Boxed W Bg 46 (.slice A1 g.length c1)
  hr0 : Kd.C k34 W A0 l.length l
  hr1 : Kd.C (Kd.slice 3 (Kd.int .i64)) W A1 g.length g
  below : Below w0.heap.size w0 W
theorem BackAt.mk' {w0 W : World} {A0 : Option Addr} {c0 : Nat} {l : List SE} {A1 : Option Addr} {c1 : Nat} {g : List (List Int)} {Bn Bl Bg : Nat} {n : Int} (hr0 : Kd.C k34 w0 A0 l.length l) (hr1 : Kd.C (Kd.slice 3 (Kd.int .i64)) w0 A1 g.length g)
    (hb : Below w0.heap.size w0 W) (h1 : Boxed W Bn 3 (.int .i64 n)) (h2 : Boxed W Bl 45 (.slice A0 l.length c0)) (h3 : Boxed W Bg 46 (.slice A1 g.length c1)) : BackAt w0 A0 c0 l A1 c1 g Bn Bl Bg n W :=
  ⟨h1, h2, h3, Kd.C_below hr0 hb, Kd.C_below hr1 hb, hb⟩
set_option maxHeartbeats 4000000 in
set_option maxRecDepth 100000 in
theorem back_1.cell {w0 w : World} {A0 : Option Addr} {c0 : Nat} {l : List SE} {A1 : Option Addr} {c1 : Nat} {g : List (List Int)} {Bn Bl Bg : Nat} {n0 : Int} (hr0 : Kd.C k34 w0 A0 l.length l) (hr1 : Kd.C (Kd.slice 3 (Kd.int .i64)) w0 A1 g.length g)
    (hat : BackAt w0 A0 c0 l A1 c1 g Bn Bl Bg n0 w) (hn0 : w0.heap.size ≤ Bn) (hne1 : Bl ≠ Bn) (hne2 : Bg ≠ Bn) :
    SeqCell Fence.wide 3 Try.prog 84 #[.pointer (some ⟨Bn, 0, none⟩), .pointer (some ⟨Bl, 0, none⟩), .pointer (some ⟨Bg, 0, none⟩)] Bn w.heap.size (mainF l g n0) w := by
  intro lq J Jx W hW hcell hY hJ0
  have hat2 : BackAt w0 A0 c0 l A1 c1 g Bn Bl Bg n0 W := BackAt.mk' hr0 hr1 (hat.below.trans (hW.mono hat.below.size)) ((hW.block _ hat.bn.lt).trans hat.bn) ((hW.block _ hat.bl.lt).trans hat.bl) ((hW.block _ hat.bg.lt).trans hat.bg)
  have hl0 : l.length ≤ 9223372036854775807 := hr0.2.1
  have HR0 := Aside0.mk hr0
  have HR1 := Aside0.mk hr1
  have HAT := Aside0.mk hat
  have HY := Aside0.mk hY
  have HJ := Aside0.mk hJ0
  have HAT2 := Aside0.mk hat2
  have HC := Aside0.mk hcell
  clear hr0 hr1 hat hY hJ0 hat2 hcell hW
  refine callsIn_of_wp Try.func84 rfl trivial ?_ rfl
  simp only [Try.ntmps84, List.size_toArray, List.length_cons, List.length_nil, Nat.reduceAdd, Nat.reduceSub, Array.replicate_succ, Array.replicate_zero, List.push_toArray, List.append_toArray, List.nil_append, List.cons_append]
  gi_wp2
  gi_loopg [5] ((n0 + 1).toNat) (fun gg _ wr => ∃ (n : Int) (pre : List Int), (n + 1).toNat ≤ gg ∧ Aside0 (BackAt w0 A0 c0 l A1 c1 g Bn Bl Bg n wr) ∧ Aside0 (pre ++ mainF l g n = mainF l g n0) ∧ Aside0 (J pre wr))
  case atStart => exact ⟨n0, [], Nat.le_refl _, HAT2, ⟨rfl⟩, HJ⟩
  case round =>
    obtain ⟨n, pre, hgg, HB, HP, HJ1⟩ := hrel
    have hc1 := HB.out.bn.cell
    have hc2 := HB.out.bl.cell
    have hc3 := HB.out.bg.cell
    have hcase : (¬ 0 ≤ n) ∨ (0 ≤ n ∧ ¬ n < (l.length : Int)) ∨ (0 ≤ n ∧ n < (l.length : Int)) := by omega
    rcases hcase with h0 | ⟨h0, h1⟩ | ⟨h0, h1⟩
    · have HE : Aside0 (pre = mainF l g n0) := ⟨by rw [← HP.out, mainF_out l g n (by omega), List.append_nil]⟩
      gi_wp2
      refine ⟨fun _ h => (by cases h), ?_⟩
      gi_wp2
      go_end0
      exact ⟨⟨_, rfl⟩, .inl (HE.out ▸ HJ1.out)⟩
    · have HE : Aside0 (pre = mainF l g n0) := ⟨by rw [← HP.out, mainF_out l g n (by omega), List.append_nil]⟩
      gi_wp2
      refine ⟨fun _ h => (by cases h), ?_⟩
      gi_wp2
      go_end0
      exact ⟨⟨_, rfl⟩, .inl (HE.out ▸ HJ1.out)⟩
    · have hcons : ∃ t, mainF l g n = n :: t := by
        by_cases hb : byF l g n pwB ≥ n
        · exact ⟨_, mainF_last l g n ⟨h0, h1⟩ hb⟩
        · exact ⟨_, mainF_step l g n ⟨h0, h1⟩ hb⟩
      have hpre : pre ++ [n] <+: mainF l g n0 := by
        obtain ⟨t, ht⟩ := hcons
        exact ⟨t, by rw [← HP.out, ht]; simp⟩
      have HPRE := Aside0.mk hpre
      obtain ⟨fn, tmps, assign, body, hy, hR⟩ := HY.out pre n wr HJ1.out hpre
      clear hcons hpre
      gi_wp2
      refine hR.mono ?_
      rintro e W3 (⟨rfl, hJ3, hk3⟩ | ⟨rfl, hJx3⟩)
      · have hat3 : BackAt w0 A0 c0 l A1 c1 g Bn Bl Bg n W3 := BackAt.mk' HR0.out HR1.out (HB.out.below.trans (hk3.mono (Nat.le_trans HAT.out.below.size (Nat.le_refl _)))) ((hk3.block _ HAT.out.bn.lt).trans HB.out.bn) ((hk3.block _ HAT.out.bl.lt).trans HB.out.bl) ((hk3.block _ HAT.out.bg.lt).trans HB.out.bg)
        have HAT3 := Aside0.mk hat3
        have HJ3 := Aside0.mk hJ3
        have hd1 := hat3.bn.cell
        have hd2 := hat3.bl.cell
        have hd3 := hat3.bg.cell
        have hf1 := hat3.bn.frozen
        have HBY := Aside0.mk (callsIn_wide (n := 2) |>.2 (order_By.walk A0 c0 l A1 c1 g n pwB W3 hat3.hr0 hat3.hr1))
        clear hat3 hJ3 hk3 hR hy hc1 hc2 hc3
        by_cases hb : byF l g n pwB ≥ n
        · have HE : Aside0 (pre ++ [n] = mainF l g n0) := ⟨by rw [← HP.out, mainF_last l g n ⟨h0, h1⟩ hb]⟩
          gi_wp2_with (refine ⟨trivial, ?_⟩; gi_at_call 20; refine HBY.out.mono ?_; rintro e w4 ⟨rfl, rfl⟩)
          refine bodyPost_ret (results_none rfl _ _ _) rfl ?_
          exact ⟨⟨_, rfl⟩, .inl (HE.out ▸ HJ3.out)⟩
        · have HE : Aside0 ((pre ++ [n]) ++ mainF l g (byF l g n pwB) = mainF l g n0) := ⟨by rw [← HP.out, mainF_step l g n ⟨h0, h1⟩ hb]; simp⟩
          have hlt : byF l g n pwB < n := by omega
          obtain ⟨x, hx⟩ : ∃ x, x = byF l g n pwB := ⟨_, rfl⟩
          rw [← hx] at hlt HE HBY hb
          have HJ4 := Aside0.mk (HC.out (pre ++ [n]) W3 (.int .i64 x) HJ3.out)
          have hat4 : BackAt w0 A0 c0 l A1 c1 g Bn Bl Bg x (W3.setCell ⟨Bn, 0, none⟩ (.int .i64 x)) := BackAt.mk' HR0.out HR1.out (HAT3.out.below.setCell (p := ⟨Bn, 0, none⟩) hn0 _) (Boxed.set _ HAT3.out.bn) ((Below.heap_setCell W3 ⟨Bn, 0, none⟩ _ _ hne1).trans HAT3.out.bl) ((Below.heap_setCell W3 ⟨Bn, 0, none⟩ _ _ hne2).trans HAT3.out.bg)
          have HAT4 := Aside0.mk hat4
          clear hat4 hx
          gi_wp2_with (refine ⟨trivial, ?_⟩; gi_at_call 20; refine HBY.out.mono ?_; rintro e w4 ⟨rfl, rfl⟩)
          gi_roundg ((x + 1).toNat)
          case measure => omega
          case rel => exact ⟨x, pre ++ [n], Nat.le_refl _, HAT4, HE, HJ4⟩
      · gi_wp2
        go_end0
        exact ⟨⟨_, rfl⟩, .inr ⟨pre ++ [n], HPRE.out, hJx3⟩⟩
theorem infoI : (Try.prog.info? 3).map (fun i => (i.zero, i.size, i.bytes)) = some (some (.int .i64 0), 1, 8) := by kernel_rfl
theorem SeqCell.later {F : Fence} {n : Nat} {P : Program} {gf : Nat} {lb : Array Value} {Bn B0 : Nat} {xs : List Int} {w w1 : World} (h : SeqCell F n P gf lb Bn B0 xs w) (hb : Below w.heap.size w w1) : SeqCell F n P gf lb Bn B0 xs w1 :=
  fun l J Jx W hW => h l J Jx W (hb.trans (hW.mono hb.size))
set_option maxHeartbeats 4000000 in
set_option maxRecDepth 100000 in
theorem appendSeq_cell {w0 w : World} {gf : Nat} {lb : Array Value} {Bn : Nat} {xs : List Int} (eg : ∀ args w, (callFunc gf args).run Try.prog w = .ok (.enter gf args) w) (hb : Below w0.heap.size w0 w) (hBn0 : w0.heap.size ≤ Bn) (hBn : Bn < w.heap.size)
    (hseq : SeqCell Fence.wide 3 Try.prog gf lb Bn w.heap.size xs w) (hlen : xs.length ≤ 9223372036854775807) (hbytes : xs.length * 8 ≤ 140737488355328) :
    Calls Try.prog 83 #[.slice none 0 0, .func (.func gf) #[] lb] w fun e W' => ∃ v, e = .returned v ∧ W'.ownsRow w.heap.size 3 1 v xs.length (xs.map (Value.int .i64)) ∧ Below w0.heap.size w0 W' := by
  refine (callsIn_wide (n := 4)).1 ?_
  obtain ⟨i0, hi, hz0, hz1, hz2⟩ := info_parts infoI
  refine callsIn_of_wp_marks Try.func83 rfl trivial ?_ rfl
  simp only [Try.ntmps83, List.size_toArray, List.length_cons, List.length_nil, Nat.reduceAdd, Nat.reduceSub, Array.replicate_succ, Array.replicate_zero, List.push_toArray, List.append_toArray, List.nil_append, List.cons_append]
  gi_wp2
  have bO := Boxed.new w 49 (.slice none 0 0)
  have hB1 : Below w.heap.size w (w.alloc (.cells #[.slice none 0 0] 49)) := (Below.refl _ w).alloc (Nat.le_refl _) _
  have hle := hb.size
  refine rangeFunc_cell (Bn := Bn) (B0 := w.heap.size) (xs := xs) rfl (by decide) (gf := gf) (lb := lb) rfl trivial eg (by simp) (by simp; omega) (SeqCell.later hseq hB1) rfl
    (fun pre W => (∃ v, Boxed W w.heap.size 49 v ∧ W.ownsRow w.heap.size 3 1 v pre.length (pre.map (Value.int .i64)) ∧ True) ∧ Below w0.heap.size w0 W) (fun _ _ => False)
    (OwnFrom.and (Own.from (holdsRow_own w.heap.size w.heap.size 49 3 1 (fun pre : List Int => pre.length) (fun pre => pre.map (Value.int .i64)) (fun _ _ => True)) _) (ownFrom_below (Nat.le_refl _) (by simp; omega)))
    (fun _ _ _ _ h _ _ => h) ?cell
    ⟨⟨_, bO, World.ownsRow_nil _ _ _ _, trivial⟩, hb.trans (hB1.mono hle)⟩
    (fun x => { tmps := #[.slice none 0 0, .func (.func gf) #[] lb, .pointer (some ⟨w.heap.size, 0, none⟩), undef, .slice none 0 0, .int .i64 x, .func (.func gf) #[] lb, .int .i64 x, undef, undef, undef, undef, undef], defers := [] }) ?assign ?body ?done ?stop
  case cell =>
    rintro pre A v ⟨⟨v1, hv, hr, _⟩, hB⟩
    refine ⟨⟨v1, (Below.heap_setCell A ⟨Bn, 0, none⟩ v _ (show w.heap.size ≠ Bn by omega)).trans hv, own_move hr (fun k hk => Below.heap_setCell A ⟨Bn, 0, none⟩ v _ (show k ≠ Bn by have := own_base hr k hk; omega)), trivial⟩, hB.setCell (p := ⟨Bn, 0, none⟩) hBn0 _⟩
  case assign =>
    intro l x W K hK
    gi_wp2
    exact hK
  case body =>
    rintro l pre x W ⟨⟨v, hv, hrow, _⟩, hB⟩ hlt
    have hc := hv.cell
    have hpl : pre.length + 1 ≤ xs.length := by
      have := hlt.length_le; simpa using this
    gi_wp2_with (gi_at_builtin; refine wpListIn_append_own _ rfl _ _ 49 rfl w.heap.size 3 i0 (.int .i64 0) 1 8 Try.underlying49 hi hz0 hz1 hz2 rfl (by decide) _ _ _ rfl (hrow.alloc _) ⟨W.heap.size, 0, none⟩ 1 1 [.int .i64 x] rfl rfl (cell_one_new _ _ _) (by simp [Value.oneCell']) (by unfold maxLen; omega) (by omega) (by have := hB.size; have := hv.lt; simp; omega) ?_; intro v' w1 hown' hgrow _; obtain ⟨g', cap', rfl⟩ := ownsRow_succ hown'; obtain ⟨hv1, hv2, hr2, hk2, hb2⟩ := hv.appended (by decide) hrow (Nat.le_of_lt hv.lt) (Nat.le_refl _) hown' hgrow; have hc1 := hv1.cell; have hf1 := hv1.frozen)
    exact ⟨hk2.from _, hb2, ⟨_, hv2, by simpa using hr2, trivial⟩, hB.trans (hb2.mono (by omega))⟩
  case done =>
    rintro D W hD ⟨⟨v, hv, hrow, _⟩, hB⟩ hK
    have hc := hv.cell
    gi_wp2
    refine ⟨by simp, .inl ⟨_, _, rfl, run_takeDeferred hK, ?_⟩⟩
    exact ⟨_, results_tmp rfl _ _ _, v, rfl, ownsRow_putObj hrow _ hK rfl, hB.trans (belowK_b (w := w0) (n₀ := w0.heap.size) (Nat.le_refl _) W D _ _ (by simp at hD; omega) hK rfl rfl)⟩
  case stop =>
    rintro D pre W _ _ h _
    exact h.elim
set_option maxHeartbeats 4000000 in
set_option maxRecDepth 100000 in
theorem collect_cell {w0 w : World} {gf : Nat} {lb : Array Value} {Bn : Nat} {xs : List Int} (eg : ∀ args w, (callFunc gf args).run Try.prog w = .ok (.enter gf args) w) (hb : Below w0.heap.size w0 w) (hBn0 : w0.heap.size ≤ Bn) (hBn : Bn < w.heap.size)
    (hseq : SeqCell Fence.wide 3 Try.prog gf lb Bn w.heap.size xs w) (hlen : xs.length ≤ 9223372036854775807) (hbytes : xs.length * 8 ≤ 140737488355328) :
    Calls Try.prog 46 #[.func (.func gf) #[] lb] w fun e W' => ∃ v, e = .returned v ∧ W'.ownsRow w.heap.size 3 1 v xs.length (xs.map (Value.int .i64)) ∧ Below w0.heap.size w0 W' := by
  have HA := Aside0.mk (appendSeq_cell eg hb hBn0 hBn hseq hlen hbytes)
  clear hseq hb
  go_enter Try.func46, Try.ntmps46
  go_wp2_with (go_at_call 83; refine HA.out.mono ?_; rintro e w1 ⟨v, rfl, hr, hb1⟩)
  go_ret
  exact ⟨v, rfl, hr, hb1⟩
def backW (w : World) (A0 : Option Addr) (c0 n0 : Nat) (A1 : Option Addr) (c1 n1 : Nat) (n : Int) : World := ((w.alloc (.cells #[.slice A0 n0 c0] 45)).alloc (.cells #[.slice A1 n1 c1] 46)).alloc (.cells #[.int .i64 n] 3)
set_option maxHeartbeats 4000000 in
set_option maxRecDepth 100000 in
theorem back.walk (A0 : Option Addr) (c0 n0 : Nat) (A1 : Option Addr) (c1 n1 : Nat) (n : Int) (w : World) :
    Calls Try.prog 47 #[.slice A0 n0 c0, .slice A1 n1 c1, .int .i64 n] w fun e w' => e = .returned (.func (.func 84) #[] #[.pointer (some ⟨w.heap.size + 2, 0, none⟩), .pointer (some ⟨w.heap.size, 0, none⟩), .pointer (some ⟨w.heap.size + 1, 0, none⟩)]) ∧ w' = backW w A0 c0 n0 A1 c1 n1 n := by
  have hmf : ∀ (fn : Fn) (first cap : Array Value) (w : World), (Instr.makeFunc fn first cap).run Try.prog w = .ok (.func fn first cap) w := fun _ _ _ _ => rfl
  go_enter Try.func47, Try.ntmps47
  go_wp2
  go_ret
  exact ⟨rfl, rfl⟩
theorem backW_at {w : World} {A0 : Option Addr} {c0 : Nat} {l : List SE} {A1 : Option Addr} {c1 : Nat} {g : List (List Int)} (n : Int) (hr0 : Kd.C k34 w A0 l.length l) (hr1 : Kd.C (Kd.slice 3 (Kd.int .i64)) w A1 g.length g) :
    BackAt w A0 c0 l A1 c1 g (w.heap.size + 2) w.heap.size (w.heap.size + 1) n (backW w A0 c0 l.length A1 c1 g.length n) := by
  have b1 := Boxed.new w 45 (.slice A0 l.length c0)
  have b2 := Boxed.new (w.alloc (.cells #[.slice A0 l.length c0] 45)) 46 (.slice A1 g.length c1)
  have b3 := Boxed.new ((w.alloc (.cells #[.slice A0 l.length c0] 45)).alloc (.cells #[.slice A1 g.length c1] 46)) 3 (.int .i64 n)
  rw [World.size_alloc] at b2
  rw [World.size_alloc, World.size_alloc] at b3
  exact BackAt.mk' hr0 hr1 ((((Below.refl _ _).alloc (Nat.le_refl _) _).alloc (by simp) _).alloc (by simp; omega) _) b3 ((b1.alloc _).alloc _) (b2.alloc _)
theorem backW_size (w : World) (A0 : Option Addr) (c0 n0 : Nat) (A1 : Option Addr) (c1 n1 : Nat) (n : Int) : (backW w A0 c0 n0 A1 c1 n1 n).heap.size = w.heap.size + 3 := by unfold backW; simp
set_option maxHeartbeats 4000000 in
set_option maxRecDepth 100000 in
theorem order_Mainline.walk (A0 : Option Addr) (c0 : Nat) (l : List SE) (A1 : Option Addr) (c1 : Nat) (g : List (List Int)) (n : Int) (w : World) (hr0 : Kd.C k34 w A0 l.length l) (hr1 : Kd.C (Kd.slice 3 (Kd.int .i64)) w A1 g.length g) (hl : l.length ≤ 100000) :
    Calls Try.prog 19 #[.slice A0 l.length c0, .slice A1 g.length c1, .int .i64 n] w fun e w' => ∃ v, e = .returned v ∧ (Kd.int .i64).R 3 w' w.heap.size (fun _ => True) v (mainF l g n) ∧ Below w.heap.size w w' := by
  have hat := backW_at (c0 := c0) (c1 := c1) n hr0 hr1
  have hbd := hat.below
  have hs := backW_size w A0 c0 l.length A1 c1 g.length n
  have hm := mainF_le l g n
  have HC := Aside0.mk (collect_cell (lb := #[.pointer (some ⟨w.heap.size + 2, 0, none⟩), .pointer (some ⟨w.heap.size, 0, none⟩), .pointer (some ⟨w.heap.size + 1, 0, none⟩)]) (enters_of Try.func84 (by kernel_rfl) rfl) hbd (Bn := w.heap.size + 2) (by omega) (by rw [hs]; omega) (back_1.cell hr0 hr1 hat (by omega) (by omega) (by omega)) (by omega) (by omega))
  have HBK := Aside0.mk (back.walk A0 c0 l.length A1 c1 g.length n w)
  have HS := Aside0.mk hs
  obtain ⟨xs, hxs⟩ : ∃ xs, xs = mainF l g n := ⟨_, rfl⟩
  rw [← hxs] at HC
  have HX := Aside0.mk hxs
  clear hat hbd hs hr0 hr1 hm hxs
  go_enter Try.func19, Try.ntmps19
  go_wp2_with (go_at_call 47; refine HBK.out.mono ?_; rintro e w1 ⟨rfl, rfl⟩)
  refine HC.out.mono ?_
  rintro e w2 ⟨v, rfl, hr, hb2⟩
  go_wp2
  go_ret
  refine ⟨v, rfl, ?_, hb2⟩
  rw [← HX.out]
  exact Kd.R_lower (scalar_put hr (fun _ _ => trivial)) (by rw [HS.out]; omega)
def order_Mainline.f (l : List SE) (g : List (List Int)) (n : Int) : Option (List Int) := if l.length ≤ 100000 then some (mainF l g n) else none
theorem order_Mainline.calls (A0 : Option Addr) (c0 : Nat) (l0 : List SE) (A1 : Option Addr) (c1 : Nat) (l1 : List (List Int)) (a2 : Int) (r : List Int) (w : World) (hr0 : Kd.C k34 w A0 l0.length l0) (hc0 : l0.length ≤ c0) (hr1 : Kd.C (Kd.slice 3 (Kd.int .i64)) w A1 l1.length l1) (hc1 : l1.length ≤ c1) (h : order_Mainline.f l0 l1 a2 = some r) :
    Calls Try.prog 19 #[.slice A0 l0.length c0, .slice A1 l1.length c1, .int .i64 a2] w fun e w' => ∃ v0_ : Value, e = .returned (v0_) ∧ Kd.R (Kd.int .i64) 3 w' w.heap.size (fun _ => True) v0_ r ∧ Below w.heap.size w w' := by
  unfold order_Mainline.f at h
  split at h
  · obtain rfl := Option.some.inj h
    exact order_Mainline.walk A0 c0 l0 A1 c1 l1 a2 w hr0 hr1 (by assumption)
  · cases h
open Go.Proofs.He
set_option maxHeartbeats 2000000 in
theorem Power.no (a0 a2 a4 a5 a6 a7 a8 a9 a10 a11 a12 a13 a14 : Value) (t : ByteArray) (w : World) : Calls Try.prog 31 #[.agg #[a0, .string t, a2, .bool false, a4, a5, a6, a7, a8, a9, a10, a11, a12, a13, a14]] w fun e w' => e = .returned (.bool false) ∧ Below w.heap.size w w' := by
  have hu34 := Try.underlying34
  have hu32 := Try.underlying32
  go_enter Try.func31, Try.ntmps31
  go_wp2
  go_ret
  exact ⟨rfl, by repeat (first | exact Below.refl _ _ | apply below_alloc | apply below_drew1 | apply pw_below_drewN)⟩
set_option maxHeartbeats 2000000 in
theorem Power.lv (a0 a2 a4 a5 a6 a7 a8 a9 a10 a11 a12 a13 a14 : Value) (t : ByteArray) (w : World) (ht : t.toList = ([109, 46, 114, 111, 111, 109, 46, 112, 111, 119, 101, 114, 95, 108, 101, 118, 101, 108, 115] : List UInt8)) : Calls Try.prog 31 #[.agg #[a0, .string t, a2, .bool true, a4, a5, a6, a7, a8, a9, a10, a11, a12, a13, a14]] w fun e w' => e = .returned (.bool true) ∧ Below w.heap.size w w' := by
  have hu34 := Try.underlying34
  have hu32 := Try.underlying32
  go_enter Try.func31, Try.ntmps31
  go_wp2
  go_ret
  exact ⟨rfl, by repeat (first | exact Below.refl _ _ | apply below_alloc | apply below_drew1 | apply pw_below_drewN)⟩
set_option maxHeartbeats 2000000 in
theorem Power.jr (a0 a2 a4 a5 a6 a7 a8 a9 a10 a11 a12 a13 a14 : Value) (t : ByteArray) (w : World) (ht : t.toList = ([109, 46, 114, 111, 111, 109, 46, 106, 111, 105, 110, 95, 114, 117, 108, 101, 115] : List UInt8)) : Calls Try.prog 31 #[.agg #[a0, .string t, a2, .bool true, a4, a5, a6, a7, a8, a9, a10, a11, a12, a13, a14]] w fun e w' => e = .returned (.bool true) ∧ Below w.heap.size w w' := by
  have hu34 := Try.underlying34
  have hu32 := Try.underlying32
  have hn : (t.toList == ([109, 46, 114, 111, 111, 109, 46, 112, 111, 119, 101, 114, 95, 108, 101, 118, 101, 108, 115] : List UInt8)) = false := by rw [ht]; decide
  go_enter Try.func31, Try.ntmps31
  go_wp2
  go_ret
  exact ⟨rfl, by repeat (first | exact Below.refl _ _ | apply below_alloc | apply below_drew1 | apply pw_below_drewN)⟩
def order_Power.f (a0_0 : ByteArray) (a0_1 : ByteArray) (a0_2 : ByteArray) (a0_3 : Bool) (a0_4 : ByteArray) (a0_5 : ByteArray) (l0_6 : List ByteArray) (l0_7 : List ByteArray) (a0_8 : Int) (a0_9 : Int) (a0_10 : Int) (a0_11 : Int) (a0_12 : ByteArray) (l0_13 : List ByteArray) (l0_14 : List S32) : Option Bool := if a0_3 = true then (if a0_1.toList = ([109, 46, 114, 111, 111, 109, 46, 112, 111, 119, 101, 114, 95, 108, 101, 118, 101, 108, 115] : List UInt8) then some true else if a0_1.toList = ([109, 46, 114, 111, 111, 109, 46, 106, 111, 105, 110, 95, 114, 117, 108, 101, 115] : List UInt8) then some true else none) else some false
theorem order_Power.calls (a0_0 : ByteArray) (a0_1 : ByteArray) (a0_2 : ByteArray) (a0_3 : Bool) (a0_4 : ByteArray) (a0_5 : ByteArray) (A0_6 : Option Addr) (c0_6 : Nat) (l0_6 : List ByteArray) (A0_7 : Option Addr) (c0_7 : Nat) (l0_7 : List ByteArray) (a0_8 : Int) (a0_9 : Int) (a0_10 : Int) (a0_11 : Int) (a0_12 : ByteArray) (A0_13 : Option Addr) (c0_13 : Nat) (l0_13 : List ByteArray) (A0_14 : Option Addr) (c0_14 : Nat) (l0_14 : List S32) (r : Bool) (w : World) (hr0_6 : Kd.C Kd.string w A0_6 l0_6.length l0_6) (hc0_6 : l0_6.length ≤ c0_6) (hr0_7 : Kd.C Kd.string w A0_7 l0_7.length l0_7) (hc0_7 : l0_7.length ≤ c0_7) (hr0_13 : Kd.C Kd.string w A0_13 l0_13.length l0_13) (hc0_13 : l0_13.length ≤ c0_13) (hr0_14 : Kd.C k32 w A0_14 l0_14.length l0_14) (hc0_14 : l0_14.length ≤ c0_14) (h : order_Power.f a0_0 a0_1 a0_2 a0_3 a0_4 a0_5 l0_6 l0_7 a0_8 a0_9 a0_10 a0_11 a0_12 l0_13 l0_14 = some r) :
    Calls Try.prog 31 #[.agg #[.string a0_0, .string a0_1, .string a0_2, .bool a0_3, .string a0_4, .string a0_5, .slice A0_6 l0_6.length c0_6, .slice A0_7 l0_7.length c0_7, .int .i64 a0_8, .int .i64 a0_9, .int .i64 a0_10, .int .i64 a0_11, .string a0_12, .slice A0_13 l0_13.length c0_13, .slice A0_14 l0_14.length c0_14]] w fun e w' => e = .returned (.bool r) ∧ Below w.heap.size w w' := by
  unfold order_Power.f at h
  by_cases h3 : a0_3 = true
  · rw [if_pos h3] at h
    subst h3
    by_cases h1 : a0_1.toList = ([109, 46, 114, 111, 111, 109, 46, 112, 111, 119, 101, 114, 95, 108, 101, 118, 101, 108, 115] : List UInt8)
    · rw [if_pos h1] at h
      obtain rfl := Option.some.inj h
      exact Power.lv _ _ _ _ _ _ _ _ _ _ _ _ _ _ w h1
    · rw [if_neg h1] at h
      by_cases h2 : a0_1.toList = ([109, 46, 114, 111, 111, 109, 46, 106, 111, 105, 110, 95, 114, 117, 108, 101, 115] : List UInt8)
      · rw [if_pos h2] at h
        obtain rfl := Option.some.inj h
        exact Power.jr _ _ _ _ _ _ _ _ _ _ _ _ _ _ w h2
      · rw [if_neg h2] at h
        cases h
  · rw [if_neg h3] at h
    obtain rfl := Option.some.inj h
    obtain rfl := Bool.eq_false_iff.2 h3
    exact Power.no _ _ _ _ _ _ _ _ _ _ _ _ _ _ w
def heliastref12_Same.l0 : Nat → List Int → List Int → Int → Option (Bool)
  | 0, _, _, _ => none
  | k + 1, x0, x1, x5 => if x5 < (x0.length : Int) then (if 0 ≤ x5 then (if x5 < (x1.length : Int) then (if (rd x0 x5) = (rd x1 x5) then (heliastref12_Same.l0 k x0 x1 (wrap64 (x5 + 1))) else (some false)) else (none)) else (none)) else (some true)
def heliastref12_Same.f (k : Nat) (l0 : List Int) (l1 : List Int) : Option (Bool) := if (l0.length : Int) = (l1.length : Int) then (heliastref12_Same.l0 k l0 l1 0) else (some false)
theorem heliastref12_Same.mono_l : ∀ k, (∀ y0 y1 y2, LeO (heliastref12_Same.l0 k y0 y1 y2) (heliastref12_Same.l0 (k + 1) y0 y1 y2))
  | 0 => fun _ _ _ r h => by simp [heliastref12_Same.l0] at h
  | k + 1 => by
    have ih0 := heliastref12_Same.mono_l k
    · intro y0 y1 y2
      unfold heliastref12_Same.l0
      repeat' first
      | (with_reducible exact ih0 _ _ _)
      | (with_reducible exact LeO.refl _)
      | (with_reducible exact LeO.none _)
      | (with_reducible refine LeO.ite ?_ ?_)
      | (with_reducible refine LeO.bind ?_ (fun _ => ?_))
      | exact ih0 _ _ _
      | exact LeO.none _
      | refine LeO.ite ?_ ?_
      | refine LeO.bind ?_ (fun _ => ?_)
theorem heliastref12_Same.mono : ∀ a0 a1 k, LeO (heliastref12_Same.f k a0 a1) (heliastref12_Same.f (k + 1) a0 a1) := by
  intro a0 a1 k
  have ih0 := heliastref12_Same.mono_l k
  unfold heliastref12_Same.f
  repeat' first
      | (with_reducible exact ih0 _ _ _)
      | (with_reducible exact LeO.refl _)
      | (with_reducible exact LeO.none _)
      | (with_reducible refine LeO.ite ?_ ?_)
      | (with_reducible refine LeO.bind ?_ (fun _ => ?_))
      | exact ih0 _ _ _
      | exact LeO.none _
      | refine LeO.ite ?_ ?_
      | refine LeO.bind ?_ (fun _ => ?_)
set_option maxHeartbeats 8000000 in
set_option maxRecDepth 100000 in
theorem heliastref12_Same.calls (k : Nat) (A0 : Option Addr) (c0 : Nat) (l0 : List Int) (A1 : Option Addr) (c1 : Nat) (l1 : List Int) (r : Bool) (w : World) (hr0 : Kd.C (Kd.int .i64) w A0 l0.length l0) (hc0 : l0.length ≤ c0) (hr1 : Kd.C (Kd.int .i64) w A1 l1.length l1) (hc1 : l1.length ≤ c1) (h : heliastref12_Same.f k l0 l1 = some r) :
    Calls Try.prog 33 #[.slice A0 l0.length c0, .slice A1 l1.length c1] w fun e w' => e = .returned (.bool r) ∧ Drawn0 w w' := by
  have HR0 := Aside0.mk hr0
  have HC0 := Aside0.mk hc0
  clear hr0 hc0
  have HR1 := Aside0.mk hr1
  have HC1 := Aside0.mk hc1
  clear hr1 hc1
  have H : (if (l0.length : Int) = (l1.length : Int) then (heliastref12_Same.l0 k l0 l1 0) else (some false)) = some r := h
  clear h
  by_cases c3 : (l0.length : Int) = (l1.length : Int)
  · rw [if_pos c3] at H
    have c3b0 : ((l0.length : Int) == (l1.length : Int)) = true := beq_iff_eq.mpr c3
    have c3b1 : ((l0.length : Int) != (l1.length : Int)) = false := bne_eq_false_iff_eq.mpr c3
    have c3b2 : (l0.length == l1.length) = true := by first | simpa using c3 | (simp at c3 ⊢; omega)
    clear c3
    have H' := Aside0.mk H
    clear H
    go_enter Try.func33, Try.ntmps33
    go_wp2
    repeat (go_quiet (fail); try go_wp2)
    go_loopg [5] k (fun kq v5 w' => ∃ (x5_1 : Int), v5 = .int .i64 x5_1 ∧ Aside0 (heliastref12_Same.l0 kq l0 l1 x5_1 = some r) ∧ Aside0 (kq ≤ k) ∧ Drawn0 w w')
    case atStart => exact ⟨(0), (by first | rfl | (simp; done) | (simp [*]; done)), H', ⟨Nat.le_refl _⟩, by repeat (first | exact Drawn0.refl _ | apply Drawn0.step)⟩
    case round =>
      clear H'
      try clear c1
      try clear p2
      try clear c3
      try clear c3b0
      try clear c3b1
      try clear c3b2
      obtain ⟨x5_1, rfl, HA, HK1, ⟨m1, rfl⟩⟩ := hrel
      cases gk with
      | zero => exact absurd HA.out (by simp [heliastref12_Same.l0])
      | succ k1 =>
        have H := HA.out
        clear HA
        simp only [heliastref12_Same.l0] at H
        by_cases c4 : x5_1 < (l0.length : Int)
        · rw [if_pos c4] at H
          have c4b0 : decide (x5_1 < (l0.length : Int)) = true := decide_eq_true c4
          clear c4
          by_cases c5 : 0 ≤ x5_1
          · rw [if_pos c5] at H
            have c5b0 : decide (0 ≤ x5_1) = true := decide_eq_true c5
            clear c5
            by_cases c6 : x5_1 < (l1.length : Int)
            · rw [if_pos c6] at H
              have c6b0 : decide (x5_1 < (l1.length : Int)) = true := decide_eq_true c6
              clear c6
              by_cases c7 : (rd l0 x5_1) = (rd l1 x5_1)
              · rw [if_pos c7] at H
                have c7b0 : ((rd l0 x5_1) == (rd l1 x5_1)) = true := beq_iff_eq.mpr c7
                have c7b1 : ((rd l0 x5_1) != (rd l1 x5_1)) = false := bne_eq_false_iff_eq.mpr c7
                clear c7
                have H' := Aside0.mk H
                clear H
                have p186 : 0 ≤ (x5_1 : Int) := of_decide_eq_true (by first | (with_reducible assumption) | assumption)
                have q186 : x5_1 < (l0.length : Int) := of_decide_eq_true (by first | (with_reducible assumption) | assumption)
                obtain ⟨ad186, e186, hx186_0⟩ := Kd.at_int HR0.out x5_1 p186 q186
                cases e186
                replace p186 := eq_true p186
                replace q186 := eq_true q186
                have p187 : 0 ≤ (x5_1 : Int) := of_decide_eq_true (by first | (with_reducible assumption) | assumption)
                have q187 : x5_1 < (l1.length : Int) := of_decide_eq_true (by first | (with_reducible assumption) | assumption)
                obtain ⟨ad187, e187, hx187_0⟩ := Kd.at_int HR1.out x5_1 p187 q187
                cases e187
                replace p187 := eq_true p187
                replace q187 := eq_true q187
                go_wp2
                repeat (go_quiet (fail); try go_wp2)
                go_roundg k1
                case measure => have := HK1.out; omega
                case rel => exact ⟨(wrap64 (x5_1 + 1)), (by first | rfl | (simp; done) | (simp [*]; done)), H', ⟨by have := HK1.out; omega⟩, by repeat (first | exact Drawn0.refl _ | apply Drawn0.step)⟩
              · rw [if_neg c7] at H
                have c7b0 : ((rd l0 x5_1) == (rd l1 x5_1)) = false := beq_eq_false_iff_ne.mpr c7
                have c7b1 : ((rd l0 x5_1) != (rd l1 x5_1)) = true := bne_iff_ne.mpr c7
                obtain rfl := Option.some.inj H
                have p186 : 0 ≤ (x5_1 : Int) := of_decide_eq_true (by first | (with_reducible assumption) | assumption)
                have q186 : x5_1 < (l0.length : Int) := of_decide_eq_true (by first | (with_reducible assumption) | assumption)
                obtain ⟨ad186, e186, hx186_0⟩ := Kd.at_int HR0.out x5_1 p186 q186
                cases e186
                replace p186 := eq_true p186
                replace q186 := eq_true q186
                have p187 : 0 ≤ (x5_1 : Int) := of_decide_eq_true (by first | (with_reducible assumption) | assumption)
                have q187 : x5_1 < (l1.length : Int) := of_decide_eq_true (by first | (with_reducible assumption) | assumption)
                obtain ⟨ad187, e187, hx187_0⟩ := Kd.at_int HR1.out x5_1 p187 q187
                cases e187
                replace p187 := eq_true p187
                replace q187 := eq_true q187
                go_wp2
                repeat (go_quiet (fail); try go_wp2)
                go_ret
                exact ⟨by first | rfl | (simp; done) | (simp [*]; done), by repeat (first | exact Drawn0.refl _ | apply Drawn0.step)⟩
            · rw [if_neg c6] at H
              exact absurd H (by simp)
          · rw [if_neg c5] at H
            exact absurd H (by simp)
        · rw [if_neg c4] at H
          have c4b0 : decide (x5_1 < (l0.length : Int)) = false := decide_eq_false c4
          clear c4
          obtain rfl := Option.some.inj H
          go_wp2
          repeat (go_quiet (fail); try go_wp2)
          go_ret
          exact ⟨by first | rfl | (simp; done) | (simp [*]; done), by repeat (first | exact Drawn0.refl _ | apply Drawn0.step)⟩
  · rw [if_neg c3] at H
    have c3b0 : ((l0.length : Int) == (l1.length : Int)) = false := beq_eq_false_iff_ne.mpr c3
    have c3b1 : ((l0.length : Int) != (l1.length : Int)) = true := bne_iff_ne.mpr c3
    have c3b2 : (l0.length == l1.length) = false := by first | simpa using c3 | (simp at c3 ⊢; omega)
    obtain rfl := Option.some.inj H
    go_enter Try.func33, Try.ntmps33
    go_wp2
    repeat (go_quiet (fail); try go_wp2)
    go_ret
    exact ⟨by first | rfl | (simp; done) | (simp [*]; done), by repeat (first | exact Drawn0.refl _ | apply Drawn0.step)⟩
open Go.Proofs.He
def kev17 (ty : ByteArray) (is : Bool) : SEv := ⟨⟨#[]⟩, ty, ⟨#[]⟩, is, ⟨#[]⟩, ⟨#[]⟩, [], [], 0, 0, ⟨0, 0, ⟨#[]⟩, [], []⟩⟩
theorem kev17_fk (W : World) (ty : ByteArray) (is : Bool) : Kd.FK kE W (fun _ => False) (kev17 ty is) [.string ⟨#[]⟩, .string ty, .string ⟨#[]⟩, .bool is, .string ⟨#[]⟩, .string ⟨#[]⟩, .slice none 0 0, .slice none 0 0, .int .i64 0, .int .i64 0, .int .i64 0, .int .i64 0, .string ⟨#[]⟩, .slice none 0 0, .slice none 0 0] :=
  (EF_body (W := W) (ok := fun _ => False) (VF_plain W (fun _ => False) 0 0 ⟨#[]⟩) ty ⟨#[]⟩ ⟨#[]⟩ ⟨#[]⟩ is 0).fk
def kn17l : List SEv := [kev17 ⟨#[109, 46, 114, 111, 111, 109, 46, 112, 111, 119, 101, 114, 95, 108, 101, 118, 101, 108, 115]⟩ true, kev17 ⟨#[116]⟩ false, kev17 ⟨#[109, 46, 114, 111, 111, 109, 46, 112, 111, 119, 101, 114, 95, 108, 101, 118, 101, 108, 115]⟩ true, kev17 ⟨#[109, 46, 114, 111, 111, 109, 46, 112, 111, 119, 101, 114, 95, 108, 101, 118, 101, 108, 115]⟩ true]
def kn17g : List (List Int) := [[], [], [0], [2]]
theorem kn17_main : mainF kn17l kn17g 3 = [3, 2, 0] := by decide +kernel
theorem kn17_by3 : byF kn17l kn17g 3 ⟨#[109, 46, 114, 111, 111, 109, 46, 112, 111, 119, 101, 114, 95, 108, 101, 118, 101, 108, 115]⟩ = 2 := by decide +kernel
theorem kn17_by9 : byF kn17l kn17g 9 ⟨#[109, 46, 114, 111, 111, 109, 46, 112, 111, 119, 101, 114, 95, 108, 101, 118, 101, 108, 115]⟩ = -1 := by decide +kernel
theorem kn17_same : heliastref12_Same.f 9 [3, 2, 0] [3, 2, 0] = some true := by decide +kernel
def kn17W (w : World) : World := (((w.alloc (Obj.cells #[.string ⟨#[]⟩, .string ⟨#[109, 46, 114, 111, 111, 109, 46, 112, 111, 119, 101, 114, 95, 108, 101, 118, 101, 108, 115]⟩, .string ⟨#[]⟩, .bool true, .string ⟨#[]⟩, .string ⟨#[]⟩, .slice none 0 0, .slice none 0 0, .int .i64 0, .int .i64 0, .int .i64 0, .int .i64 0, .string ⟨#[]⟩, .slice none 0 0, .slice none 0 0, .string ⟨#[]⟩, .string ⟨#[116]⟩, .string ⟨#[]⟩, .bool false, .string ⟨#[]⟩, .string ⟨#[]⟩, .slice none 0 0, .slice none 0 0, .int .i64 0, .int .i64 0, .int .i64 0, .int .i64 0, .string ⟨#[]⟩, .slice none 0 0, .slice none 0 0, .string ⟨#[]⟩, .string ⟨#[109, 46, 114, 111, 111, 109, 46, 112, 111, 119, 101, 114, 95, 108, 101, 118, 101, 108, 115]⟩, .string ⟨#[]⟩, .bool true, .string ⟨#[]⟩, .string ⟨#[]⟩, .slice none 0 0, .slice none 0 0, .int .i64 0, .int .i64 0, .int .i64 0, .int .i64 0, .string ⟨#[]⟩, .slice none 0 0, .slice none 0 0, .string ⟨#[]⟩, .string ⟨#[109, 46, 114, 111, 111, 109, 46, 112, 111, 119, 101, 114, 95, 108, 101, 118, 101, 108, 115]⟩, .string ⟨#[]⟩, .bool true, .string ⟨#[]⟩, .string ⟨#[]⟩, .slice none 0 0, .slice none 0 0, .int .i64 0, .int .i64 0, .int .i64 0, .int .i64 0, .string ⟨#[]⟩, .slice none 0 0, .slice none 0 0] 34)).alloc (Obj.cells #[.int .i64 0] 3)).alloc (Obj.cells #[.int .i64 2] 3)).alloc (Obj.cells #[.slice none 0 0, .slice none 0 0, .slice (some ⟨w.heap.size + 1, 0, none⟩) 1 1, .slice (some ⟨w.heap.size + 1 + 1, 0, none⟩) 1 1] 49)
theorem kn17_l (w : World) : Kd.C kE (kn17W w) (some ⟨w.heap.size, 0, none⟩) 4 kn17l := by
  have h := N_litd (d := kE) (e := 34) (W := w) (base := 0) (ok := fun _ => True) (Reps.front (kev17_fk w ⟨#[109, 46, 114, 111, 111, 109, 46, 112, 111, 119, 101, 114, 95, 108, 101, 118, 101, 108, 115]⟩ true) rfl (Reps.front (kev17_fk w ⟨#[116]⟩ false) rfl (Reps.front (kev17_fk w ⟨#[109, 46, 114, 111, 111, 109, 46, 112, 111, 119, 101, 114, 95, 108, 101, 118, 101, 108, 115]⟩ true) rfl (Reps.front (kev17_fk w ⟨#[109, 46, 114, 111, 111, 109, 46, 112, 111, 119, 101, 114, 95, 108, 101, 118, 101, 108, 115]⟩ true) rfl (Reps.none _ _) rfl) rfl) rfl) rfl) (fun _ h => h.elim) trivial (Nat.zero_le _) (by show (4 : Nat) ≤ _; decide)
  exact Kd.C_below (Kd.N_reads' h).2.2 (by unfold kn17W; repeat (first | exact Below.refl _ _ | apply below_alloc))
theorem kn17_g (w : World) : Kd.C kG (kn17W w) (some ⟨w.heap.size + 1 + 1 + 1, 0, none⟩) 4 kn17g := by
  have h1 : (kn17W w).heap[w.heap.size + 1]? = some (Obj.cells #[.int .i64 0] 3) := by
    exact (heap_alloc_old _ _ (by simp <;> omega)).trans ((heap_alloc_old _ _ (by simp)).trans (by have := heap_alloc_new (w.alloc (Obj.cells #[.string ⟨#[]⟩, .string ⟨#[109, 46, 114, 111, 111, 109, 46, 112, 111, 119, 101, 114, 95, 108, 101, 118, 101, 108, 115]⟩, .string ⟨#[]⟩, .bool true, .string ⟨#[]⟩, .string ⟨#[]⟩, .slice none 0 0, .slice none 0 0, .int .i64 0, .int .i64 0, .int .i64 0, .int .i64 0, .string ⟨#[]⟩, .slice none 0 0, .slice none 0 0, .string ⟨#[]⟩, .string ⟨#[116]⟩, .string ⟨#[]⟩, .bool false, .string ⟨#[]⟩, .string ⟨#[]⟩, .slice none 0 0, .slice none 0 0, .int .i64 0, .int .i64 0, .int .i64 0, .int .i64 0, .string ⟨#[]⟩, .slice none 0 0, .slice none 0 0, .string ⟨#[]⟩, .string ⟨#[109, 46, 114, 111, 111, 109, 46, 112, 111, 119, 101, 114, 95, 108, 101, 118, 101, 108, 115]⟩, .string ⟨#[]⟩, .bool true, .string ⟨#[]⟩, .string ⟨#[]⟩, .slice none 0 0, .slice none 0 0, .int .i64 0, .int .i64 0, .int .i64 0, .int .i64 0, .string ⟨#[]⟩, .slice none 0 0, .slice none 0 0, .string ⟨#[]⟩, .string ⟨#[109, 46, 114, 111, 111, 109, 46, 112, 111, 119, 101, 114, 95, 108, 101, 118, 101, 108, 115]⟩, .string ⟨#[]⟩, .bool true, .string ⟨#[]⟩, .string ⟨#[]⟩, .slice none 0 0, .slice none 0 0, .int .i64 0, .int .i64 0, .int .i64 0, .int .i64 0, .string ⟨#[]⟩, .slice none 0 0, .slice none 0 0] 34)) (Obj.cells #[.int .i64 0] 3); rwa [World.size_alloc] at this))
  have h2 : (kn17W w).heap[w.heap.size + 1 + 1]? = some (Obj.cells #[.int .i64 2] 3) := by
    exact (heap_alloc_old _ _ (by simp)).trans (by have := heap_alloc_new ((w.alloc (Obj.cells #[.string ⟨#[]⟩, .string ⟨#[109, 46, 114, 111, 111, 109, 46, 112, 111, 119, 101, 114, 95, 108, 101, 118, 101, 108, 115]⟩, .string ⟨#[]⟩, .bool true, .string ⟨#[]⟩, .string ⟨#[]⟩, .slice none 0 0, .slice none 0 0, .int .i64 0, .int .i64 0, .int .i64 0, .int .i64 0, .string ⟨#[]⟩, .slice none 0 0, .slice none 0 0, .string ⟨#[]⟩, .string ⟨#[116]⟩, .string ⟨#[]⟩, .bool false, .string ⟨#[]⟩, .string ⟨#[]⟩, .slice none 0 0, .slice none 0 0, .int .i64 0, .int .i64 0, .int .i64 0, .int .i64 0, .string ⟨#[]⟩, .slice none 0 0, .slice none 0 0, .string ⟨#[]⟩, .string ⟨#[109, 46, 114, 111, 111, 109, 46, 112, 111, 119, 101, 114, 95, 108, 101, 118, 101, 108, 115]⟩, .string ⟨#[]⟩, .bool true, .string ⟨#[]⟩, .string ⟨#[]⟩, .slice none 0 0, .slice none 0 0, .int .i64 0, .int .i64 0, .int .i64 0, .int .i64 0, .string ⟨#[]⟩, .slice none 0 0, .slice none 0 0, .string ⟨#[]⟩, .string ⟨#[109, 46, 114, 111, 111, 109, 46, 112, 111, 119, 101, 114, 95, 108, 101, 118, 101, 108, 115]⟩, .string ⟨#[]⟩, .bool true, .string ⟨#[]⟩, .string ⟨#[]⟩, .slice none 0 0, .slice none 0 0, .int .i64 0, .int .i64 0, .int .i64 0, .int .i64 0, .string ⟨#[]⟩, .slice none 0 0, .slice none 0 0] 34)).alloc (Obj.cells #[.int .i64 0] 3)) (Obj.cells #[.int .i64 2] 3); rwa [World.size_alloc, World.size_alloc] at this)
  have h3 : (kn17W w).heap[w.heap.size + 1 + 1 + 1]? = some (Obj.cells #[.slice none 0 0, .slice none 0 0, .slice (some ⟨w.heap.size + 1, 0, none⟩) 1 1, .slice (some ⟨w.heap.size + 1 + 1, 0, none⟩) 1 1] 49) := by
    have := heap_alloc_new (((w.alloc (Obj.cells #[.string ⟨#[]⟩, .string ⟨#[109, 46, 114, 111, 111, 109, 46, 112, 111, 119, 101, 114, 95, 108, 101, 118, 101, 108, 115]⟩, .string ⟨#[]⟩, .bool true, .string ⟨#[]⟩, .string ⟨#[]⟩, .slice none 0 0, .slice none 0 0, .int .i64 0, .int .i64 0, .int .i64 0, .int .i64 0, .string ⟨#[]⟩, .slice none 0 0, .slice none 0 0, .string ⟨#[]⟩, .string ⟨#[116]⟩, .string ⟨#[]⟩, .bool false, .string ⟨#[]⟩, .string ⟨#[]⟩, .slice none 0 0, .slice none 0 0, .int .i64 0, .int .i64 0, .int .i64 0, .int .i64 0, .string ⟨#[]⟩, .slice none 0 0, .slice none 0 0, .string ⟨#[]⟩, .string ⟨#[109, 46, 114, 111, 111, 109, 46, 112, 111, 119, 101, 114, 95, 108, 101, 118, 101, 108, 115]⟩, .string ⟨#[]⟩, .bool true, .string ⟨#[]⟩, .string ⟨#[]⟩, .slice none 0 0, .slice none 0 0, .int .i64 0, .int .i64 0, .int .i64 0, .int .i64 0, .string ⟨#[]⟩, .slice none 0 0, .slice none 0 0, .string ⟨#[]⟩, .string ⟨#[109, 46, 114, 111, 111, 109, 46, 112, 111, 119, 101, 114, 95, 108, 101, 118, 101, 108, 115]⟩, .string ⟨#[]⟩, .bool true, .string ⟨#[]⟩, .string ⟨#[]⟩, .slice none 0 0, .slice none 0 0, .int .i64 0, .int .i64 0, .int .i64 0, .int .i64 0, .string ⟨#[]⟩, .slice none 0 0, .slice none 0 0] 34)).alloc (Obj.cells #[.int .i64 0] 3)).alloc (Obj.cells #[.int .i64 2] 3)) (Obj.cells #[.slice none 0 0, .slice none 0 0, .slice (some ⟨w.heap.size + 1, 0, none⟩) 1 1, .slice (some ⟨w.heap.size + 1 + 1, 0, none⟩) 1 1] 49)
    rwa [World.size_alloc, World.size_alloc, World.size_alloc] at this
  refine C_lit_rows (t := 49) [(none, 0, []), (none, 0, []), (some ⟨w.heap.size + 1, 0, none⟩, 1, [0]), (some ⟨w.heap.size + 1 + 1, 0, none⟩, 1, [2])] h3 (fun q hq => ?_) (by simp)
  rcases List.mem_cons.1 hq with rfl | hq
  · exact ⟨Nat.le_refl _, Kd.C_nil _ _⟩
  rcases List.mem_cons.1 hq with rfl | hq
  · exact ⟨Nat.le_refl _, Kd.C_nil _ _⟩
  rcases List.mem_cons.1 hq with rfl | hq
  · exact ⟨Nat.le_refl _, Flat.C_mk (flatScalar _ _) (by show (1 : Nat) ≤ _; decide) (fun j u hj => by rw [add_plain, blk_cell h1]; simpa using hj)⟩
  · rw [List.mem_singleton.1 hq]; exact ⟨Nat.le_refl _, Flat.C_mk (flatScalar _ _) (by show (1 : Nat) ≤ _; decide) (fun j u hj => by rw [add_plain, blk_cell h2]; simpa using hj)⟩
theorem kn17_b (w : World) : Below w.heap.size w (kn17W w) := by unfold kn17W; repeat (first | exact Below.refl _ _ | apply below_alloc)
theorem kn17_c (w : World) : (kn17W w).heap[w.heap.size]? = some (Obj.cells #[.string ⟨#[]⟩, .string ⟨#[109, 46, 114, 111, 111, 109, 46, 112, 111, 119, 101, 114, 95, 108, 101, 118, 101, 108, 115]⟩, .string ⟨#[]⟩, .bool true, .string ⟨#[]⟩, .string ⟨#[]⟩, .slice none 0 0, .slice none 0 0, .int .i64 0, .int .i64 0, .int .i64 0, .int .i64 0, .string ⟨#[]⟩, .slice none 0 0, .slice none 0 0, .string ⟨#[]⟩, .string ⟨#[116]⟩, .string ⟨#[]⟩, .bool false, .string ⟨#[]⟩, .string ⟨#[]⟩, .slice none 0 0, .slice none 0 0, .int .i64 0, .int .i64 0, .int .i64 0, .int .i64 0, .string ⟨#[]⟩, .slice none 0 0, .slice none 0 0, .string ⟨#[]⟩, .string ⟨#[109, 46, 114, 111, 111, 109, 46, 112, 111, 119, 101, 114, 95, 108, 101, 118, 101, 108, 115]⟩, .string ⟨#[]⟩, .bool true, .string ⟨#[]⟩, .string ⟨#[]⟩, .slice none 0 0, .slice none 0 0, .int .i64 0, .int .i64 0, .int .i64 0, .int .i64 0, .string ⟨#[]⟩, .slice none 0 0, .slice none 0 0, .string ⟨#[]⟩, .string ⟨#[109, 46, 114, 111, 111, 109, 46, 112, 111, 119, 101, 114, 95, 108, 101, 118, 101, 108, 115]⟩, .string ⟨#[]⟩, .bool true, .string ⟨#[]⟩, .string ⟨#[]⟩, .slice none 0 0, .slice none 0 0, .int .i64 0, .int .i64 0, .int .i64 0, .int .i64 0, .string ⟨#[]⟩, .slice none 0 0, .slice none 0 0] 34) := by
  exact (heap_alloc_old _ _ (by simp <;> omega)).trans ((heap_alloc_old _ _ (by simp <;> omega)).trans ((heap_alloc_old _ _ (by simp)).trans (heap_alloc_new w _)))
theorem kn17_x {W : World} {g : Nat} (h : W.heap[g]? = some (Obj.cells #[.string ⟨#[]⟩, .string ⟨#[109, 46, 114, 111, 111, 109, 46, 112, 111, 119, 101, 114, 95, 108, 101, 118, 101, 108, 115]⟩, .string ⟨#[]⟩, .bool true, .string ⟨#[]⟩, .string ⟨#[]⟩, .slice none 0 0, .slice none 0 0, .int .i64 0, .int .i64 0, .int .i64 0, .int .i64 0, .string ⟨#[]⟩, .slice none 0 0, .slice none 0 0, .string ⟨#[]⟩, .string ⟨#[116]⟩, .string ⟨#[]⟩, .bool false, .string ⟨#[]⟩, .string ⟨#[]⟩, .slice none 0 0, .slice none 0 0, .int .i64 0, .int .i64 0, .int .i64 0, .int .i64 0, .string ⟨#[]⟩, .slice none 0 0, .slice none 0 0, .string ⟨#[]⟩, .string ⟨#[109, 46, 114, 111, 111, 109, 46, 112, 111, 119, 101, 114, 95, 108, 101, 118, 101, 108, 115]⟩, .string ⟨#[]⟩, .bool true, .string ⟨#[]⟩, .string ⟨#[]⟩, .slice none 0 0, .slice none 0 0, .int .i64 0, .int .i64 0, .int .i64 0, .int .i64 0, .string ⟨#[]⟩, .slice none 0 0, .slice none 0 0, .string ⟨#[]⟩, .string ⟨#[109, 46, 114, 111, 111, 109, 46, 112, 111, 119, 101, 114, 95, 108, 101, 118, 101, 108, 115]⟩, .string ⟨#[]⟩, .bool true, .string ⟨#[]⟩, .string ⟨#[]⟩, .slice none 0 0, .slice none 0 0, .int .i64 0, .int .i64 0, .int .i64 0, .int .i64 0, .string ⟨#[]⟩, .slice none 0 0, .slice none 0 0] 34)) : W.cell? ⟨g, 0, none⟩ = some (.string ⟨#[]⟩) ∧ W.cell? ⟨g, 1, none⟩ = some (.string ⟨#[109, 46, 114, 111, 111, 109, 46, 112, 111, 119, 101, 114, 95, 108, 101, 118, 101, 108, 115]⟩) ∧ W.cell? ⟨g, 2, none⟩ = some (.string ⟨#[]⟩) ∧ W.cell? ⟨g, 3, none⟩ = some (.bool true) ∧ W.cell? ⟨g, 4, none⟩ = some (.string ⟨#[]⟩) ∧ W.cell? ⟨g, 5, none⟩ = some (.string ⟨#[]⟩) ∧ W.cell? ⟨g, 6, none⟩ = some (.slice none 0 0) ∧ W.cell? ⟨g, 7, none⟩ = some (.slice none 0 0) ∧ W.cell? ⟨g, 8, none⟩ = some (.int .i64 0) ∧ W.cell? ⟨g, 9, none⟩ = some (.int .i64 0) ∧ W.cell? ⟨g, 10, none⟩ = some (.int .i64 0) ∧ W.cell? ⟨g, 11, none⟩ = some (.int .i64 0) ∧ W.cell? ⟨g, 12, none⟩ = some (.string ⟨#[]⟩) ∧ W.cell? ⟨g, 13, none⟩ = some (.slice none 0 0) ∧ W.cell? ⟨g, 14, none⟩ = some (.slice none 0 0) ∧ W.cell? ⟨g, 15, none⟩ = some (.string ⟨#[]⟩) ∧ W.cell? ⟨g, 16, none⟩ = some (.string ⟨#[116]⟩) ∧ W.cell? ⟨g, 17, none⟩ = some (.string ⟨#[]⟩) ∧ W.cell? ⟨g, 18, none⟩ = some (.bool false) ∧ W.cell? ⟨g, 19, none⟩ = some (.string ⟨#[]⟩) ∧ W.cell? ⟨g, 20, none⟩ = some (.string ⟨#[]⟩) ∧ W.cell? ⟨g, 21, none⟩ = some (.slice none 0 0) ∧ W.cell? ⟨g, 22, none⟩ = some (.slice none 0 0) ∧ W.cell? ⟨g, 23, none⟩ = some (.int .i64 0) ∧ W.cell? ⟨g, 24, none⟩ = some (.int .i64 0) ∧ W.cell? ⟨g, 25, none⟩ = some (.int .i64 0) ∧ W.cell? ⟨g, 26, none⟩ = some (.int .i64 0) ∧ W.cell? ⟨g, 27, none⟩ = some (.string ⟨#[]⟩) ∧ W.cell? ⟨g, 28, none⟩ = some (.slice none 0 0) ∧ W.cell? ⟨g, 29, none⟩ = some (.slice none 0 0) := ⟨blk_cell h 0, blk_cell h 1, blk_cell h 2, blk_cell h 3, blk_cell h 4, blk_cell h 5, blk_cell h 6, blk_cell h 7, blk_cell h 8, blk_cell h 9, blk_cell h 10, blk_cell h 11, blk_cell h 12, blk_cell h 13, blk_cell h 14, blk_cell h 15, blk_cell h 16, blk_cell h 17, blk_cell h 18, blk_cell h 19, blk_cell h 20, blk_cell h 21, blk_cell h 22, blk_cell h 23, blk_cell h 24, blk_cell h 25, blk_cell h 26, blk_cell h 27, blk_cell h 28, blk_cell h 29⟩
set_option maxHeartbeats 2000000 in
set_option maxRecDepth 100000 in
theorem law17_known.walk (w : World) : Calls Try.prog 21 #[] w fun e w' => e = .returned (.bool true) ∧ Below w.heap.size w w' := by
  have hu34 := Try.underlying34
  have hl := kn17_l w
  have hg := kn17_g w
  obtain ⟨W3, hW3⟩ : ∃ W3, W3 = kn17W w := ⟨_, rfl⟩
  have hc := kn17_c w
  have hb := kn17_b w
  rw [← hW3] at hl hg hc hb
  have HB := Aside0.mk hb
  have HML : Aside0 (∀ W, Below W3.heap.size W3 W → Calls Try.prog 19 #[.slice (some ⟨w.heap.size, 0, none⟩) 4 4, .slice (some ⟨w.heap.size + 1 + 1 + 1, 0, none⟩) 4 4, .int .i64 3] W fun e w' => ∃ (A : Option Addr) (c : Nat), e = .returned (.slice A 3 c) ∧ 3 ≤ c ∧ (Kd.int .i64).C w' A 3 [3, 2, 0] ∧ Below W.heap.size W w') := ⟨fun W hW => (order_Mainline.walk _ 4 kn17l _ 4 kn17g 3 W (Kd.C_below hl hW) (Kd.C_below hg hW) (by decide)).mono (by
    rintro e w' ⟨v, rfl, hr, hb⟩
    rw [kn17_main] at hr
    obtain ⟨A, c, rfl, h1, h2⟩ := Kd.R_reads hr
    exact ⟨A, c, rfl, h1, h2, hb⟩)⟩
  have HSM : Aside0 (∀ (W : World) (A : Option Addr) (c b : Nat), (Kd.int .i64).C W A 3 [3, 2, 0] → 3 ≤ c → W.heap[b]? = some (Obj.cells #[.int .i64 3, .int .i64 2, .int .i64 0] 3) → Calls Try.prog 33 #[.slice A 3 c, .slice (some ⟨b, 0, none⟩) 3 3] W fun e w' => e = .returned (.bool true) ∧ Below W.heap.size W w') := ⟨fun W A c b hA hc hg => (heliastref12_Same.calls 9 A c [3, 2, 0] _ 3 [3, 2, 0] true _ hA hc (Flat.C_mk (flatScalar _ _) (by decide) (fun j u hj => by
    rw [add_plain, blk_cell hg]
    simpa using hj)) (by decide) kn17_same).mono (fun e w' h => ⟨h.1, h.2.below⟩)⟩
  have HP0 : Aside0 (∀ W : World, Calls Try.prog 31 #[.agg #[.string ⟨#[]⟩, .string ⟨#[109, 46, 114, 111, 111, 109, 46, 112, 111, 119, 101, 114, 95, 108, 101, 118, 101, 108, 115]⟩, .string ⟨#[]⟩, .bool true, .string ⟨#[]⟩, .string ⟨#[]⟩, .slice none 0 0, .slice none 0 0, .int .i64 0, .int .i64 0, .int .i64 0, .int .i64 0, .string ⟨#[]⟩, .slice none 0 0, .slice none 0 0]] W fun e w' => e = .returned (.bool true) ∧ Below W.heap.size W w') := ⟨fun W => Power.lv _ _ _ _ _ _ _ _ _ _ _ _ _ _ W (by decide +kernel)⟩
  have HP1 : Aside0 (∀ W : World, Calls Try.prog 31 #[.agg #[.string ⟨#[]⟩, .string ⟨#[116]⟩, .string ⟨#[]⟩, .bool false, .string ⟨#[]⟩, .string ⟨#[]⟩, .slice none 0 0, .slice none 0 0, .int .i64 0, .int .i64 0, .int .i64 0, .int .i64 0, .string ⟨#[]⟩, .slice none 0 0, .slice none 0 0]] W fun e w' => e = .returned (.bool false) ∧ Below W.heap.size W w') := ⟨fun W => Power.no _ _ _ _ _ _ _ _ _ _ _ _ _ _ W⟩
  have HB3 : Aside0 (∀ W, Below W3.heap.size W3 W → Calls Try.prog 20 #[.slice (some ⟨w.heap.size, 0, none⟩) 4 4, .slice (some ⟨w.heap.size + 1 + 1 + 1, 0, none⟩) 4 4, .int .i64 3, .string ⟨#[109, 46, 114, 111, 111, 109, 46, 112, 111, 119, 101, 114, 95, 108, 101, 118, 101, 108, 115]⟩] W fun e w' => e = .returned (.int .i64 2) ∧ Below W.heap.size W w') := ⟨fun W hW => (order_By.walk _ 4 kn17l _ 4 kn17g 3 ⟨#[109, 46, 114, 111, 111, 109, 46, 112, 111, 119, 101, 114, 95, 108, 101, 118, 101, 108, 115]⟩ W (Kd.C_below hl hW) (Kd.C_below hg hW)).mono (by rintro e w' ⟨rfl, rfl⟩; rw [kn17_by3]; exact ⟨rfl, Below.refl _ _⟩)⟩
  have HB9 : Aside0 (∀ W, Below W3.heap.size W3 W → Calls Try.prog 20 #[.slice (some ⟨w.heap.size, 0, none⟩) 4 4, .slice (some ⟨w.heap.size + 1 + 1 + 1, 0, none⟩) 4 4, .int .i64 9, .string ⟨#[109, 46, 114, 111, 111, 109, 46, 112, 111, 119, 101, 114, 95, 108, 101, 118, 101, 108, 115]⟩] W fun e w' => e = .returned (.int .i64 (-1)) ∧ Below W.heap.size W w') := ⟨fun W hW => (order_By.walk _ 4 kn17l _ 4 kn17g 9 ⟨#[109, 46, 114, 111, 111, 109, 46, 112, 111, 119, 101, 114, 95, 108, 101, 118, 101, 108, 115]⟩ W (Kd.C_below hl hW) (Kd.C_below hg hW)).mono (by rintro e w' ⟨rfl, rfl⟩; rw [kn17_by9]; exact ⟨rfl, Below.refl _ _⟩)⟩
  have HC := Aside0.mk hc
  have HSZ := Aside0.mk (blk_lt hc)
  have HW3 := Aside0.mk hW3
  clear hl hg hb hc hW3
  go_enter Try.func21, Try.ntmps21
  go_upto_region 3 with fail
  change Code.wp _ _ _ _ (kn17W w)
  rw [← HW3.out]
  go_wp2_with (first
    | (go_at_call 19; refine (HML.out _ (Below.refl _ _)).mono ?_; rintro e W4 ⟨A4, c4, rfl, hc4, hC4, hb4⟩; have HC4 := Aside0.mk hC4; have HCC4 := Aside0.mk hc4; have HB4 := Aside0.mk hb4; clear hb4 hC4 hc4)
    | (go_at_call 33; refine (HSM.out _ A4 c4 W4.heap.size (Kd.C_below HC4.out (below_alloc (Below.refl _ _) _)) HCC4.out (heap_alloc_new W4 _)).mono ?_; rintro e W6 ⟨rfl, hb6⟩; have HB5 := Aside0.mk (HB4.out.alloc HB4.out.size (Obj.cells #[.int .i64 3, .int .i64 2, .int .i64 0] 3)); have HB6 := Aside0.mk (below_then HB5.out HB5.out.size hb6); clear hb6; obtain ⟨x0, x1, x2, x3, x4, x5, x6, x7, x8, x9, x10, x11, x12, x13, x14, x15, x16, x17, x18, x19, x20, x21, x22, x23, x24, x25, x26, x27, x28, x29⟩ := kn17_x (((HB6.out).block _ HSZ.out).trans HC.out))
    | (go_at_call 31; (with_reducible refine (HP0.out _).mono ?_); rintro e W7 ⟨rfl, hb7⟩; clear x0 x1 x2 x3 x4 x5 x6 x7 x8 x9 x10 x11 x12 x13 x14 x15 x16 x17 x18 x19 x20 x21 x22 x23 x24 x25 x26 x27 x28 x29; have HB7 := Aside0.mk (below_then HB6.out HB6.out.size hb7); clear hb7; obtain ⟨x0, x1, x2, x3, x4, x5, x6, x7, x8, x9, x10, x11, x12, x13, x14, x15, x16, x17, x18, x19, x20, x21, x22, x23, x24, x25, x26, x27, x28, x29⟩ := kn17_x (((HB7.out).block _ HSZ.out).trans HC.out))
    | (go_at_call 31; (with_reducible refine (HP1.out _).mono ?_); rintro e W8 ⟨rfl, hb8⟩; have HB8 := Aside0.mk (below_then HB7.out HB7.out.size hb8); clear hb8; clear x0 x1 x2 x3 x4 x5 x6 x7 x8 x9 x10 x11 x12 x13 x14 x15 x16 x17 x18 x19 x20 x21 x22 x23 x24 x25 x26 x27 x28 x29)
    | (go_at_call 20; (with_reducible refine (HB3.out _ HB8.out).mono ?_); rintro e W9 ⟨rfl, hb9⟩; have HB9x := Aside0.mk (below_then HB8.out HB8.out.size hb9); clear hb9)
    | (go_at_call 20; (with_reducible refine (HB9.out _ HB9x.out).mono ?_); rintro e W10 ⟨rfl, hb10⟩; have HB10 := Aside0.mk (below_then HB9x.out HB9x.out.size hb10); clear hb10))
  go_ret
  exact ⟨rfl, below_then HB.out HB.out.size HB10.out⟩
def heliastlaw17_known.f : Option Bool := some true
theorem heliastlaw17_known.calls (r : Bool) (w : World) (h : heliastlaw17_known.f = some r) :
    Calls Try.prog 21 #[] w fun e w' => e = .returned (.bool r) ∧ Below w.heap.size w w' := by
  obtain rfl := Option.some.inj h
  exact law17_known.walk w
end Go.Proofs.Ytmdjknkhjimgeaa.S
end

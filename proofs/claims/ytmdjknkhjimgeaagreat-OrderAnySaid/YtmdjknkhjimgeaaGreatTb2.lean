/- Parts of the walk and of the plain law, joined for this claim alone by a program of this session. -/
import Derived.Test.YtmdjknkhjimgeaaGreatTb1
import Derived.Test.YtmdjknkhjimgeaaGreatTb0
section
namespace Go.Proofs.YtmdjknkhjimgeaaGreat.S
open Go.RowKit Go.Proofs.YtmdjknkhjimgeaaGreatW.PrintWords Go.Proofs.YtmdjknkhjimgeaaGreatW.PrintLast Go.Proofs.YtmdjknkhjimgeaaGreatW.PrintMore
attribute [local go_sem] max2_int min2_int max_two min_two max_three min_three max_four min_four
set_option linter.unusedVariables false
set_option linter.unusedSimpArgs false
def heliastref15_Slots.j0 : Nat → List (S122) → Bool → ByteArray → ByteArray → ByteArray → Bool → ByteArray → ByteArray → List ByteArray → List ByteArray → Int → Int → Int → Int → ByteArray → List ByteArray → List (S48) → Option ((List (S122)))
  | 0, _, _, _, _, _, _, _, _, _, _, _, _, _, _, _, _, _ => none
  | k + 1, x3, x22, x121000, x121001, x121002, x121003, x121004, x121005, x121006, x121007, x121008, x121009, x121010, x121011, x121012, x121013, x121014 => if x22 = true then (some x3) else (if x121002.toList = x121004.toList then ((heliastref15_text.f k x121000 x121001 x121002 x121003 x121004 x121005 x121006 x121007 x121008 x121009 x121010 x121011 x121012 x121013 x121014 (⟨#[109, 101, 109, 98, 101, 114, 115, 104, 105, 112]⟩ : ByteArray)).bind fun bt124 => (if bt124.1.toList = ([106, 111, 105, 110] : List UInt8) then (if x3.length < 4398046511104 then (some (x3 ++ [(⟨(⟨#[109, 46, 114, 111, 111, 109, 46, 106, 111, 105, 110, 95, 114, 117, 108, 101, 115]⟩ : ByteArray), (⟨#[]⟩ : ByteArray)⟩ : S122)])) else (none)) else (if bt124.1.toList = ([105, 110, 118, 105, 116, 101] : List UInt8) then (if x3.length < 4398046511104 then (some (x3 ++ [(⟨(⟨#[109, 46, 114, 111, 111, 109, 46, 106, 111, 105, 110, 95, 114, 117, 108, 101, 115]⟩ : ByteArray), (⟨#[]⟩ : ByteArray)⟩ : S122)])) else (none)) else (some x3)))) else (if x3.length < 4398046511104 then ((some (x3 ++ [(⟨(⟨#[109, 46, 114, 111, 111, 109, 46, 109, 101, 109, 98, 101, 114]⟩ : ByteArray), x121002⟩ : S122)] : List (S122))).bind fun y132 => ((heliastref15_text.f k x121000 x121001 x121002 x121003 x121004 x121005 x121006 x121007 x121008 x121009 x121010 x121011 x121012 x121013 x121014 (⟨#[109, 101, 109, 98, 101, 114, 115, 104, 105, 112]⟩ : ByteArray)).bind fun bt135 => (if bt135.1.toList = ([106, 111, 105, 110] : List UInt8) then (if y132.length < 4398046511104 then (some (y132 ++ [(⟨(⟨#[109, 46, 114, 111, 111, 109, 46, 106, 111, 105, 110, 95, 114, 117, 108, 101, 115]⟩ : ByteArray), (⟨#[]⟩ : ByteArray)⟩ : S122)])) else (none)) else (if bt135.1.toList = ([105, 110, 118, 105, 116, 101] : List UInt8) then (if y132.length < 4398046511104 then (some (y132 ++ [(⟨(⟨#[109, 46, 114, 111, 111, 109, 46, 106, 111, 105, 110, 95, 114, 117, 108, 101, 115]⟩ : ByteArray), (⟨#[]⟩ : ByteArray)⟩ : S122)])) else (none)) else (some y132))))) else (none)))
def heliastref15_Slots.f (k : Nat) (a0_0 : ByteArray) (a0_1 : ByteArray) (a0_2 : ByteArray) (a0_3 : Bool) (a0_4 : ByteArray) (a0_5 : ByteArray) (l0_6 : List ByteArray) (l0_7 : List ByteArray) (a0_8 : Int) (a0_9 : Int) (a0_10 : Int) (a0_11 : Int) (a0_12 : ByteArray) (l0_13 : List ByteArray) (l0_14 : List (S48)) : Option ((List (S122))) := if a0_1.toList = ([109, 46, 114, 111, 111, 109, 46, 99, 114, 101, 97, 116, 101] : List UInt8) then (some ([] : List (S122))) else ((some (([(⟨(⟨#[109, 46, 114, 111, 111, 109, 46, 99, 114, 101, 97, 116, 101]⟩ : ByteArray), (⟨#[]⟩ : ByteArray)⟩ : S122), (⟨(⟨#[109, 46, 114, 111, 111, 109, 46, 112, 111, 119, 101, 114, 95, 108, 101, 118, 101, 108, 115]⟩ : ByteArray), (⟨#[]⟩ : ByteArray)⟩ : S122), (⟨(⟨#[109, 46, 114, 111, 111, 109, 46, 109, 101, 109, 98, 101, 114]⟩ : ByteArray), a0_4⟩ : S122)] : List (S122)) : List (S122))).bind fun y121 => (if a0_1.toList = ([109, 46, 114, 111, 111, 109, 46, 109, 101, 109, 98, 101, 114] : List UInt8) then (heliastref15_Slots.j0 k y121 (!a0_3) a0_0 a0_1 a0_2 a0_3 a0_4 a0_5 l0_6 l0_7 a0_8 a0_9 a0_10 a0_11 a0_12 l0_13 l0_14) else (heliastref15_Slots.j0 k y121 true a0_0 a0_1 a0_2 a0_3 a0_4 a0_5 l0_6 l0_7 a0_8 a0_9 a0_10 a0_11 a0_12 l0_13 l0_14)))
set_option maxHeartbeats 8000000 in
set_option maxRecDepth 100000 in
theorem heliastref15_Slots.calls (k : Nat) (a0_0 : ByteArray) (a0_1 : ByteArray) (a0_2 : ByteArray) (a0_3 : Bool) (a0_4 : ByteArray) (a0_5 : ByteArray) (A0_6 : Option Addr) (c0_6 : Nat) (l0_6 : List ByteArray) (A0_7 : Option Addr) (c0_7 : Nat) (l0_7 : List ByteArray) (a0_8 : Int) (a0_9 : Int) (a0_10 : Int) (a0_11 : Int) (a0_12 : ByteArray) (A0_13 : Option Addr) (c0_13 : Nat) (l0_13 : List ByteArray) (A0_14 : Option Addr) (c0_14 : Nat) (l0_14 : List (S48)) (r : List (S122)) (w : World) (hr0_6 : Kd.C Kd.string w A0_6 l0_6.length l0_6) (hc0_6 : l0_6.length ≤ c0_6) (hr0_7 : Kd.C Kd.string w A0_7 l0_7.length l0_7) (hc0_7 : l0_7.length ≤ c0_7) (hr0_13 : Kd.C Kd.string w A0_13 l0_13.length l0_13) (hc0_13 : l0_13.length ≤ c0_13) (hr0_14 : Kd.C k48 w A0_14 l0_14.length l0_14) (hc0_14 : l0_14.length ≤ c0_14) (h : heliastref15_Slots.f k a0_0 a0_1 a0_2 a0_3 a0_4 a0_5 l0_6 l0_7 a0_8 a0_9 a0_10 a0_11 a0_12 l0_13 l0_14 = some r) :
    Calls Tryz.prog 97 #[.agg #[.string a0_0, .string a0_1, .string a0_2, .bool a0_3, .string a0_4, .string a0_5, .slice A0_6 l0_6.length c0_6, .slice A0_7 l0_7.length c0_7, .int .i64 a0_8, .int .i64 a0_9, .int .i64 a0_10, .int .i64 a0_11, .string a0_12, .slice A0_13 l0_13.length c0_13, .slice A0_14 l0_14.length c0_14]] w fun e w' => ∃ v0_ : Value, e = .returned (v0_) ∧ Kd.R k122 122 w' w.heap.size (fun _ => True) v0_ r ∧ Below w.heap.size w w' := by
  have hu50 := Tryz.underlying50
  have hu122 := Tryz.underlying122
  have HR0_6 := Aside0.mk hr0_6
  have HC0_6 := Aside0.mk hc0_6
  clear hr0_6 hc0_6
  have HR0_7 := Aside0.mk hr0_7
  have HC0_7 := Aside0.mk hc0_7
  clear hr0_7 hc0_7
  have HR0_13 := Aside0.mk hr0_13
  have HC0_13 := Aside0.mk hc0_13
  clear hr0_13 hc0_13
  have HR0_14 := Aside0.mk hr0_14
  have HC0_14 := Aside0.mk hc0_14
  clear hr0_14 hc0_14
  have HB := Aside0.mk (Below.refl w.heap.size w)
  have H : (if a0_1.toList = ([109, 46, 114, 111, 111, 109, 46, 99, 114, 101, 97, 116, 101] : List UInt8) then (some ([] : List (S122))) else ((some (([(⟨(⟨#[109, 46, 114, 111, 111, 109, 46, 99, 114, 101, 97, 116, 101]⟩ : ByteArray), (⟨#[]⟩ : ByteArray)⟩ : S122), (⟨(⟨#[109, 46, 114, 111, 111, 109, 46, 112, 111, 119, 101, 114, 95, 108, 101, 118, 101, 108, 115]⟩ : ByteArray), (⟨#[]⟩ : ByteArray)⟩ : S122), (⟨(⟨#[109, 46, 114, 111, 111, 109, 46, 109, 101, 109, 98, 101, 114]⟩ : ByteArray), a0_4⟩ : S122)] : List (S122)) : List (S122))).bind fun y121 => (if a0_1.toList = ([109, 46, 114, 111, 111, 109, 46, 109, 101, 109, 98, 101, 114] : List UInt8) then (heliastref15_Slots.j0 k y121 (!a0_3) a0_0 a0_1 a0_2 a0_3 a0_4 a0_5 l0_6 l0_7 a0_8 a0_9 a0_10 a0_11 a0_12 l0_13 l0_14) else (heliastref15_Slots.j0 k y121 true a0_0 a0_1 a0_2 a0_3 a0_4 a0_5 l0_6 l0_7 a0_8 a0_9 a0_10 a0_11 a0_12 l0_13 l0_14)))) = some r := h
  clear h
  by_cases c2 : a0_1.toList = ([109, 46, 114, 111, 111, 109, 46, 99, 114, 101, 97, 116, 101] : List UInt8)
  · rw [if_pos c2] at H
    have c2b0 : (a0_1.toList == ([109, 46, 114, 111, 111, 109, 46, 99, 114, 101, 97, 116, 101] : List UInt8)) = true := beq_iff_eq.mpr c2
    have c2b1 : (a0_1.toList != ([109, 46, 114, 111, 111, 109, 46, 99, 114, 101, 97, 116, 101] : List UInt8)) = false := bne_eq_false_iff_eq.mpr c2
    clear c2
    obtain rfl := Option.some.inj H
    go_enter Tryz.func97, Tryz.ntmps97
    go_wp2_with (first | ((with_reducible refine gate_dst (N := 1) rfl ?_); refine box_event ?hg (N := 1) ?hd (cs := #[.string a0_0, .string a0_1, .string a0_2, .bool a0_3, .string a0_4, .string a0_5, .slice A0_6 l0_6.length c0_6, .slice A0_7 l0_7.length c0_7, .int .i64 a0_8, .int .i64 a0_9, .int .i64 a0_10, .int .i64 a0_11, .string a0_12, .slice A0_13 l0_13.length c0_13, .slice A0_14 l0_14.length c0_14]) (t := 50) ?hr ?_; (case hd => rfl); (case hg => rfl); (case hr => first | (go_simp; done) | (go_simp; rfl)); intro gb120 hg w3 hbox hb; have n0_ := Aside0.mk (below_step (by repeat (first | (with_reducible first | exact HB.out | apply below_alloc | apply pw_below_drewN | apply below_drew1) | exact HB.out)) hb); have n1_ := Aside0.mk (hbox); have n2_ := Aside0.mk ((by rw [hg]; exact (below_size (by repeat (first | (with_reducible first | exact HB.out | apply below_alloc | apply pw_below_drewN | apply below_drew1) | exact HB.out))) : w.heap.size ≤ gb120)); have n3_ := Aside0.mk ((by rw [hg]; exact (below_size (by repeat (first | (with_reducible first | exact HB.out | apply below_alloc | apply pw_below_drewN | apply below_drew1) | exact HB.out))) : w.heap.size ≤ gb120)); clear HB; have HB := n0_; have BK120 := n1_; have GW120 := n2_; have GE120 := n3_; clear n0_ n1_ n2_ n3_; clear hb hbox hg; have hcz4_0 : w3.cell? ⟨gb120, 0, none⟩ = some (.string a0_0) := (blk_cell BK120.out 0).trans rfl; have hcz4_1 : w3.cell? ⟨gb120, 1, none⟩ = some (.string a0_1) := (blk_cell BK120.out 1).trans rfl; have hcz4_2 : w3.cell? ⟨gb120, 2, none⟩ = some (.string a0_2) := (blk_cell BK120.out 2).trans rfl; have hcz4_3 : w3.cell? ⟨gb120, 3, none⟩ = some (.bool a0_3) := (blk_cell BK120.out 3).trans rfl; have hcz4_4 : w3.cell? ⟨gb120, 4, none⟩ = some (.string a0_4) := (blk_cell BK120.out 4).trans rfl; have hcz4_5 : w3.cell? ⟨gb120, 5, none⟩ = some (.string a0_5) := (blk_cell BK120.out 5).trans rfl; have hcz4_6 : w3.cell? ⟨gb120, 6, none⟩ = some (.slice A0_6 l0_6.length c0_6) := (blk_cell BK120.out 6).trans rfl; have hcz4_7 : w3.cell? ⟨gb120, 7, none⟩ = some (.slice A0_7 l0_7.length c0_7) := (blk_cell BK120.out 7).trans rfl; have hcz4_8 : w3.cell? ⟨gb120, 8, none⟩ = some (.int .i64 a0_8) := (blk_cell BK120.out 8).trans rfl; have hcz4_9 : w3.cell? ⟨gb120, 9, none⟩ = some (.int .i64 a0_9) := (blk_cell BK120.out 9).trans rfl; have hcz4_10 : w3.cell? ⟨gb120, 10, none⟩ = some (.int .i64 a0_10) := (blk_cell BK120.out 10).trans rfl; have hcz4_11 : w3.cell? ⟨gb120, 11, none⟩ = some (.int .i64 a0_11) := (blk_cell BK120.out 11).trans rfl; have hcz4_12 : w3.cell? ⟨gb120, 12, none⟩ = some (.string a0_12) := (blk_cell BK120.out 12).trans rfl; have hcz4_13 : w3.cell? ⟨gb120, 13, none⟩ = some (.slice A0_13 l0_13.length c0_13) := (blk_cell BK120.out 13).trans rfl; have hcz4_14 : w3.cell? ⟨gb120, 14, none⟩ = some (.slice A0_14 l0_14.length c0_14) := (blk_cell BK120.out 14).trans rfl; have hfz4_0 := blk_frozen BK120.out 0; have hfz4_1 := blk_frozen BK120.out 1; have hfz4_2 := blk_frozen BK120.out 2; have hfz4_3 := blk_frozen BK120.out 3; have hfz4_4 := blk_frozen BK120.out 4; have hfz4_5 := blk_frozen BK120.out 5; have hfz4_6 := blk_frozen BK120.out 6; have hfz4_7 := blk_frozen BK120.out 7; have hfz4_8 := blk_frozen BK120.out 8; have hfz4_9 := blk_frozen BK120.out 9; have hfz4_10 := blk_frozen BK120.out 10; have hfz4_11 := blk_frozen BK120.out 11; have hfz4_12 := blk_frozen BK120.out 12; have hfz4_13 := blk_frozen BK120.out 13; have hfz4_14 := blk_frozen BK120.out 14))
    go_ret
    exact ⟨_, by first | rfl | (simp [errW_none, errW_some] <;> rfl) | (simp [*, errW_none, errW_some] <;> rfl), by first | exact Kd.R_nil _ _ _ _ _ | exact Kd.N_nil _ _ _ _ _ | exact Kd.V_nil _ _ _ _ _ | exact Kd.Q_nil _ _ _ _ _ | exact Kd.S_nil _ _ _ _ _, by repeat (first | (with_reducible first | exact HB.out | apply below_alloc | apply pw_below_drewN | apply below_drew1 | refine below_set ?_ GE120.out) | exact HB.out)⟩
  · rw [if_neg c2] at H
    have c2b0 : (a0_1.toList == ([109, 46, 114, 111, 111, 109, 46, 99, 114, 101, 97, 116, 101] : List UInt8)) = false := beq_eq_false_iff_ne.mpr c2
    have c2b1 : (a0_1.toList != ([109, 46, 114, 111, 111, 109, 46, 99, 114, 101, 97, 116, 101] : List UInt8)) = true := bne_iff_ne.mpr c2
    obtain ⟨y121, hy121⟩ : ∃ y_ : List (S122), y_ = (([(⟨(⟨#[109, 46, 114, 111, 111, 109, 46, 99, 114, 101, 97, 116, 101]⟩ : ByteArray), (⟨#[]⟩ : ByteArray)⟩ : S122), (⟨(⟨#[109, 46, 114, 111, 111, 109, 46, 112, 111, 119, 101, 114, 95, 108, 101, 118, 101, 108, 115]⟩ : ByteArray), (⟨#[]⟩ : ByteArray)⟩ : S122), (⟨(⟨#[109, 46, 114, 111, 111, 109, 46, 109, 101, 109, 98, 101, 114]⟩ : ByteArray), a0_4⟩ : S122)] : List (S122))) := ⟨_, rfl⟩
    replace H : (if a0_1.toList = ([109, 46, 114, 111, 111, 109, 46, 109, 101, 109, 98, 101, 114] : List UInt8) then (heliastref15_Slots.j0 k y121 (!a0_3) a0_0 a0_1 a0_2 a0_3 a0_4 a0_5 l0_6 l0_7 a0_8 a0_9 a0_10 a0_11 a0_12 l0_13 l0_14) else (heliastref15_Slots.j0 k y121 true a0_0 a0_1 a0_2 a0_3 a0_4 a0_5 l0_6 l0_7 a0_8 a0_9 a0_10 a0_11 a0_12 l0_13 l0_14)) = some r := by first | (rw [hy121]; with_reducible exact H) | (have H2_ := (Option.bind_some _ _).symm.trans H; rw [hy121]; with_reducible exact H2_) | (have H2_ := (Option.bind_some _ _).symm.trans H; with_reducible exact H2_) | with_reducible exact H | (rw [hy121]; exact H) | exact H
    have Ny121 := Aside0.mk hy121
    clear hy121
    have HC5 := Aside0.mk H
    clear H
    go_enter Tryz.func97, Tryz.ntmps97
    go_upto_region 4 with (first | ((with_reducible refine gate_dst (N := 1) rfl ?_); refine box_event ?hg (N := 1) ?hd (cs := #[.string a0_0, .string a0_1, .string a0_2, .bool a0_3, .string a0_4, .string a0_5, .slice A0_6 l0_6.length c0_6, .slice A0_7 l0_7.length c0_7, .int .i64 a0_8, .int .i64 a0_9, .int .i64 a0_10, .int .i64 a0_11, .string a0_12, .slice A0_13 l0_13.length c0_13, .slice A0_14 l0_14.length c0_14]) (t := 50) ?hr ?_; (case hd => rfl); (case hg => rfl); (case hr => first | (go_simp; done) | (go_simp; rfl)); intro gb120 hg w6 hbox hb; have n0_ := Aside0.mk (below_step (by repeat (first | (with_reducible first | exact HB.out | apply below_alloc | apply pw_below_drewN | apply below_drew1) | exact HB.out)) hb); have n1_ := Aside0.mk (hbox); have n2_ := Aside0.mk ((by rw [hg]; exact (below_size (by repeat (first | (with_reducible first | exact HB.out | apply below_alloc | apply pw_below_drewN | apply below_drew1) | exact HB.out))) : w.heap.size ≤ gb120)); have n3_ := Aside0.mk ((by rw [hg]; exact (below_size (by repeat (first | (with_reducible first | exact HB.out | apply below_alloc | apply pw_below_drewN | apply below_drew1) | exact HB.out))) : w.heap.size ≤ gb120)); clear HB; have HB := n0_; have BK120 := n1_; have GW120 := n2_; have GE120 := n3_; clear n0_ n1_ n2_ n3_; clear hb hbox hg; have hcz7_0 : w6.cell? ⟨gb120, 0, none⟩ = some (.string a0_0) := (blk_cell BK120.out 0).trans rfl; have hcz7_1 : w6.cell? ⟨gb120, 1, none⟩ = some (.string a0_1) := (blk_cell BK120.out 1).trans rfl; have hcz7_2 : w6.cell? ⟨gb120, 2, none⟩ = some (.string a0_2) := (blk_cell BK120.out 2).trans rfl; have hcz7_3 : w6.cell? ⟨gb120, 3, none⟩ = some (.bool a0_3) := (blk_cell BK120.out 3).trans rfl; have hcz7_4 : w6.cell? ⟨gb120, 4, none⟩ = some (.string a0_4) := (blk_cell BK120.out 4).trans rfl; have hcz7_5 : w6.cell? ⟨gb120, 5, none⟩ = some (.string a0_5) := (blk_cell BK120.out 5).trans rfl; have hcz7_6 : w6.cell? ⟨gb120, 6, none⟩ = some (.slice A0_6 l0_6.length c0_6) := (blk_cell BK120.out 6).trans rfl; have hcz7_7 : w6.cell? ⟨gb120, 7, none⟩ = some (.slice A0_7 l0_7.length c0_7) := (blk_cell BK120.out 7).trans rfl; have hcz7_8 : w6.cell? ⟨gb120, 8, none⟩ = some (.int .i64 a0_8) := (blk_cell BK120.out 8).trans rfl; have hcz7_9 : w6.cell? ⟨gb120, 9, none⟩ = some (.int .i64 a0_9) := (blk_cell BK120.out 9).trans rfl; have hcz7_10 : w6.cell? ⟨gb120, 10, none⟩ = some (.int .i64 a0_10) := (blk_cell BK120.out 10).trans rfl; have hcz7_11 : w6.cell? ⟨gb120, 11, none⟩ = some (.int .i64 a0_11) := (blk_cell BK120.out 11).trans rfl; have hcz7_12 : w6.cell? ⟨gb120, 12, none⟩ = some (.string a0_12) := (blk_cell BK120.out 12).trans rfl; have hcz7_13 : w6.cell? ⟨gb120, 13, none⟩ = some (.slice A0_13 l0_13.length c0_13) := (blk_cell BK120.out 13).trans rfl; have hcz7_14 : w6.cell? ⟨gb120, 14, none⟩ = some (.slice A0_14 l0_14.length c0_14) := (blk_cell BK120.out 14).trans rfl; have hfz7_0 := blk_frozen BK120.out 0; have hfz7_1 := blk_frozen BK120.out 1; have hfz7_2 := blk_frozen BK120.out 2; have hfz7_3 := blk_frozen BK120.out 3; have hfz7_4 := blk_frozen BK120.out 4; have hfz7_5 := blk_frozen BK120.out 5; have hfz7_6 := blk_frozen BK120.out 6; have hfz7_7 := blk_frozen BK120.out 7; have hfz7_8 := blk_frozen BK120.out 8; have hfz7_9 := blk_frozen BK120.out 9; have hfz7_10 := blk_frozen BK120.out 10; have hfz7_11 := blk_frozen BK120.out 11; have hfz7_12 := blk_frozen BK120.out 12; have hfz7_13 := blk_frozen BK120.out 13; have hfz7_14 := blk_frozen BK120.out 14) | ((with_reducible refine gate_dst (N := 14) rfl ?_); refine Kd.R_lit k122 _ 122 ?hg (N := 14) ?hd (xs := ([(⟨(⟨#[109, 46, 114, 111, 111, 109, 46, 99, 114, 101, 97, 116, 101]⟩ : ByteArray), (⟨#[]⟩ : ByteArray)⟩ : S122), (⟨(⟨#[109, 46, 114, 111, 111, 109, 46, 112, 111, 119, 101, 114, 95, 108, 101, 118, 101, 108, 115]⟩ : ByteArray), (⟨#[]⟩ : ByteArray)⟩ : S122), (⟨(⟨#[109, 46, 114, 111, 111, 109, 46, 109, 101, 109, 98, 101, 114]⟩ : ByteArray), a0_4⟩ : S122)] : List (S122))) (inner := [.string (⟨#[109, 46, 114, 111, 111, 109, 46, 99, 114, 101, 97, 116, 101]⟩ : ByteArray), .string (⟨#[]⟩ : ByteArray), .string (⟨#[109, 46, 114, 111, 111, 109, 46, 112, 111, 119, 101, 114, 95, 108, 101, 118, 101, 108, 115]⟩ : ByteArray), .string (⟨#[]⟩ : ByteArray), .string (⟨#[109, 46, 114, 111, 111, 109, 46, 109, 101, 109, 98, 101, 114]⟩ : ByteArray), .string a0_4]) (ok := fun _ => True) (okp := fun _ => True) ?hr ?hp (fun _ hk => hk) trivial (Below.refl _ _) (Nat.le_refl _) (by simp) ?_; (case hd => rfl); (case hg => rfl); (case hr => first | (go_simp; done) | (go_simp; rfl)); (case hp => exact (Reps.c2 (show Kd.M k122 _ _ _ (⟨(⟨#[109, 46, 114, 111, 111, 109, 46, 99, 114, 101, 97, 116, 101]⟩ : ByteArray), (⟨#[]⟩ : ByteArray)⟩ : S122) [.string (⟨#[109, 46, 114, 111, 111, 109, 46, 99, 114, 101, 97, 116, 101]⟩ : ByteArray), .string (⟨#[]⟩ : ByteArray)] from (k122_mkM _ _ _ (⟨(⟨#[109, 46, 114, 111, 111, 109, 46, 99, 114, 101, 97, 116, 101]⟩ : ByteArray), (⟨#[]⟩ : ByteArray)⟩ : S122) )) (Reps.c2 (show Kd.M k122 _ _ _ (⟨(⟨#[109, 46, 114, 111, 111, 109, 46, 112, 111, 119, 101, 114, 95, 108, 101, 118, 101, 108, 115]⟩ : ByteArray), (⟨#[]⟩ : ByteArray)⟩ : S122) [.string (⟨#[109, 46, 114, 111, 111, 109, 46, 112, 111, 119, 101, 114, 95, 108, 101, 118, 101, 108, 115]⟩ : ByteArray), .string (⟨#[]⟩ : ByteArray)] from (k122_mkM _ _ _ (⟨(⟨#[109, 46, 114, 111, 111, 109, 46, 112, 111, 119, 101, 114, 95, 108, 101, 118, 101, 108, 115]⟩ : ByteArray), (⟨#[]⟩ : ByteArray)⟩ : S122) )) (Reps.c2 (show Kd.M k122 _ _ _ (⟨(⟨#[109, 46, 114, 111, 111, 109, 46, 109, 101, 109, 98, 101, 114]⟩ : ByteArray), a0_4⟩ : S122) [.string (⟨#[109, 46, 114, 111, 111, 109, 46, 109, 101, 109, 98, 101, 114]⟩ : ByteArray), .string a0_4] from (k122_mkM _ _ _ (⟨(⟨#[109, 46, 114, 111, 111, 109, 46, 109, 101, 109, 98, 101, 114]⟩ : ByteArray), a0_4⟩ : S122) )) (Reps.none _ _))))); intro v122 w8 ho9 hb hg_ hnew_; clear hg_ hnew_; (first | rw [← Ny121.out] at ho9 | (simp only [Int.reduceToNat] at ho9; rw [← Ny121.out] at ho9)); have n0_ := Aside0.mk (Kd.R_lower ho9 (below_size (by repeat (first | (with_reducible first | exact HB.out | apply below_alloc | apply pw_below_drewN | apply below_drew1 | refine below_set ?_ GE120.out) | exact HB.out)))); have n1_ := Aside0.mk (blk_below (g := gb120) (o := .cells #[.string a0_0, .string a0_1, .string a0_2, .bool a0_3, .string a0_4, .string a0_5, .slice A0_6 l0_6.length c0_6, .slice A0_7 l0_7.length c0_7, .int .i64 a0_8, .int .i64 a0_9, .int .i64 a0_10, .int .i64 a0_11, .string a0_12, .slice A0_13 l0_13.length c0_13, .slice A0_14 l0_14.length c0_14] 50 (0, 0)) (by (with_reducible repeat (first | refine blk_drewN ?_ _ | refine blk_drew ?_ | refine blk_alloc ?_ _)); exact BK120.out) hb); have n2_ := Aside0.mk (below_step (by repeat (first | (with_reducible first | exact HB.out | apply below_alloc | apply pw_below_drewN | apply below_drew1 | refine below_set ?_ GE120.out) | exact HB.out)) hb); clear BK120; clear HB; have HO123 := n0_; have BK120 := n1_; have HB := n2_; clear n0_ n1_ n2_; clear hb ho9))
    (try simp only [Act.put, List.setIfInBounds_toArray, List.set_cons_zero, List.set_cons_succ])
    go_cut [22] (fun v22 wc => ∃ (kq : Nat) (x22_4 : Bool), v22 = .bool x22_4 ∧ Aside0 (heliastref15_Slots.j0 kq y121 x22_4 a0_0 a0_1 a0_2 a0_3 a0_4 a0_5 l0_6 l0_7 a0_8 a0_9 a0_10 a0_11 a0_12 l0_13 l0_14 = some r) ∧ Aside0 (kq ≤ k) ∧ Aside0 (Kd.R k122 122 wc w.heap.size (fun _ => True) v122 y121) ∧ Aside0 (wc.heap[gb120]? = some (.cells #[.string a0_0, .string a0_1, .string a0_2, .bool a0_3, .string a0_4, .string a0_5, (.slice A0_6 l0_6.length c0_6), (.slice A0_7 l0_7.length c0_7), .int .i64 a0_8, .int .i64 a0_9, .int .i64 a0_10, .int .i64 a0_11, .string a0_12, (.slice A0_13 l0_13.length c0_13), (.slice A0_14 l0_14.length c0_14)] 50 (0, 0))) ∧ Aside0 (Below w.heap.size w wc))
    case first =>
      have H := HC5.out
      clear HC5
      by_cases c10 : a0_1.toList = ([109, 46, 114, 111, 111, 109, 46, 109, 101, 109, 98, 101, 114] : List UInt8)
      · rw [if_pos c10] at H
        have c10b0 : (a0_1.toList == ([109, 46, 114, 111, 111, 109, 46, 109, 101, 109, 98, 101, 114] : List UInt8)) = true := beq_iff_eq.mpr c10
        have c10b1 : (a0_1.toList != ([109, 46, 114, 111, 111, 109, 46, 109, 101, 109, 98, 101, 114] : List UInt8)) = false := bne_eq_false_iff_eq.mpr c10
        clear c10
        (first | rw [c10b0] | (simp only [i64_w, i32_w]; rw [c10b0]) | rw [c10b1] | skip)
        have H' := Aside0.mk H
        clear H
        have hcz11_0 : w8.cell? ⟨gb120, 0, none⟩ = some (.string a0_0) := (blk_cell BK120.out 0).trans rfl
        have hcz11_1 : w8.cell? ⟨gb120, 1, none⟩ = some (.string a0_1) := (blk_cell BK120.out 1).trans rfl
        have hcz11_2 : w8.cell? ⟨gb120, 2, none⟩ = some (.string a0_2) := (blk_cell BK120.out 2).trans rfl
        have hcz11_3 : w8.cell? ⟨gb120, 3, none⟩ = some (.bool a0_3) := (blk_cell BK120.out 3).trans rfl
        have hcz11_4 : w8.cell? ⟨gb120, 4, none⟩ = some (.string a0_4) := (blk_cell BK120.out 4).trans rfl
        have hcz11_5 : w8.cell? ⟨gb120, 5, none⟩ = some (.string a0_5) := (blk_cell BK120.out 5).trans rfl
        have hcz11_6 : w8.cell? ⟨gb120, 6, none⟩ = some (.slice A0_6 l0_6.length c0_6) := (blk_cell BK120.out 6).trans rfl
        have hcz11_7 : w8.cell? ⟨gb120, 7, none⟩ = some (.slice A0_7 l0_7.length c0_7) := (blk_cell BK120.out 7).trans rfl
        have hcz11_8 : w8.cell? ⟨gb120, 8, none⟩ = some (.int .i64 a0_8) := (blk_cell BK120.out 8).trans rfl
        have hcz11_9 : w8.cell? ⟨gb120, 9, none⟩ = some (.int .i64 a0_9) := (blk_cell BK120.out 9).trans rfl
        have hcz11_10 : w8.cell? ⟨gb120, 10, none⟩ = some (.int .i64 a0_10) := (blk_cell BK120.out 10).trans rfl
        have hcz11_11 : w8.cell? ⟨gb120, 11, none⟩ = some (.int .i64 a0_11) := (blk_cell BK120.out 11).trans rfl
        have hcz11_12 : w8.cell? ⟨gb120, 12, none⟩ = some (.string a0_12) := (blk_cell BK120.out 12).trans rfl
        have hcz11_13 : w8.cell? ⟨gb120, 13, none⟩ = some (.slice A0_13 l0_13.length c0_13) := (blk_cell BK120.out 13).trans rfl
        have hcz11_14 : w8.cell? ⟨gb120, 14, none⟩ = some (.slice A0_14 l0_14.length c0_14) := (blk_cell BK120.out 14).trans rfl
        have hfz11_0 := blk_frozen BK120.out 0
        have hfz11_1 := blk_frozen BK120.out 1
        have hfz11_2 := blk_frozen BK120.out 2
        have hfz11_3 := blk_frozen BK120.out 3
        have hfz11_4 := blk_frozen BK120.out 4
        have hfz11_5 := blk_frozen BK120.out 5
        have hfz11_6 := blk_frozen BK120.out 6
        have hfz11_7 := blk_frozen BK120.out 7
        have hfz11_8 := blk_frozen BK120.out 8
        have hfz11_9 := blk_frozen BK120.out 9
        have hfz11_10 := blk_frozen BK120.out 10
        have hfz11_11 := blk_frozen BK120.out 11
        have hfz11_12 := blk_frozen BK120.out 12
        have hfz11_13 := blk_frozen BK120.out 13
        have hfz11_14 := blk_frozen BK120.out 14
        go_wp2
        go_meet
        case rel => exact ⟨_, (!a0_3), (by first | rfl | (simp; done) | (simp [*]; done)), H', ⟨by first | omega | exact Nat.le_refl _⟩, ⟨by (with_reducible repeat (first | apply Kd.R_alloc | apply Kd.R_drewN | apply Kd.R_drew)); exact HO123.out⟩, ⟨by (with_reducible repeat (first | refine blk_drewN ?_ _ | refine blk_drew ?_ | refine blk_alloc ?_ _)); exact BK120.out⟩, ⟨by repeat (first | (with_reducible first | exact HB.out | apply below_alloc | apply pw_below_drewN | apply below_drew1 | refine below_set ?_ GE120.out) | exact HB.out)⟩⟩
      · rw [if_neg c10] at H
        have c10b0 : (a0_1.toList == ([109, 46, 114, 111, 111, 109, 46, 109, 101, 109, 98, 101, 114] : List UInt8)) = false := beq_eq_false_iff_ne.mpr c10
        have c10b1 : (a0_1.toList != ([109, 46, 114, 111, 111, 109, 46, 109, 101, 109, 98, 101, 114] : List UInt8)) = true := bne_iff_ne.mpr c10
        (first | rw [c10b0] | (simp only [i64_w, i32_w]; rw [c10b0]) | rw [c10b1] | skip)
        have H' := Aside0.mk H
        clear H
        have hcz12_0 : w8.cell? ⟨gb120, 0, none⟩ = some (.string a0_0) := (blk_cell BK120.out 0).trans rfl
        have hcz12_1 : w8.cell? ⟨gb120, 1, none⟩ = some (.string a0_1) := (blk_cell BK120.out 1).trans rfl
        have hcz12_2 : w8.cell? ⟨gb120, 2, none⟩ = some (.string a0_2) := (blk_cell BK120.out 2).trans rfl
        have hcz12_3 : w8.cell? ⟨gb120, 3, none⟩ = some (.bool a0_3) := (blk_cell BK120.out 3).trans rfl
        have hcz12_4 : w8.cell? ⟨gb120, 4, none⟩ = some (.string a0_4) := (blk_cell BK120.out 4).trans rfl
        have hcz12_5 : w8.cell? ⟨gb120, 5, none⟩ = some (.string a0_5) := (blk_cell BK120.out 5).trans rfl
        have hcz12_6 : w8.cell? ⟨gb120, 6, none⟩ = some (.slice A0_6 l0_6.length c0_6) := (blk_cell BK120.out 6).trans rfl
        have hcz12_7 : w8.cell? ⟨gb120, 7, none⟩ = some (.slice A0_7 l0_7.length c0_7) := (blk_cell BK120.out 7).trans rfl
        have hcz12_8 : w8.cell? ⟨gb120, 8, none⟩ = some (.int .i64 a0_8) := (blk_cell BK120.out 8).trans rfl
        have hcz12_9 : w8.cell? ⟨gb120, 9, none⟩ = some (.int .i64 a0_9) := (blk_cell BK120.out 9).trans rfl
        have hcz12_10 : w8.cell? ⟨gb120, 10, none⟩ = some (.int .i64 a0_10) := (blk_cell BK120.out 10).trans rfl
        have hcz12_11 : w8.cell? ⟨gb120, 11, none⟩ = some (.int .i64 a0_11) := (blk_cell BK120.out 11).trans rfl
        have hcz12_12 : w8.cell? ⟨gb120, 12, none⟩ = some (.string a0_12) := (blk_cell BK120.out 12).trans rfl
        have hcz12_13 : w8.cell? ⟨gb120, 13, none⟩ = some (.slice A0_13 l0_13.length c0_13) := (blk_cell BK120.out 13).trans rfl
        have hcz12_14 : w8.cell? ⟨gb120, 14, none⟩ = some (.slice A0_14 l0_14.length c0_14) := (blk_cell BK120.out 14).trans rfl
        have hfz12_0 := blk_frozen BK120.out 0
        have hfz12_1 := blk_frozen BK120.out 1
        have hfz12_2 := blk_frozen BK120.out 2
        have hfz12_3 := blk_frozen BK120.out 3
        have hfz12_4 := blk_frozen BK120.out 4
        have hfz12_5 := blk_frozen BK120.out 5
        have hfz12_6 := blk_frozen BK120.out 6
        have hfz12_7 := blk_frozen BK120.out 7
        have hfz12_8 := blk_frozen BK120.out 8
        have hfz12_9 := blk_frozen BK120.out 9
        have hfz12_10 := blk_frozen BK120.out 10
        have hfz12_11 := blk_frozen BK120.out 11
        have hfz12_12 := blk_frozen BK120.out 12
        have hfz12_13 := blk_frozen BK120.out 13
        have hfz12_14 := blk_frozen BK120.out 14
        go_wp2
        go_meet
        case rel => exact ⟨_, (true), (by first | rfl | (simp; done) | (simp [*]; done)), H', ⟨by first | omega | exact Nat.le_refl _⟩, ⟨by (with_reducible repeat (first | apply Kd.R_alloc | apply Kd.R_drewN | apply Kd.R_drew)); exact HO123.out⟩, ⟨by (with_reducible repeat (first | refine blk_drewN ?_ _ | refine blk_drew ?_ | refine blk_alloc ?_ _)); exact BK120.out⟩, ⟨by repeat (first | (with_reducible first | exact HB.out | apply below_alloc | apply pw_below_drewN | apply below_drew1 | refine below_set ?_ GE120.out) | exact HB.out)⟩⟩
    case rest =>
      clear HC5
      try clear c1
      try clear c2
      try clear c2b0
      try clear c2b1
      try clear p2
      try clear c9
      try clear c10
      try clear c10b0
      try clear c10b1
      try clear hcz11_0
      try clear hcz11_1
      try clear hcz11_10
      try clear hcz11_11
      try clear hcz11_12
      try clear hcz11_13
      try clear hcz11_14
      try clear hcz11_2
      try clear hcz11_3
      try clear hcz11_4
      try clear hcz11_5
      try clear hcz11_6
      try clear hcz11_7
      try clear hcz11_8
      try clear hcz11_9
      try clear hcz12_0
      try clear hcz12_1
      try clear hcz12_10
      try clear hcz12_11
      try clear hcz12_12
      try clear hcz12_13
      try clear hcz12_14
      try clear hcz12_2
      try clear hcz12_3
      try clear hcz12_4
      try clear hcz12_5
      try clear hcz12_6
      try clear hcz12_7
      try clear hcz12_8
      try clear hcz12_9
      try clear hcz4_0
      try clear hcz4_1
      try clear hcz4_10
      try clear hcz4_11
      try clear hcz4_12
      try clear hcz4_13
      try clear hcz4_14
      try clear hcz4_2
      try clear hcz4_3
      try clear hcz4_4
      try clear hcz4_5
      try clear hcz4_6
      try clear hcz4_7
      try clear hcz4_8
      try clear hcz4_9
      try clear hcz7_0
      try clear hcz7_1
      try clear hcz7_10
      try clear hcz7_11
      try clear hcz7_12
      try clear hcz7_13
      try clear hcz7_14
      try clear hcz7_2
      try clear hcz7_3
      try clear hcz7_4
      try clear hcz7_5
      try clear hcz7_6
      try clear hcz7_7
      try clear hcz7_8
      try clear hcz7_9
      try clear hfz11_0
      try clear hfz11_1
      try clear hfz11_10
      try clear hfz11_11
      try clear hfz11_12
      try clear hfz11_13
      try clear hfz11_14
      try clear hfz11_2
      try clear hfz11_3
      try clear hfz11_4
      try clear hfz11_5
      try clear hfz11_6
      try clear hfz11_7
      try clear hfz11_8
      try clear hfz11_9
      try clear hfz12_0
      try clear hfz12_1
      try clear hfz12_10
      try clear hfz12_11
      try clear hfz12_12
      try clear hfz12_13
      try clear hfz12_14
      try clear hfz12_2
      try clear hfz12_3
      try clear hfz12_4
      try clear hfz12_5
      try clear hfz12_6
      try clear hfz12_7
      try clear hfz12_8
      try clear hfz12_9
      try clear hfz4_0
      try clear hfz4_1
      try clear hfz4_10
      try clear hfz4_11
      try clear hfz4_12
      try clear hfz4_13
      try clear hfz4_14
      try clear hfz4_2
      try clear hfz4_3
      try clear hfz4_4
      try clear hfz4_5
      try clear hfz4_6
      try clear hfz4_7
      try clear hfz4_8
      try clear hfz4_9
      try clear hfz7_0
      try clear hfz7_1
      try clear hfz7_10
      try clear hfz7_11
      try clear hfz7_12
      try clear hfz7_13
      try clear hfz7_14
      try clear hfz7_2
      try clear hfz7_3
      try clear hfz7_4
      try clear hfz7_5
      try clear hfz7_6
      try clear hfz7_7
      try clear hfz7_8
      try clear hfz7_9
      obtain ⟨kq, x22_4, rfl, HA, HJ4, HO_3, BK120, HB⟩ := hcut
      cases kq with
      | zero => exact absurd HA.out (by simp [heliastref15_Slots.j0])
      | succ kj4 =>
        have H := HA.out
        clear HA
        simp only [heliastref15_Slots.j0] at H
        by_cases c13 : x22_4 = true
        · subst c13
          have H1 : (some y121) = some r := by rw [if_pos rfl] at H; exact H
          clear H
          have H := H1
          clear H1
          obtain rfl := Option.some.inj H
          go_wp2
          go_ret
          exact ⟨_, by first | rfl | (simp [errW_none, errW_some] <;> rfl) | (simp [*, errW_none, errW_some] <;> rfl), by (with_reducible repeat (first | apply Kd.R_alloc | apply Kd.R_drewN | apply Kd.R_drew)); exact HO_3.out, by repeat (first | (with_reducible first | exact HB.out | apply below_alloc | apply pw_below_drewN | apply below_drew1 | refine below_set ?_ GE120.out) | exact HB.out)⟩
        · replace c13 := Bool.eq_false_iff.mpr c13
          subst c13
          have H1 : (if a0_2.toList = a0_4.toList then ((heliastref15_text.f kj4 a0_0 a0_1 a0_2 a0_3 a0_4 a0_5 l0_6 l0_7 a0_8 a0_9 a0_10 a0_11 a0_12 l0_13 l0_14 (⟨#[109, 101, 109, 98, 101, 114, 115, 104, 105, 112]⟩ : ByteArray)).bind fun bt124 => (if bt124.1.toList = ([106, 111, 105, 110] : List UInt8) then (if y121.length < 4398046511104 then (some (y121 ++ [(⟨(⟨#[109, 46, 114, 111, 111, 109, 46, 106, 111, 105, 110, 95, 114, 117, 108, 101, 115]⟩ : ByteArray), (⟨#[]⟩ : ByteArray)⟩ : S122)])) else (none)) else (if bt124.1.toList = ([105, 110, 118, 105, 116, 101] : List UInt8) then (if y121.length < 4398046511104 then (some (y121 ++ [(⟨(⟨#[109, 46, 114, 111, 111, 109, 46, 106, 111, 105, 110, 95, 114, 117, 108, 101, 115]⟩ : ByteArray), (⟨#[]⟩ : ByteArray)⟩ : S122)])) else (none)) else (some y121)))) else (if y121.length < 4398046511104 then ((some (y121 ++ [(⟨(⟨#[109, 46, 114, 111, 111, 109, 46, 109, 101, 109, 98, 101, 114]⟩ : ByteArray), a0_2⟩ : S122)] : List (S122))).bind fun y132 => ((heliastref15_text.f kj4 a0_0 a0_1 a0_2 a0_3 a0_4 a0_5 l0_6 l0_7 a0_8 a0_9 a0_10 a0_11 a0_12 l0_13 l0_14 (⟨#[109, 101, 109, 98, 101, 114, 115, 104, 105, 112]⟩ : ByteArray)).bind fun bt135 => (if bt135.1.toList = ([106, 111, 105, 110] : List UInt8) then (if y132.length < 4398046511104 then (some (y132 ++ [(⟨(⟨#[109, 46, 114, 111, 111, 109, 46, 106, 111, 105, 110, 95, 114, 117, 108, 101, 115]⟩ : ByteArray), (⟨#[]⟩ : ByteArray)⟩ : S122)])) else (none)) else (if bt135.1.toList = ([105, 110, 118, 105, 116, 101] : List UInt8) then (if y132.length < 4398046511104 then (some (y132 ++ [(⟨(⟨#[109, 46, 114, 111, 111, 109, 46, 106, 111, 105, 110, 95, 114, 117, 108, 101, 115]⟩ : ByteArray), (⟨#[]⟩ : ByteArray)⟩ : S122)])) else (none)) else (some y132))))) else (none))) = some r := by rw [if_neg (show ¬ (false = true) by decide)] at H; exact H
          clear H
          have H := H1
          clear H1
          by_cases c14 : a0_2.toList = a0_4.toList
          · rw [if_pos c14] at H
            have c14b0 : (a0_2.toList == a0_4.toList) = true := beq_iff_eq.mpr c14
            have c14b1 : (a0_2.toList != a0_4.toList) = false := bne_eq_false_iff_eq.mpr c14
            clear c14
            replace H := Option.bind_eq_some_iff.mp H
            obtain ⟨⟨t124, t125⟩, A150, H⟩ := H
            replace H : (if t124.toList = ([106, 111, 105, 110] : List UInt8) then (if y121.length < 4398046511104 then (some (y121 ++ [(⟨(⟨#[109, 46, 114, 111, 111, 109, 46, 106, 111, 105, 110, 95, 114, 117, 108, 101, 115]⟩ : ByteArray), (⟨#[]⟩ : ByteArray)⟩ : S122)])) else (none)) else (if t124.toList = ([105, 110, 118, 105, 116, 101] : List UInt8) then (if y121.length < 4398046511104 then (some (y121 ++ [(⟨(⟨#[109, 46, 114, 111, 111, 109, 46, 106, 111, 105, 110, 95, 114, 117, 108, 101, 115]⟩ : ByteArray), (⟨#[]⟩ : ByteArray)⟩ : S122)])) else (none)) else (some y121))) = some r := H
            have A15 := Aside0.mk A150
            clear A150
            by_cases c16 : t124.toList = ([106, 111, 105, 110] : List UInt8)
            · rw [if_pos c16] at H
              have c16b0 : (t124.toList == ([106, 111, 105, 110] : List UInt8)) = true := beq_iff_eq.mpr c16
              have c16b1 : (t124.toList != ([106, 111, 105, 110] : List UInt8)) = false := bne_eq_false_iff_eq.mpr c16
              clear c16
              by_cases c17 : y121.length < 4398046511104
              · rw [if_pos c17] at H
                have LMc17 := Aside0.mk c17
                clear c17
                obtain ⟨y126, hy126⟩ : ∃ y_ : List (S122), y_ = (y121 ++ [(⟨(⟨#[109, 46, 114, 111, 111, 109, 46, 106, 111, 105, 110, 95, 114, 117, 108, 101, 115]⟩ : ByteArray), (⟨#[]⟩ : ByteArray)⟩ : S122)]) := ⟨_, rfl⟩
                replace H : (some y126) = some r := by first | (rw [hy126]; with_reducible exact H) | (have H2_ := (Option.bind_some _ _).symm.trans H; rw [hy126]; with_reducible exact H2_) | (have H2_ := (Option.bind_some _ _).symm.trans H; with_reducible exact H2_) | with_reducible exact H | (rw [hy126]; exact H) | exact H
                have Ny126 := Aside0.mk hy126
                clear hy126
                obtain rfl := Option.some.inj H
                have hcz18_0 : wc.cell? ⟨gb120, 0, none⟩ = some (.string a0_0) := (blk_cell BK120.out 0).trans rfl
                have hcz18_1 : wc.cell? ⟨gb120, 1, none⟩ = some (.string a0_1) := (blk_cell BK120.out 1).trans rfl
                have hcz18_2 : wc.cell? ⟨gb120, 2, none⟩ = some (.string a0_2) := (blk_cell BK120.out 2).trans rfl
                have hcz18_3 : wc.cell? ⟨gb120, 3, none⟩ = some (.bool a0_3) := (blk_cell BK120.out 3).trans rfl
                have hcz18_4 : wc.cell? ⟨gb120, 4, none⟩ = some (.string a0_4) := (blk_cell BK120.out 4).trans rfl
                have hcz18_5 : wc.cell? ⟨gb120, 5, none⟩ = some (.string a0_5) := (blk_cell BK120.out 5).trans rfl
                have hcz18_6 : wc.cell? ⟨gb120, 6, none⟩ = some (.slice A0_6 l0_6.length c0_6) := (blk_cell BK120.out 6).trans rfl
                have hcz18_7 : wc.cell? ⟨gb120, 7, none⟩ = some (.slice A0_7 l0_7.length c0_7) := (blk_cell BK120.out 7).trans rfl
                have hcz18_8 : wc.cell? ⟨gb120, 8, none⟩ = some (.int .i64 a0_8) := (blk_cell BK120.out 8).trans rfl
                have hcz18_9 : wc.cell? ⟨gb120, 9, none⟩ = some (.int .i64 a0_9) := (blk_cell BK120.out 9).trans rfl
                have hcz18_10 : wc.cell? ⟨gb120, 10, none⟩ = some (.int .i64 a0_10) := (blk_cell BK120.out 10).trans rfl
                have hcz18_11 : wc.cell? ⟨gb120, 11, none⟩ = some (.int .i64 a0_11) := (blk_cell BK120.out 11).trans rfl
                have hcz18_12 : wc.cell? ⟨gb120, 12, none⟩ = some (.string a0_12) := (blk_cell BK120.out 12).trans rfl
                have hcz18_13 : wc.cell? ⟨gb120, 13, none⟩ = some (.slice A0_13 l0_13.length c0_13) := (blk_cell BK120.out 13).trans rfl
                have hcz18_14 : wc.cell? ⟨gb120, 14, none⟩ = some (.slice A0_14 l0_14.length c0_14) := (blk_cell BK120.out 14).trans rfl
                have hfz18_0 := blk_frozen BK120.out 0
                have hfz18_1 := blk_frozen BK120.out 1
                have hfz18_2 := blk_frozen BK120.out 2
                have hfz18_3 := blk_frozen BK120.out 3
                have hfz18_4 := blk_frozen BK120.out 4
                have hfz18_5 := blk_frozen BK120.out 5
                have hfz18_6 := blk_frozen BK120.out 6
                have hfz18_7 := blk_frozen BK120.out 7
                have hfz18_8 := blk_frozen BK120.out 8
                have hfz18_9 := blk_frozen BK120.out 9
                have hfz18_10 := blk_frozen BK120.out 10
                have hfz18_11 := blk_frozen BK120.out 11
                have hfz18_12 := blk_frozen BK120.out 12
                have hfz18_13 := blk_frozen BK120.out 13
                have hfz18_14 := blk_frozen BK120.out 14
                go_wp2_with (first | ((with_reducible refine gate_callee (f := 115) rfl ?_); refine goesL_ (some 37) rfl rfl Tryz.func115 (by kernel_rfl) rfl #[.agg #[.string a0_0, .string a0_1, .string a0_2, .bool a0_3, .string a0_4, .string a0_5, .slice A0_6 l0_6.length c0_6, .slice A0_7 l0_7.length c0_7, .int .i64 a0_8, .int .i64 a0_9, .int .i64 a0_10, .int .i64 a0_11, .string a0_12, .slice A0_13 l0_13.length c0_13, .slice A0_14 l0_14.length c0_14], .string (⟨#[109, 101, 109, 98, 101, 114, 115, 104, 105, 112]⟩ : ByteArray)] rfl (by (try simp only [List.map_toArray, List.map_cons, List.map_nil]); first | done | rfl | (simp only [List.length_drop, List.length_take]; rfl)) ?_; (with_reducible refine (heliastref15_text.calls kj4 a0_0 a0_1 a0_2 a0_3 a0_4 a0_5 _ _ l0_6 _ _ l0_7 a0_8 a0_9 a0_10 a0_11 a0_12 _ _ l0_13 _ _ l0_14 (⟨#[109, 101, 109, 98, 101, 114, 115, 104, 105, 112]⟩ : ByteArray) t124 t125 _ ?side1 ?side2 ?side3 ?side4 ?side5 ?side6 ?side7 ?side8 A15.out).mono ?_); (case side1 => repeat (first | exact (Kd.C_below HR0_6.out HB.out) | (with_reducible refine Kd.C_alloc ?_ _) | (with_reducible refine Kd.C_drewN ?_ _) | (with_reducible refine Kd.C_drew ?_))); (case side2 => exact HC0_6.out); (case side3 => repeat (first | exact (Kd.C_below HR0_7.out HB.out) | (with_reducible refine Kd.C_alloc ?_ _) | (with_reducible refine Kd.C_drewN ?_ _) | (with_reducible refine Kd.C_drew ?_))); (case side4 => exact HC0_7.out); (case side5 => repeat (first | exact (Kd.C_below HR0_13.out HB.out) | (with_reducible refine Kd.C_alloc ?_ _) | (with_reducible refine Kd.C_drewN ?_ _) | (with_reducible refine Kd.C_drew ?_))); (case side6 => exact HC0_13.out); (case side7 => repeat (first | exact (Kd.C_below HR0_14.out HB.out) | (with_reducible refine Kd.C_alloc ?_ _) | (with_reducible refine Kd.C_drewN ?_ _) | (with_reducible refine Kd.C_drew ?_))); (case side8 => exact HC0_14.out); rintro e w19 ⟨rfl, hb⟩; refine ⟨_, rfl, ?_⟩; have n0_ := Aside0.mk (Kd.R_below (by (with_reducible repeat (first | apply Kd.R_alloc | apply Kd.R_drewN | apply Kd.R_drew)); exact HO_3.out) hb); have n1_ := Aside0.mk (blk_below (g := gb120) (o := .cells #[.string a0_0, .string a0_1, .string a0_2, .bool a0_3, .string a0_4, .string a0_5, .slice A0_6 l0_6.length c0_6, .slice A0_7 l0_7.length c0_7, .int .i64 a0_8, .int .i64 a0_9, .int .i64 a0_10, .int .i64 a0_11, .string a0_12, .slice A0_13 l0_13.length c0_13, .slice A0_14 l0_14.length c0_14] 50 (0, 0)) (by (with_reducible repeat (first | refine blk_drewN ?_ _ | refine blk_drew ?_ | refine blk_alloc ?_ _)); exact BK120.out) hb); have n2_ := Aside0.mk (below_step (by repeat (first | (with_reducible first | exact HB.out | apply below_alloc | apply pw_below_drewN | apply below_drew1 | refine below_set ?_ GE120.out) | exact HB.out)) hb); clear HO_3; clear BK120; clear HB; have HO_3 := n0_; have BK120 := n1_; have HB := n2_; clear n0_ n1_ n2_; (try clear hb); (try clear hb2); (try clear hk); (try clear hi)) | ((with_reducible refine gate_builtin (b := .append) (xs := #[.tmp 46, .tmp 48]) rfl ?_); at_builtin; refine Kd.R_append k122 (w0 := w) w.heap.size rfl (.tmp 46) (.tmp 48) 118 122 (.agg #[(.string ⟨#[]⟩), (.string ⟨#[]⟩)]) 32 rfl Tryz.underlying118 info122 rfl (by decide) (by omega) v122 y121 (⟨(⟨#[109, 46, 114, 111, 111, 109, 46, 106, 111, 105, 110, 95, 114, 117, 108, 101, 115]⟩ : ByteArray), (⟨#[]⟩ : ByteArray)⟩ : S122) [.string (⟨#[109, 46, 114, 111, 111, 109, 46, 106, 111, 105, 110, 95, 114, 117, 108, 101, 115]⟩ : ByteArray), .string (⟨#[]⟩ : ByteArray)] (fun _ => True) (fun _ => False) rfl rfl ?aP (fun _ hk => hk.elim) ?aF ?aO ?aB ?aS ?aL ?_; (case aP => exact k122_mkM _ _ _ (⟨(⟨#[109, 46, 114, 111, 111, 109, 46, 106, 111, 105, 110, 95, 114, 117, 108, 101, 115]⟩ : ByteArray), (⟨#[]⟩ : ByteArray)⟩ : S122)); (case aB => exact (by repeat (first | (with_reducible first | exact HB.out | apply below_alloc | apply pw_below_drewN | apply below_drew1 | refine below_set ?_ GE120.out) | exact HB.out))); (case aF => exact (fun _ _ => trivial)); (case aO => exact (by (with_reducible repeat (first | apply Kd.R_alloc | apply Kd.R_drewN | apply Kd.R_drew)); exact HO_3.out)); (case aS => exact (below_size (by repeat (first | (with_reducible first | exact HB.out | apply below_alloc | apply pw_below_drewN | apply below_drew1 | refine below_set ?_ GE120.out) | exact HB.out)))); (case aL => have := LMc17.out; omega); intro v127 w20 ho hb hg hat; rw [← Ny126.out] at ho; have n0_ := Aside0.mk (blk_grown (g := gb120) (o := .cells #[.string a0_0, .string a0_1, .string a0_2, .bool a0_3, .string a0_4, .string a0_5, .slice A0_6 l0_6.length c0_6, .slice A0_7 l0_7.length c0_7, .int .i64 a0_8, .int .i64 a0_9, .int .i64 a0_10, .int .i64 a0_11, .string a0_12, .slice A0_13 l0_13.length c0_13, .slice A0_14 l0_14.length c0_14] 50 (0, 0)) (by (with_reducible repeat (first | refine blk_drewN ?_ _ | refine blk_drew ?_ | refine blk_alloc ?_ _)); exact BK120.out) hg (Kd.R_ne HO_3.out BK120.out (by decide))); have n1_ := Aside0.mk (hb); have n2_ := Aside0.mk (ho); clear BK120; clear HB; clear HO_3; have BK120 := n0_; have HB := n1_; have HO128 := n2_; clear n0_ n1_ n2_; clear ho hb hg hat))
                go_ret
                exact ⟨_, by first | rfl | (simp [errW_none, errW_some] <;> rfl) | (simp [*, errW_none, errW_some] <;> rfl), by (with_reducible repeat (first | apply Kd.R_alloc | apply Kd.R_drewN | apply Kd.R_drew)); exact HO128.out, by repeat (first | (with_reducible first | exact HB.out | apply below_alloc | apply pw_below_drewN | apply below_drew1 | refine below_set ?_ GE120.out) | exact HB.out)⟩
              · rw [if_neg c17] at H
                exact absurd H (by simp)
            · rw [if_neg c16] at H
              have c16b0 : (t124.toList == ([106, 111, 105, 110] : List UInt8)) = false := beq_eq_false_iff_ne.mpr c16
              have c16b1 : (t124.toList != ([106, 111, 105, 110] : List UInt8)) = true := bne_iff_ne.mpr c16
              by_cases c21 : t124.toList = ([105, 110, 118, 105, 116, 101] : List UInt8)
              · rw [if_pos c21] at H
                have c21b0 : (t124.toList == ([105, 110, 118, 105, 116, 101] : List UInt8)) = true := beq_iff_eq.mpr c21
                have c21b1 : (t124.toList != ([105, 110, 118, 105, 116, 101] : List UInt8)) = false := bne_eq_false_iff_eq.mpr c21
                clear c21
                by_cases c22 : y121.length < 4398046511104
                · rw [if_pos c22] at H
                  have LMc22 := Aside0.mk c22
                  clear c22
                  obtain ⟨y129, hy129⟩ : ∃ y_ : List (S122), y_ = (y121 ++ [(⟨(⟨#[109, 46, 114, 111, 111, 109, 46, 106, 111, 105, 110, 95, 114, 117, 108, 101, 115]⟩ : ByteArray), (⟨#[]⟩ : ByteArray)⟩ : S122)]) := ⟨_, rfl⟩
                  replace H : (some y129) = some r := by first | (rw [hy129]; with_reducible exact H) | (have H2_ := (Option.bind_some _ _).symm.trans H; rw [hy129]; with_reducible exact H2_) | (have H2_ := (Option.bind_some _ _).symm.trans H; with_reducible exact H2_) | with_reducible exact H | (rw [hy129]; exact H) | exact H
                  have Ny129 := Aside0.mk hy129
                  clear hy129
                  obtain rfl := Option.some.inj H
                  have hcz23_0 : wc.cell? ⟨gb120, 0, none⟩ = some (.string a0_0) := (blk_cell BK120.out 0).trans rfl
                  have hcz23_1 : wc.cell? ⟨gb120, 1, none⟩ = some (.string a0_1) := (blk_cell BK120.out 1).trans rfl
                  have hcz23_2 : wc.cell? ⟨gb120, 2, none⟩ = some (.string a0_2) := (blk_cell BK120.out 2).trans rfl
                  have hcz23_3 : wc.cell? ⟨gb120, 3, none⟩ = some (.bool a0_3) := (blk_cell BK120.out 3).trans rfl
                  have hcz23_4 : wc.cell? ⟨gb120, 4, none⟩ = some (.string a0_4) := (blk_cell BK120.out 4).trans rfl
                  have hcz23_5 : wc.cell? ⟨gb120, 5, none⟩ = some (.string a0_5) := (blk_cell BK120.out 5).trans rfl
                  have hcz23_6 : wc.cell? ⟨gb120, 6, none⟩ = some (.slice A0_6 l0_6.length c0_6) := (blk_cell BK120.out 6).trans rfl
                  have hcz23_7 : wc.cell? ⟨gb120, 7, none⟩ = some (.slice A0_7 l0_7.length c0_7) := (blk_cell BK120.out 7).trans rfl
                  have hcz23_8 : wc.cell? ⟨gb120, 8, none⟩ = some (.int .i64 a0_8) := (blk_cell BK120.out 8).trans rfl
                  have hcz23_9 : wc.cell? ⟨gb120, 9, none⟩ = some (.int .i64 a0_9) := (blk_cell BK120.out 9).trans rfl
                  have hcz23_10 : wc.cell? ⟨gb120, 10, none⟩ = some (.int .i64 a0_10) := (blk_cell BK120.out 10).trans rfl
                  have hcz23_11 : wc.cell? ⟨gb120, 11, none⟩ = some (.int .i64 a0_11) := (blk_cell BK120.out 11).trans rfl
                  have hcz23_12 : wc.cell? ⟨gb120, 12, none⟩ = some (.string a0_12) := (blk_cell BK120.out 12).trans rfl
                  have hcz23_13 : wc.cell? ⟨gb120, 13, none⟩ = some (.slice A0_13 l0_13.length c0_13) := (blk_cell BK120.out 13).trans rfl
                  have hcz23_14 : wc.cell? ⟨gb120, 14, none⟩ = some (.slice A0_14 l0_14.length c0_14) := (blk_cell BK120.out 14).trans rfl
                  have hfz23_0 := blk_frozen BK120.out 0
                  have hfz23_1 := blk_frozen BK120.out 1
                  have hfz23_2 := blk_frozen BK120.out 2
                  have hfz23_3 := blk_frozen BK120.out 3
                  have hfz23_4 := blk_frozen BK120.out 4
                  have hfz23_5 := blk_frozen BK120.out 5
                  have hfz23_6 := blk_frozen BK120.out 6
                  have hfz23_7 := blk_frozen BK120.out 7
                  have hfz23_8 := blk_frozen BK120.out 8
                  have hfz23_9 := blk_frozen BK120.out 9
                  have hfz23_10 := blk_frozen BK120.out 10
                  have hfz23_11 := blk_frozen BK120.out 11
                  have hfz23_12 := blk_frozen BK120.out 12
                  have hfz23_13 := blk_frozen BK120.out 13
                  have hfz23_14 := blk_frozen BK120.out 14
                  go_wp2_with (first | ((with_reducible refine gate_callee (f := 115) rfl ?_); refine goesL_ (some 37) rfl rfl Tryz.func115 (by kernel_rfl) rfl #[.agg #[.string a0_0, .string a0_1, .string a0_2, .bool a0_3, .string a0_4, .string a0_5, .slice A0_6 l0_6.length c0_6, .slice A0_7 l0_7.length c0_7, .int .i64 a0_8, .int .i64 a0_9, .int .i64 a0_10, .int .i64 a0_11, .string a0_12, .slice A0_13 l0_13.length c0_13, .slice A0_14 l0_14.length c0_14], .string (⟨#[109, 101, 109, 98, 101, 114, 115, 104, 105, 112]⟩ : ByteArray)] rfl (by (try simp only [List.map_toArray, List.map_cons, List.map_nil]); first | done | rfl | (simp only [List.length_drop, List.length_take]; rfl)) ?_; (with_reducible refine (heliastref15_text.calls kj4 a0_0 a0_1 a0_2 a0_3 a0_4 a0_5 _ _ l0_6 _ _ l0_7 a0_8 a0_9 a0_10 a0_11 a0_12 _ _ l0_13 _ _ l0_14 (⟨#[109, 101, 109, 98, 101, 114, 115, 104, 105, 112]⟩ : ByteArray) t124 t125 _ ?side1 ?side2 ?side3 ?side4 ?side5 ?side6 ?side7 ?side8 A15.out).mono ?_); (case side1 => repeat (first | exact (Kd.C_below HR0_6.out HB.out) | (with_reducible refine Kd.C_alloc ?_ _) | (with_reducible refine Kd.C_drewN ?_ _) | (with_reducible refine Kd.C_drew ?_))); (case side2 => exact HC0_6.out); (case side3 => repeat (first | exact (Kd.C_below HR0_7.out HB.out) | (with_reducible refine Kd.C_alloc ?_ _) | (with_reducible refine Kd.C_drewN ?_ _) | (with_reducible refine Kd.C_drew ?_))); (case side4 => exact HC0_7.out); (case side5 => repeat (first | exact (Kd.C_below HR0_13.out HB.out) | (with_reducible refine Kd.C_alloc ?_ _) | (with_reducible refine Kd.C_drewN ?_ _) | (with_reducible refine Kd.C_drew ?_))); (case side6 => exact HC0_13.out); (case side7 => repeat (first | exact (Kd.C_below HR0_14.out HB.out) | (with_reducible refine Kd.C_alloc ?_ _) | (with_reducible refine Kd.C_drewN ?_ _) | (with_reducible refine Kd.C_drew ?_))); (case side8 => exact HC0_14.out); rintro e w24 ⟨rfl, hb⟩; refine ⟨_, rfl, ?_⟩; have n0_ := Aside0.mk (Kd.R_below (by (with_reducible repeat (first | apply Kd.R_alloc | apply Kd.R_drewN | apply Kd.R_drew)); exact HO_3.out) hb); have n1_ := Aside0.mk (blk_below (g := gb120) (o := .cells #[.string a0_0, .string a0_1, .string a0_2, .bool a0_3, .string a0_4, .string a0_5, .slice A0_6 l0_6.length c0_6, .slice A0_7 l0_7.length c0_7, .int .i64 a0_8, .int .i64 a0_9, .int .i64 a0_10, .int .i64 a0_11, .string a0_12, .slice A0_13 l0_13.length c0_13, .slice A0_14 l0_14.length c0_14] 50 (0, 0)) (by (with_reducible repeat (first | refine blk_drewN ?_ _ | refine blk_drew ?_ | refine blk_alloc ?_ _)); exact BK120.out) hb); have n2_ := Aside0.mk (below_step (by repeat (first | (with_reducible first | exact HB.out | apply below_alloc | apply pw_below_drewN | apply below_drew1 | refine below_set ?_ GE120.out) | exact HB.out)) hb); clear HO_3; clear BK120; clear HB; have HO_3 := n0_; have BK120 := n1_; have HB := n2_; clear n0_ n1_ n2_; (try clear hb); (try clear hb2); (try clear hk); (try clear hi)) | ((with_reducible refine gate_builtin (b := .append) (xs := #[.tmp 46, .tmp 48]) rfl ?_); at_builtin; refine Kd.R_append k122 (w0 := w) w.heap.size rfl (.tmp 46) (.tmp 48) 118 122 (.agg #[(.string ⟨#[]⟩), (.string ⟨#[]⟩)]) 32 rfl Tryz.underlying118 info122 rfl (by decide) (by omega) v122 y121 (⟨(⟨#[109, 46, 114, 111, 111, 109, 46, 106, 111, 105, 110, 95, 114, 117, 108, 101, 115]⟩ : ByteArray), (⟨#[]⟩ : ByteArray)⟩ : S122) [.string (⟨#[109, 46, 114, 111, 111, 109, 46, 106, 111, 105, 110, 95, 114, 117, 108, 101, 115]⟩ : ByteArray), .string (⟨#[]⟩ : ByteArray)] (fun _ => True) (fun _ => False) rfl rfl ?aP (fun _ hk => hk.elim) ?aF ?aO ?aB ?aS ?aL ?_; (case aP => exact k122_mkM _ _ _ (⟨(⟨#[109, 46, 114, 111, 111, 109, 46, 106, 111, 105, 110, 95, 114, 117, 108, 101, 115]⟩ : ByteArray), (⟨#[]⟩ : ByteArray)⟩ : S122)); (case aB => exact (by repeat (first | (with_reducible first | exact HB.out | apply below_alloc | apply pw_below_drewN | apply below_drew1 | refine below_set ?_ GE120.out) | exact HB.out))); (case aF => exact (fun _ _ => trivial)); (case aO => exact (by (with_reducible repeat (first | apply Kd.R_alloc | apply Kd.R_drewN | apply Kd.R_drew)); exact HO_3.out)); (case aS => exact (below_size (by repeat (first | (with_reducible first | exact HB.out | apply below_alloc | apply pw_below_drewN | apply below_drew1 | refine below_set ?_ GE120.out) | exact HB.out)))); (case aL => have := LMc22.out; omega); intro v130 w25 ho hb hg hat; rw [← Ny129.out] at ho; have n0_ := Aside0.mk (blk_grown (g := gb120) (o := .cells #[.string a0_0, .string a0_1, .string a0_2, .bool a0_3, .string a0_4, .string a0_5, .slice A0_6 l0_6.length c0_6, .slice A0_7 l0_7.length c0_7, .int .i64 a0_8, .int .i64 a0_9, .int .i64 a0_10, .int .i64 a0_11, .string a0_12, .slice A0_13 l0_13.length c0_13, .slice A0_14 l0_14.length c0_14] 50 (0, 0)) (by (with_reducible repeat (first | refine blk_drewN ?_ _ | refine blk_drew ?_ | refine blk_alloc ?_ _)); exact BK120.out) hg (Kd.R_ne HO_3.out BK120.out (by decide))); have n1_ := Aside0.mk (hb); have n2_ := Aside0.mk (ho); clear BK120; clear HB; clear HO_3; have BK120 := n0_; have HB := n1_; have HO131 := n2_; clear n0_ n1_ n2_; clear ho hb hg hat))
                  go_ret
                  exact ⟨_, by first | rfl | (simp [errW_none, errW_some] <;> rfl) | (simp [*, errW_none, errW_some] <;> rfl), by (with_reducible repeat (first | apply Kd.R_alloc | apply Kd.R_drewN | apply Kd.R_drew)); exact HO131.out, by repeat (first | (with_reducible first | exact HB.out | apply below_alloc | apply pw_below_drewN | apply below_drew1 | refine below_set ?_ GE120.out) | exact HB.out)⟩
                · rw [if_neg c22] at H
                  exact absurd H (by simp)
              · rw [if_neg c21] at H
                have c21b0 : (t124.toList == ([105, 110, 118, 105, 116, 101] : List UInt8)) = false := beq_eq_false_iff_ne.mpr c21
                have c21b1 : (t124.toList != ([105, 110, 118, 105, 116, 101] : List UInt8)) = true := bne_iff_ne.mpr c21
                obtain rfl := Option.some.inj H
                have hcz26_0 : wc.cell? ⟨gb120, 0, none⟩ = some (.string a0_0) := (blk_cell BK120.out 0).trans rfl
                have hcz26_1 : wc.cell? ⟨gb120, 1, none⟩ = some (.string a0_1) := (blk_cell BK120.out 1).trans rfl
                have hcz26_2 : wc.cell? ⟨gb120, 2, none⟩ = some (.string a0_2) := (blk_cell BK120.out 2).trans rfl
                have hcz26_3 : wc.cell? ⟨gb120, 3, none⟩ = some (.bool a0_3) := (blk_cell BK120.out 3).trans rfl
                have hcz26_4 : wc.cell? ⟨gb120, 4, none⟩ = some (.string a0_4) := (blk_cell BK120.out 4).trans rfl
                have hcz26_5 : wc.cell? ⟨gb120, 5, none⟩ = some (.string a0_5) := (blk_cell BK120.out 5).trans rfl
                have hcz26_6 : wc.cell? ⟨gb120, 6, none⟩ = some (.slice A0_6 l0_6.length c0_6) := (blk_cell BK120.out 6).trans rfl
                have hcz26_7 : wc.cell? ⟨gb120, 7, none⟩ = some (.slice A0_7 l0_7.length c0_7) := (blk_cell BK120.out 7).trans rfl
                have hcz26_8 : wc.cell? ⟨gb120, 8, none⟩ = some (.int .i64 a0_8) := (blk_cell BK120.out 8).trans rfl
                have hcz26_9 : wc.cell? ⟨gb120, 9, none⟩ = some (.int .i64 a0_9) := (blk_cell BK120.out 9).trans rfl
                have hcz26_10 : wc.cell? ⟨gb120, 10, none⟩ = some (.int .i64 a0_10) := (blk_cell BK120.out 10).trans rfl
                have hcz26_11 : wc.cell? ⟨gb120, 11, none⟩ = some (.int .i64 a0_11) := (blk_cell BK120.out 11).trans rfl
                have hcz26_12 : wc.cell? ⟨gb120, 12, none⟩ = some (.string a0_12) := (blk_cell BK120.out 12).trans rfl
                have hcz26_13 : wc.cell? ⟨gb120, 13, none⟩ = some (.slice A0_13 l0_13.length c0_13) := (blk_cell BK120.out 13).trans rfl
                have hcz26_14 : wc.cell? ⟨gb120, 14, none⟩ = some (.slice A0_14 l0_14.length c0_14) := (blk_cell BK120.out 14).trans rfl
                have hfz26_0 := blk_frozen BK120.out 0
                have hfz26_1 := blk_frozen BK120.out 1
                have hfz26_2 := blk_frozen BK120.out 2
                have hfz26_3 := blk_frozen BK120.out 3
                have hfz26_4 := blk_frozen BK120.out 4
                have hfz26_5 := blk_frozen BK120.out 5
                have hfz26_6 := blk_frozen BK120.out 6
                have hfz26_7 := blk_frozen BK120.out 7
                have hfz26_8 := blk_frozen BK120.out 8
                have hfz26_9 := blk_frozen BK120.out 9
                have hfz26_10 := blk_frozen BK120.out 10
                have hfz26_11 := blk_frozen BK120.out 11
                have hfz26_12 := blk_frozen BK120.out 12
                have hfz26_13 := blk_frozen BK120.out 13
                have hfz26_14 := blk_frozen BK120.out 14
                go_wp2_with (first | ((with_reducible refine gate_callee (f := 115) rfl ?_); refine goesL_ (some 37) rfl rfl Tryz.func115 (by kernel_rfl) rfl #[.agg #[.string a0_0, .string a0_1, .string a0_2, .bool a0_3, .string a0_4, .string a0_5, .slice A0_6 l0_6.length c0_6, .slice A0_7 l0_7.length c0_7, .int .i64 a0_8, .int .i64 a0_9, .int .i64 a0_10, .int .i64 a0_11, .string a0_12, .slice A0_13 l0_13.length c0_13, .slice A0_14 l0_14.length c0_14], .string (⟨#[109, 101, 109, 98, 101, 114, 115, 104, 105, 112]⟩ : ByteArray)] rfl (by (try simp only [List.map_toArray, List.map_cons, List.map_nil]); first | done | rfl | (simp only [List.length_drop, List.length_take]; rfl)) ?_; (with_reducible refine (heliastref15_text.calls kj4 a0_0 a0_1 a0_2 a0_3 a0_4 a0_5 _ _ l0_6 _ _ l0_7 a0_8 a0_9 a0_10 a0_11 a0_12 _ _ l0_13 _ _ l0_14 (⟨#[109, 101, 109, 98, 101, 114, 115, 104, 105, 112]⟩ : ByteArray) t124 t125 _ ?side1 ?side2 ?side3 ?side4 ?side5 ?side6 ?side7 ?side8 A15.out).mono ?_); (case side1 => repeat (first | exact (Kd.C_below HR0_6.out HB.out) | (with_reducible refine Kd.C_alloc ?_ _) | (with_reducible refine Kd.C_drewN ?_ _) | (with_reducible refine Kd.C_drew ?_))); (case side2 => exact HC0_6.out); (case side3 => repeat (first | exact (Kd.C_below HR0_7.out HB.out) | (with_reducible refine Kd.C_alloc ?_ _) | (with_reducible refine Kd.C_drewN ?_ _) | (with_reducible refine Kd.C_drew ?_))); (case side4 => exact HC0_7.out); (case side5 => repeat (first | exact (Kd.C_below HR0_13.out HB.out) | (with_reducible refine Kd.C_alloc ?_ _) | (with_reducible refine Kd.C_drewN ?_ _) | (with_reducible refine Kd.C_drew ?_))); (case side6 => exact HC0_13.out); (case side7 => repeat (first | exact (Kd.C_below HR0_14.out HB.out) | (with_reducible refine Kd.C_alloc ?_ _) | (with_reducible refine Kd.C_drewN ?_ _) | (with_reducible refine Kd.C_drew ?_))); (case side8 => exact HC0_14.out); rintro e w27 ⟨rfl, hb⟩; refine ⟨_, rfl, ?_⟩; have n0_ := Aside0.mk (Kd.R_below (by (with_reducible repeat (first | apply Kd.R_alloc | apply Kd.R_drewN | apply Kd.R_drew)); exact HO_3.out) hb); have n1_ := Aside0.mk (blk_below (g := gb120) (o := .cells #[.string a0_0, .string a0_1, .string a0_2, .bool a0_3, .string a0_4, .string a0_5, .slice A0_6 l0_6.length c0_6, .slice A0_7 l0_7.length c0_7, .int .i64 a0_8, .int .i64 a0_9, .int .i64 a0_10, .int .i64 a0_11, .string a0_12, .slice A0_13 l0_13.length c0_13, .slice A0_14 l0_14.length c0_14] 50 (0, 0)) (by (with_reducible repeat (first | refine blk_drewN ?_ _ | refine blk_drew ?_ | refine blk_alloc ?_ _)); exact BK120.out) hb); have n2_ := Aside0.mk (below_step (by repeat (first | (with_reducible first | exact HB.out | apply below_alloc | apply pw_below_drewN | apply below_drew1 | refine below_set ?_ GE120.out) | exact HB.out)) hb); clear HO_3; clear BK120; clear HB; have HO_3 := n0_; have BK120 := n1_; have HB := n2_; clear n0_ n1_ n2_; (try clear hb); (try clear hb2); (try clear hk); (try clear hi)))
                go_ret
                exact ⟨_, by first | rfl | (simp [errW_none, errW_some] <;> rfl) | (simp [*, errW_none, errW_some] <;> rfl), by (with_reducible repeat (first | apply Kd.R_alloc | apply Kd.R_drewN | apply Kd.R_drew)); exact HO_3.out, by repeat (first | (with_reducible first | exact HB.out | apply below_alloc | apply pw_below_drewN | apply below_drew1 | refine below_set ?_ GE120.out) | exact HB.out)⟩
          · rw [if_neg c14] at H
            have c14b0 : (a0_2.toList == a0_4.toList) = false := beq_eq_false_iff_ne.mpr c14
            have c14b1 : (a0_2.toList != a0_4.toList) = true := bne_iff_ne.mpr c14
            by_cases c28 : y121.length < 4398046511104
            · rw [if_pos c28] at H
              have LMc28 := Aside0.mk c28
              clear c28
              obtain ⟨y132, hy132⟩ : ∃ y_ : List (S122), y_ = (y121 ++ [(⟨(⟨#[109, 46, 114, 111, 111, 109, 46, 109, 101, 109, 98, 101, 114]⟩ : ByteArray), a0_2⟩ : S122)]) := ⟨_, rfl⟩
              replace H : ((heliastref15_text.f kj4 a0_0 a0_1 a0_2 a0_3 a0_4 a0_5 l0_6 l0_7 a0_8 a0_9 a0_10 a0_11 a0_12 l0_13 l0_14 (⟨#[109, 101, 109, 98, 101, 114, 115, 104, 105, 112]⟩ : ByteArray)).bind fun bt135 => (if bt135.1.toList = ([106, 111, 105, 110] : List UInt8) then (if y132.length < 4398046511104 then (some (y132 ++ [(⟨(⟨#[109, 46, 114, 111, 111, 109, 46, 106, 111, 105, 110, 95, 114, 117, 108, 101, 115]⟩ : ByteArray), (⟨#[]⟩ : ByteArray)⟩ : S122)])) else (none)) else (if bt135.1.toList = ([105, 110, 118, 105, 116, 101] : List UInt8) then (if y132.length < 4398046511104 then (some (y132 ++ [(⟨(⟨#[109, 46, 114, 111, 111, 109, 46, 106, 111, 105, 110, 95, 114, 117, 108, 101, 115]⟩ : ByteArray), (⟨#[]⟩ : ByteArray)⟩ : S122)])) else (none)) else (some y132)))) = some r := by first | (rw [hy132]; with_reducible exact H) | (have H2_ := (Option.bind_some _ _).symm.trans H; rw [hy132]; with_reducible exact H2_) | (have H2_ := (Option.bind_some _ _).symm.trans H; with_reducible exact H2_) | with_reducible exact H | (rw [hy132]; exact H) | exact H
              have Ny132 := Aside0.mk hy132
              clear hy132
              replace H := Option.bind_eq_some_iff.mp H
              obtain ⟨⟨t135, t136⟩, A290, H⟩ := H
              replace H : (if t135.toList = ([106, 111, 105, 110] : List UInt8) then (if y132.length < 4398046511104 then (some (y132 ++ [(⟨(⟨#[109, 46, 114, 111, 111, 109, 46, 106, 111, 105, 110, 95, 114, 117, 108, 101, 115]⟩ : ByteArray), (⟨#[]⟩ : ByteArray)⟩ : S122)])) else (none)) else (if t135.toList = ([105, 110, 118, 105, 116, 101] : List UInt8) then (if y132.length < 4398046511104 then (some (y132 ++ [(⟨(⟨#[109, 46, 114, 111, 111, 109, 46, 106, 111, 105, 110, 95, 114, 117, 108, 101, 115]⟩ : ByteArray), (⟨#[]⟩ : ByteArray)⟩ : S122)])) else (none)) else (some y132))) = some r := H
              have A29 := Aside0.mk A290
              clear A290
              by_cases c30 : t135.toList = ([106, 111, 105, 110] : List UInt8)
              · rw [if_pos c30] at H
                have c30b0 : (t135.toList == ([106, 111, 105, 110] : List UInt8)) = true := beq_iff_eq.mpr c30
                have c30b1 : (t135.toList != ([106, 111, 105, 110] : List UInt8)) = false := bne_eq_false_iff_eq.mpr c30
                clear c30
                by_cases c31 : y132.length < 4398046511104
                · rw [if_pos c31] at H
                  have LMc31 := Aside0.mk c31
                  clear c31
                  obtain ⟨y137, hy137⟩ : ∃ y_ : List (S122), y_ = (y132 ++ [(⟨(⟨#[109, 46, 114, 111, 111, 109, 46, 106, 111, 105, 110, 95, 114, 117, 108, 101, 115]⟩ : ByteArray), (⟨#[]⟩ : ByteArray)⟩ : S122)]) := ⟨_, rfl⟩
                  replace H : (some y137) = some r := by first | (rw [hy137]; with_reducible exact H) | (have H2_ := (Option.bind_some _ _).symm.trans H; rw [hy137]; with_reducible exact H2_) | (have H2_ := (Option.bind_some _ _).symm.trans H; with_reducible exact H2_) | with_reducible exact H | (rw [hy137]; exact H) | exact H
                  have Ny137 := Aside0.mk hy137
                  clear hy137
                  obtain rfl := Option.some.inj H
                  have hcz32_0 : wc.cell? ⟨gb120, 0, none⟩ = some (.string a0_0) := (blk_cell BK120.out 0).trans rfl
                  have hcz32_1 : wc.cell? ⟨gb120, 1, none⟩ = some (.string a0_1) := (blk_cell BK120.out 1).trans rfl
                  have hcz32_2 : wc.cell? ⟨gb120, 2, none⟩ = some (.string a0_2) := (blk_cell BK120.out 2).trans rfl
                  have hcz32_3 : wc.cell? ⟨gb120, 3, none⟩ = some (.bool a0_3) := (blk_cell BK120.out 3).trans rfl
                  have hcz32_4 : wc.cell? ⟨gb120, 4, none⟩ = some (.string a0_4) := (blk_cell BK120.out 4).trans rfl
                  have hcz32_5 : wc.cell? ⟨gb120, 5, none⟩ = some (.string a0_5) := (blk_cell BK120.out 5).trans rfl
                  have hcz32_6 : wc.cell? ⟨gb120, 6, none⟩ = some (.slice A0_6 l0_6.length c0_6) := (blk_cell BK120.out 6).trans rfl
                  have hcz32_7 : wc.cell? ⟨gb120, 7, none⟩ = some (.slice A0_7 l0_7.length c0_7) := (blk_cell BK120.out 7).trans rfl
                  have hcz32_8 : wc.cell? ⟨gb120, 8, none⟩ = some (.int .i64 a0_8) := (blk_cell BK120.out 8).trans rfl
                  have hcz32_9 : wc.cell? ⟨gb120, 9, none⟩ = some (.int .i64 a0_9) := (blk_cell BK120.out 9).trans rfl
                  have hcz32_10 : wc.cell? ⟨gb120, 10, none⟩ = some (.int .i64 a0_10) := (blk_cell BK120.out 10).trans rfl
                  have hcz32_11 : wc.cell? ⟨gb120, 11, none⟩ = some (.int .i64 a0_11) := (blk_cell BK120.out 11).trans rfl
                  have hcz32_12 : wc.cell? ⟨gb120, 12, none⟩ = some (.string a0_12) := (blk_cell BK120.out 12).trans rfl
                  have hcz32_13 : wc.cell? ⟨gb120, 13, none⟩ = some (.slice A0_13 l0_13.length c0_13) := (blk_cell BK120.out 13).trans rfl
                  have hcz32_14 : wc.cell? ⟨gb120, 14, none⟩ = some (.slice A0_14 l0_14.length c0_14) := (blk_cell BK120.out 14).trans rfl
                  have hfz32_0 := blk_frozen BK120.out 0
                  have hfz32_1 := blk_frozen BK120.out 1
                  have hfz32_2 := blk_frozen BK120.out 2
                  have hfz32_3 := blk_frozen BK120.out 3
                  have hfz32_4 := blk_frozen BK120.out 4
                  have hfz32_5 := blk_frozen BK120.out 5
                  have hfz32_6 := blk_frozen BK120.out 6
                  have hfz32_7 := blk_frozen BK120.out 7
                  have hfz32_8 := blk_frozen BK120.out 8
                  have hfz32_9 := blk_frozen BK120.out 9
                  have hfz32_10 := blk_frozen BK120.out 10
                  have hfz32_11 := blk_frozen BK120.out 11
                  have hfz32_12 := blk_frozen BK120.out 12
                  have hfz32_13 := blk_frozen BK120.out 13
                  have hfz32_14 := blk_frozen BK120.out 14
                  go_wp2_with (first | ((with_reducible refine gate_builtin (b := .append) (xs := #[.tmp 29, .tmp 33]) rfl ?_); at_builtin; refine Kd.R_append k122 (w0 := w) w.heap.size rfl (.tmp 29) (.tmp 33) 118 122 (.agg #[(.string ⟨#[]⟩), (.string ⟨#[]⟩)]) 32 rfl Tryz.underlying118 info122 rfl (by decide) (by omega) v122 y121 (⟨(⟨#[109, 46, 114, 111, 111, 109, 46, 109, 101, 109, 98, 101, 114]⟩ : ByteArray), a0_2⟩ : S122) [.string (⟨#[109, 46, 114, 111, 111, 109, 46, 109, 101, 109, 98, 101, 114]⟩ : ByteArray), .string a0_2] (fun _ => True) (fun _ => False) rfl rfl ?aP (fun _ hk => hk.elim) ?aF ?aO ?aB ?aS ?aL ?_; (case aP => exact k122_mkM _ _ _ (⟨(⟨#[109, 46, 114, 111, 111, 109, 46, 109, 101, 109, 98, 101, 114]⟩ : ByteArray), a0_2⟩ : S122)); (case aB => exact (by repeat (first | (with_reducible first | exact HB.out | apply below_alloc | apply pw_below_drewN | apply below_drew1 | refine below_set ?_ GE120.out) | exact HB.out))); (case aF => exact (fun _ _ => trivial)); (case aO => exact (by (with_reducible repeat (first | apply Kd.R_alloc | apply Kd.R_drewN | apply Kd.R_drew)); exact HO_3.out)); (case aS => exact (below_size (by repeat (first | (with_reducible first | exact HB.out | apply below_alloc | apply pw_below_drewN | apply below_drew1 | refine below_set ?_ GE120.out) | exact HB.out)))); (case aL => have := LMc28.out; omega); intro v133 w33 ho hb hg hat; rw [← Ny132.out] at ho; have n0_ := Aside0.mk (blk_grown (g := gb120) (o := .cells #[.string a0_0, .string a0_1, .string a0_2, .bool a0_3, .string a0_4, .string a0_5, .slice A0_6 l0_6.length c0_6, .slice A0_7 l0_7.length c0_7, .int .i64 a0_8, .int .i64 a0_9, .int .i64 a0_10, .int .i64 a0_11, .string a0_12, .slice A0_13 l0_13.length c0_13, .slice A0_14 l0_14.length c0_14] 50 (0, 0)) (by (with_reducible repeat (first | refine blk_drewN ?_ _ | refine blk_drew ?_ | refine blk_alloc ?_ _)); exact BK120.out) hg (Kd.R_ne HO_3.out BK120.out (by decide))); have n1_ := Aside0.mk (hb); have n2_ := Aside0.mk (ho); clear BK120; clear HB; clear HO_3; have BK120 := n0_; have HB := n1_; have HO134 := n2_; clear n0_ n1_ n2_; clear ho hb hg hat; have hcz34_0 : w33.cell? ⟨gb120, 0, none⟩ = some (.string a0_0) := (blk_cell BK120.out 0).trans rfl; have hcz34_1 : w33.cell? ⟨gb120, 1, none⟩ = some (.string a0_1) := (blk_cell BK120.out 1).trans rfl; have hcz34_2 : w33.cell? ⟨gb120, 2, none⟩ = some (.string a0_2) := (blk_cell BK120.out 2).trans rfl; have hcz34_3 : w33.cell? ⟨gb120, 3, none⟩ = some (.bool a0_3) := (blk_cell BK120.out 3).trans rfl; have hcz34_4 : w33.cell? ⟨gb120, 4, none⟩ = some (.string a0_4) := (blk_cell BK120.out 4).trans rfl; have hcz34_5 : w33.cell? ⟨gb120, 5, none⟩ = some (.string a0_5) := (blk_cell BK120.out 5).trans rfl; have hcz34_6 : w33.cell? ⟨gb120, 6, none⟩ = some (.slice A0_6 l0_6.length c0_6) := (blk_cell BK120.out 6).trans rfl; have hcz34_7 : w33.cell? ⟨gb120, 7, none⟩ = some (.slice A0_7 l0_7.length c0_7) := (blk_cell BK120.out 7).trans rfl; have hcz34_8 : w33.cell? ⟨gb120, 8, none⟩ = some (.int .i64 a0_8) := (blk_cell BK120.out 8).trans rfl; have hcz34_9 : w33.cell? ⟨gb120, 9, none⟩ = some (.int .i64 a0_9) := (blk_cell BK120.out 9).trans rfl; have hcz34_10 : w33.cell? ⟨gb120, 10, none⟩ = some (.int .i64 a0_10) := (blk_cell BK120.out 10).trans rfl; have hcz34_11 : w33.cell? ⟨gb120, 11, none⟩ = some (.int .i64 a0_11) := (blk_cell BK120.out 11).trans rfl; have hcz34_12 : w33.cell? ⟨gb120, 12, none⟩ = some (.string a0_12) := (blk_cell BK120.out 12).trans rfl; have hcz34_13 : w33.cell? ⟨gb120, 13, none⟩ = some (.slice A0_13 l0_13.length c0_13) := (blk_cell BK120.out 13).trans rfl; have hcz34_14 : w33.cell? ⟨gb120, 14, none⟩ = some (.slice A0_14 l0_14.length c0_14) := (blk_cell BK120.out 14).trans rfl; have hfz34_0 := blk_frozen BK120.out 0; have hfz34_1 := blk_frozen BK120.out 1; have hfz34_2 := blk_frozen BK120.out 2; have hfz34_3 := blk_frozen BK120.out 3; have hfz34_4 := blk_frozen BK120.out 4; have hfz34_5 := blk_frozen BK120.out 5; have hfz34_6 := blk_frozen BK120.out 6; have hfz34_7 := blk_frozen BK120.out 7; have hfz34_8 := blk_frozen BK120.out 8; have hfz34_9 := blk_frozen BK120.out 9; have hfz34_10 := blk_frozen BK120.out 10; have hfz34_11 := blk_frozen BK120.out 11; have hfz34_12 := blk_frozen BK120.out 12; have hfz34_13 := blk_frozen BK120.out 13; have hfz34_14 := blk_frozen BK120.out 14) | ((with_reducible refine gate_callee (f := 115) rfl ?_); refine goesL_ (some 37) rfl rfl Tryz.func115 (by kernel_rfl) rfl #[.agg #[.string a0_0, .string a0_1, .string a0_2, .bool a0_3, .string a0_4, .string a0_5, .slice A0_6 l0_6.length c0_6, .slice A0_7 l0_7.length c0_7, .int .i64 a0_8, .int .i64 a0_9, .int .i64 a0_10, .int .i64 a0_11, .string a0_12, .slice A0_13 l0_13.length c0_13, .slice A0_14 l0_14.length c0_14], .string (⟨#[109, 101, 109, 98, 101, 114, 115, 104, 105, 112]⟩ : ByteArray)] rfl (by (try simp only [List.map_toArray, List.map_cons, List.map_nil]); first | done | rfl | (simp only [List.length_drop, List.length_take]; rfl)) ?_; (with_reducible refine (heliastref15_text.calls kj4 a0_0 a0_1 a0_2 a0_3 a0_4 a0_5 _ _ l0_6 _ _ l0_7 a0_8 a0_9 a0_10 a0_11 a0_12 _ _ l0_13 _ _ l0_14 (⟨#[109, 101, 109, 98, 101, 114, 115, 104, 105, 112]⟩ : ByteArray) t135 t136 _ ?side1 ?side2 ?side3 ?side4 ?side5 ?side6 ?side7 ?side8 A29.out).mono ?_); (case side1 => repeat (first | exact (Kd.C_below HR0_6.out HB.out) | (with_reducible refine Kd.C_alloc ?_ _) | (with_reducible refine Kd.C_drewN ?_ _) | (with_reducible refine Kd.C_drew ?_))); (case side2 => exact HC0_6.out); (case side3 => repeat (first | exact (Kd.C_below HR0_7.out HB.out) | (with_reducible refine Kd.C_alloc ?_ _) | (with_reducible refine Kd.C_drewN ?_ _) | (with_reducible refine Kd.C_drew ?_))); (case side4 => exact HC0_7.out); (case side5 => repeat (first | exact (Kd.C_below HR0_13.out HB.out) | (with_reducible refine Kd.C_alloc ?_ _) | (with_reducible refine Kd.C_drewN ?_ _) | (with_reducible refine Kd.C_drew ?_))); (case side6 => exact HC0_13.out); (case side7 => repeat (first | exact (Kd.C_below HR0_14.out HB.out) | (with_reducible refine Kd.C_alloc ?_ _) | (with_reducible refine Kd.C_drewN ?_ _) | (with_reducible refine Kd.C_drew ?_))); (case side8 => exact HC0_14.out); rintro e w35 ⟨rfl, hb⟩; refine ⟨_, rfl, ?_⟩; have n0_ := Aside0.mk (Kd.R_below (by (with_reducible repeat (first | apply Kd.R_alloc | apply Kd.R_drewN | apply Kd.R_drew)); exact HO134.out) hb); have n1_ := Aside0.mk (blk_below (g := gb120) (o := .cells #[.string a0_0, .string a0_1, .string a0_2, .bool a0_3, .string a0_4, .string a0_5, .slice A0_6 l0_6.length c0_6, .slice A0_7 l0_7.length c0_7, .int .i64 a0_8, .int .i64 a0_9, .int .i64 a0_10, .int .i64 a0_11, .string a0_12, .slice A0_13 l0_13.length c0_13, .slice A0_14 l0_14.length c0_14] 50 (0, 0)) (by (with_reducible repeat (first | refine blk_drewN ?_ _ | refine blk_drew ?_ | refine blk_alloc ?_ _)); exact BK120.out) hb); have n2_ := Aside0.mk (below_step (by repeat (first | (with_reducible first | exact HB.out | apply below_alloc | apply pw_below_drewN | apply below_drew1 | refine below_set ?_ GE120.out) | exact HB.out)) hb); clear HO134; clear BK120; clear HB; have HO134 := n0_; have BK120 := n1_; have HB := n2_; clear n0_ n1_ n2_; (try clear hb); (try clear hb2); (try clear hk); (try clear hi)) | ((with_reducible refine gate_builtin (b := .append) (xs := #[.tmp 46, .tmp 48]) rfl ?_); at_builtin; refine Kd.R_append k122 (w0 := w) w.heap.size rfl (.tmp 46) (.tmp 48) 118 122 (.agg #[(.string ⟨#[]⟩), (.string ⟨#[]⟩)]) 32 rfl Tryz.underlying118 info122 rfl (by decide) (by omega) v133 y132 (⟨(⟨#[109, 46, 114, 111, 111, 109, 46, 106, 111, 105, 110, 95, 114, 117, 108, 101, 115]⟩ : ByteArray), (⟨#[]⟩ : ByteArray)⟩ : S122) [.string (⟨#[109, 46, 114, 111, 111, 109, 46, 106, 111, 105, 110, 95, 114, 117, 108, 101, 115]⟩ : ByteArray), .string (⟨#[]⟩ : ByteArray)] (fun _ => True) (fun _ => False) rfl rfl ?aP (fun _ hk => hk.elim) ?aF ?aO ?aB ?aS ?aL ?_; (case aP => exact k122_mkM _ _ _ (⟨(⟨#[109, 46, 114, 111, 111, 109, 46, 106, 111, 105, 110, 95, 114, 117, 108, 101, 115]⟩ : ByteArray), (⟨#[]⟩ : ByteArray)⟩ : S122)); (case aB => exact (by repeat (first | (with_reducible first | exact HB.out | apply below_alloc | apply pw_below_drewN | apply below_drew1 | refine below_set ?_ GE120.out) | exact HB.out))); (case aF => exact (fun _ _ => trivial)); (case aO => exact (by (with_reducible repeat (first | apply Kd.R_alloc | apply Kd.R_drewN | apply Kd.R_drew)); exact HO134.out)); (case aS => exact (below_size (by repeat (first | (with_reducible first | exact HB.out | apply below_alloc | apply pw_below_drewN | apply below_drew1 | refine below_set ?_ GE120.out) | exact HB.out)))); (case aL => have := LMc31.out; omega); intro v138 w36 ho hb hg hat; rw [← Ny137.out] at ho; have n0_ := Aside0.mk (blk_grown (g := gb120) (o := .cells #[.string a0_0, .string a0_1, .string a0_2, .bool a0_3, .string a0_4, .string a0_5, .slice A0_6 l0_6.length c0_6, .slice A0_7 l0_7.length c0_7, .int .i64 a0_8, .int .i64 a0_9, .int .i64 a0_10, .int .i64 a0_11, .string a0_12, .slice A0_13 l0_13.length c0_13, .slice A0_14 l0_14.length c0_14] 50 (0, 0)) (by (with_reducible repeat (first | refine blk_drewN ?_ _ | refine blk_drew ?_ | refine blk_alloc ?_ _)); exact BK120.out) hg (Kd.R_ne HO134.out BK120.out (by decide))); have n1_ := Aside0.mk (hb); have n2_ := Aside0.mk (ho); clear BK120; clear HB; clear HO134; have BK120 := n0_; have HB := n1_; have HO139 := n2_; clear n0_ n1_ n2_; clear ho hb hg hat))
                  go_ret
                  exact ⟨_, by first | rfl | (simp [errW_none, errW_some] <;> rfl) | (simp [*, errW_none, errW_some] <;> rfl), by (with_reducible repeat (first | apply Kd.R_alloc | apply Kd.R_drewN | apply Kd.R_drew)); exact HO139.out, by repeat (first | (with_reducible first | exact HB.out | apply below_alloc | apply pw_below_drewN | apply below_drew1 | refine below_set ?_ GE120.out) | exact HB.out)⟩
                · rw [if_neg c31] at H
                  exact absurd H (by simp)
              · rw [if_neg c30] at H
                have c30b0 : (t135.toList == ([106, 111, 105, 110] : List UInt8)) = false := beq_eq_false_iff_ne.mpr c30
                have c30b1 : (t135.toList != ([106, 111, 105, 110] : List UInt8)) = true := bne_iff_ne.mpr c30
                by_cases c37 : t135.toList = ([105, 110, 118, 105, 116, 101] : List UInt8)
                · rw [if_pos c37] at H
                  have c37b0 : (t135.toList == ([105, 110, 118, 105, 116, 101] : List UInt8)) = true := beq_iff_eq.mpr c37
                  have c37b1 : (t135.toList != ([105, 110, 118, 105, 116, 101] : List UInt8)) = false := bne_eq_false_iff_eq.mpr c37
                  clear c37
                  by_cases c38 : y132.length < 4398046511104
                  · rw [if_pos c38] at H
                    have LMc38 := Aside0.mk c38
                    clear c38
                    obtain ⟨y140, hy140⟩ : ∃ y_ : List (S122), y_ = (y132 ++ [(⟨(⟨#[109, 46, 114, 111, 111, 109, 46, 106, 111, 105, 110, 95, 114, 117, 108, 101, 115]⟩ : ByteArray), (⟨#[]⟩ : ByteArray)⟩ : S122)]) := ⟨_, rfl⟩
                    replace H : (some y140) = some r := by first | (rw [hy140]; with_reducible exact H) | (have H2_ := (Option.bind_some _ _).symm.trans H; rw [hy140]; with_reducible exact H2_) | (have H2_ := (Option.bind_some _ _).symm.trans H; with_reducible exact H2_) | with_reducible exact H | (rw [hy140]; exact H) | exact H
                    have Ny140 := Aside0.mk hy140
                    clear hy140
                    obtain rfl := Option.some.inj H
                    have hcz39_0 : wc.cell? ⟨gb120, 0, none⟩ = some (.string a0_0) := (blk_cell BK120.out 0).trans rfl
                    have hcz39_1 : wc.cell? ⟨gb120, 1, none⟩ = some (.string a0_1) := (blk_cell BK120.out 1).trans rfl
                    have hcz39_2 : wc.cell? ⟨gb120, 2, none⟩ = some (.string a0_2) := (blk_cell BK120.out 2).trans rfl
                    have hcz39_3 : wc.cell? ⟨gb120, 3, none⟩ = some (.bool a0_3) := (blk_cell BK120.out 3).trans rfl
                    have hcz39_4 : wc.cell? ⟨gb120, 4, none⟩ = some (.string a0_4) := (blk_cell BK120.out 4).trans rfl
                    have hcz39_5 : wc.cell? ⟨gb120, 5, none⟩ = some (.string a0_5) := (blk_cell BK120.out 5).trans rfl
                    have hcz39_6 : wc.cell? ⟨gb120, 6, none⟩ = some (.slice A0_6 l0_6.length c0_6) := (blk_cell BK120.out 6).trans rfl
                    have hcz39_7 : wc.cell? ⟨gb120, 7, none⟩ = some (.slice A0_7 l0_7.length c0_7) := (blk_cell BK120.out 7).trans rfl
                    have hcz39_8 : wc.cell? ⟨gb120, 8, none⟩ = some (.int .i64 a0_8) := (blk_cell BK120.out 8).trans rfl
                    have hcz39_9 : wc.cell? ⟨gb120, 9, none⟩ = some (.int .i64 a0_9) := (blk_cell BK120.out 9).trans rfl
                    have hcz39_10 : wc.cell? ⟨gb120, 10, none⟩ = some (.int .i64 a0_10) := (blk_cell BK120.out 10).trans rfl
                    have hcz39_11 : wc.cell? ⟨gb120, 11, none⟩ = some (.int .i64 a0_11) := (blk_cell BK120.out 11).trans rfl
                    have hcz39_12 : wc.cell? ⟨gb120, 12, none⟩ = some (.string a0_12) := (blk_cell BK120.out 12).trans rfl
                    have hcz39_13 : wc.cell? ⟨gb120, 13, none⟩ = some (.slice A0_13 l0_13.length c0_13) := (blk_cell BK120.out 13).trans rfl
                    have hcz39_14 : wc.cell? ⟨gb120, 14, none⟩ = some (.slice A0_14 l0_14.length c0_14) := (blk_cell BK120.out 14).trans rfl
                    have hfz39_0 := blk_frozen BK120.out 0
                    have hfz39_1 := blk_frozen BK120.out 1
                    have hfz39_2 := blk_frozen BK120.out 2
                    have hfz39_3 := blk_frozen BK120.out 3
                    have hfz39_4 := blk_frozen BK120.out 4
                    have hfz39_5 := blk_frozen BK120.out 5
                    have hfz39_6 := blk_frozen BK120.out 6
                    have hfz39_7 := blk_frozen BK120.out 7
                    have hfz39_8 := blk_frozen BK120.out 8
                    have hfz39_9 := blk_frozen BK120.out 9
                    have hfz39_10 := blk_frozen BK120.out 10
                    have hfz39_11 := blk_frozen BK120.out 11
                    have hfz39_12 := blk_frozen BK120.out 12
                    have hfz39_13 := blk_frozen BK120.out 13
                    have hfz39_14 := blk_frozen BK120.out 14
                    go_wp2_with (first | ((with_reducible refine gate_builtin (b := .append) (xs := #[.tmp 29, .tmp 33]) rfl ?_); at_builtin; refine Kd.R_append k122 (w0 := w) w.heap.size rfl (.tmp 29) (.tmp 33) 118 122 (.agg #[(.string ⟨#[]⟩), (.string ⟨#[]⟩)]) 32 rfl Tryz.underlying118 info122 rfl (by decide) (by omega) v122 y121 (⟨(⟨#[109, 46, 114, 111, 111, 109, 46, 109, 101, 109, 98, 101, 114]⟩ : ByteArray), a0_2⟩ : S122) [.string (⟨#[109, 46, 114, 111, 111, 109, 46, 109, 101, 109, 98, 101, 114]⟩ : ByteArray), .string a0_2] (fun _ => True) (fun _ => False) rfl rfl ?aP (fun _ hk => hk.elim) ?aF ?aO ?aB ?aS ?aL ?_; (case aP => exact k122_mkM _ _ _ (⟨(⟨#[109, 46, 114, 111, 111, 109, 46, 109, 101, 109, 98, 101, 114]⟩ : ByteArray), a0_2⟩ : S122)); (case aB => exact (by repeat (first | (with_reducible first | exact HB.out | apply below_alloc | apply pw_below_drewN | apply below_drew1 | refine below_set ?_ GE120.out) | exact HB.out))); (case aF => exact (fun _ _ => trivial)); (case aO => exact (by (with_reducible repeat (first | apply Kd.R_alloc | apply Kd.R_drewN | apply Kd.R_drew)); exact HO_3.out)); (case aS => exact (below_size (by repeat (first | (with_reducible first | exact HB.out | apply below_alloc | apply pw_below_drewN | apply below_drew1 | refine below_set ?_ GE120.out) | exact HB.out)))); (case aL => have := LMc28.out; omega); intro v133 w40 ho hb hg hat; rw [← Ny132.out] at ho; have n0_ := Aside0.mk (blk_grown (g := gb120) (o := .cells #[.string a0_0, .string a0_1, .string a0_2, .bool a0_3, .string a0_4, .string a0_5, .slice A0_6 l0_6.length c0_6, .slice A0_7 l0_7.length c0_7, .int .i64 a0_8, .int .i64 a0_9, .int .i64 a0_10, .int .i64 a0_11, .string a0_12, .slice A0_13 l0_13.length c0_13, .slice A0_14 l0_14.length c0_14] 50 (0, 0)) (by (with_reducible repeat (first | refine blk_drewN ?_ _ | refine blk_drew ?_ | refine blk_alloc ?_ _)); exact BK120.out) hg (Kd.R_ne HO_3.out BK120.out (by decide))); have n1_ := Aside0.mk (hb); have n2_ := Aside0.mk (ho); clear BK120; clear HB; clear HO_3; have BK120 := n0_; have HB := n1_; have HO134 := n2_; clear n0_ n1_ n2_; clear ho hb hg hat; have hcz41_0 : w40.cell? ⟨gb120, 0, none⟩ = some (.string a0_0) := (blk_cell BK120.out 0).trans rfl; have hcz41_1 : w40.cell? ⟨gb120, 1, none⟩ = some (.string a0_1) := (blk_cell BK120.out 1).trans rfl; have hcz41_2 : w40.cell? ⟨gb120, 2, none⟩ = some (.string a0_2) := (blk_cell BK120.out 2).trans rfl; have hcz41_3 : w40.cell? ⟨gb120, 3, none⟩ = some (.bool a0_3) := (blk_cell BK120.out 3).trans rfl; have hcz41_4 : w40.cell? ⟨gb120, 4, none⟩ = some (.string a0_4) := (blk_cell BK120.out 4).trans rfl; have hcz41_5 : w40.cell? ⟨gb120, 5, none⟩ = some (.string a0_5) := (blk_cell BK120.out 5).trans rfl; have hcz41_6 : w40.cell? ⟨gb120, 6, none⟩ = some (.slice A0_6 l0_6.length c0_6) := (blk_cell BK120.out 6).trans rfl; have hcz41_7 : w40.cell? ⟨gb120, 7, none⟩ = some (.slice A0_7 l0_7.length c0_7) := (blk_cell BK120.out 7).trans rfl; have hcz41_8 : w40.cell? ⟨gb120, 8, none⟩ = some (.int .i64 a0_8) := (blk_cell BK120.out 8).trans rfl; have hcz41_9 : w40.cell? ⟨gb120, 9, none⟩ = some (.int .i64 a0_9) := (blk_cell BK120.out 9).trans rfl; have hcz41_10 : w40.cell? ⟨gb120, 10, none⟩ = some (.int .i64 a0_10) := (blk_cell BK120.out 10).trans rfl; have hcz41_11 : w40.cell? ⟨gb120, 11, none⟩ = some (.int .i64 a0_11) := (blk_cell BK120.out 11).trans rfl; have hcz41_12 : w40.cell? ⟨gb120, 12, none⟩ = some (.string a0_12) := (blk_cell BK120.out 12).trans rfl; have hcz41_13 : w40.cell? ⟨gb120, 13, none⟩ = some (.slice A0_13 l0_13.length c0_13) := (blk_cell BK120.out 13).trans rfl; have hcz41_14 : w40.cell? ⟨gb120, 14, none⟩ = some (.slice A0_14 l0_14.length c0_14) := (blk_cell BK120.out 14).trans rfl; have hfz41_0 := blk_frozen BK120.out 0; have hfz41_1 := blk_frozen BK120.out 1; have hfz41_2 := blk_frozen BK120.out 2; have hfz41_3 := blk_frozen BK120.out 3; have hfz41_4 := blk_frozen BK120.out 4; have hfz41_5 := blk_frozen BK120.out 5; have hfz41_6 := blk_frozen BK120.out 6; have hfz41_7 := blk_frozen BK120.out 7; have hfz41_8 := blk_frozen BK120.out 8; have hfz41_9 := blk_frozen BK120.out 9; have hfz41_10 := blk_frozen BK120.out 10; have hfz41_11 := blk_frozen BK120.out 11; have hfz41_12 := blk_frozen BK120.out 12; have hfz41_13 := blk_frozen BK120.out 13; have hfz41_14 := blk_frozen BK120.out 14) | ((with_reducible refine gate_callee (f := 115) rfl ?_); refine goesL_ (some 37) rfl rfl Tryz.func115 (by kernel_rfl) rfl #[.agg #[.string a0_0, .string a0_1, .string a0_2, .bool a0_3, .string a0_4, .string a0_5, .slice A0_6 l0_6.length c0_6, .slice A0_7 l0_7.length c0_7, .int .i64 a0_8, .int .i64 a0_9, .int .i64 a0_10, .int .i64 a0_11, .string a0_12, .slice A0_13 l0_13.length c0_13, .slice A0_14 l0_14.length c0_14], .string (⟨#[109, 101, 109, 98, 101, 114, 115, 104, 105, 112]⟩ : ByteArray)] rfl (by (try simp only [List.map_toArray, List.map_cons, List.map_nil]); first | done | rfl | (simp only [List.length_drop, List.length_take]; rfl)) ?_; (with_reducible refine (heliastref15_text.calls kj4 a0_0 a0_1 a0_2 a0_3 a0_4 a0_5 _ _ l0_6 _ _ l0_7 a0_8 a0_9 a0_10 a0_11 a0_12 _ _ l0_13 _ _ l0_14 (⟨#[109, 101, 109, 98, 101, 114, 115, 104, 105, 112]⟩ : ByteArray) t135 t136 _ ?side1 ?side2 ?side3 ?side4 ?side5 ?side6 ?side7 ?side8 A29.out).mono ?_); (case side1 => repeat (first | exact (Kd.C_below HR0_6.out HB.out) | (with_reducible refine Kd.C_alloc ?_ _) | (with_reducible refine Kd.C_drewN ?_ _) | (with_reducible refine Kd.C_drew ?_))); (case side2 => exact HC0_6.out); (case side3 => repeat (first | exact (Kd.C_below HR0_7.out HB.out) | (with_reducible refine Kd.C_alloc ?_ _) | (with_reducible refine Kd.C_drewN ?_ _) | (with_reducible refine Kd.C_drew ?_))); (case side4 => exact HC0_7.out); (case side5 => repeat (first | exact (Kd.C_below HR0_13.out HB.out) | (with_reducible refine Kd.C_alloc ?_ _) | (with_reducible refine Kd.C_drewN ?_ _) | (with_reducible refine Kd.C_drew ?_))); (case side6 => exact HC0_13.out); (case side7 => repeat (first | exact (Kd.C_below HR0_14.out HB.out) | (with_reducible refine Kd.C_alloc ?_ _) | (with_reducible refine Kd.C_drewN ?_ _) | (with_reducible refine Kd.C_drew ?_))); (case side8 => exact HC0_14.out); rintro e w42 ⟨rfl, hb⟩; refine ⟨_, rfl, ?_⟩; have n0_ := Aside0.mk (Kd.R_below (by (with_reducible repeat (first | apply Kd.R_alloc | apply Kd.R_drewN | apply Kd.R_drew)); exact HO134.out) hb); have n1_ := Aside0.mk (blk_below (g := gb120) (o := .cells #[.string a0_0, .string a0_1, .string a0_2, .bool a0_3, .string a0_4, .string a0_5, .slice A0_6 l0_6.length c0_6, .slice A0_7 l0_7.length c0_7, .int .i64 a0_8, .int .i64 a0_9, .int .i64 a0_10, .int .i64 a0_11, .string a0_12, .slice A0_13 l0_13.length c0_13, .slice A0_14 l0_14.length c0_14] 50 (0, 0)) (by (with_reducible repeat (first | refine blk_drewN ?_ _ | refine blk_drew ?_ | refine blk_alloc ?_ _)); exact BK120.out) hb); have n2_ := Aside0.mk (below_step (by repeat (first | (with_reducible first | exact HB.out | apply below_alloc | apply pw_below_drewN | apply below_drew1 | refine below_set ?_ GE120.out) | exact HB.out)) hb); clear HO134; clear BK120; clear HB; have HO134 := n0_; have BK120 := n1_; have HB := n2_; clear n0_ n1_ n2_; (try clear hb); (try clear hb2); (try clear hk); (try clear hi)) | ((with_reducible refine gate_builtin (b := .append) (xs := #[.tmp 46, .tmp 48]) rfl ?_); at_builtin; refine Kd.R_append k122 (w0 := w) w.heap.size rfl (.tmp 46) (.tmp 48) 118 122 (.agg #[(.string ⟨#[]⟩), (.string ⟨#[]⟩)]) 32 rfl Tryz.underlying118 info122 rfl (by decide) (by omega) v133 y132 (⟨(⟨#[109, 46, 114, 111, 111, 109, 46, 106, 111, 105, 110, 95, 114, 117, 108, 101, 115]⟩ : ByteArray), (⟨#[]⟩ : ByteArray)⟩ : S122) [.string (⟨#[109, 46, 114, 111, 111, 109, 46, 106, 111, 105, 110, 95, 114, 117, 108, 101, 115]⟩ : ByteArray), .string (⟨#[]⟩ : ByteArray)] (fun _ => True) (fun _ => False) rfl rfl ?aP (fun _ hk => hk.elim) ?aF ?aO ?aB ?aS ?aL ?_; (case aP => exact k122_mkM _ _ _ (⟨(⟨#[109, 46, 114, 111, 111, 109, 46, 106, 111, 105, 110, 95, 114, 117, 108, 101, 115]⟩ : ByteArray), (⟨#[]⟩ : ByteArray)⟩ : S122)); (case aB => exact (by repeat (first | (with_reducible first | exact HB.out | apply below_alloc | apply pw_below_drewN | apply below_drew1 | refine below_set ?_ GE120.out) | exact HB.out))); (case aF => exact (fun _ _ => trivial)); (case aO => exact (by (with_reducible repeat (first | apply Kd.R_alloc | apply Kd.R_drewN | apply Kd.R_drew)); exact HO134.out)); (case aS => exact (below_size (by repeat (first | (with_reducible first | exact HB.out | apply below_alloc | apply pw_below_drewN | apply below_drew1 | refine below_set ?_ GE120.out) | exact HB.out)))); (case aL => have := LMc38.out; omega); intro v141 w43 ho hb hg hat; rw [← Ny140.out] at ho; have n0_ := Aside0.mk (blk_grown (g := gb120) (o := .cells #[.string a0_0, .string a0_1, .string a0_2, .bool a0_3, .string a0_4, .string a0_5, .slice A0_6 l0_6.length c0_6, .slice A0_7 l0_7.length c0_7, .int .i64 a0_8, .int .i64 a0_9, .int .i64 a0_10, .int .i64 a0_11, .string a0_12, .slice A0_13 l0_13.length c0_13, .slice A0_14 l0_14.length c0_14] 50 (0, 0)) (by (with_reducible repeat (first | refine blk_drewN ?_ _ | refine blk_drew ?_ | refine blk_alloc ?_ _)); exact BK120.out) hg (Kd.R_ne HO134.out BK120.out (by decide))); have n1_ := Aside0.mk (hb); have n2_ := Aside0.mk (ho); clear BK120; clear HB; clear HO134; have BK120 := n0_; have HB := n1_; have HO142 := n2_; clear n0_ n1_ n2_; clear ho hb hg hat))
                    go_ret
                    exact ⟨_, by first | rfl | (simp [errW_none, errW_some] <;> rfl) | (simp [*, errW_none, errW_some] <;> rfl), by (with_reducible repeat (first | apply Kd.R_alloc | apply Kd.R_drewN | apply Kd.R_drew)); exact HO142.out, by repeat (first | (with_reducible first | exact HB.out | apply below_alloc | apply pw_below_drewN | apply below_drew1 | refine below_set ?_ GE120.out) | exact HB.out)⟩
                  · rw [if_neg c38] at H
                    exact absurd H (by simp)
                · rw [if_neg c37] at H
                  have c37b0 : (t135.toList == ([105, 110, 118, 105, 116, 101] : List UInt8)) = false := beq_eq_false_iff_ne.mpr c37
                  have c37b1 : (t135.toList != ([105, 110, 118, 105, 116, 101] : List UInt8)) = true := bne_iff_ne.mpr c37
                  obtain rfl := Option.some.inj H
                  have hcz44_0 : wc.cell? ⟨gb120, 0, none⟩ = some (.string a0_0) := (blk_cell BK120.out 0).trans rfl
                  have hcz44_1 : wc.cell? ⟨gb120, 1, none⟩ = some (.string a0_1) := (blk_cell BK120.out 1).trans rfl
                  have hcz44_2 : wc.cell? ⟨gb120, 2, none⟩ = some (.string a0_2) := (blk_cell BK120.out 2).trans rfl
                  have hcz44_3 : wc.cell? ⟨gb120, 3, none⟩ = some (.bool a0_3) := (blk_cell BK120.out 3).trans rfl
                  have hcz44_4 : wc.cell? ⟨gb120, 4, none⟩ = some (.string a0_4) := (blk_cell BK120.out 4).trans rfl
                  have hcz44_5 : wc.cell? ⟨gb120, 5, none⟩ = some (.string a0_5) := (blk_cell BK120.out 5).trans rfl
                  have hcz44_6 : wc.cell? ⟨gb120, 6, none⟩ = some (.slice A0_6 l0_6.length c0_6) := (blk_cell BK120.out 6).trans rfl
                  have hcz44_7 : wc.cell? ⟨gb120, 7, none⟩ = some (.slice A0_7 l0_7.length c0_7) := (blk_cell BK120.out 7).trans rfl
                  have hcz44_8 : wc.cell? ⟨gb120, 8, none⟩ = some (.int .i64 a0_8) := (blk_cell BK120.out 8).trans rfl
                  have hcz44_9 : wc.cell? ⟨gb120, 9, none⟩ = some (.int .i64 a0_9) := (blk_cell BK120.out 9).trans rfl
                  have hcz44_10 : wc.cell? ⟨gb120, 10, none⟩ = some (.int .i64 a0_10) := (blk_cell BK120.out 10).trans rfl
                  have hcz44_11 : wc.cell? ⟨gb120, 11, none⟩ = some (.int .i64 a0_11) := (blk_cell BK120.out 11).trans rfl
                  have hcz44_12 : wc.cell? ⟨gb120, 12, none⟩ = some (.string a0_12) := (blk_cell BK120.out 12).trans rfl
                  have hcz44_13 : wc.cell? ⟨gb120, 13, none⟩ = some (.slice A0_13 l0_13.length c0_13) := (blk_cell BK120.out 13).trans rfl
                  have hcz44_14 : wc.cell? ⟨gb120, 14, none⟩ = some (.slice A0_14 l0_14.length c0_14) := (blk_cell BK120.out 14).trans rfl
                  have hfz44_0 := blk_frozen BK120.out 0
                  have hfz44_1 := blk_frozen BK120.out 1
                  have hfz44_2 := blk_frozen BK120.out 2
                  have hfz44_3 := blk_frozen BK120.out 3
                  have hfz44_4 := blk_frozen BK120.out 4
                  have hfz44_5 := blk_frozen BK120.out 5
                  have hfz44_6 := blk_frozen BK120.out 6
                  have hfz44_7 := blk_frozen BK120.out 7
                  have hfz44_8 := blk_frozen BK120.out 8
                  have hfz44_9 := blk_frozen BK120.out 9
                  have hfz44_10 := blk_frozen BK120.out 10
                  have hfz44_11 := blk_frozen BK120.out 11
                  have hfz44_12 := blk_frozen BK120.out 12
                  have hfz44_13 := blk_frozen BK120.out 13
                  have hfz44_14 := blk_frozen BK120.out 14
                  go_wp2_with (first | ((with_reducible refine gate_builtin (b := .append) (xs := #[.tmp 29, .tmp 33]) rfl ?_); at_builtin; refine Kd.R_append k122 (w0 := w) w.heap.size rfl (.tmp 29) (.tmp 33) 118 122 (.agg #[(.string ⟨#[]⟩), (.string ⟨#[]⟩)]) 32 rfl Tryz.underlying118 info122 rfl (by decide) (by omega) v122 y121 (⟨(⟨#[109, 46, 114, 111, 111, 109, 46, 109, 101, 109, 98, 101, 114]⟩ : ByteArray), a0_2⟩ : S122) [.string (⟨#[109, 46, 114, 111, 111, 109, 46, 109, 101, 109, 98, 101, 114]⟩ : ByteArray), .string a0_2] (fun _ => True) (fun _ => False) rfl rfl ?aP (fun _ hk => hk.elim) ?aF ?aO ?aB ?aS ?aL ?_; (case aP => exact k122_mkM _ _ _ (⟨(⟨#[109, 46, 114, 111, 111, 109, 46, 109, 101, 109, 98, 101, 114]⟩ : ByteArray), a0_2⟩ : S122)); (case aB => exact (by repeat (first | (with_reducible first | exact HB.out | apply below_alloc | apply pw_below_drewN | apply below_drew1 | refine below_set ?_ GE120.out) | exact HB.out))); (case aF => exact (fun _ _ => trivial)); (case aO => exact (by (with_reducible repeat (first | apply Kd.R_alloc | apply Kd.R_drewN | apply Kd.R_drew)); exact HO_3.out)); (case aS => exact (below_size (by repeat (first | (with_reducible first | exact HB.out | apply below_alloc | apply pw_below_drewN | apply below_drew1 | refine below_set ?_ GE120.out) | exact HB.out)))); (case aL => have := LMc28.out; omega); intro v133 w45 ho hb hg hat; rw [← Ny132.out] at ho; have n0_ := Aside0.mk (blk_grown (g := gb120) (o := .cells #[.string a0_0, .string a0_1, .string a0_2, .bool a0_3, .string a0_4, .string a0_5, .slice A0_6 l0_6.length c0_6, .slice A0_7 l0_7.length c0_7, .int .i64 a0_8, .int .i64 a0_9, .int .i64 a0_10, .int .i64 a0_11, .string a0_12, .slice A0_13 l0_13.length c0_13, .slice A0_14 l0_14.length c0_14] 50 (0, 0)) (by (with_reducible repeat (first | refine blk_drewN ?_ _ | refine blk_drew ?_ | refine blk_alloc ?_ _)); exact BK120.out) hg (Kd.R_ne HO_3.out BK120.out (by decide))); have n1_ := Aside0.mk (hb); have n2_ := Aside0.mk (ho); clear BK120; clear HB; clear HO_3; have BK120 := n0_; have HB := n1_; have HO134 := n2_; clear n0_ n1_ n2_; clear ho hb hg hat; have hcz46_0 : w45.cell? ⟨gb120, 0, none⟩ = some (.string a0_0) := (blk_cell BK120.out 0).trans rfl; have hcz46_1 : w45.cell? ⟨gb120, 1, none⟩ = some (.string a0_1) := (blk_cell BK120.out 1).trans rfl; have hcz46_2 : w45.cell? ⟨gb120, 2, none⟩ = some (.string a0_2) := (blk_cell BK120.out 2).trans rfl; have hcz46_3 : w45.cell? ⟨gb120, 3, none⟩ = some (.bool a0_3) := (blk_cell BK120.out 3).trans rfl; have hcz46_4 : w45.cell? ⟨gb120, 4, none⟩ = some (.string a0_4) := (blk_cell BK120.out 4).trans rfl; have hcz46_5 : w45.cell? ⟨gb120, 5, none⟩ = some (.string a0_5) := (blk_cell BK120.out 5).trans rfl; have hcz46_6 : w45.cell? ⟨gb120, 6, none⟩ = some (.slice A0_6 l0_6.length c0_6) := (blk_cell BK120.out 6).trans rfl; have hcz46_7 : w45.cell? ⟨gb120, 7, none⟩ = some (.slice A0_7 l0_7.length c0_7) := (blk_cell BK120.out 7).trans rfl; have hcz46_8 : w45.cell? ⟨gb120, 8, none⟩ = some (.int .i64 a0_8) := (blk_cell BK120.out 8).trans rfl; have hcz46_9 : w45.cell? ⟨gb120, 9, none⟩ = some (.int .i64 a0_9) := (blk_cell BK120.out 9).trans rfl; have hcz46_10 : w45.cell? ⟨gb120, 10, none⟩ = some (.int .i64 a0_10) := (blk_cell BK120.out 10).trans rfl; have hcz46_11 : w45.cell? ⟨gb120, 11, none⟩ = some (.int .i64 a0_11) := (blk_cell BK120.out 11).trans rfl; have hcz46_12 : w45.cell? ⟨gb120, 12, none⟩ = some (.string a0_12) := (blk_cell BK120.out 12).trans rfl; have hcz46_13 : w45.cell? ⟨gb120, 13, none⟩ = some (.slice A0_13 l0_13.length c0_13) := (blk_cell BK120.out 13).trans rfl; have hcz46_14 : w45.cell? ⟨gb120, 14, none⟩ = some (.slice A0_14 l0_14.length c0_14) := (blk_cell BK120.out 14).trans rfl; have hfz46_0 := blk_frozen BK120.out 0; have hfz46_1 := blk_frozen BK120.out 1; have hfz46_2 := blk_frozen BK120.out 2; have hfz46_3 := blk_frozen BK120.out 3; have hfz46_4 := blk_frozen BK120.out 4; have hfz46_5 := blk_frozen BK120.out 5; have hfz46_6 := blk_frozen BK120.out 6; have hfz46_7 := blk_frozen BK120.out 7; have hfz46_8 := blk_frozen BK120.out 8; have hfz46_9 := blk_frozen BK120.out 9; have hfz46_10 := blk_frozen BK120.out 10; have hfz46_11 := blk_frozen BK120.out 11; have hfz46_12 := blk_frozen BK120.out 12; have hfz46_13 := blk_frozen BK120.out 13; have hfz46_14 := blk_frozen BK120.out 14) | ((with_reducible refine gate_callee (f := 115) rfl ?_); refine goesL_ (some 37) rfl rfl Tryz.func115 (by kernel_rfl) rfl #[.agg #[.string a0_0, .string a0_1, .string a0_2, .bool a0_3, .string a0_4, .string a0_5, .slice A0_6 l0_6.length c0_6, .slice A0_7 l0_7.length c0_7, .int .i64 a0_8, .int .i64 a0_9, .int .i64 a0_10, .int .i64 a0_11, .string a0_12, .slice A0_13 l0_13.length c0_13, .slice A0_14 l0_14.length c0_14], .string (⟨#[109, 101, 109, 98, 101, 114, 115, 104, 105, 112]⟩ : ByteArray)] rfl (by (try simp only [List.map_toArray, List.map_cons, List.map_nil]); first | done | rfl | (simp only [List.length_drop, List.length_take]; rfl)) ?_; (with_reducible refine (heliastref15_text.calls kj4 a0_0 a0_1 a0_2 a0_3 a0_4 a0_5 _ _ l0_6 _ _ l0_7 a0_8 a0_9 a0_10 a0_11 a0_12 _ _ l0_13 _ _ l0_14 (⟨#[109, 101, 109, 98, 101, 114, 115, 104, 105, 112]⟩ : ByteArray) t135 t136 _ ?side1 ?side2 ?side3 ?side4 ?side5 ?side6 ?side7 ?side8 A29.out).mono ?_); (case side1 => repeat (first | exact (Kd.C_below HR0_6.out HB.out) | (with_reducible refine Kd.C_alloc ?_ _) | (with_reducible refine Kd.C_drewN ?_ _) | (with_reducible refine Kd.C_drew ?_))); (case side2 => exact HC0_6.out); (case side3 => repeat (first | exact (Kd.C_below HR0_7.out HB.out) | (with_reducible refine Kd.C_alloc ?_ _) | (with_reducible refine Kd.C_drewN ?_ _) | (with_reducible refine Kd.C_drew ?_))); (case side4 => exact HC0_7.out); (case side5 => repeat (first | exact (Kd.C_below HR0_13.out HB.out) | (with_reducible refine Kd.C_alloc ?_ _) | (with_reducible refine Kd.C_drewN ?_ _) | (with_reducible refine Kd.C_drew ?_))); (case side6 => exact HC0_13.out); (case side7 => repeat (first | exact (Kd.C_below HR0_14.out HB.out) | (with_reducible refine Kd.C_alloc ?_ _) | (with_reducible refine Kd.C_drewN ?_ _) | (with_reducible refine Kd.C_drew ?_))); (case side8 => exact HC0_14.out); rintro e w47 ⟨rfl, hb⟩; refine ⟨_, rfl, ?_⟩; have n0_ := Aside0.mk (Kd.R_below (by (with_reducible repeat (first | apply Kd.R_alloc | apply Kd.R_drewN | apply Kd.R_drew)); exact HO134.out) hb); have n1_ := Aside0.mk (blk_below (g := gb120) (o := .cells #[.string a0_0, .string a0_1, .string a0_2, .bool a0_3, .string a0_4, .string a0_5, .slice A0_6 l0_6.length c0_6, .slice A0_7 l0_7.length c0_7, .int .i64 a0_8, .int .i64 a0_9, .int .i64 a0_10, .int .i64 a0_11, .string a0_12, .slice A0_13 l0_13.length c0_13, .slice A0_14 l0_14.length c0_14] 50 (0, 0)) (by (with_reducible repeat (first | refine blk_drewN ?_ _ | refine blk_drew ?_ | refine blk_alloc ?_ _)); exact BK120.out) hb); have n2_ := Aside0.mk (below_step (by repeat (first | (with_reducible first | exact HB.out | apply below_alloc | apply pw_below_drewN | apply below_drew1 | refine below_set ?_ GE120.out) | exact HB.out)) hb); clear HO134; clear BK120; clear HB; have HO134 := n0_; have BK120 := n1_; have HB := n2_; clear n0_ n1_ n2_; (try clear hb); (try clear hb2); (try clear hk); (try clear hi)))
                  go_ret
                  exact ⟨_, by first | rfl | (simp [errW_none, errW_some] <;> rfl) | (simp [*, errW_none, errW_some] <;> rfl), by (with_reducible repeat (first | apply Kd.R_alloc | apply Kd.R_drewN | apply Kd.R_drew)); exact HO134.out, by repeat (first | (with_reducible first | exact HB.out | apply below_alloc | apply pw_below_drewN | apply below_drew1 | refine below_set ?_ GE120.out) | exact HB.out)⟩
            · rw [if_neg c28] at H
              exact absurd H (by simp)
open Go.Proofs.He
def isSlotL (e : S50) (a b : ByteArray) : Bool := e.f3 && (e.f1.toList == a.toList) && (e.f2.toList == b.toList)
def letsGo (n : Nat) (a b : ByteArray) (o : Bool) : Int → Nat → List S50 → Int
  | last, _, [] => last
  | last, i, e :: r => letsGo n a b o (if (isSlotL e a b && (decide (last < 0) || (!o || decide ((i : Int) + 3 < (n : Int))))) = true then (i : Int) else last) (i + 1) r
theorem letsGo_bd (n : Nat) (a b : ByteArray) (o : Bool) : ∀ (r : List S50) (last : Int) (i : Nat), i + r.length = n → -1 ≤ last → last < (n : Int) → -1 ≤ letsGo n a b o last i r ∧ letsGo n a b o last i r < (n : Int)
  | [], last, i, _, h1, h2 => ⟨h1, h2⟩
  | e :: r, last, i, h, h1, h2 => by
    rw [List.length_cons] at h
    rw [letsGo]
    split
    · exact letsGo_bd n a b o r _ _ (by omega) (by omega) (by omega)
    · exact letsGo_bd n a b o r _ _ (by omega) h1 h2
theorem lets_ix (i : Nat) (h : i < 1000000) : wrap64 ((i : Int) + 3) = (i : Int) + 3 := by unfold wrap64; omega
set_option maxHeartbeats 4000000 in
set_option maxRecDepth 100000 in
theorem lets.walk (A0 : Option Addr) (c0 : Nat) (l : List S50) (a b : ByteArray) (o : Bool) (w : World) (hr0 : Kd.C k50 w A0 l.length l) (hl : l.length < 1000000) :
    Calls Tryz.prog 98 #[.slice A0 l.length c0, .agg #[.string a, .string b], .bool o] w fun e w' => e = .returned (.int .i64 (letsGo l.length a b o (-1) 0 l)) ∧ Below w.heap.size w w' := by
  have hu := Tryz.underlying122
  have HR0 := Aside0.mk hr0
  obtain ⟨R, hR⟩ : ∃ R, R = letsGo l.length a b o (-1) 0 l := ⟨_, rfl⟩
  have HR := Aside0.mk hR
  rw [← hR]
  clear hr0 hR
  go_enter Tryz.func98, Tryz.ntmps98
  go_upto_region 1 with fail
  generalize hW1 : World.alloc w _ = W1
  have hb1 : Below w.heap.size w W1 := by rw [← hW1]; exact (Below.refl _ _).alloc (Nat.le_refl _) _
  have hx1 : W1.heap[w.heap.size]? = some (.cells #[.string a, .string b] 122 (0, 0)) := by rw [← hW1]; exact heap_alloc_new w _
  have x0 : W1.cell? ⟨w.heap.size, 0, none⟩ = some (.string a) := blk_cell hx1 0
  have x1 : W1.cell? ⟨w.heap.size, 1, none⟩ = some (.string b) := blk_cell hx1 1
  have HX0 := Aside0.mk x0
  have HX1 := Aside0.mk x1
  have HB1 := Aside0.mk hb1
  have HB0 := Aside0.mk (Below.refl W1.heap.size W1)
  clear hW1 hb1 hx1 x0 x1
  go_wp2_with fail
  go_loopg [7, 8, 9] l.length (fun gg v7 v8 v9 wr => ∃ (i : Nat) (last : Int), i ≤ l.length ∧ l.length - i ≤ gg ∧ v8 = .int .i64 (i : Int) ∧ v7 = .int .i64 last ∧ Aside0 (letsGo l.length a b o last i (l.drop i) = R) ∧ Aside0 (Below W1.heap.size W1 wr))
  case atStart => exact ⟨0, -1, Nat.zero_le _, by omega, rfl, rfl, ⟨by rw [List.drop_zero]; exact HR.out.symm⟩, HB0⟩
  case round =>
    obtain ⟨i, last, hi, hgg, rfl, rfl, HGO, HB⟩ := hrel
    by_cases hlt : i < l.length
    · have hltz : (i : Int) < (l.length : Int) := by omega
      obtain ⟨ad, A6, c6, A7, c7, A13, c13, A14, c14, e, y0, y1, y2, y3, y4, y5, y6, y7, y8, y9, y10, y11, y12, y13, y14, l6, g6, l7, g7, l13, g13, l14, g14⟩ := at_T50 HR0.out (i : Int) (by omega) hltz
      cases e
      have hdr : l.drop i = rd_T50 l (i : Int) :: l.drop (i + 1) := by
        rw [List.drop_eq_getElem_cons hlt]
        congr 1
        show _ = l.getD _ _
        rw [Int.toNat_natCast, List.getD_eq_getElem?_getD, List.getElem?_eq_getElem hlt]; rfl
      obtain ⟨ev, hev⟩ : ∃ ev, ev = rd_T50 l (i : Int) := ⟨_, rfl⟩
      rw [← hev] at y1 y2 y3 hdr
      have hgo := HGO.out
      rw [hdr, letsGo] at hgo
      rw [Int.toNat_natCast] at y1 y2 y3
      have hbw := below_then HB1.out HB1.out.size HB.out
      replace y1 := pw_cell_below hbw y1
      replace y2 := pw_cell_below hbw y2
      replace y3 := pw_cell_below hbw y3
      have x0 := pw_cell_below HB.out HX0.out
      have x1 := pw_cell_below HB.out HX1.out
      have hw3 := lets_ix i (by omega)
      clear y0 y4 y5 y6 y7 y8 y9 y10 y11 y12 y13 y14 l6 g6 l7 g7 l13 g13 l14 g14 hev hdr hbw
      unfold isSlotL at hgo
      obtain ⟨e1, e2, e3, e4⟩ : (∃ q, q = ev.f3) ∧ (∃ q, q = (ev.f1.toList == a.toList)) ∧ (∃ q, q = (ev.f2.toList == b.toList)) ∧ (∃ q, q = decide (last < 0)) := ⟨⟨_, rfl⟩, ⟨_, rfl⟩, ⟨_, rfl⟩, ⟨_, rfl⟩⟩
      obtain ⟨e1, h1⟩ := e1
      obtain ⟨e2, h2⟩ := e2
      obtain ⟨e3, h3⟩ := e3
      obtain ⟨e4, h4⟩ := e4
      obtain ⟨e5, h5⟩ : ∃ q, q = decide ((i : Int) + 3 < (l.length : Int)) := ⟨_, rfl⟩
      rw [← h1, ← h2, ← h3, ← h4, ← h5] at hgo
      rw [← h1] at y3
      have HG := Aside0.mk hgo
      clear hgo h1
      replace h2 := h2.symm
      replace h3 := h3.symm
      have h4p : if e4 = true then last < 0 else ¬ last < 0 := by rw [h4]; by_cases c : last < 0 <;> simp [c]
      have h5p : if e5 = true then (i : Int) + 3 < (l.length : Int) else ¬ (i : Int) + 3 < (l.length : Int) := by rw [h5]; by_cases c : (i : Int) + 3 < (l.length : Int) <;> simp [c]
      clear h4 h5
      cases e1 with
      | false =>
        clear h2 h3 h4p h5p x0 x1
        go_wp2_with fail
        go_quiet (fail)
        go_wp2_with fail
        go_roundg (l.length - (i + 1))
        case measure => omega
        case rel => exact ⟨i + 1, _, by omega, Nat.le_refl _, by go_num, rfl, ⟨by simpa using HG.out⟩, ⟨pw_below_drewN HB.out _⟩⟩
      | true =>
        cases e2 with
        | false =>
          clear h3 h4p h5p
          go_wp2_with fail
          go_quiet (fail)
          go_wp2_with fail
          go_roundg (l.length - (i + 1))
          case measure => omega
          case rel => exact ⟨i + 1, _, by omega, Nat.le_refl _, by go_num, rfl, ⟨by simpa using HG.out⟩, ⟨pw_below_drewN HB.out _⟩⟩
        | true =>
          cases e3 with
          | false =>
            clear h4p h5p
            go_wp2_with fail
            go_quiet (fail)
            go_wp2_with fail
            go_roundg (l.length - (i + 1))
            case measure => omega
            case rel => exact ⟨i + 1, _, by omega, Nat.le_refl _, by go_num, rfl, ⟨by simpa using HG.out⟩, ⟨pw_below_drewN HB.out _⟩⟩
          | true =>
            cases e4 with
            | true =>
              have h4q : last < 0 := h4p
              clear h4p h5p
              go_wp2_with fail
              go_quiet (fail)
              go_wp2_with fail
              go_roundg (l.length - (i + 1))
              case measure => omega
              case rel => exact ⟨i + 1, _, by omega, Nat.le_refl _, by go_num, rfl, ⟨by simpa using HG.out⟩, ⟨pw_below_drewN HB.out _⟩⟩
            | false =>
              have h4q : ¬ last < 0 := h4p
              clear h4p
              cases o with
              | false =>
                clear h5p
                go_wp2_with fail
                go_quiet (fail)
                go_wp2_with fail
                go_roundg (l.length - (i + 1))
                case measure => omega
                case rel => exact ⟨i + 1, _, by omega, Nat.le_refl _, by go_num, rfl, ⟨by simpa using HG.out⟩, ⟨pw_below_drewN HB.out _⟩⟩
              | true =>
                cases e5 with
                | true =>
                  have h5q : (i : Int) + 3 < (l.length : Int) := h5p
                  clear h5p
                  go_wp2_with fail
                  go_quiet (fail)
                  go_wp2_with fail
                  go_roundg (l.length - (i + 1))
                  case measure => omega
                  case rel => exact ⟨i + 1, _, by omega, Nat.le_refl _, by go_num, rfl, ⟨by simpa using HG.out⟩, ⟨pw_below_drewN HB.out _⟩⟩
                | false =>
                  have h5q : ¬ (i : Int) + 3 < (l.length : Int) := h5p
                  clear h5p
                  go_wp2_with fail
                  go_quiet (fail)
                  go_wp2_with fail
                  go_roundg (l.length - (i + 1))
                  case measure => omega
                  case rel => exact ⟨i + 1, _, by omega, Nat.le_refl _, by go_num, rfl, ⟨by simpa using HG.out⟩, ⟨pw_below_drewN HB.out _⟩⟩
    · have hltz : ¬ (i : Int) < (l.length : Int) := by omega
      have HE : Aside0 (last = R) := ⟨by rw [← HGO.out, List.drop_eq_nil_of_le (by omega)]; rfl⟩
      go_wp2_with fail
      go_ret
      exact ⟨by rw [← HE.out]; rfl, below_then HB1.out HB1.out.size HB.out⟩
def heliastlaw17_lets.f (l : List S50) (a b : ByteArray) (o : Bool) : Option Int := if l.length < 1000000 then some (letsGo l.length a b o (-1) 0 l) else none
theorem heliastlaw17_lets.calls (A0 : Option Addr) (c0 : Nat) (l0 : List S50) (a1_0 : ByteArray) (a1_1 : ByteArray) (a2 : Bool) (r : Int) (w : World) (hr0 : Kd.C k50 w A0 l0.length l0) (hc0 : l0.length ≤ c0) (h : heliastlaw17_lets.f l0 a1_0 a1_1 a2 = some r) :
    Calls Tryz.prog 98 #[.slice A0 l0.length c0, .agg #[.string a1_0, .string a1_1], .bool a2] w fun e w' => e = .returned (.int .i64 r) ∧ Below w.heap.size w w' := by
  unfold heliastlaw17_lets.f at h
  split at h
  · obtain rfl := Option.some.inj h
    exact lets.walk A0 c0 l0 a1_0 a1_1 a2 w hr0 (by assumption)
  · cases h
end Go.Proofs.YtmdjknkhjimgeaaGreat.S
end
section
namespace Go.Proofs.YtmdjknkhjimgeaaGreat.S
open Go.RowKit Go.Proofs.YtmdjknkhjimgeaaGreatW.PrintWords Go.Proofs.YtmdjknkhjimgeaaGreatW.PrintLast Go.Proofs.YtmdjknkhjimgeaaGreatW.PrintMore
attribute [local go_sem] max2_int min2_int max_two min_two max_three min_three max_four min_four
set_option linter.unusedVariables false
set_option linter.unusedSimpArgs false
mutual
def heliastlaw17_Auth.l0 : Nat → List (S50) → Int → List (S122) → List Int → Int → Option (List Int)
  | 0, _, _, _, _, _ => none
  | k + 1, x0, x2, x7, x8, x9 => if x9 < (x7.length : Int) then (if 0 ≤ x9 then (if 0 ≤ (IntKind.u64.wrap (x9)) then ((heliastlaw17_lets.f x0 ((rd_T122 x7 x9).f0) ((rd_T122 x7 x9).f1) ((Int.tmod (shr .i64 (wrap64 (x2)) (IntKind.u64.wrap (x9))) 2) == 1)).bind fun t148 => (if t148 ≥ 0 then (if (Int.tmod (wrap64 ((wrap64 (x2)) + x9)) 11) < 10 then (if x8.length < 17592186044416 then (heliastlaw17_Auth.l0 k x0 x2 x7 (x8 ++ [t148]) (wrap64 (x9 + 1))) else (none)) else (heliastlaw17_Auth.l0 k x0 x2 x7 x8 (wrap64 (x9 + 1)))) else (heliastlaw17_Auth.l0 k x0 x2 x7 x8 (wrap64 (x9 + 1))))) else (none)) else (none)) else (heliastlaw17_Auth.l1 k x0 x8 ([] : List Int) 0)
def heliastlaw17_Auth.l1 : Nat → List (S50) → List Int → List Int → Int → Option (List Int)
  | 0, _, _, _, _ => none
  | k + 1, x0, x8, x11, x12 => if x12 < (x0.length : Int) then ((heliastref12_Has.f k x8 x12).bind fun t152 => (if t152 = true then (if x11.length < 17592186044416 then (heliastlaw17_Auth.l1 k x0 x8 (x11 ++ [x12]) (wrap64 (x12 + 1))) else (none)) else (heliastlaw17_Auth.l1 k x0 x8 x11 (wrap64 (x12 + 1))))) else (some x11)
end
def heliastlaw17_Auth.f (k : Nat) (l0 : List (S50)) (a1_0 : ByteArray) (a1_1 : ByteArray) (a1_2 : ByteArray) (a1_3 : Bool) (a1_4 : ByteArray) (a1_5 : ByteArray) (l1_6 : List ByteArray) (l1_7 : List ByteArray) (a1_8 : Int) (a1_9 : Int) (a1_10 : Int) (a1_11 : Int) (a1_12 : ByteArray) (l1_13 : List ByteArray) (l1_14 : List (S48)) (a2 : Int) : Option (List Int) := (heliastref15_Slots.f k a1_0 a1_1 a1_2 a1_3 a1_4 a1_5 l1_6 l1_7 a1_8 a1_9 a1_10 a1_11 a1_12 l1_13 l1_14).bind fun t144 => (heliastlaw17_Auth.l0 k l0 a2 t144 ([] : List Int) 0)
set_option maxHeartbeats 8000000 in
set_option maxRecDepth 100000 in
theorem heliastlaw17_Auth.calls (k : Nat) (A0 : Option Addr) (c0 : Nat) (l0 : List (S50)) (a1_0 : ByteArray) (a1_1 : ByteArray) (a1_2 : ByteArray) (a1_3 : Bool) (a1_4 : ByteArray) (a1_5 : ByteArray) (A1_6 : Option Addr) (c1_6 : Nat) (l1_6 : List ByteArray) (A1_7 : Option Addr) (c1_7 : Nat) (l1_7 : List ByteArray) (a1_8 : Int) (a1_9 : Int) (a1_10 : Int) (a1_11 : Int) (a1_12 : ByteArray) (A1_13 : Option Addr) (c1_13 : Nat) (l1_13 : List ByteArray) (A1_14 : Option Addr) (c1_14 : Nat) (l1_14 : List (S48)) (a2 : Int) (r : List Int) (w : World) (hr0 : Kd.C k50 w A0 l0.length l0) (hc0 : l0.length ≤ c0) (hr1_6 : Kd.C Kd.string w A1_6 l1_6.length l1_6) (hc1_6 : l1_6.length ≤ c1_6) (hr1_7 : Kd.C Kd.string w A1_7 l1_7.length l1_7) (hc1_7 : l1_7.length ≤ c1_7) (hr1_13 : Kd.C Kd.string w A1_13 l1_13.length l1_13) (hc1_13 : l1_13.length ≤ c1_13) (hr1_14 : Kd.C k48 w A1_14 l1_14.length l1_14) (hc1_14 : l1_14.length ≤ c1_14) (h : heliastlaw17_Auth.f k l0 a1_0 a1_1 a1_2 a1_3 a1_4 a1_5 l1_6 l1_7 a1_8 a1_9 a1_10 a1_11 a1_12 l1_13 l1_14 a2 = some r) :
    Calls Tryz.prog 61 #[.slice A0 l0.length c0, .agg #[.string a1_0, .string a1_1, .string a1_2, .bool a1_3, .string a1_4, .string a1_5, .slice A1_6 l1_6.length c1_6, .slice A1_7 l1_7.length c1_7, .int .i64 a1_8, .int .i64 a1_9, .int .i64 a1_10, .int .i64 a1_11, .string a1_12, .slice A1_13 l1_13.length c1_13, .slice A1_14 l1_14.length c1_14], .int .u8 a2] w fun e w' => ∃ v0_ : Value, e = .returned (v0_) ∧ Kd.R (Kd.int .i64) 3 w' w.heap.size (fun _ => True) v0_ r ∧ Below w.heap.size w w' := by
  have hu50 := Tryz.underlying50
  have hu122 := Tryz.underlying122
  have HR0 := Aside0.mk hr0
  have HC0 := Aside0.mk hc0
  clear hr0 hc0
  have HR1_6 := Aside0.mk hr1_6
  have HC1_6 := Aside0.mk hc1_6
  clear hr1_6 hc1_6
  have HR1_7 := Aside0.mk hr1_7
  have HC1_7 := Aside0.mk hc1_7
  clear hr1_7 hc1_7
  have HR1_13 := Aside0.mk hr1_13
  have HC1_13 := Aside0.mk hc1_13
  clear hr1_13 hc1_13
  have HR1_14 := Aside0.mk hr1_14
  have HC1_14 := Aside0.mk hc1_14
  clear hr1_14 hc1_14
  have HB := Aside0.mk (Below.refl w.heap.size w)
  have H : ((heliastref15_Slots.f k a1_0 a1_1 a1_2 a1_3 a1_4 a1_5 l1_6 l1_7 a1_8 a1_9 a1_10 a1_11 a1_12 l1_13 l1_14).bind fun t144 => (heliastlaw17_Auth.l0 k l0 a2 t144 ([] : List Int) 0)) = some r := h
  clear h
  replace H := Option.bind_eq_some_iff.mp H
  obtain ⟨t144, A40, H⟩ := H
  replace H : (heliastlaw17_Auth.l0 k l0 a2 t144 ([] : List Int) 0) = some r := H
  have A4 := Aside0.mk A40
  clear A40
  have H' := Aside0.mk H
  clear H
  go_enter Tryz.func61, Tryz.ntmps61
  go_wp2_with (first | ((with_reducible refine gate_dst (N := 4) rfl ?_); refine box_event ?hg (N := 4) ?hd (cs := #[.string a1_0, .string a1_1, .string a1_2, .bool a1_3, .string a1_4, .string a1_5, .slice A1_6 l1_6.length c1_6, .slice A1_7 l1_7.length c1_7, .int .i64 a1_8, .int .i64 a1_9, .int .i64 a1_10, .int .i64 a1_11, .string a1_12, .slice A1_13 l1_13.length c1_13, .slice A1_14 l1_14.length c1_14]) (t := 50) ?hr ?_; (case hd => rfl); (case hg => rfl); (case hr => first | (go_simp; done) | (go_simp; rfl)); intro gb143 hg w5 hbox hb; have n0_ := Aside0.mk (below_step (by repeat (first | (with_reducible first | exact HB.out | apply below_alloc | apply pw_below_drewN | apply below_drew1) | exact HB.out)) hb); have n1_ := Aside0.mk (hbox); have n2_ := Aside0.mk ((by rw [hg]; exact (below_size (by repeat (first | (with_reducible first | exact HB.out | apply below_alloc | apply pw_below_drewN | apply below_drew1) | exact HB.out))) : w.heap.size ≤ gb143)); have n3_ := Aside0.mk ((by rw [hg]; exact (below_size (by repeat (first | (with_reducible first | exact HB.out | apply below_alloc | apply pw_below_drewN | apply below_drew1) | exact HB.out))) : w.heap.size ≤ gb143)); clear HB; have HB := n0_; have BK143 := n1_; have GW143 := n2_; have GE143 := n3_; clear n0_ n1_ n2_ n3_; clear hb hbox hg; have hcz6_0 : w5.cell? ⟨gb143, 0, none⟩ = some (.string a1_0) := (blk_cell BK143.out 0).trans rfl; have hcz6_1 : w5.cell? ⟨gb143, 1, none⟩ = some (.string a1_1) := (blk_cell BK143.out 1).trans rfl; have hcz6_2 : w5.cell? ⟨gb143, 2, none⟩ = some (.string a1_2) := (blk_cell BK143.out 2).trans rfl; have hcz6_3 : w5.cell? ⟨gb143, 3, none⟩ = some (.bool a1_3) := (blk_cell BK143.out 3).trans rfl; have hcz6_4 : w5.cell? ⟨gb143, 4, none⟩ = some (.string a1_4) := (blk_cell BK143.out 4).trans rfl; have hcz6_5 : w5.cell? ⟨gb143, 5, none⟩ = some (.string a1_5) := (blk_cell BK143.out 5).trans rfl; have hcz6_6 : w5.cell? ⟨gb143, 6, none⟩ = some (.slice A1_6 l1_6.length c1_6) := (blk_cell BK143.out 6).trans rfl; have hcz6_7 : w5.cell? ⟨gb143, 7, none⟩ = some (.slice A1_7 l1_7.length c1_7) := (blk_cell BK143.out 7).trans rfl; have hcz6_8 : w5.cell? ⟨gb143, 8, none⟩ = some (.int .i64 a1_8) := (blk_cell BK143.out 8).trans rfl; have hcz6_9 : w5.cell? ⟨gb143, 9, none⟩ = some (.int .i64 a1_9) := (blk_cell BK143.out 9).trans rfl; have hcz6_10 : w5.cell? ⟨gb143, 10, none⟩ = some (.int .i64 a1_10) := (blk_cell BK143.out 10).trans rfl; have hcz6_11 : w5.cell? ⟨gb143, 11, none⟩ = some (.int .i64 a1_11) := (blk_cell BK143.out 11).trans rfl; have hcz6_12 : w5.cell? ⟨gb143, 12, none⟩ = some (.string a1_12) := (blk_cell BK143.out 12).trans rfl; have hcz6_13 : w5.cell? ⟨gb143, 13, none⟩ = some (.slice A1_13 l1_13.length c1_13) := (blk_cell BK143.out 13).trans rfl; have hcz6_14 : w5.cell? ⟨gb143, 14, none⟩ = some (.slice A1_14 l1_14.length c1_14) := (blk_cell BK143.out 14).trans rfl; have hfz6_0 := blk_frozen BK143.out 0; have hfz6_1 := blk_frozen BK143.out 1; have hfz6_2 := blk_frozen BK143.out 2; have hfz6_3 := blk_frozen BK143.out 3; have hfz6_4 := blk_frozen BK143.out 4; have hfz6_5 := blk_frozen BK143.out 5; have hfz6_6 := blk_frozen BK143.out 6; have hfz6_7 := blk_frozen BK143.out 7; have hfz6_8 := blk_frozen BK143.out 8; have hfz6_9 := blk_frozen BK143.out 9; have hfz6_10 := blk_frozen BK143.out 10; have hfz6_11 := blk_frozen BK143.out 11; have hfz6_12 := blk_frozen BK143.out 12; have hfz6_13 := blk_frozen BK143.out 13; have hfz6_14 := blk_frozen BK143.out 14) | ((with_reducible refine gate_callee (f := 97) rfl ?_); refine goesL_ (some 14) rfl rfl Tryz.func97 (by kernel_rfl) rfl #[.agg #[.string a1_0, .string a1_1, .string a1_2, .bool a1_3, .string a1_4, .string a1_5, .slice A1_6 l1_6.length c1_6, .slice A1_7 l1_7.length c1_7, .int .i64 a1_8, .int .i64 a1_9, .int .i64 a1_10, .int .i64 a1_11, .string a1_12, .slice A1_13 l1_13.length c1_13, .slice A1_14 l1_14.length c1_14]] rfl (by (try simp only [List.map_toArray, List.map_cons, List.map_nil]); first | done | rfl | (simp only [List.length_drop, List.length_take]; rfl)) ?_; (with_reducible refine (heliastref15_Slots.calls k a1_0 a1_1 a1_2 a1_3 a1_4 a1_5 _ _ l1_6 _ _ l1_7 a1_8 a1_9 a1_10 a1_11 a1_12 _ _ l1_13 _ _ l1_14 t144 _ ?side1 ?side2 ?side3 ?side4 ?side5 ?side6 ?side7 ?side8 A4.out).mono ?_); (case side1 => repeat (first | exact (Kd.C_below HR1_6.out HB.out) | (with_reducible refine Kd.C_alloc ?_ _) | (with_reducible refine Kd.C_drewN ?_ _) | (with_reducible refine Kd.C_drew ?_))); (case side2 => exact HC1_6.out); (case side3 => repeat (first | exact (Kd.C_below HR1_7.out HB.out) | (with_reducible refine Kd.C_alloc ?_ _) | (with_reducible refine Kd.C_drewN ?_ _) | (with_reducible refine Kd.C_drew ?_))); (case side4 => exact HC1_7.out); (case side5 => repeat (first | exact (Kd.C_below HR1_13.out HB.out) | (with_reducible refine Kd.C_alloc ?_ _) | (with_reducible refine Kd.C_drewN ?_ _) | (with_reducible refine Kd.C_drew ?_))); (case side6 => exact HC1_13.out); (case side7 => repeat (first | exact (Kd.C_below HR1_14.out HB.out) | (with_reducible refine Kd.C_alloc ?_ _) | (with_reducible refine Kd.C_drewN ?_ _) | (with_reducible refine Kd.C_drew ?_))); (case side8 => exact HC1_14.out); rintro e w7 ⟨v145, rfl, ho0, hb⟩; refine ⟨_, rfl, ?_⟩; have n0_ := Aside0.mk (Kd.R_lower ho0 (below_size (by repeat (first | (with_reducible first | exact HB.out | apply below_alloc | apply pw_below_drewN | apply below_drew1 | refine below_set ?_ GE143.out) | exact HB.out)))); have n1_ := Aside0.mk (blk_below (g := gb143) (o := .cells #[.string a1_0, .string a1_1, .string a1_2, .bool a1_3, .string a1_4, .string a1_5, .slice A1_6 l1_6.length c1_6, .slice A1_7 l1_7.length c1_7, .int .i64 a1_8, .int .i64 a1_9, .int .i64 a1_10, .int .i64 a1_11, .string a1_12, .slice A1_13 l1_13.length c1_13, .slice A1_14 l1_14.length c1_14] 50 (0, 0)) (by (with_reducible repeat (first | refine blk_drewN ?_ _ | refine blk_drew ?_ | refine blk_alloc ?_ _)); exact BK143.out) hb); have n2_ := Aside0.mk (below_step (by repeat (first | (with_reducible first | exact HB.out | apply below_alloc | apply pw_below_drewN | apply below_drew1 | refine below_set ?_ GE143.out) | exact HB.out)) hb); clear BK143; clear HB; have HO146 := n0_; have BK143 := n1_; have HB := n2_; clear n0_ n1_ n2_; (try clear hb); (try clear hb2); (try clear hk); (try clear hi); (try clear ho0)))
  go_loopg [8, 9] k (fun kq v8 v9 w' => ∃ (x8_1 : List Int) (x9_1 : Int), v9 = .int .i64 x9_1 ∧ Aside0 (heliastlaw17_Auth.l0 kq l0 a2 t144 x8_1 x9_1 = some r) ∧ Aside0 (kq ≤ k) ∧ Aside0 (Kd.R k122 122 w' w.heap.size (fun _ => True) v145 t144) ∧ Aside0 (Kd.R (Kd.int .i64) 3 w' w.heap.size (fun _ => True) v8 x8_1) ∧ Aside0 (w'.heap[gb143]? = some (.cells #[.string a1_0, .string a1_1, .string a1_2, .bool a1_3, .string a1_4, .string a1_5, (.slice A1_6 l1_6.length c1_6), (.slice A1_7 l1_7.length c1_7), .int .i64 a1_8, .int .i64 a1_9, .int .i64 a1_10, .int .i64 a1_11, .string a1_12, (.slice A1_13 l1_13.length c1_13), (.slice A1_14 l1_14.length c1_14)] 50 (0, 0))) ∧ Aside0 (Below w.heap.size w w'))
  case atStart => exact ⟨(([] : List Int)), (0), (by first | rfl | (simp; done) | (simp [*]; done)), H', ⟨Nat.le_refl _⟩, ⟨by (with_reducible repeat (first | apply Kd.R_alloc | apply Kd.R_drewN | apply Kd.R_drew)); exact HO146.out⟩, ⟨by first | exact Kd.R_nil _ _ _ _ _ | exact Kd.N_nil _ _ _ _ _ | exact Kd.V_nil _ _ _ _ _ | exact Kd.Q_nil _ _ _ _ _ | exact Kd.S_nil _ _ _ _ _⟩, ⟨by (with_reducible repeat (first | refine blk_drewN ?_ _ | refine blk_drew ?_ | refine blk_alloc ?_ _)); exact BK143.out⟩, ⟨by repeat (first | (with_reducible first | exact HB.out | apply below_alloc | apply pw_below_drewN | apply below_drew1 | refine below_set ?_ GE143.out) | exact HB.out)⟩⟩
  case round =>
    clear H'
    try clear c1
    try clear p2
    try clear c6
    try clear hcz6_0
    try clear hcz6_1
    try clear hcz6_10
    try clear hcz6_11
    try clear hcz6_12
    try clear hcz6_13
    try clear hcz6_14
    try clear hcz6_2
    try clear hcz6_3
    try clear hcz6_4
    try clear hcz6_5
    try clear hcz6_6
    try clear hcz6_7
    try clear hcz6_8
    try clear hcz6_9
    try clear hfz6_0
    try clear hfz6_1
    try clear hfz6_10
    try clear hfz6_11
    try clear hfz6_12
    try clear hfz6_13
    try clear hfz6_14
    try clear hfz6_2
    try clear hfz6_3
    try clear hfz6_4
    try clear hfz6_5
    try clear hfz6_6
    try clear hfz6_7
    try clear hfz6_8
    try clear hfz6_9
    obtain ⟨x8_1, x9_1, rfl, HA, HK1, HO_7, HO_8, BK143, HB⟩ := hrel
    cases gk with
    | zero => exact absurd HA.out (by simp [heliastlaw17_Auth.l0])
    | succ k1 =>
      have H := HA.out
      clear HA
      simp only [heliastlaw17_Auth.l0] at H
      by_cases c8 : x9_1 < (t144.length : Int)
      · rw [if_pos c8] at H
        have c8b0 : decide (x9_1 < (t144.length : Int)) = true := decide_eq_true c8
        clear c8
        by_cases c9 : 0 ≤ x9_1
        · rw [if_pos c9] at H
          have c9b0 : decide (0 ≤ x9_1) = true := decide_eq_true c9
          clear c9
          obtain ⟨ji10, hji10⟩ : ∃ j_ : Int, (IntKind.u64.wrap (x9_1)) = j_ := ⟨_, rfl⟩
          replace H : (if 0 ≤ (ji10) then ((heliastlaw17_lets.f l0 ((rd_T122 t144 x9_1).f0) ((rd_T122 t144 x9_1).f1) ((Int.tmod (shr .i64 (wrap64 (a2)) (ji10)) 2) == 1)).bind fun t148 => (if t148 ≥ 0 then (if (Int.tmod (wrap64 ((wrap64 (a2)) + x9_1)) 11) < 10 then (if x8_1.length < 17592186044416 then (heliastlaw17_Auth.l0 k1 l0 a2 t144 (x8_1 ++ [t148]) (wrap64 (x9_1 + 1))) else (none)) else (heliastlaw17_Auth.l0 k1 l0 a2 t144 x8_1 (wrap64 (x9_1 + 1)))) else (heliastlaw17_Auth.l0 k1 l0 a2 t144 x8_1 (wrap64 (x9_1 + 1))))) else (none)) = some r := by first | (rw [hji10] at H; exact H) | (simp only [hji10] at H ⊢; exact H)
          by_cases c11 : 0 ≤ (ji10)
          · rw [if_pos c11] at H
            have c11b0 := eq_true c11
            have c11b1 : decide (0 ≤ (ji10)) = true := decide_eq_true c11
            clear c11
            obtain ⟨ji12, hji12⟩ : ∃ j_ : Int, (shr .i64 (wrap64 (a2)) (ji10)) = j_ := ⟨_, rfl⟩
            replace H : ((heliastlaw17_lets.f l0 ((rd_T122 t144 x9_1).f0) ((rd_T122 t144 x9_1).f1) ((Int.tmod (ji12) 2) == 1)).bind fun t148 => (if t148 ≥ 0 then (if (Int.tmod (wrap64 ((wrap64 (a2)) + x9_1)) 11) < 10 then (if x8_1.length < 17592186044416 then (heliastlaw17_Auth.l0 k1 l0 a2 t144 (x8_1 ++ [t148]) (wrap64 (x9_1 + 1))) else (none)) else (heliastlaw17_Auth.l0 k1 l0 a2 t144 x8_1 (wrap64 (x9_1 + 1)))) else (heliastlaw17_Auth.l0 k1 l0 a2 t144 x8_1 (wrap64 (x9_1 + 1))))) = some r := by first | (rw [hji12] at H; exact H) | (simp only [hji12] at H ⊢; exact H)
            have hji12_ : ((wrap64 (a2)) / 2 ^ min (ji10).toNat 64) = ji12 := hji12
            have hji12z : (ji10) ≤ 64 → ((wrap64 (a2)) / 2 ^ (ji10).toNat) = ji12 := shr_small hji12
            replace H := Option.bind_eq_some_iff.mp H
            obtain ⟨t148, A130, H⟩ := H
            replace H : (if t148 ≥ 0 then (if (Int.tmod (wrap64 ((wrap64 (a2)) + x9_1)) 11) < 10 then (if x8_1.length < 17592186044416 then (heliastlaw17_Auth.l0 k1 l0 a2 t144 (x8_1 ++ [t148]) (wrap64 (x9_1 + 1))) else (none)) else (heliastlaw17_Auth.l0 k1 l0 a2 t144 x8_1 (wrap64 (x9_1 + 1)))) else (heliastlaw17_Auth.l0 k1 l0 a2 t144 x8_1 (wrap64 (x9_1 + 1)))) = some r := H
            have A13 := Aside0.mk A130
            clear A130
            by_cases c14 : t148 ≥ 0
            · rw [if_pos c14] at H
              have c14b0 : decide (0 ≤ t148) = true := decide_eq_true c14
              clear c14
              by_cases c15 : (Int.tmod (wrap64 ((wrap64 (a2)) + x9_1)) 11) < 10
              · rw [if_pos c15] at H
                have c15b0 : decide ((Int.tmod (wrap64 ((wrap64 (a2)) + x9_1)) 11) < 10) = true := decide_eq_true c15
                clear c15
                by_cases c16 : x8_1.length < 17592186044416
                · rw [if_pos c16] at H
                  have LMc16 := Aside0.mk c16
                  clear c16
                  obtain ⟨y149, hy149⟩ : ∃ y_ : List Int, y_ = (x8_1 ++ [t148]) := ⟨_, rfl⟩
                  replace H : (heliastlaw17_Auth.l0 k1 l0 a2 t144 y149 (wrap64 (x9_1 + 1))) = some r := by first | (rw [hy149]; with_reducible exact H) | (have H2_ := (Option.bind_some _ _).symm.trans H; rw [hy149]; with_reducible exact H2_) | (have H2_ := (Option.bind_some _ _).symm.trans H; with_reducible exact H2_) | with_reducible exact H | (rw [hy149]; exact H) | exact H
                  have Ny149 := Aside0.mk hy149
                  clear hy149
                  have H' := Aside0.mk H
                  clear H
                  obtain ⟨Ao17, co17, eo17⟩ := Kd.R_slice HO_7.out
                  subst eo17
                  have p147 : 0 ≤ (x9_1 : Int) := of_decide_eq_true (by first | (with_reducible assumption) | assumption)
                  have q147 : x9_1 < (t144.length : Int) := of_decide_eq_true (by first | (with_reducible assumption) | assumption)
                  obtain ⟨ad147, e147, hx147_0, hx147_1⟩ := at_T122 (Kd.R_reads' HO_7.out).2.2 x9_1 p147 q147
                  cases e147
                  replace p147 := eq_true p147
                  replace q147 := eq_true q147
                  go_wp2_with (first | ((with_reducible refine gate_callee (f := 98) rfl ?_); refine goesL_ (some 33) rfl rfl Tryz.func98 (by kernel_rfl) rfl #[.slice A0 l0.length c0, .agg #[.string ((rd_T122 t144 x9_1).f0), .string ((rd_T122 t144 x9_1).f1)], .bool ((Int.tmod (ji12) 2) == 1)] rfl (by (try simp only [List.map_toArray, List.map_cons, List.map_nil]); first | done | (simp only [hji12]; rfl) | rfl | (simp only [List.length_drop, List.length_take]; rfl)) ?_; (with_reducible refine (heliastlaw17_lets.calls _ _ l0 ((rd_T122 t144 x9_1).f0) ((rd_T122 t144 x9_1).f1) ((Int.tmod (ji12) 2) == 1) t148 _ ?side1 ?side2 A13.out).mono ?_); (case side1 => repeat (first | exact (Kd.C_below HR0.out HB.out) | (with_reducible refine Kd.C_alloc ?_ _) | (with_reducible refine Kd.C_drewN ?_ _) | (with_reducible refine Kd.C_drew ?_))); (case side2 => exact HC0.out); rintro e w18 ⟨rfl, hb⟩; refine ⟨_, rfl, ?_⟩; have n0_ := Aside0.mk (Kd.R_below (by (with_reducible repeat (first | apply Kd.R_alloc | apply Kd.R_drewN | apply Kd.R_drew)); exact HO_7.out) hb); have n1_ := Aside0.mk (Kd.R_below (by (with_reducible repeat (first | apply Kd.R_alloc | apply Kd.R_drewN | apply Kd.R_drew)); exact HO_8.out) hb); have n2_ := Aside0.mk (blk_below (g := gb143) (o := .cells #[.string a1_0, .string a1_1, .string a1_2, .bool a1_3, .string a1_4, .string a1_5, .slice A1_6 l1_6.length c1_6, .slice A1_7 l1_7.length c1_7, .int .i64 a1_8, .int .i64 a1_9, .int .i64 a1_10, .int .i64 a1_11, .string a1_12, .slice A1_13 l1_13.length c1_13, .slice A1_14 l1_14.length c1_14] 50 (0, 0)) (by (with_reducible repeat (first | refine blk_drewN ?_ _ | refine blk_drew ?_ | refine blk_alloc ?_ _)); exact BK143.out) hb); have n3_ := Aside0.mk (below_step (by repeat (first | (with_reducible first | exact HB.out | apply below_alloc | apply pw_below_drewN | apply below_drew1 | refine below_set ?_ GE143.out) | exact HB.out)) hb); clear HO_7; clear HO_8; clear BK143; clear HB; have HO_7 := n0_; have HO_8 := n1_; have BK143 := n2_; have HB := n3_; clear n0_ n1_ n2_ n3_; (try clear hb); (try clear hb2); (try clear hk); (try clear hi)) | ((with_reducible refine gate_builtin (b := .append) (xs := #[.tmp 44, .tmp 46]) rfl ?_); at_builtin; refine Kd.R_append (Kd.int .i64) (w0 := w) w.heap.size rfl (.tmp 44) (.tmp 46) 27 3 (.int .i64 0) 8 rfl Tryz.underlying27 info3 rfl (by decide) (by omega) u8 x8_1 t148 [.int .i64 t148] (fun _ => True) (fun _ => False) rfl rfl ?aP (fun _ hk => hk.elim) ?aF ?aO ?aB ?aS ?aL ?_; (case aP => exact rfl); (case aB => exact (by repeat (first | (with_reducible first | exact HB.out | apply below_alloc | apply pw_below_drewN | apply below_drew1 | refine below_set ?_ GE143.out) | exact HB.out))); (case aF => exact (fun _ _ => trivial)); (case aO => exact (by (with_reducible repeat (first | apply Kd.R_alloc | apply Kd.R_drewN | apply Kd.R_drew)); exact HO_8.out)); (case aS => exact (below_size (by repeat (first | (with_reducible first | exact HB.out | apply below_alloc | apply pw_below_drewN | apply below_drew1 | refine below_set ?_ GE143.out) | exact HB.out)))); (case aL => have := LMc16.out; omega); intro v150 w19 ho hb hg hat; rw [← Ny149.out] at ho; have n0_ := Aside0.mk (Kd.R_over' (by (with_reducible repeat (first | apply Kd.R_alloc | apply Kd.R_drewN | apply Kd.R_drew)); exact HO_7.out) (Kd.R_typed (by (with_reducible repeat (first | apply Kd.R_alloc | apply Kd.R_drewN | apply Kd.R_drew)); exact HO_8.out)) (by decide) hg); have n1_ := Aside0.mk (blk_grown (g := gb143) (o := .cells #[.string a1_0, .string a1_1, .string a1_2, .bool a1_3, .string a1_4, .string a1_5, .slice A1_6 l1_6.length c1_6, .slice A1_7 l1_7.length c1_7, .int .i64 a1_8, .int .i64 a1_9, .int .i64 a1_10, .int .i64 a1_11, .string a1_12, .slice A1_13 l1_13.length c1_13, .slice A1_14 l1_14.length c1_14] 50 (0, 0)) (by (with_reducible repeat (first | refine blk_drewN ?_ _ | refine blk_drew ?_ | refine blk_alloc ?_ _)); exact BK143.out) hg (Kd.R_ne HO_8.out BK143.out (by decide))); have n2_ := Aside0.mk (hb); have n3_ := Aside0.mk (ho); clear HO_7; clear BK143; clear HB; clear HO_8; have HO_7 := n0_; have BK143 := n1_; have HB := n2_; have HO151 := n3_; clear n0_ n1_ n2_ n3_; clear ho hb hg hat))
                  go_roundg k1
                  case measure => have := HK1.out; omega
                  case rel => exact ⟨(y149), (wrap64 (x9_1 + 1)), (by first | rfl | (simp; done) | (simp [*]; done)), H', ⟨by have := HK1.out; omega⟩, ⟨by (with_reducible repeat (first | apply Kd.R_alloc | apply Kd.R_drewN | apply Kd.R_drew)); exact HO_7.out⟩, ⟨by (with_reducible repeat (first | apply Kd.R_alloc | apply Kd.R_drewN | apply Kd.R_drew)); exact HO151.out⟩, ⟨by (with_reducible repeat (first | refine blk_drewN ?_ _ | refine blk_drew ?_ | refine blk_alloc ?_ _)); exact BK143.out⟩, ⟨by repeat (first | (with_reducible first | exact HB.out | apply below_alloc | apply pw_below_drewN | apply below_drew1 | refine below_set ?_ GE143.out) | exact HB.out)⟩⟩
                · rw [if_neg c16] at H
                  exact absurd H (by simp)
              · rw [if_neg c15] at H
                have c15b0 : decide ((Int.tmod (wrap64 ((wrap64 (a2)) + x9_1)) 11) < 10) = false := decide_eq_false c15
                clear c15
                have H' := Aside0.mk H
                clear H
                obtain ⟨Ao20, co20, eo20⟩ := Kd.R_slice HO_7.out
                subst eo20
                have p147 : 0 ≤ (x9_1 : Int) := of_decide_eq_true (by first | (with_reducible assumption) | assumption)
                have q147 : x9_1 < (t144.length : Int) := of_decide_eq_true (by first | (with_reducible assumption) | assumption)
                obtain ⟨ad147, e147, hx147_0, hx147_1⟩ := at_T122 (Kd.R_reads' HO_7.out).2.2 x9_1 p147 q147
                cases e147
                replace p147 := eq_true p147
                replace q147 := eq_true q147
                go_wp2_with (first | ((with_reducible refine gate_callee (f := 98) rfl ?_); refine goesL_ (some 33) rfl rfl Tryz.func98 (by kernel_rfl) rfl #[.slice A0 l0.length c0, .agg #[.string ((rd_T122 t144 x9_1).f0), .string ((rd_T122 t144 x9_1).f1)], .bool ((Int.tmod (ji12) 2) == 1)] rfl (by (try simp only [List.map_toArray, List.map_cons, List.map_nil]); first | done | (simp only [hji12]; rfl) | rfl | (simp only [List.length_drop, List.length_take]; rfl)) ?_; (with_reducible refine (heliastlaw17_lets.calls _ _ l0 ((rd_T122 t144 x9_1).f0) ((rd_T122 t144 x9_1).f1) ((Int.tmod (ji12) 2) == 1) t148 _ ?side1 ?side2 A13.out).mono ?_); (case side1 => repeat (first | exact (Kd.C_below HR0.out HB.out) | (with_reducible refine Kd.C_alloc ?_ _) | (with_reducible refine Kd.C_drewN ?_ _) | (with_reducible refine Kd.C_drew ?_))); (case side2 => exact HC0.out); rintro e w21 ⟨rfl, hb⟩; refine ⟨_, rfl, ?_⟩; have n0_ := Aside0.mk (Kd.R_below (by (with_reducible repeat (first | apply Kd.R_alloc | apply Kd.R_drewN | apply Kd.R_drew)); exact HO_7.out) hb); have n1_ := Aside0.mk (Kd.R_below (by (with_reducible repeat (first | apply Kd.R_alloc | apply Kd.R_drewN | apply Kd.R_drew)); exact HO_8.out) hb); have n2_ := Aside0.mk (blk_below (g := gb143) (o := .cells #[.string a1_0, .string a1_1, .string a1_2, .bool a1_3, .string a1_4, .string a1_5, .slice A1_6 l1_6.length c1_6, .slice A1_7 l1_7.length c1_7, .int .i64 a1_8, .int .i64 a1_9, .int .i64 a1_10, .int .i64 a1_11, .string a1_12, .slice A1_13 l1_13.length c1_13, .slice A1_14 l1_14.length c1_14] 50 (0, 0)) (by (with_reducible repeat (first | refine blk_drewN ?_ _ | refine blk_drew ?_ | refine blk_alloc ?_ _)); exact BK143.out) hb); have n3_ := Aside0.mk (below_step (by repeat (first | (with_reducible first | exact HB.out | apply below_alloc | apply pw_below_drewN | apply below_drew1 | refine below_set ?_ GE143.out) | exact HB.out)) hb); clear HO_7; clear HO_8; clear BK143; clear HB; have HO_7 := n0_; have HO_8 := n1_; have BK143 := n2_; have HB := n3_; clear n0_ n1_ n2_ n3_; (try clear hb); (try clear hb2); (try clear hk); (try clear hi)))
                go_roundg k1
                case measure => have := HK1.out; omega
                case rel => exact ⟨(x8_1), (wrap64 (x9_1 + 1)), (by first | rfl | (simp; done) | (simp [*]; done)), H', ⟨by have := HK1.out; omega⟩, ⟨by (with_reducible repeat (first | apply Kd.R_alloc | apply Kd.R_drewN | apply Kd.R_drew)); exact HO_7.out⟩, ⟨by (with_reducible repeat (first | apply Kd.R_alloc | apply Kd.R_drewN | apply Kd.R_drew)); exact HO_8.out⟩, ⟨by (with_reducible repeat (first | refine blk_drewN ?_ _ | refine blk_drew ?_ | refine blk_alloc ?_ _)); exact BK143.out⟩, ⟨by repeat (first | (with_reducible first | exact HB.out | apply below_alloc | apply pw_below_drewN | apply below_drew1 | refine below_set ?_ GE143.out) | exact HB.out)⟩⟩
            · rw [if_neg c14] at H
              have c14b0 : decide (0 ≤ t148) = false := decide_eq_false c14
              clear c14
              have H' := Aside0.mk H
              clear H
              obtain ⟨Ao22, co22, eo22⟩ := Kd.R_slice HO_7.out
              subst eo22
              have p147 : 0 ≤ (x9_1 : Int) := of_decide_eq_true (by first | (with_reducible assumption) | assumption)
              have q147 : x9_1 < (t144.length : Int) := of_decide_eq_true (by first | (with_reducible assumption) | assumption)
              obtain ⟨ad147, e147, hx147_0, hx147_1⟩ := at_T122 (Kd.R_reads' HO_7.out).2.2 x9_1 p147 q147
              cases e147
              replace p147 := eq_true p147
              replace q147 := eq_true q147
              go_wp2_with (first | ((with_reducible refine gate_callee (f := 98) rfl ?_); refine goesL_ (some 33) rfl rfl Tryz.func98 (by kernel_rfl) rfl #[.slice A0 l0.length c0, .agg #[.string ((rd_T122 t144 x9_1).f0), .string ((rd_T122 t144 x9_1).f1)], .bool ((Int.tmod (ji12) 2) == 1)] rfl (by (try simp only [List.map_toArray, List.map_cons, List.map_nil]); first | done | (simp only [hji12]; rfl) | rfl | (simp only [List.length_drop, List.length_take]; rfl)) ?_; (with_reducible refine (heliastlaw17_lets.calls _ _ l0 ((rd_T122 t144 x9_1).f0) ((rd_T122 t144 x9_1).f1) ((Int.tmod (ji12) 2) == 1) t148 _ ?side1 ?side2 A13.out).mono ?_); (case side1 => repeat (first | exact (Kd.C_below HR0.out HB.out) | (with_reducible refine Kd.C_alloc ?_ _) | (with_reducible refine Kd.C_drewN ?_ _) | (with_reducible refine Kd.C_drew ?_))); (case side2 => exact HC0.out); rintro e w23 ⟨rfl, hb⟩; refine ⟨_, rfl, ?_⟩; have n0_ := Aside0.mk (Kd.R_below (by (with_reducible repeat (first | apply Kd.R_alloc | apply Kd.R_drewN | apply Kd.R_drew)); exact HO_7.out) hb); have n1_ := Aside0.mk (Kd.R_below (by (with_reducible repeat (first | apply Kd.R_alloc | apply Kd.R_drewN | apply Kd.R_drew)); exact HO_8.out) hb); have n2_ := Aside0.mk (blk_below (g := gb143) (o := .cells #[.string a1_0, .string a1_1, .string a1_2, .bool a1_3, .string a1_4, .string a1_5, .slice A1_6 l1_6.length c1_6, .slice A1_7 l1_7.length c1_7, .int .i64 a1_8, .int .i64 a1_9, .int .i64 a1_10, .int .i64 a1_11, .string a1_12, .slice A1_13 l1_13.length c1_13, .slice A1_14 l1_14.length c1_14] 50 (0, 0)) (by (with_reducible repeat (first | refine blk_drewN ?_ _ | refine blk_drew ?_ | refine blk_alloc ?_ _)); exact BK143.out) hb); have n3_ := Aside0.mk (below_step (by repeat (first | (with_reducible first | exact HB.out | apply below_alloc | apply pw_below_drewN | apply below_drew1 | refine below_set ?_ GE143.out) | exact HB.out)) hb); clear HO_7; clear HO_8; clear BK143; clear HB; have HO_7 := n0_; have HO_8 := n1_; have BK143 := n2_; have HB := n3_; clear n0_ n1_ n2_ n3_; (try clear hb); (try clear hb2); (try clear hk); (try clear hi)))
              go_roundg k1
              case measure => have := HK1.out; omega
              case rel => exact ⟨(x8_1), (wrap64 (x9_1 + 1)), (by first | rfl | (simp; done) | (simp [*]; done)), H', ⟨by have := HK1.out; omega⟩, ⟨by (with_reducible repeat (first | apply Kd.R_alloc | apply Kd.R_drewN | apply Kd.R_drew)); exact HO_7.out⟩, ⟨by (with_reducible repeat (first | apply Kd.R_alloc | apply Kd.R_drewN | apply Kd.R_drew)); exact HO_8.out⟩, ⟨by (with_reducible repeat (first | refine blk_drewN ?_ _ | refine blk_drew ?_ | refine blk_alloc ?_ _)); exact BK143.out⟩, ⟨by repeat (first | (with_reducible first | exact HB.out | apply below_alloc | apply pw_below_drewN | apply below_drew1 | refine below_set ?_ GE143.out) | exact HB.out)⟩⟩
          · rw [if_neg c11] at H
            exact absurd H (by simp)
        · rw [if_neg c9] at H
          exact absurd H (by simp)
      · rw [if_neg c8] at H
        have c8b0 : decide (x9_1 < (t144.length : Int)) = false := decide_eq_false c8
        clear c8
        have H' := Aside0.mk H
        clear H
        obtain ⟨Ao24, co24, eo24⟩ := Kd.R_slice HO_7.out
        subst eo24
        go_wp2
        go_loopg [11, 12] k1 (fun kq v11 v12 w' => ∃ (x11_2 : List Int) (x12_2 : Int), v12 = .int .i64 x12_2 ∧ Aside0 (heliastlaw17_Auth.l1 kq l0 x8_1 x11_2 x12_2 = some r) ∧ Aside0 (kq ≤ k1) ∧ Aside0 (Kd.R (Kd.int .i64) 3 w' w.heap.size (fun k_ => some k_ ≠ (v11 : Value).ownBlock) u8 x8_1) ∧ Aside0 (Kd.R (Kd.int .i64) 3 w' w.heap.size (fun k_ => some k_ ≠ (u8 : Value).ownBlock) v11 x11_2) ∧ Aside0 (w'.heap[gb143]? = some (.cells #[.string a1_0, .string a1_1, .string a1_2, .bool a1_3, .string a1_4, .string a1_5, (.slice A1_6 l1_6.length c1_6), (.slice A1_7 l1_7.length c1_7), .int .i64 a1_8, .int .i64 a1_9, .int .i64 a1_10, .int .i64 a1_11, .string a1_12, (.slice A1_13 l1_13.length c1_13), (.slice A1_14 l1_14.length c1_14)] 50 (0, 0))) ∧ Aside0 (Below w.heap.size w w'))
        case atStart => exact ⟨(([] : List Int)), (0), (by first | rfl | (simp; done) | (simp [*]; done)), H', ⟨Nat.le_refl _⟩, ⟨by (with_reducible repeat (first | apply Kd.R_alloc | apply Kd.R_drewN | apply Kd.R_drew)); exact Kd.R_mono HO_8.out (fun _ hk => (by simp [Value.ownBlock]))⟩, ⟨by first | exact Kd.R_nil _ _ _ _ _ | exact Kd.N_nil _ _ _ _ _ | exact Kd.V_nil _ _ _ _ _ | exact Kd.Q_nil _ _ _ _ _ | exact Kd.S_nil _ _ _ _ _⟩, ⟨by (with_reducible repeat (first | refine blk_drewN ?_ _ | refine blk_drew ?_ | refine blk_alloc ?_ _)); exact BK143.out⟩, ⟨by repeat (first | (with_reducible first | exact HB.out | apply below_alloc | apply pw_below_drewN | apply below_drew1 | refine below_set ?_ GE143.out) | exact HB.out)⟩⟩
        case round =>
          clear H'
          try clear c1
          try clear p1
          try clear q1
          try clear hx1
          try clear p2
          try clear c6
          try clear p6
          try clear c8
          try clear c8b0
          try clear c9
          try clear c9b0
          try clear c11
          try clear c11b0
          try clear c11b1
          try clear c14
          try clear c14b0
          try clear p14
          try clear q14
          try clear hx14
          try clear c15
          try clear c15b0
          try clear c16
          try clear hcz6_0
          try clear hcz6_1
          try clear hcz6_10
          try clear hcz6_11
          try clear hcz6_12
          try clear hcz6_13
          try clear hcz6_14
          try clear hcz6_2
          try clear hcz6_3
          try clear hcz6_4
          try clear hcz6_5
          try clear hcz6_6
          try clear hcz6_7
          try clear hcz6_8
          try clear hcz6_9
          try clear hfz6_0
          try clear hfz6_1
          try clear hfz6_10
          try clear hfz6_11
          try clear hfz6_12
          try clear hfz6_13
          try clear hfz6_14
          try clear hfz6_2
          try clear hfz6_3
          try clear hfz6_4
          try clear hfz6_5
          try clear hfz6_6
          try clear hfz6_7
          try clear hfz6_8
          try clear hfz6_9
          try clear hx147_0
          try clear hx147_1
          try clear p147
          try clear p2
          try clear q147
          obtain ⟨x11_2, x12_2, rfl, HA, HK2, HO_8, HO_11, BK143, HB⟩ := hrel
          cases gk with
          | zero => exact absurd HA.out (by simp [heliastlaw17_Auth.l1])
          | succ k2 =>
            have H := HA.out
            clear HA
            simp only [heliastlaw17_Auth.l1] at H
            by_cases c25 : x12_2 < (l0.length : Int)
            · rw [if_pos c25] at H
              have c25b0 : decide (x12_2 < (l0.length : Int)) = true := decide_eq_true c25
              clear c25
              replace H := Option.bind_eq_some_iff.mp H
              obtain ⟨t152, A260, H⟩ := H
              replace H : (if t152 = true then (if x11_2.length < 17592186044416 then (heliastlaw17_Auth.l1 k2 l0 x8_1 (x11_2 ++ [x12_2]) (wrap64 (x12_2 + 1))) else (none)) else (heliastlaw17_Auth.l1 k2 l0 x8_1 x11_2 (wrap64 (x12_2 + 1)))) = some r := H
              have A26 := Aside0.mk A260
              clear A260
              by_cases c27 : t152 = true
              · subst c27
                have H1 : (if x11_2.length < 17592186044416 then (heliastlaw17_Auth.l1 k2 l0 x8_1 (x11_2 ++ [x12_2]) (wrap64 (x12_2 + 1))) else (none)) = some r := by rw [if_pos rfl] at H; exact H
                clear H
                have H := H1
                clear H1
                by_cases c28 : x11_2.length < 17592186044416
                · rw [if_pos c28] at H
                  have LMc28 := Aside0.mk c28
                  clear c28
                  obtain ⟨y153, hy153⟩ : ∃ y_ : List Int, y_ = (x11_2 ++ [x12_2]) := ⟨_, rfl⟩
                  replace H : (heliastlaw17_Auth.l1 k2 l0 x8_1 y153 (wrap64 (x12_2 + 1))) = some r := by first | (rw [hy153]; with_reducible exact H) | (have H2_ := (Option.bind_some _ _).symm.trans H; rw [hy153]; with_reducible exact H2_) | (have H2_ := (Option.bind_some _ _).symm.trans H; with_reducible exact H2_) | with_reducible exact H | (rw [hy153]; exact H) | exact H
                  have Ny153 := Aside0.mk hy153
                  clear hy153
                  have H' := Aside0.mk H
                  clear H
                  obtain ⟨Ao29, co29, eo29⟩ := Kd.R_slice HO_8.out
                  subst eo29
                  go_wp2_with (first | ((with_reducible refine gate_callee (f := 11) rfl ?_); refine goesL_ (some 56) rfl rfl Tryz.func11 (by kernel_rfl) rfl #[.slice Ao29 x8_1.length co29, .int .i64 x12_2] rfl (by (try simp only [List.map_toArray, List.map_cons, List.map_nil]); first | done | rfl | (simp only [List.length_drop, List.length_take]; rfl)) ?_; (with_reducible refine (heliastref12_Has.calls k2 _ _ x8_1 x12_2 true _ ?side1 ?side2 A26.out).mono ?_); (case side1 => repeat (first | exact (Kd.R_reads' HO_8.out).2.2 | (with_reducible refine Kd.C_alloc ?_ _) | (with_reducible refine Kd.C_drewN ?_ _) | (with_reducible refine Kd.C_drew ?_))); (case side2 => exact (Kd.R_reads' HO_8.out).2.1); rintro e w' ⟨rfl, ⟨nd, rfl⟩⟩; refine ⟨_, rfl, ?_⟩) | ((with_reducible refine gate_builtin (b := .append) (xs := #[.tmp 57, .tmp 59]) rfl ?_); at_builtin; refine Kd.R_append (Kd.int .i64) (w0 := w) w.heap.size rfl (.tmp 57) (.tmp 59) 27 3 (.int .i64 0) 8 rfl Tryz.underlying27 info3 rfl (by decide) (by omega) u11 x11_2 x12_2 [.int .i64 x12_2] (fun k_ => some k_ ≠ (.slice Ao29 x8_1.length co29 : Value).ownBlock) (fun _ => False) rfl rfl ?aP (fun _ hk => hk.elim) ?aF ?aO ?aB ?aS ?aL ?_; (case aP => exact rfl); (case aB => exact (by repeat (first | (with_reducible first | exact HB.out | apply below_alloc | apply pw_below_drewN | apply below_drew1 | refine below_set ?_ GE143.out) | exact HB.out))); (case aF => exact (fun k_ hk => Kd.fresh' (Kd.R_lt (by (with_reducible repeat (first | apply Kd.R_alloc | apply Kd.R_drewN | apply Kd.R_drew)); exact HO_8.out)) k_ hk)); (case aO => exact (by (with_reducible repeat (first | apply Kd.R_alloc | apply Kd.R_drewN | apply Kd.R_drew)); exact HO_11.out)); (case aS => exact (below_size (by repeat (first | (with_reducible first | exact HB.out | apply below_alloc | apply pw_below_drewN | apply below_drew1 | refine below_set ?_ GE143.out) | exact HB.out)))); (case aL => have := LMc28.out; omega); intro v154 w30 ho hb hg hat; rw [← Ny153.out] at ho; have n0_ := Aside0.mk (Kd.R_after (ok := (fun _ => True)) (by (with_reducible repeat (first | apply Kd.R_alloc | apply Kd.R_drewN | apply Kd.R_drew)); exact Kd.R_mono HO_8.out (fun _ hk => ⟨trivial, hk⟩)) hg hat); have n1_ := Aside0.mk (blk_grown (g := gb143) (o := .cells #[.string a1_0, .string a1_1, .string a1_2, .bool a1_3, .string a1_4, .string a1_5, .slice A1_6 l1_6.length c1_6, .slice A1_7 l1_7.length c1_7, .int .i64 a1_8, .int .i64 a1_9, .int .i64 a1_10, .int .i64 a1_11, .string a1_12, .slice A1_13 l1_13.length c1_13, .slice A1_14 l1_14.length c1_14] 50 (0, 0)) (by (with_reducible repeat (first | refine blk_drewN ?_ _ | refine blk_drew ?_ | refine blk_alloc ?_ _)); exact BK143.out) hg (Kd.R_ne HO_11.out BK143.out (by decide))); have n2_ := Aside0.mk (hb); have n3_ := Aside0.mk (ho); clear HO_8; clear BK143; clear HB; clear HO_11; have HO_8 := n0_; have BK143 := n1_; have HB := n2_; have HO155 := n3_; clear n0_ n1_ n2_ n3_; clear ho hb hg hat))
                  go_roundg k2
                  case measure => have := HK1.out; have := HK2.out; omega
                  case rel => exact ⟨(y153), (wrap64 (x12_2 + 1)), (by first | rfl | (simp; done) | (simp [*]; done)), H', ⟨by have := HK1.out; have := HK2.out; omega⟩, ⟨by (with_reducible repeat (first | apply Kd.R_alloc | apply Kd.R_drewN | apply Kd.R_drew)); exact Kd.R_mono HO_8.out (fun _ hk => hk.2)⟩, ⟨by (with_reducible repeat (first | apply Kd.R_alloc | apply Kd.R_drewN | apply Kd.R_drew)); exact HO155.out⟩, ⟨by (with_reducible repeat (first | refine blk_drewN ?_ _ | refine blk_drew ?_ | refine blk_alloc ?_ _)); exact BK143.out⟩, ⟨by repeat (first | (with_reducible first | exact HB.out | apply below_alloc | apply pw_below_drewN | apply below_drew1 | refine below_set ?_ GE143.out) | exact HB.out)⟩⟩
                · rw [if_neg c28] at H
                  exact absurd H (by simp)
              · replace c27 := Bool.eq_false_iff.mpr c27
                subst c27
                have H1 : (heliastlaw17_Auth.l1 k2 l0 x8_1 x11_2 (wrap64 (x12_2 + 1))) = some r := by rw [if_neg (show ¬ (false = true) by decide)] at H; exact H
                clear H
                have H := H1
                clear H1
                have H' := Aside0.mk H
                clear H
                obtain ⟨Ao31, co31, eo31⟩ := Kd.R_slice HO_8.out
                subst eo31
                go_wp2_with (first | ((with_reducible refine gate_callee (f := 11) rfl ?_); refine goesL_ (some 56) rfl rfl Tryz.func11 (by kernel_rfl) rfl #[.slice Ao31 x8_1.length co31, .int .i64 x12_2] rfl (by (try simp only [List.map_toArray, List.map_cons, List.map_nil]); first | done | rfl | (simp only [List.length_drop, List.length_take]; rfl)) ?_; (with_reducible refine (heliastref12_Has.calls k2 _ _ x8_1 x12_2 false _ ?side1 ?side2 A26.out).mono ?_); (case side1 => repeat (first | exact (Kd.R_reads' HO_8.out).2.2 | (with_reducible refine Kd.C_alloc ?_ _) | (with_reducible refine Kd.C_drewN ?_ _) | (with_reducible refine Kd.C_drew ?_))); (case side2 => exact (Kd.R_reads' HO_8.out).2.1); rintro e w' ⟨rfl, ⟨nd, rfl⟩⟩; refine ⟨_, rfl, ?_⟩))
                go_roundg k2
                case measure => have := HK1.out; have := HK2.out; omega
                case rel => exact ⟨(x11_2), (wrap64 (x12_2 + 1)), (by first | rfl | (simp; done) | (simp [*]; done)), H', ⟨by have := HK1.out; have := HK2.out; omega⟩, ⟨by (with_reducible repeat (first | apply Kd.R_alloc | apply Kd.R_drewN | apply Kd.R_drew)); exact HO_8.out⟩, ⟨by (with_reducible repeat (first | apply Kd.R_alloc | apply Kd.R_drewN | apply Kd.R_drew)); exact HO_11.out⟩, ⟨by (with_reducible repeat (first | refine blk_drewN ?_ _ | refine blk_drew ?_ | refine blk_alloc ?_ _)); exact BK143.out⟩, ⟨by repeat (first | (with_reducible first | exact HB.out | apply below_alloc | apply pw_below_drewN | apply below_drew1 | refine below_set ?_ GE143.out) | exact HB.out)⟩⟩
            · rw [if_neg c25] at H
              have c25b0 : decide (x12_2 < (l0.length : Int)) = false := decide_eq_false c25
              clear c25
              obtain rfl := Option.some.inj H
              go_wp2
              go_ret
              exact ⟨_, by first | rfl | (simp [errW_none, errW_some] <;> rfl) | (simp [*, errW_none, errW_some] <;> rfl), by (with_reducible repeat (first | apply Kd.R_alloc | apply Kd.R_drewN | apply Kd.R_drew)); exact Kd.R_mono HO_11.out (fun _ hk => trivial), by repeat (first | (with_reducible first | exact HB.out | apply below_alloc | apply pw_below_drewN | apply below_drew1 | refine below_set ?_ GE143.out) | exact HB.out)⟩
open Go.Proofs.He
abbrev SV := S48
abbrev kSV := k48
def vCells (v : SV) (A3 : Option Addr) (c3 : Nat) (A4 : Option Addr) (c4 : Nat) : List Value := [.int .i64 v.f0, .int .i64 v.f1, .string v.f2, .slice A3 v.f3.length c3, .slice A4 v.f4.length c4]
structure VF (W : World) (ok : Nat → Prop) (v : SV) (A3 : Option Addr) (c3 : Nat) (A4 : Option Addr) (c4 : Nat) : Prop where
  l3 : v.f3.length ≤ c3
  g3 : Kd.F Kd.string W ok A3 v.f3.length v.f3
  l4 : v.f4.length ≤ c4
  g4 : Kd.F kSV W ok A4 v.f4.length v.f4
section
variable {W W1 : World} {ok ok' : Nat → Prop} {v : SV} {A3 A4 : Option Addr} {c3 c4 : Nat}
theorem VF.mono (h : VF W ok v A3 c3 A4 c4) (hk : ∀ k, ok k → ok' k) : VF W ok' v A3 c3 A4 c4 := ⟨h.l3, Kd.F_mono h.g3 hk, h.l4, Kd.F_mono h.g4 hk⟩
theorem VF.step (h : VF W ok v A3 c3 A4 c4) (hm : ∀ k, ok k → k < W.heap.size → W1.heap[k]? = W.heap[k]?) : VF W1 ok v A3 c3 A4 c4 := ⟨h.l3, Kd.F_step h.g3 hm, h.l4, Kd.F_step h.g4 hm⟩
theorem VF.below (h : VF W ok v A3 c3 A4 c4) (hb : Below W.heap.size W W1) : VF W1 ok v A3 c3 A4 c4 := h.step (fun k _ hk => hb.block k hk)
theorem VF.bound (h : VF W ok v A3 c3 A4 c4) : VF W (fun k => ok k ∧ k < W.heap.size) v A3 c3 A4 c4 := ⟨h.l3, Kd.F_bound h.g3, h.l4, Kd.F_bound h.g4⟩
theorem VF.fk (h : VF W ok v A3 c3 A4 c4) : Kd.FK kSV W ok v (vCells v A3 c3 A4 c4) := k48_mkF W ok v h.l3 h.g3 h.l4 h.g4
end
def Dq : Nat → SV → Prop
  | 0, v => v.f3.length ≤ 1000000 ∧ v.f4 = []
  | d + 1, v => v.f3.length ≤ 1000000 ∧ v.f4.length ≤ 1000000 ∧ ∀ y ∈ v.f4, Dq d y
theorem Dq.up : ∀ (d : Nat) (v : SV), Dq d v → Dq (d + 1) v
  | 0, v, h => ⟨h.1, by rw [h.2]; exact Nat.zero_le _, fun y hy => by rw [h.2] at hy; cases hy⟩
  | d + 1, v, h => ⟨h.1, h.2.1, fun y hy => Dq.up d y (h.2.2 y hy)⟩
theorem Dq.le {d d' : Nat} {v : SV} (h : Dq d v) (hd : d ≤ d') : Dq d' v := by
  induction hd with
  | refl => exact h
  | step _ ih => exact Dq.up _ _ ih
structure WithOf (v : SV) (key : ByteArray) (x : SV) (r4 : List ByteArray) (r5 : List SV) : Prop where
  len4 : r4.length ≤ v.f3.length + 1
  len5 : r5.length ≤ v.f4.length + 1
  mem : ∀ s ∈ r4, s ∈ v.f3 ∨ s = key
  elems : ∀ y ∈ r5, y ∈ v.f4 ∨ y = x
structure WK (w W : World) (b5 b10 : Nat) (bx : Array Value) (vk : Value) (K : List ByteArray) : Prop where
  below : Below w.heap.size w W
  h5 : W.heap[b5]? = some (.cells bx 48 (0, 0))
  h10 : W.heap[b10]? = some (.cells #[.int .i64 0, .int .i64 0, .string ⟨#[]⟩, .slice none 0 0, .slice none 0 0] 48 (0, 0))
  k : Kd.N Kd.string 9 W w.heap.size (fun k => k ≠ b5 ∧ k ≠ b10) vk K
theorem WK.app {w W w1 : World} {b5 b10 : Nat} {bx : Array Value} {vk v1 : Value} {K K' : List ByteArray} (h : WK w W b5 b10 bx vk K) (hr : Kd.N Kd.string 9 w1 w.heap.size (fun k => k ≠ b5 ∧ k ≠ b10) v1 K') (hb : Below w.heap.size w w1) (hg : W.grownBy w1 vk.ownBlock) : WK w w1 b5 b10 bx v1 K' :=
  ⟨hb, blk_grown h.h5 hg (fun e => (h.k.1 b5 e.symm).1 rfl), blk_grown h.h10 hg (fun e => (h.k.1 b10 e.symm).2 rfl), hr⟩
structure WL (P : Nat → Prop) (w W : World) (b5 b10 : Nat) (bx : Array Value) (vk : Value) (K : List ByteArray) (vl : Value) (L : List SV) : Prop where
  wk : WK w W b5 b10 bx vk K
  l : Kd.N kSV 48 W w.heap.size (fun k => (P k ∨ w.heap.size ≤ k) ∧ k ≠ b5 ∧ k ≠ b10 ∧ some k ≠ vk.ownBlock) vl L
theorem WL.app {P : Nat → Prop} {w W w1 : World} {b5 b10 : Nat} {bx : Array Value} {vk vl v1 : Value} {K : List ByteArray} {L L' : List SV} (h : WL P w W b5 b10 bx vk K vl L) (hr : Kd.N kSV 48 w1 w.heap.size (fun k => (P k ∨ w.heap.size ≤ k) ∧ k ≠ b5 ∧ k ≠ b10 ∧ some k ≠ vk.ownBlock) v1 L') (hb : Below w.heap.size w w1) (hg : W.grownBy w1 vl.ownBlock) : WL P w w1 b5 b10 bx vk K v1 L' :=
  ⟨⟨hb, blk_grown h.wk.h5 hg (fun e => (h.l.1 b5 e.symm).2.1 rfl), blk_grown h.wk.h10 hg (fun e => (h.l.1 b10 e.symm).2.2.1 rfl), Kd.N_mono (ok := fun k => (k ≠ b5 ∧ k ≠ b10) ∧ some k = vk.ownBlock) (Kd.N_grown (by
    obtain ⟨h0, rows, hl, hR, hf⟩ := h.wk.k
    exact ⟨fun k hk => ⟨h0 k hk, hk.symm⟩, rows, hl, hR, fun j x c hx hc => by
      have e : c = [Value.string x] := Kd.FK_now (hf j x c hx hc)
      exact fun _ _ => e⟩) hg (fun k hk e => by
      obtain ⟨_, e2⟩ := hk
      exact (h.l.1 k e.symm).2.2.2 e2)) (fun k hk => hk.1)⟩, hr⟩
theorem bx_cells {W : World} {b : Nat} {a0 a1 a2 a3 a4 : Value} {t : TypeId} (h : W.heap[b]? = some (.cells #[a0, a1, a2, a3, a4] t (0, 0))) : W.cell? ⟨b, 0, none⟩ = some a0 ∧ W.cell? ⟨b, 1, none⟩ = some a1 ∧ W.cell? ⟨b, 2, none⟩ = some a2 ∧ W.cell? ⟨b, 3, none⟩ = some a3 ∧ W.cell? ⟨b, 4, none⟩ = some a4 :=
  ⟨blk_cell h 0, blk_cell h 1, blk_cell h 2, blk_cell h 3, blk_cell h 4⟩
theorem bx_free {W : World} {b : Nat} {a0 a1 a2 a3 a4 : Value} {t : TypeId} (h : W.heap[b]? = some (.cells #[a0, a1, a2, a3, a4] t (0, 0))) : W.frozen? ⟨b, 0, none⟩ = false ∧ W.frozen? ⟨b, 1, none⟩ = false ∧ W.frozen? ⟨b, 2, none⟩ = false ∧ W.frozen? ⟨b, 3, none⟩ = false ∧ W.frozen? ⟨b, 4, none⟩ = false :=
  ⟨blk_frozen h 0, blk_frozen h 1, blk_frozen h 2, blk_frozen h 3, blk_frozen h 4⟩
theorem two_boxes {w W2 : World} {cs1 cs2 : Array Value} {t : TypeId} (h : (w.alloc (.cells cs1 t)).alloc (.cells cs2 t) = W2) : Below w.heap.size w W2 ∧ W2.heap[w.heap.size]? = some (.cells cs1 t (0, 0)) ∧ W2.heap[w.heap.size + 1]? = some (.cells cs2 t (0, 0)) := by
  subst h
  refine ⟨((Below.refl _ _).alloc (Nat.le_refl _) _).alloc (by simp) _, (heap_alloc_old _ _ (by simp)).trans (heap_alloc_new w _), ?_⟩
  have := heap_alloc_new (w.alloc (.cells cs1 t)) (.cells cs2 t)
  rwa [World.size_alloc] at this
def five (W : World) (b : Nat) (b0 b1 b2 b3 b4 : Value) : World := ((((W.setCell ⟨b, 0, none⟩ b0).setCell ⟨b, 1, none⟩ b1).setCell ⟨b, 2, none⟩ b2).setCell ⟨b, 3, none⟩ b3).setCell ⟨b, 4, none⟩ b4
theorem five_put {W : World} {b : Nat} {a0 a1 a2 a3 a4 b0 b1 b2 b3 b4 : Value} {t : TypeId} (h : W.heap[b]? = some (.cells #[a0, a1, a2, a3, a4] t (0, 0))) : (five W b b0 b1 b2 b3 b4).heap[b]? = some (.cells #[b0, b1, b2, b3, b4] t (0, 0)) :=
  blk_put (blk_put (blk_put (blk_put (blk_put h 0 b0 rfl) 1 b1 rfl) 2 b2 rfl) 3 b3 rfl) 4 b4 rfl
theorem five_far {W : World} {b : Nat} {b0 b1 b2 b3 b4 : Value} {k : Nat} (h : k ≠ b) : (five W b b0 b1 b2 b3 b4).heap[k]? = W.heap[k]? :=
  (Below.heap_setCell _ ⟨b, 4, none⟩ b4 k h).trans ((Below.heap_setCell _ ⟨b, 3, none⟩ b3 k h).trans ((Below.heap_setCell _ ⟨b, 2, none⟩ b2 k h).trans ((Below.heap_setCell _ ⟨b, 1, none⟩ b1 k h).trans (Below.heap_setCell _ ⟨b, 0, none⟩ b0 k h))))
theorem five_below {B : Nat} {w W : World} {b : Nat} {b0 b1 b2 b3 b4 : Value} (hB : B ≤ b) (h : Below B w W) : Below B w (five W b b0 b1 b2 b3 b4) :=
  ((((h.setCell (p := ⟨b, 0, none⟩) hB b0).setCell (p := ⟨b, 1, none⟩) hB b1).setCell (p := ⟨b, 2, none⟩) hB b2).setCell (p := ⟨b, 3, none⟩) hB b3).setCell (p := ⟨b, 4, none⟩) hB b4
theorem str_tight {W : World} {base : Nat} {ok : Nat → Prop} {v : Value} {K : List ByteArray} (h : Kd.N Kd.string 9 W base ok v K) : Kd.N Kd.string 9 W base (fun k => some k = v.ownBlock) v K := by
  obtain ⟨h0, rows, hl, hR, hf⟩ := h
  exact ⟨fun k hk => hk.symm, rows, hl, hR, fun j x c hx hc => by
    have e : c = [Value.string x] := Kd.FK_now (hf j x c hx hc)
    exact fun _ _ => e⟩
theorem with_end {P : Nat → Prop} {w W : World} {bx : Array Value} {AK AL : Option Addr} {cK cL i n m : Nat} {K1 K2 K3 : List ByteArray} {L1 L2 L3 : List SV} {v x : SV} {key : ByteArray} (h : WL P w W w.heap.size (w.heap.size + 1) bx (.slice AK K3.length cK) K3 (.slice AL L3.length cL) L3)
    (k1 : K1 = [] ++ v.f3.take i) (k2 : K2 = K1 ++ [key]) (k3 : K3 = K2 ++ (v.f3.take m).drop (i + n)) (l1 : L1 = [] ++ v.f4.take i) (l2 : L2 = L1 ++ [x]) (l3 : L3 = L2 ++ (v.f4.take m).drop (i + n)) (hi3 : i + n ≤ v.f3.length) (hi4 : i + n ≤ v.f4.length) (hm : m = min v.f3.length v.f4.length) :
    ∃ r : SV, ∃ A3' c3' A4' c4', (.returned (.agg #[.int .i64 5, .int .i64 v.f1, .string v.f2, .slice AK K3.length cK, .slice AL L3.length cL]) : Ending) = .returned (.agg #[.int .i64 r.f0, .int .i64 r.f1, .string r.f2, .slice A3' r.f3.length c3', .slice A4' r.f4.length c4']) ∧
      VF (five W (w.heap.size + 1) (.int .i64 5) (.int .i64 v.f1) (.string v.f2) (.slice AK K3.length cK) (.slice AL L3.length cL)) (fun k => P k ∨ w.heap.size ≤ k) r A3' c3' A4' c4' ∧ WithOf v key x r.f3 r.f4 ∧ Below w.heap.size w (five W (w.heap.size + 1) (.int .i64 5) (.int .i64 v.f1) (.string v.f2) (.slice AK K3.length cK) (.slice AL L3.length cL)) := by
  refine ⟨⟨5, v.f1, v.f2, K3, L3⟩, AK, cK, AL, cL, rfl, ⟨(Kd.N_reads' h.wk.k).2.1, ?_, (Kd.N_reads' h.l).2.1, ?_⟩, ⟨?_, ?_, ?_, ?_⟩, five_below (Nat.le_succ _) h.wk.below⟩
  · refine Kd.F_mono (Kd.F_step (Kd.N_F (str_tight h.wk.k)) (fun k hk _ => five_far (fun e => ?_))) (fun k hk => .inr (Kd.N_base h.wk.k k hk.symm))
    subst e; exact (h.wk.k.1 _ hk.symm).2 rfl
  · exact Kd.F_mono (Kd.F_step (Kd.N_F h.l) (fun k hk _ => five_far (fun e => hk.2.2.1 e))) (fun k hk => hk.1)
  · show K3.length ≤ _
    rw [k3, k2, k1]; simp; omega
  · show L3.length ≤ _
    rw [l3, l2, l1]; simp; omega
  · intro s hs
    have hs : s ∈ K3 := hs
    rw [k3, k2, k1, List.nil_append] at hs
    rcases List.mem_append.1 hs with hs | hs
    · rcases List.mem_append.1 hs with hs | hs
      · exact .inl (List.mem_of_mem_take hs)
      · exact .inr (List.mem_singleton.1 hs)
    · exact .inl (List.mem_of_mem_take (List.mem_of_mem_drop hs))
  · intro s hs
    have hs : s ∈ L3 := hs
    rw [l3, l2, l1, List.nil_append] at hs
    rcases List.mem_append.1 hs with hs | hs
    · rcases List.mem_append.1 hs with hs | hs
      · exact .inl (List.mem_of_mem_take hs)
      · exact .inr (List.mem_singleton.1 hs)
    · exact .inl (List.mem_of_mem_take (List.mem_of_mem_drop hs))
set_option maxHeartbeats 8000000 in
set_option maxRecDepth 100000 in
theorem with_.walk (v : SV) (A3 : Option Addr) (c3 : Nat) (A4 : Option Addr) (c4 : Nat) (i n : Nat) (key : ByteArray) (x : SV) (Ak : Option Addr) (ck : Nat) (Av : Option Addr) (cv : Nat) (P : Nat → Prop) (w : World) (hv : VF w P v A3 c3 A4 c4) (hk : Kd.F Kd.string w P Ak 1 [key]) (hx : Kd.F kSV w P Av 1 [x])
    (hP : ∀ k, P k → k < w.heap.size) (h3 : v.f3.length < 1000) (h4 : v.f4.length < 1000) (hi3 : i + n ≤ v.f3.length) (hi4 : i + n ≤ v.f4.length) (hn : n ≤ 1) (hck : 1 ≤ ck) (hcv : 1 ≤ cv) :
    Calls Tryz.prog 95 #[.agg #[.int .i64 v.f0, .int .i64 v.f1, .string v.f2, .slice A3 v.f3.length c3, .slice A4 v.f4.length c4], .int .i64 (i : Int), .int .i64 (n : Int), .slice Ak 1 ck, .slice Av 1 cv] w fun e w' =>
      ∃ r A3' c3' A4' c4', e = .returned (.agg #[.int .i64 r.f0, .int .i64 r.f1, .string r.f2, .slice A3' r.f3.length c3', .slice A4' r.f4.length c4']) ∧ VF w' (fun k => P k ∨ w.heap.size ≤ k) r A3' c3' A4' c4' ∧ WithOf v key x r.f3 r.f4 ∧ Below w.heap.size w w' := by
  have hu32 := Tryz.underlying48
  obtain ⟨m, hm⟩ : ∃ m, m = min v.f3.length v.f4.length := ⟨_, rfl⟩
  have hl3 := hv.l3
  have hl4 := hv.l4
  have hm3 : (m : Int) ≤ (v.f3.length : Int) := by omega
  have hm4 : (m : Int) ≤ (v.f4.length : Int) := by omega
  have hin : (i : Int) + (n : Int) ≤ (m : Int) := by omega
  have HF3 : ∀ j, j ≤ v.f3.length → ∀ W, Below w.heap.size w W → Kd.F Kd.string W P A3 j (v.f3.take j) := fun j hj W hW => by
    have := Kd.F_below (Kd.F_take (m := j) hv.g3 hj) hW
    rwa [List.length_take, Nat.min_eq_left hj] at this
  have HFK : ∀ W, Below w.heap.size w W → Kd.F Kd.string W P Ak 1 [key] := fun W hW => Kd.F_below hk hW
  have HFX : ∀ W, Below w.heap.size w W → Kd.F kSV W P Av 1 [x] := fun W hW => Kd.F_below hx hW
  have hif : (if v.f4.length < v.f3.length then (v.f4.length : Int) else (v.f3.length : Int)) = (m : Int) := by split <;> omega
  have HM3 : ∀ W, Below w.heap.size w W → Kd.F Kd.string W P (if c3 = i + n then A3 else A3.map (·.add ((i + n) * 1))) (m - (i + n)) ((v.f3.take m).drop (i + n)) := fun W hW => by
    have := Kd.F_below (Kd.F_mid (lo := i + n) (hi := m) hv.g3 (by omega) (by omega) hv.l3) hW
    rwa [List.length_drop, List.length_take, show min m v.f3.length = m by omega] at this
  have HM4 : ∀ W, Below w.heap.size w W → Kd.F kSV W P (if c4 = i + n then A4 else A4.map (·.add ((i + n) * 5))) (m - (i + n)) ((v.f4.take m).drop (i + n)) := fun W hW => by
    have := Kd.F_below (Kd.F_mid (lo := i + n) (hi := m) hv.g4 (by omega) (by omega) hv.l4) hW
    rwa [List.length_drop, List.length_take, show min m v.f4.length = m by omega] at this
  have HF4 : ∀ j, j ≤ v.f4.length → ∀ W, Below w.heap.size w W → Kd.F kSV W P A4 j (v.f4.take j) := fun j hj W hW => by
    have := Kd.F_below (Kd.F_take (m := j) hv.g4 hj) hW
    rwa [List.length_take, Nat.min_eq_left hj] at this
  rw [Nat.mul_one] at HM3
  have HV := Aside0.mk hv
  have HP := Aside0.mk hP
  have HM := Aside0.mk hm
  clear hv hk hx hP hm
  by_cases hq3 : c3 = i + n
  all_goals
    by_cases hq4 : c4 = i + n
    all_goals
      first | (rw [if_pos hq3] at HM3; subst hq3) | rw [if_neg hq3] at HM3
      first | (rw [if_pos hq4] at HM4; subst hq4) | (rw [if_neg hq4] at HM4)
      go_enter Tryz.func95, Tryz.ntmps95
      go_upto_region 1 with fail
      generalize hwa : (w.alloc _).alloc _ = W2
      obtain ⟨hb2, h5, h10⟩ := two_boxes hwa
      clear hwa
      have WK0 := Aside0.mk (show WK w W2 w.heap.size (w.heap.size + 1) _ (.slice none 0 0) [] from ⟨hb2, h5, h10, Kd.N_nil _ _ _ _ _⟩)
      obtain ⟨e0, e1, e2, e3, e4⟩ := bx_cells h5
      clear h5 h10 hb2
      go_wp2_with (first
        | ((with_reducible refine gate_dst (N := 26) rfl ?_); refine Kd.N_append_rows Kd.string w.heap.size rfl (.tmp 21) (.tmp 25) 45 9 (.string ⟨#[]⟩) 16 rfl Tryz.underlying45 (by kernel_rfl) rfl (by decide) (by decide) (.slice none 0 0) ([] : List ByteArray) (v.f3.take i) (A3) (_) (_) (fun k => k ≠ w.heap.size ∧ k ≠ w.heap.size + 1) P rfl rfl WK0.out.k (HF3 i (by omega) _ WK0.out.below) (fun k h => ⟨⟨by have := HP.out k h; omega, by have := HP.out k h; omega⟩, fun e => by have := HP.out k h; have := Kd.N_base WK0.out.k k e.symm; omega⟩) (fun k h => by have := blk_lt WK0.out.h10; exact ⟨by omega, by omega⟩) WK0.out.below WK0.out.below.size (by simp; omega) ?_; intro vWK1 wWK1 hr_ hb_ hg_ hat_; have WK1 := WK0.out.app hr_ hb_ hg_; obtain ⟨K1, hK1⟩ : ∃ K_, K_ = ([] : List ByteArray) ++ (v.f3.take i) := ⟨_, rfl⟩; rw [← hK1] at WK1; have HK1 := Aside0.mk hK1; clear hK1; replace WK1 := Aside0.mk WK1; obtain ⟨AWK1, cWK1, qWK1⟩ := Kd.N_slice WK1.out.k; subst qWK1; obtain ⟨e0, e1, e2, e3, e4⟩ := bx_cells WK1.out.h5; clear hr_ hb_ hg_ hat_)
        | ((with_reducible refine gate_dst (N := 29) rfl ?_); refine Kd.N_append_rows Kd.string w.heap.size rfl (.tmp 27) (.tmp 28) 45 9 (.string ⟨#[]⟩) 16 rfl Tryz.underlying45 (by kernel_rfl) rfl (by decide) (by decide) (.slice AWK1 K1.length cWK1) K1 [key] (Ak) (_) (_) (fun k => k ≠ w.heap.size ∧ k ≠ w.heap.size + 1) P rfl rfl WK1.out.k (HFK _ WK1.out.below) (fun k h => ⟨⟨by have := HP.out k h; omega, by have := HP.out k h; omega⟩, fun e => by have := HP.out k h; have := Kd.N_base WK1.out.k k e.symm; omega⟩) (fun k h => by have := blk_lt WK1.out.h10; exact ⟨by omega, by omega⟩) WK1.out.below WK1.out.below.size (by have lK1_ := congrArg List.length HK1.out; simp at lK1_ ⊢; omega) ?_; intro vWK2 wWK2 hr_ hb_ hg_ hat_; have WK2 := WK1.out.app hr_ hb_ hg_; obtain ⟨K2, hK2⟩ : ∃ K_, K_ = K1 ++ [key] := ⟨_, rfl⟩; rw [← hK2] at WK2; have HK2 := Aside0.mk hK2; clear hK2; replace WK2 := Aside0.mk WK2; obtain ⟨AWK2, cWK2, qWK2⟩ := Kd.N_slice WK2.out.k; subst qWK2; obtain ⟨e0, e1, e2, e3, e4⟩ := bx_cells WK2.out.h5; clear hr_ hb_ hg_ hat_)
        | ((with_reducible refine gate_dst (N := 38) rfl ?_); refine Kd.N_append_rows Kd.string w.heap.size rfl (.tmp 30) (.tmp 37) 45 9 (.string ⟨#[]⟩) 16 rfl Tryz.underlying45 (by kernel_rfl) rfl (by decide) (by decide) (.slice AWK2 K2.length cWK2) K2 ((v.f3.take m).drop (i + n)) (_) (_) (_) (fun k => k ≠ w.heap.size ∧ k ≠ w.heap.size + 1) P rfl rfl WK2.out.k (by have h_ := HM3 _ WK2.out.below; first | exact h_ | (rw [show m - (i + n) = v.f3.length - (i + n) by omega] at h_; exact h_)) (fun k h => ⟨⟨by have := HP.out k h; omega, by have := HP.out k h; omega⟩, fun e => by have := HP.out k h; have := Kd.N_base WK2.out.k k e.symm; omega⟩) (fun k h => by have := blk_lt WK2.out.h10; exact ⟨by omega, by omega⟩) WK2.out.below WK2.out.below.size (by have lK1_ := congrArg List.length HK1.out; have lK2_ := congrArg List.length HK2.out; simp at lK1_ lK2_ ⊢; omega) ?_; intro vWK3 wWK3 hr_ hb_ hg_ hat_; have WK3 := WK2.out.app hr_ hb_ hg_; obtain ⟨K3, hK3⟩ : ∃ K_, K_ = K2 ++ ((v.f3.take m).drop (i + n)) := ⟨_, rfl⟩; rw [← hK3] at WK3; have HK3 := Aside0.mk hK3; clear hK3; replace WK3 := Aside0.mk WK3; obtain ⟨AWK3, cWK3, qWK3⟩ := Kd.N_slice WK3.out.k; subst qWK3; obtain ⟨e0, e1, e2, e3, e4⟩ := bx_cells WK3.out.h5; clear hr_ hb_ hg_ hat_; have WL0 := Aside0.mk (show WL P w wWK3 w.heap.size (w.heap.size + 1) _ _ _ (.slice none 0 0) [] from ⟨WK3.out, Kd.N_nil _ _ _ _ _⟩))
        | ((with_reducible refine gate_dst (N := 44) rfl ?_); refine Kd.N_append_rows kSV w.heap.size rfl (.tmp 39) (.tmp 43) 46 48 (.agg #[.int .i64 0, .int .i64 0, .string ⟨#[]⟩, .slice none 0 0, .slice none 0 0]) 80 rfl Tryz.underlying46 (by kernel_rfl) rfl (by decide) (by decide) (.slice none 0 0) ([] : List SV) (v.f4.take i) (A4) (_) (_) (fun k => (P k ∨ w.heap.size ≤ k) ∧ k ≠ w.heap.size ∧ k ≠ w.heap.size + 1 ∧ some k ≠ ((.slice AWK3 K3.length cWK3) : Value).ownBlock) P rfl rfl WL0.out.l (HF4 i (by omega) _ WL0.out.wk.below) (fun k h => ⟨⟨.inl h, by have := HP.out k h; omega, by have := HP.out k h; omega, fun e => by have := HP.out k h; have := Kd.N_base WL0.out.wk.k k e.symm; omega⟩, fun e => by have := HP.out k h; have := Kd.N_base WL0.out.l k e.symm; omega⟩) (fun k h => ⟨.inr (Nat.le_trans WL0.out.wk.below.size h), by have := blk_lt WL0.out.wk.h10; omega, by have := blk_lt WL0.out.wk.h10; omega, fun e => by have := Kd.N_lt WL0.out.wk.k k e.symm; omega⟩) WL0.out.wk.below WL0.out.wk.below.size (by simp; omega) ?_; intro vWL1 wWL1 hr_ hb_ hg_ hat_; have WL1 := WL0.out.app hr_ hb_ hg_; obtain ⟨L1, hL1⟩ : ∃ K_, K_ = ([] : List SV) ++ (v.f4.take i) := ⟨_, rfl⟩; rw [← hL1] at WL1; have HL1 := Aside0.mk hL1; clear hL1; replace WL1 := Aside0.mk WL1; obtain ⟨AWL1, cWL1, qWL1⟩ := Kd.N_slice WL1.out.l; subst qWL1; obtain ⟨e0, e1, e2, e3, e4⟩ := bx_cells WL1.out.wk.h5; clear hr_ hb_ hg_ hat_)
        | ((with_reducible refine gate_dst (N := 47) rfl ?_); refine Kd.N_append_rows kSV w.heap.size rfl (.tmp 45) (.tmp 46) 46 48 (.agg #[.int .i64 0, .int .i64 0, .string ⟨#[]⟩, .slice none 0 0, .slice none 0 0]) 80 rfl Tryz.underlying46 (by kernel_rfl) rfl (by decide) (by decide) (.slice AWL1 L1.length cWL1) L1 [x] (Av) (_) (_) (fun k => (P k ∨ w.heap.size ≤ k) ∧ k ≠ w.heap.size ∧ k ≠ w.heap.size + 1 ∧ some k ≠ ((.slice AWK3 K3.length cWK3) : Value).ownBlock) P rfl rfl WL1.out.l (HFX _ WL1.out.wk.below) (fun k h => ⟨⟨.inl h, by have := HP.out k h; omega, by have := HP.out k h; omega, fun e => by have := HP.out k h; have := Kd.N_base WL1.out.wk.k k e.symm; omega⟩, fun e => by have := HP.out k h; have := Kd.N_base WL1.out.l k e.symm; omega⟩) (fun k h => ⟨.inr (Nat.le_trans WL1.out.wk.below.size h), by have := blk_lt WL1.out.wk.h10; omega, by have := blk_lt WL1.out.wk.h10; omega, fun e => by have := Kd.N_lt WL1.out.wk.k k e.symm; omega⟩) WL1.out.wk.below WL1.out.wk.below.size (by have lL1_ := congrArg List.length HL1.out; simp at lL1_ ⊢; omega) ?_; intro vWL2 wWL2 hr_ hb_ hg_ hat_; have WL2 := WL1.out.app hr_ hb_ hg_; obtain ⟨L2, hL2⟩ : ∃ K_, K_ = L1 ++ [x] := ⟨_, rfl⟩; rw [← hL2] at WL2; have HL2 := Aside0.mk hL2; clear hL2; replace WL2 := Aside0.mk WL2; obtain ⟨AWL2, cWL2, qWL2⟩ := Kd.N_slice WL2.out.l; subst qWL2; obtain ⟨e0, e1, e2, e3, e4⟩ := bx_cells WL2.out.wk.h5; clear hr_ hb_ hg_ hat_)
        | ((with_reducible refine gate_dst (N := 56) rfl ?_); refine Kd.N_append_rows kSV w.heap.size rfl (.tmp 48) (.tmp 55) 46 48 (.agg #[.int .i64 0, .int .i64 0, .string ⟨#[]⟩, .slice none 0 0, .slice none 0 0]) 80 rfl Tryz.underlying46 (by kernel_rfl) rfl (by decide) (by decide) (.slice AWL2 L2.length cWL2) L2 ((v.f4.take m).drop (i + n)) (_) (_) (_) (fun k => (P k ∨ w.heap.size ≤ k) ∧ k ≠ w.heap.size ∧ k ≠ w.heap.size + 1 ∧ some k ≠ ((.slice AWK3 K3.length cWK3) : Value).ownBlock) P rfl rfl WL2.out.l (by have h_ := HM4 _ WL2.out.wk.below; first | exact h_ | (rw [show m - (i + n) = v.f3.length - (i + n) by omega] at h_; exact h_) | (rw [show m - (i + n) = v.f4.length - (i + n) by omega] at h_; exact h_)) (fun k h => ⟨⟨.inl h, by have := HP.out k h; omega, by have := HP.out k h; omega, fun e => by have := HP.out k h; have := Kd.N_base WL2.out.wk.k k e.symm; omega⟩, fun e => by have := HP.out k h; have := Kd.N_base WL2.out.l k e.symm; omega⟩) (fun k h => ⟨.inr (Nat.le_trans WL2.out.wk.below.size h), by have := blk_lt WL2.out.wk.h10; omega, by have := blk_lt WL2.out.wk.h10; omega, fun e => by have := Kd.N_lt WL2.out.wk.k k e.symm; omega⟩) WL2.out.wk.below WL2.out.wk.below.size (by have lL1_ := congrArg List.length HL1.out; have lL2_ := congrArg List.length HL2.out; simp at lL1_ lL2_ ⊢; omega) ?_; intro vWL3 wWL3 hr_ hb_ hg_ hat_; have WL3 := WL2.out.app hr_ hb_ hg_; obtain ⟨L3, hL3⟩ : ∃ K_, K_ = L2 ++ ((v.f4.take m).drop (i + n)) := ⟨_, rfl⟩; rw [← hL3] at WL3; have HL3 := Aside0.mk hL3; clear hL3; replace WL3 := Aside0.mk WL3; obtain ⟨AWL3, cWL3, qWL3⟩ := Kd.N_slice WL3.out.l; subst qWL3; obtain ⟨e0, e1, e2, e3, e4⟩ := bx_cells WL3.out.wk.h5; clear hr_ hb_ hg_ hat_; obtain ⟨f0, f1, f2, f3, f4⟩ := bx_free WL3.out.wk.h10; obtain ⟨z0, z1, z2, z3, z4⟩ := bx_cells WL3.out.wk.h10))
      refine bodyPost_ret (results_cell_row rfl _ _ (w.heap.size + 1) 48 _ (0, 0) _ rfl (five_put WL3.out.wk.h10) Tryz.underlying48 rfl (by kernel_rfl)) rfl ?_
      exact with_end WL3.out HK1.out HK2.out HK3.out HL1.out HL2.out HL3.out hi3 hi4 HM.out
mutual
def heliastref01_Less.l0 : Nat → ByteArray → ByteArray → Int → Option (Bool)
  | 0, _, _, _ => none
  | k + 1, x0, x1, x5 => if x5 < (x0.size : Int) then (heliastref01_Less.j1 k x0 x1 x5 (decide (x5 < (x1.size : Int)))) else (heliastref01_Less.j1 k x0 x1 x5 false)
def heliastref01_Less.j1 : Nat → ByteArray → ByteArray → Int → Bool → Option (Bool)
  | 0, _, _, _, _ => none
  | k + 1, x0, x1, x5, x15 => if x15 = true then (if 0 ≤ x5 then (if x5 < (x0.size : Int) then (if x5 < (x1.size : Int) then (if (bt x0 x5) = (bt x1 x5) then (heliastref01_Less.l0 k x0 x1 (wrap64 (x5 + 1))) else (some (decide ((bt x0 x5) < (bt x1 x5))))) else (none)) else (none)) else (none)) else (some (decide ((x0.size : Int) < (x1.size : Int))))
end
def heliastref01_Less.f (k : Nat) (a0 : ByteArray) (a1 : ByteArray) : Option (Bool) := heliastref01_Less.l0 k a0 a1 0
set_option maxHeartbeats 8000000 in
set_option maxRecDepth 100000 in
theorem heliastref01_Less.calls (k : Nat) (a0 : ByteArray) (a1 : ByteArray) (r : Bool) (w : World) (h : heliastref01_Less.f k a0 a1 = some r) :
    Calls Tryz.prog 96 #[.string a0, .string a1] w fun e w' => e = .returned (.bool r) ∧ Drawn0 w w' := by
  have H : (heliastref01_Less.l0 k a0 a1 0) = some r := h
  clear h
  have H' := Aside0.mk H
  clear H
  go_enter Tryz.func96, Tryz.ntmps96
  go_wp2
  repeat (go_quiet (fail); try go_wp2)
  go_loopg [5] k (fun kq v5 w' => ∃ (x5_1 : Int), v5 = .int .i64 x5_1 ∧ Aside0 (heliastref01_Less.l0 kq a0 a1 x5_1 = some r) ∧ Aside0 (kq ≤ k) ∧ Drawn0 w w')
  case atStart => exact ⟨(0), (by first | rfl | (simp; done) | (simp [*]; done)), H', ⟨Nat.le_refl _⟩, by repeat (first | exact Drawn0.refl _ | apply Drawn0.step)⟩
  case round =>
    clear H'
    try clear p2
    obtain ⟨x5_1, rfl, HA, HK1, ⟨m1, rfl⟩⟩ := hrel
    cases gk with
    | zero => exact absurd HA.out (by simp [heliastref01_Less.l0])
    | succ k1 =>
      have H := HA.out
      clear HA
      simp only [heliastref01_Less.l0] at H
      have HC3 := Aside0.mk H
      clear H
      go_upto_region 2 with (fail)
      repeat (go_quiet (fail); go_upto_region 2 with (fail))
      go_cut [15] (fun v15 wc => ∃ (kq : Nat) (x15_2 : Bool), v15 = .bool x15_2 ∧ Aside0 (heliastref01_Less.j1 kq a0 a1 x5_1 x15_2 = some r) ∧ Aside0 (kq ≤ k1) ∧ Drawn0 w wc)
      case first =>
        have H := HC3.out
        clear HC3
        by_cases c4 : x5_1 < (a0.size : Int)
        · rw [if_pos c4] at H
          have c4b0 : decide (x5_1 < (a0.size : Int)) = true := decide_eq_true c4
          clear c4
          (first | rw [c4b0] | (simp only [i64_w, i32_w]; rw [c4b0]) | skip)
          have H' := Aside0.mk H
          clear H
          go_wp2
          repeat (go_quiet (fail); try go_wp2)
          go_meet
          case rel => exact ⟨_, (decide (x5_1 < (a1.size : Int))), (by first | rfl | (simp; done) | (simp [*]; done)), H', ⟨by have := HK1.out; first | omega | exact Nat.le_refl _⟩, by repeat (first | exact Drawn0.refl _ | apply Drawn0.step)⟩
        · rw [if_neg c4] at H
          have c4b0 : decide (x5_1 < (a0.size : Int)) = false := decide_eq_false c4
          clear c4
          (first | rw [c4b0] | (simp only [i64_w, i32_w]; rw [c4b0]) | skip)
          have H' := Aside0.mk H
          clear H
          go_wp2
          repeat (go_quiet (fail); try go_wp2)
          go_meet
          case rel => exact ⟨_, (false), (by first | rfl | (simp; done) | (simp [*]; done)), H', ⟨by have := HK1.out; first | omega | exact Nat.le_refl _⟩, by repeat (first | exact Drawn0.refl _ | apply Drawn0.step)⟩
      case rest =>
        clear HC3
        try clear p2
        try clear c4
        try clear c4b0
        try clear p2
        obtain ⟨kq, x15_2, rfl, HA, HJ2, ⟨mc2, rfl⟩⟩ := hcut
        cases kq with
        | zero => exact absurd HA.out (by simp [heliastref01_Less.j1])
        | succ kj2 =>
          have H := HA.out
          clear HA
          simp only [heliastref01_Less.j1] at H
          by_cases c5 : x15_2 = true
          · subst c5
            have H1 : (if 0 ≤ x5_1 then (if x5_1 < (a0.size : Int) then (if x5_1 < (a1.size : Int) then (if (bt a0 x5_1) = (bt a1 x5_1) then (heliastref01_Less.l0 kj2 a0 a1 (wrap64 (x5_1 + 1))) else (some (decide ((bt a0 x5_1) < (bt a1 x5_1))))) else (none)) else (none)) else (none)) = some r := by rw [if_pos rfl] at H; exact H
            clear H
            have H := H1
            clear H1
            by_cases c6 : 0 ≤ x5_1
            · rw [if_pos c6] at H
              have c6b0 : decide (0 ≤ x5_1) = true := decide_eq_true c6
              clear c6
              by_cases c7 : x5_1 < (a0.size : Int)
              · rw [if_pos c7] at H
                have c7b0 : decide (x5_1 < (a0.size : Int)) = true := decide_eq_true c7
                clear c7
                by_cases c9 : x5_1 < (a1.size : Int)
                · rw [if_pos c9] at H
                  have c9b0 : decide (x5_1 < (a1.size : Int)) = true := decide_eq_true c9
                  clear c9
                  by_cases c11 : (bt a0 x5_1) = (bt a1 x5_1)
                  · rw [if_pos c11] at H
                    have c11b0 : ((bt a0 x5_1) == (bt a1 x5_1)) = true := beq_iff_eq.mpr c11
                    have c11b1 : ((bt a0 x5_1) != (bt a1 x5_1)) = false := bne_eq_false_iff_eq.mpr c11
                    clear c11
                    have H' := Aside0.mk H
                    clear H
                    have p8 : 0 ≤ (x5_1 : Int) := of_decide_eq_true (by first | (with_reducible assumption) | assumption)
                    have q8 : x5_1 < (a0.size : Int) := of_decide_eq_true (by first | (with_reducible assumption) | assumption)
                    have hx8 := bt_at a0 x5_1
                    replace p8 := eq_true p8
                    replace q8 := eq_true q8
                    have p10 : 0 ≤ (x5_1 : Int) := of_decide_eq_true (by first | (with_reducible assumption) | assumption)
                    have q10 : x5_1 < (a1.size : Int) := of_decide_eq_true (by first | (with_reducible assumption) | assumption)
                    have hx10 := bt_at a1 x5_1
                    replace p10 := eq_true p10
                    replace q10 := eq_true q10
                    go_wp2
                    repeat (go_quiet (fail); try go_wp2)
                    go_roundg kj2
                    case measure => have := HK1.out; have := HJ2.out; omega
                    case rel => exact ⟨(wrap64 (x5_1 + 1)), (by first | rfl | (simp; done) | (simp [*]; done)), H', ⟨by have := HK1.out; have := HJ2.out; omega⟩, by repeat (first | exact Drawn0.refl _ | apply Drawn0.step)⟩
                  · rw [if_neg c11] at H
                    have c11b0 : ((bt a0 x5_1) == (bt a1 x5_1)) = false := beq_eq_false_iff_ne.mpr c11
                    have c11b1 : ((bt a0 x5_1) != (bt a1 x5_1)) = true := bne_iff_ne.mpr c11
                    obtain rfl := Option.some.inj H
                    have p8 : 0 ≤ (x5_1 : Int) := of_decide_eq_true (by first | (with_reducible assumption) | assumption)
                    have q8 : x5_1 < (a0.size : Int) := of_decide_eq_true (by first | (with_reducible assumption) | assumption)
                    have hx8 := bt_at a0 x5_1
                    replace p8 := eq_true p8
                    replace q8 := eq_true q8
                    have p10 : 0 ≤ (x5_1 : Int) := of_decide_eq_true (by first | (with_reducible assumption) | assumption)
                    have q10 : x5_1 < (a1.size : Int) := of_decide_eq_true (by first | (with_reducible assumption) | assumption)
                    have hx10 := bt_at a1 x5_1
                    replace p10 := eq_true p10
                    replace q10 := eq_true q10
                    have p12 : 0 ≤ (x5_1 : Int) := of_decide_eq_true (by first | (with_reducible assumption) | assumption)
                    have q12 : x5_1 < (a0.size : Int) := of_decide_eq_true (by first | (with_reducible assumption) | assumption)
                    have hx12 := bt_at a0 x5_1
                    replace p12 := eq_true p12
                    replace q12 := eq_true q12
                    have p13 : 0 ≤ (x5_1 : Int) := of_decide_eq_true (by first | (with_reducible assumption) | assumption)
                    have q13 : x5_1 < (a1.size : Int) := of_decide_eq_true (by first | (with_reducible assumption) | assumption)
                    have hx13 := bt_at a1 x5_1
                    replace p13 := eq_true p13
                    replace q13 := eq_true q13
                    go_wp2
                    repeat (go_quiet (fail); try go_wp2)
                    go_ret
                    exact ⟨by first | rfl | (simp; done) | (simp [*]; done), by repeat (first | exact Drawn0.refl _ | apply Drawn0.step)⟩
                · rw [if_neg c9] at H
                  exact absurd H (by simp)
              · rw [if_neg c7] at H
                exact absurd H (by simp)
            · rw [if_neg c6] at H
              exact absurd H (by simp)
          · replace c5 := Bool.eq_false_iff.mpr c5
            subst c5
            have H1 : (some (decide ((a0.size : Int) < (a1.size : Int)))) = some r := by rw [if_neg (show ¬ (false = true) by decide)] at H; exact H
            clear H
            have H := H1
            clear H1
            obtain rfl := Option.some.inj H
            go_wp2
            repeat (go_quiet (fail); try go_wp2)
            go_ret
            exact ⟨by first | rfl | (simp; done) | (simp [*]; done), by repeat (first | exact Drawn0.refl _ | apply Drawn0.step)⟩
end Go.Proofs.YtmdjknkhjimgeaaGreat.S
end
section
namespace Go.Proofs.YtmdjknkhjimgeaaGreat.S
open Go.RowKit Go.Proofs.YtmdjknkhjimgeaaGreatW.PrintWords Go.Proofs.YtmdjknkhjimgeaaGreatW.PrintLast Go.Proofs.YtmdjknkhjimgeaaGreatW.PrintMore
attribute [local go_sem] max2_int min2_int max_two min_two max_three min_three max_four min_four
set_option linter.unusedVariables false
set_option linter.unusedSimpArgs false
open Go.Proofs.He
theorem less_ev (a b : ByteArray) (ha : a.size < 9223372036854775807) : ∃ r, Ev (fun k => heliastref01_Less.f k a b) r := by
  have h : ∀ (d : Nat) (i : Nat), a.size - i = d → ∃ r, Ev (fun k => heliastref01_Less.l0 k a b (i : Int)) r := by
    intro d
    induction d with
    | zero =>
      intro i hd
      refine ⟨decide ((a.size : Int) < (b.size : Int)), Ev.step (f := fun k => heliastref01_Less.j1 k a b i false) (fun k => ?_) (Ev.step (f := fun _ => some (decide ((a.size : Int) < (b.size : Int)))) (fun k => ?_) (Ev.now _))⟩
      · show heliastref01_Less.l0 (k + 1) a b i = _
        rw [heliastref01_Less.l0, if_neg (by omega)]
      · show heliastref01_Less.j1 (k + 1) a b i false = _
        rw [heliastref01_Less.j1, if_neg (by decide)]
    | succ d ih =>
      intro i hd
      by_cases hb : i < b.size
      · by_cases e : bt a i = bt b i
        · obtain ⟨r, hr⟩ := ih (i + 1) (by omega)
          refine ⟨r, Ev.step (f := fun k => heliastref01_Less.j1 k a b i true) (fun k => ?_) (Ev.step (fun k => ?_) hr)⟩
          · show heliastref01_Less.l0 (k + 1) a b i = _
            rw [heliastref01_Less.l0, if_pos (by omega), decide_eq_true (by omega : (i : Int) < b.size)]
          · show heliastref01_Less.j1 (k + 1) a b i true = _
            rw [heliastref01_Less.j1, if_pos rfl, if_pos (by omega), if_pos (by omega), if_pos (by omega), if_pos e, show wrap64 ((i : Int) + 1) = ((i + 1 : Nat) : Int) by unfold wrap64; omega]
        · refine ⟨decide (bt a i < bt b i), Ev.step (f := fun k => heliastref01_Less.j1 k a b i true) (fun k => ?_) (Ev.step (f := fun _ => some (decide (bt a i < bt b i))) (fun k => ?_) (Ev.now _))⟩
          · show heliastref01_Less.l0 (k + 1) a b i = _
            rw [heliastref01_Less.l0, if_pos (by omega), decide_eq_true (by omega : (i : Int) < b.size)]
          · show heliastref01_Less.j1 (k + 1) a b i true = _
            rw [heliastref01_Less.j1, if_pos rfl, if_pos (by omega), if_pos (by omega), if_pos (by omega), if_neg e]
      · refine ⟨decide ((a.size : Int) < (b.size : Int)), Ev.step (f := fun k => heliastref01_Less.j1 k a b i false) (fun k => ?_) (Ev.step (f := fun _ => some (decide ((a.size : Int) < (b.size : Int)))) (fun k => ?_) (Ev.now _))⟩
        · show heliastref01_Less.l0 (k + 1) a b i = _
          rw [heliastref01_Less.l0, if_pos (by omega), decide_eq_false (by omega : ¬ (i : Int) < b.size)]
        · show heliastref01_Less.j1 (k + 1) a b i false = _
          rw [heliastref01_Less.j1, if_neg (by decide)]
  obtain ⟨r, hr⟩ := h _ 0 rfl
  exact ⟨r, hr⟩
theorem place_ev (v : SV) (key : ByteArray) (hn : v.f3.length < 1000) : ∃ r : Int, Ev (fun k => heliastref02_place.f k v.f0 v.f1 v.f2 v.f3 v.f4 key) r ∧ (r = -1 ∨ (0 ≤ r ∧ r < v.f3.length ∧ r < v.f4.length ∧ v.f0 = 5)) := by
  have h : ∀ (d : Nat) (i : Nat), v.f3.length - i = d → v.f0 = 5 → ∃ r : Int, Ev (fun k => heliastref02_place.l0 k key (i : Int) v.f0 v.f1 v.f2 v.f3 v.f4) r ∧ (r = -1 ∨ (0 ≤ r ∧ r < v.f3.length ∧ r < v.f4.length ∧ v.f0 = 5)) := by
    intro d
    induction d with
    | zero =>
      intro i hd h5
      refine ⟨-1, Ev.step (f := fun _ => some (-1)) (fun k => ?_) (Ev.now _), .inl rfl⟩
      show heliastref02_place.l0 (k + 1) key i _ _ _ _ _ = _
      rw [heliastref02_place.l0, if_neg (by omega)]
    | succ d ih =>
      intro i hd h5
      by_cases e : (rdOf ByteArray.empty v.f3 i).toList = key.toList
      · by_cases h2 : (i : Int) ≥ (v.f4.length : Int)
        · refine ⟨-1, Ev.step (f := fun _ => some (-1)) (fun k => ?_) (Ev.now _), .inl rfl⟩
          show heliastref02_place.l0 (k + 1) key i _ _ _ _ _ = _
          rw [heliastref02_place.l0, if_pos (by omega), if_pos (by omega), if_pos e, if_pos h2]
        · refine ⟨i, Ev.step (f := fun _ => some (i : Int)) (fun k => ?_) (Ev.now _), .inr ⟨by omega, by omega, by omega, h5⟩⟩
          show heliastref02_place.l0 (k + 1) key i _ _ _ _ _ = _
          rw [heliastref02_place.l0, if_pos (by omega), if_pos (by omega), if_pos e, if_neg h2]
      · obtain ⟨r, hr, hq⟩ := ih (i + 1) (by omega) h5
        refine ⟨r, Ev.step (fun k => ?_) hr, hq⟩
        show heliastref02_place.l0 (k + 1) key i _ _ _ _ _ = _
        rw [heliastref02_place.l0, if_pos (by omega), if_pos (by omega), if_neg e, show wrap64 ((i : Int) + 1) = ((i + 1 : Nat) : Int) by unfold wrap64; omega]
  by_cases h5 : v.f0 = 5
  · obtain ⟨r, hr, hq⟩ := h _ 0 rfl h5
    refine ⟨r, Ev.congr (fun k => ?_) hr, hq⟩
    show heliastref02_place.f k _ _ _ _ _ _ = _
    rw [heliastref02_place.f, if_pos h5]; rfl
  · refine ⟨-1, Ev.congr (f := fun _ => some (-1)) (fun k => ?_) (Ev.now _), .inl rfl⟩
    show heliastref02_place.f k _ _ _ _ _ _ = _
    rw [heliastref02_place.f, if_neg h5]
theorem F_str1 {W : World} {b : Nat} {t : TypeId} {key : ByteArray} (h : W.heap[b]? = some (.cells #[.string key] t (0, 0))) : Kd.F Kd.string W (fun k => k = b) (some ⟨b, 0, none⟩) 1 [key] := fun W' hW => by
  have h' := (hW b rfl (blk_lt h)).trans h
  refine ⟨rfl, by decide, fun _ => ⟨_, rfl, fun j p hj => ?_⟩⟩
  obtain ⟨hjl, rfl⟩ := List.getElem?_eq_some_iff.1 hj
  have hj0 : j = 0 := by simpa using hjl
  subst hj0
  refine ⟨[.string key], rfl, rfl, fun q u hu => ?_⟩
  rw [add_plain, blk_cell h', Nat.zero_mul, Nat.zero_add]
  simpa using hu
theorem F_val1 {W : World} {ok : Nat → Prop} {b : Nat} {t : TypeId} {x : SV} {A3 A4 : Option Addr} {c3 c4 : Nat} (h : W.heap[b]? = some (.cells #[.int .i64 x.f0, .int .i64 x.f1, .string x.f2, .slice A3 x.f3.length c3, .slice A4 x.f4.length c4] t (0, 0))) (hx : VF W ok x A3 c3 A4 c4) : Kd.F kSV W (fun k => ok k ∨ k = b) (some ⟨b, 0, none⟩) 1 [x] := fun W' hW => by
  have h' := (hW b (.inr rfl) (blk_lt h)).trans h
  refine ⟨rfl, by decide, fun _ => ⟨_, rfl, fun j p hj => ?_⟩⟩
  obtain ⟨hjl, rfl⟩ := List.getElem?_eq_some_iff.1 hj
  have hj0 : j = 0 := by simpa using hjl
  subst hj0
  refine ⟨vCells x A3 c3 A4 c4, rfl, hx.fk W' (fun k hk hl => hW k (.inl hk) hl), fun q u hu => ?_⟩
  rw [add_plain, blk_cell h', Nat.zero_mul, Nat.zero_add]
  simpa [vCells] using hu
theorem three_boxes {w W2 : World} {cs1 cs2 cs3 : Array Value} {t : TypeId} (h : ((w.alloc (.cells cs1 t)).alloc (.cells cs2 t)).alloc (.cells cs3 t) = W2) : Below w.heap.size w W2 ∧ W2.heap[w.heap.size]? = some (.cells cs1 t (0, 0)) ∧ W2.heap[w.heap.size + 1]? = some (.cells cs2 t (0, 0)) ∧ W2.heap[w.heap.size + 2]? = some (.cells cs3 t (0, 0)) ∧ W2.heap.size = w.heap.size + 3 := by
  subst h
  obtain ⟨h1, h2, h3⟩ := two_boxes (w := w) (cs1 := cs1) (cs2 := cs2) (t := t) rfl
  have h4 := heap_alloc_new ((w.alloc (.cells cs1 t)).alloc (.cells cs2 t)) (.cells cs3 t)
  rw [World.size_alloc, World.size_alloc] at h4
  exact ⟨h1.alloc (by simp; omega) _, (heap_alloc_old _ _ (by simp; omega)).trans h2, (heap_alloc_old _ _ (by simp)).trans h3, h4, by simp⟩
theorem bx_cells1 {W : World} {b : Nat} {a0 a1 a2 a3 a4 : Value} {t : TypeId} (h : W.heap[b]? = some (.cells #[a0, a1, a2, a3, a4] t (0, 0))) : (∀ o, (W.alloc o).cell? ⟨b, 0, none⟩ = some a0) ∧ (∀ o, (W.alloc o).cell? ⟨b, 1, none⟩ = some a1) ∧ (∀ o, (W.alloc o).cell? ⟨b, 2, none⟩ = some a2) ∧ (∀ o, (W.alloc o).cell? ⟨b, 3, none⟩ = some a3) ∧ (∀ o, (W.alloc o).cell? ⟨b, 4, none⟩ = some a4) :=
  ⟨fun o => blk_cell (blk_alloc h o) 0, fun o => blk_cell (blk_alloc h o) 1, fun o => blk_cell (blk_alloc h o) 2, fun o => blk_cell (blk_alloc h o) 3, fun o => blk_cell (blk_alloc h o) 4⟩
theorem bx_cells2 {W : World} {b : Nat} {a0 a1 a2 a3 a4 : Value} {t : TypeId} (h : W.heap[b]? = some (.cells #[a0, a1, a2, a3, a4] t (0, 0))) : (∀ o o', ((W.alloc o).alloc o').cell? ⟨b, 0, none⟩ = some a0) ∧ (∀ o o', ((W.alloc o).alloc o').cell? ⟨b, 1, none⟩ = some a1) ∧ (∀ o o', ((W.alloc o).alloc o').cell? ⟨b, 2, none⟩ = some a2) ∧ (∀ o o', ((W.alloc o).alloc o').cell? ⟨b, 3, none⟩ = some a3) ∧ (∀ o o', ((W.alloc o).alloc o').cell? ⟨b, 4, none⟩ = some a4) :=
  ⟨fun o o' => blk_cell (blk_alloc (blk_alloc h o) o') 0, fun o o' => blk_cell (blk_alloc (blk_alloc h o) o') 1, fun o o' => blk_cell (blk_alloc (blk_alloc h o) o') 2, fun o o' => blk_cell (blk_alloc (blk_alloc h o) o') 3, fun o o' => blk_cell (blk_alloc (blk_alloc h o) o') 4⟩
theorem bx_free2 {W : World} {b : Nat} {a0 a1 a2 a3 a4 : Value} {t : TypeId} (h : W.heap[b]? = some (.cells #[a0, a1, a2, a3, a4] t (0, 0))) : (∀ o o', ((W.alloc o).alloc o').frozen? ⟨b, 0, none⟩ = false) ∧ (∀ o o', ((W.alloc o).alloc o').frozen? ⟨b, 1, none⟩ = false) ∧ (∀ o o', ((W.alloc o).alloc o').frozen? ⟨b, 2, none⟩ = false) ∧ (∀ o o', ((W.alloc o).alloc o').frozen? ⟨b, 3, none⟩ = false) ∧ (∀ o o', ((W.alloc o).alloc o').frozen? ⟨b, 4, none⟩ = false) :=
  ⟨fun o o' => blk_frozen (blk_alloc (blk_alloc h o) o') 0, fun o o' => blk_frozen (blk_alloc (blk_alloc h o) o') 1, fun o o' => blk_frozen (blk_alloc (blk_alloc h o) o') 2, fun o o' => blk_frozen (blk_alloc (blk_alloc h o) o') 3, fun o o' => blk_frozen (blk_alloc (blk_alloc h o) o') 4⟩
theorem With_end {P : Nat → Prop} {w W5 : World} {okr : Nat → Prop} {b6 : Nat} {v r x : SV} {key : ByteArray} {A3 A4 : Option Addr} {c3 c4 : Nat} (hr : VF W5 okr r A3 c3 A4 c4) (hok : ∀ k, okr k → k ≠ b6 ∧ (P k ∨ w.heap.size ≤ k)) (hb6 : w.heap.size ≤ b6) (hb : Below w.heap.size w W5) (ho : WithOf v key x r.f3 r.f4) :
    ∃ r' : SV, ∃ A3' c3' A4' c4', (.returned (.agg #[.int .i64 r.f0, .int .i64 r.f1, .string r.f2, .slice A3 r.f3.length c3, .slice A4 r.f4.length c4]) : Ending) = .returned (.agg #[.int .i64 r'.f0, .int .i64 r'.f1, .string r'.f2, .slice A3' r'.f3.length c3', .slice A4' r'.f4.length c4']) ∧
      VF (five W5 b6 (.int .i64 r.f0) (.int .i64 r.f1) (.string r.f2) (.slice A3 r.f3.length c3) (.slice A4 r.f4.length c4)) (fun k => P k ∨ w.heap.size ≤ k) r' A3' c3' A4' c4' ∧ WithOf v key x r'.f3 r'.f4 ∧ Below w.heap.size w (five W5 b6 (.int .i64 r.f0) (.int .i64 r.f1) (.string r.f2) (.slice A3 r.f3.length c3) (.slice A4 r.f4.length c4)) :=
  ⟨r, A3, c3, A4, c4, rfl, (hr.step (fun k hk _ => five_far (hok k hk).1)).mono (fun k hk => (hok k hk).2), ho, five_below hb6 hb⟩
theorem with_lit (v : SV) (A3 : Option Addr) (c3 : Nat) (A4 : Option Addr) (c4 : Nat) (key : ByteArray) (x : SV) (B3 : Option Addr) (d3 : Nat) (B4 : Option Addr) (d4 : Nat) (P : Nat → Prop) (w : World) (hv : VF w P v A3 c3 A4 c4) (hx : VF w P x B3 d3 B4 d4)
    (hP : ∀ k, P k → k < w.heap.size) (h3 : v.f3.length < 1000) (h4 : v.f4.length < 1000) (i n : Nat) (hi3 : i + n ≤ v.f3.length) (hi4 : i + n ≤ v.f4.length) (hn : n ≤ 1) (W : World) (hb : Below w.heap.size w W) :
    Calls Tryz.prog 95 #[.agg #[.int .i64 v.f0, .int .i64 v.f1, .string v.f2, .slice A3 v.f3.length c3, .slice A4 v.f4.length c4], .int .i64 (i : Int), .int .i64 (n : Int), .slice (some ⟨W.heap.size, 0, none⟩) 1 1, .slice (some ⟨W.heap.size + 1, 0, none⟩) 1 1]
      ((W.alloc (.cells #[.string key] 9)).alloc (.cells #[.int .i64 x.f0, .int .i64 x.f1, .string x.f2, .slice B3 x.f3.length d3, .slice B4 x.f4.length d4] 48)) fun e w' =>
      ∃ r A3' c3' A4' c4', e = .returned (.agg #[.int .i64 r.f0, .int .i64 r.f1, .string r.f2, .slice A3' r.f3.length c3', .slice A4' r.f4.length c4']) ∧ VF w' (fun k => P k ∨ W.heap.size ≤ k) r A3' c3' A4' c4' ∧ WithOf v key x r.f3 r.f4 ∧ Below W.heap.size W w' := by
  obtain ⟨W3, hW3⟩ : ∃ W3, W3 = (W.alloc (.cells #[.string key] 9)).alloc (.cells #[.int .i64 x.f0, .int .i64 x.f1, .string x.f2, .slice B3 x.f3.length d3, .slice B4 x.f4.length d4] 48) := ⟨_, rfl⟩
  have hb3 : Below W.heap.size W W3 := by rw [hW3]; exact ((Below.refl _ _).alloc (Nat.le_refl _) _).alloc (by simp) _
  have hk3 : W3.heap[W.heap.size]? = some (.cells #[.string key] 9 (0, 0)) := by rw [hW3]; exact blk_alloc (heap_alloc_new _ _) _
  have hv3 : W3.heap[W.heap.size + 1]? = some (.cells #[.int .i64 x.f0, .int .i64 x.f1, .string x.f2, .slice B3 x.f3.length d3, .slice B4 x.f4.length d4] 48 (0, 0)) := by
    have := heap_alloc_new (W.alloc (.cells #[.string key] 9)) (.cells #[.int .i64 x.f0, .int .i64 x.f1, .string x.f2, .slice B3 x.f3.length d3, .slice B4 x.f4.length d4] 48)
    rw [World.size_alloc] at this; rw [hW3]; exact this
  have hbW := below_then hb hb.size hb3
  have hz := hb.size
  have hz3 := blk_lt hv3
  rw [← hW3]
  refine (with_.walk v A3 c3 A4 c4 i n key x _ 1 _ 1 (fun k => P k ∨ k = W.heap.size ∨ k = W.heap.size + 1) W3 ((hv.below hbW).mono (fun k hk => .inl hk)) (Kd.F_mono (F_str1 hk3) (fun k hk => .inr (.inl hk))) (Kd.F_mono (F_val1 hv3 (hx.below hbW)) (fun k hk => hk.elim .inl (fun e => .inr (.inr e)))) (fun k hk => ?_) h3 h4 hi3 hi4 hn (Nat.le_refl _) (Nat.le_refl _)).mono ?_
  · rcases hk with hk | hk | hk
    · have := hP k hk; omega
    · omega
    · omega
  · rintro e w' ⟨r, A3', c3', A4', c4', he, hr, ho, hb'⟩
    refine ⟨r, A3', c3', A4', c4', he, hr.mono (fun k hk => ?_), ho, below_then hb3 hb3.size hb'⟩
    rcases hk with (hk | hk | hk) | hk
    · exact .inl hk
    · exact .inr (by omega)
    · exact .inr (by omega)
    · exact .inr (by omega)
set_option maxHeartbeats 8000000 in
set_option maxRecDepth 100000 in
theorem With.walk (v : SV) (A3 : Option Addr) (c3 : Nat) (A4 : Option Addr) (c4 : Nat) (key : ByteArray) (x : SV) (B3 : Option Addr) (d3 : Nat) (B4 : Option Addr) (d4 : Nat) (P : Nat → Prop) (w : World) (hv : VF w P v A3 c3 A4 c4) (hx : VF w P x B3 d3 B4 d4)
    (hP : ∀ k, P k → k < w.heap.size) (h3 : v.f3.length < 1000) (h4 : v.f4.length < 1000) (hs : ∀ s ∈ v.f3, s.size < 1000) :
    Calls Tryz.prog 60 #[.agg #[.int .i64 v.f0, .int .i64 v.f1, .string v.f2, .slice A3 v.f3.length c3, .slice A4 v.f4.length c4], .string key, .agg #[.int .i64 x.f0, .int .i64 x.f1, .string x.f2, .slice B3 x.f3.length d3, .slice B4 x.f4.length d4]] w fun e w' =>
      ∃ r A3' c3' A4' c4', e = .returned (.agg #[.int .i64 r.f0, .int .i64 r.f1, .string r.f2, .slice A3' r.f3.length c3', .slice A4' r.f4.length c4']) ∧ VF w' (fun k => P k ∨ w.heap.size ≤ k) r A3' c3' A4' c4' ∧ WithOf v key x r.f3 r.f4 ∧ Below w.heap.size w w' := by
  have hu32 := Tryz.underlying48
  have HV := Aside0.mk hv
  have HX := Aside0.mk hx
  have HP := Aside0.mk hP
  have HS := Aside0.mk hs
  obtain ⟨p, hp, hq⟩ := place_ev v key h3
  obtain ⟨kp, hkp⟩ := hp.rounds
  have HPL := Aside0.mk (fun W (hb : Below w.heap.size w W) => heliastref02_place.calls kp v.f0 v.f1 v.f2 A3 c3 v.f3 A4 c4 v.f4 key p W (Kd.F_now (hv.below hb).g3) hv.l3 (Kd.F_now (hv.below hb).g4) hv.l4 hkp)
  have HQ := Aside0.mk hq
  have hl3 := hv.l3
  have hl4 := hv.l4
  have HWL := Aside0.mk (fun (i n : Nat) (hi3 : i + n ≤ v.f3.length) (hi4 : i + n ≤ v.f4.length) (hn : n ≤ 1) W hb => with_lit v A3 c3 A4 c4 key x B3 d3 B4 d4 P w hv hx hP h3 h4 i n hi3 hi4 hn W hb)
  clear hv hx hP hs hp hkp hq
  by_cases h5 : v.f0 = 5
  · have h5b : (v.f0 == 5) = true := beq_iff_eq.2 h5
    have h5c : (v.f0 != 5) = false := by rw [bne_eq_false_iff_eq]; exact h5
    clear h5
    go_enter Tryz.func60, Tryz.ntmps60
    go_upto_region 1 with fail
    generalize hwa : ((w.alloc _).alloc _).alloc _ = W2
    obtain ⟨hb2, hb3, hb5, hb6, hsz⟩ := three_boxes hwa
    clear hwa
    obtain ⟨e0, e1, e2, e3, e4⟩ := bx_cells hb3
    have HB3 := Aside0.mk hb3
    have HB5 := Aside0.mk hb5
    have HB6 := Aside0.mk hb6
    have HB2 := Aside0.mk hb2
    have HSZ := Aside0.mk hsz
    clear hb2 hb3 hb5 hb6 hsz
    go_wp2_with fail
    refine (HPL.out W2 HB2.out).mono ?_
    rintro e W3 ⟨rfl, hb3⟩
    have HB3' := Aside0.mk ((hb3.block _ (blk_lt HB3.out)).trans HB3.out)
    have HB5' := Aside0.mk ((hb3.block _ (blk_lt HB5.out)).trans HB5.out)
    have HB6' := Aside0.mk ((hb3.block _ (blk_lt HB6.out)).trans HB6.out)
    have HBW := Aside0.mk (below_then HB2.out HB2.out.size hb3)
    have HSZ' : Aside0 (w.heap.size + 3 ≤ W3.heap.size) := ⟨by have := hb3.size; have := HSZ.out; omega⟩
    clear hb3 e0 e1 e2 e3 e4 HB2 HB3 HB5 HB6 HSZ HPL
    obtain ⟨e0, e1, e2, e3, e4⟩ := bx_cells HB3'.out
    obtain ⟨x0, x1, x2, x3, x4⟩ := bx_cells1 HB5'.out
    by_cases hp0 : 0 ≤ p
    · obtain ⟨i, rfl⟩ : ∃ i : Nat, p = i := ⟨p.toNat, by omega⟩
      have hq2 : i + 1 ≤ v.f3.length ∧ i + 1 ≤ v.f4.length := by have := HQ.out; omega
      have HC := Aside0.mk (HWL.out i 1 hq2.1 hq2.2 (Nat.le_refl _) W3 HBW.out)
      clear hq2 HQ
      go_wp2_with fail
      refine HC.out.mono ?_
      rintro e W5 ⟨r, A3', c3', A4', c4', rfl, hr, ho, hb5⟩
      have hb6 := (hb5.block _ (blk_lt HB6'.out)).trans HB6'.out
      have HB65 := Aside0.mk hb6
      obtain ⟨z0, z1, z2, z3, z4⟩ := bx_cells hb6
      obtain ⟨f0, f1, f2, f3, f4⟩ := bx_free hb6
      have HR := Aside0.mk hr
      have HO := Aside0.mk ho
      have HB5W := Aside0.mk (below_then HBW.out HBW.out.size hb5)
      clear hr ho hb5 hb6
      go_wp2
      refine bodyPost_ret (results_cell_row rfl _ _ (w.heap.size + 2) 48 _ (0, 0) _ rfl (five_put HB65.out) Tryz.underlying48 rfl (by kernel_rfl)) rfl ?_
      exact With_end HR.out (fun k hk => by
        have hs2 := HSZ'.out
        rcases hk with hk | hk
        · exact ⟨by have := HP.out k hk; omega, .inl hk⟩
        · exact ⟨by omega, .inr (by omega)⟩) (by omega) HB5W.out HO.out
    · obtain ⟨m, hm⟩ : ∃ m, m = min v.f3.length v.f4.length := ⟨_, rfl⟩
      have hif : (if v.f4.length < v.f3.length then (v.f4.length : Int) else (v.f3.length : Int)) = (m : Int) := by split <;> omega
      have hm3 : m ≤ v.f3.length := by omega
      have hm4 : m ≤ v.f4.length := by omega
      have hm1 : m < 1000 := by omega
      clear hm
      go_upto_block 0 with fail
      clear x0 x1 x2 x3 x4 hif
      go_cut [8] (fun s8 wx => ∃ j : Nat, j ≤ m ∧ s8 = .int .i64 (j : Int) ∧ Aside0 (Below W3.heap.size W3 wx))
      case first =>
        go_wp2_with fail
        go_loopg [8] m (fun gg v8 wr => ∃ j : Nat, j ≤ m ∧ m - j ≤ gg ∧ v8 = .int .i64 (j : Int) ∧ Aside0 (Below W3.heap.size W3 wr))
        case atStart => exact ⟨0, Nat.zero_le _, by omega, rfl, ⟨Below.refl _ _⟩⟩
        case round =>
          obtain ⟨j, hj, hg, rfl, HBJ⟩ := hrel
          by_cases hlt : j < m
          · have hltz : (j : Int) < (m : Int) := by omega
            have hj3 : j < v.f3.length := by omega
            have hj3z : (j : Int) < (v.f3.length : Int) := by omega
            have hbj := below_then HBW.out HBW.out.size HBJ.out
            obtain ⟨e0', e1', e2', e3', e4'⟩ := bx_cells ((HBJ.out.block _ (blk_lt HB3'.out)).trans HB3'.out)
            obtain ⟨ad, e, hcx⟩ := C_str (Kd.F_now (HV.out.below hbj).g3) hj3
            cases e
            obtain ⟨sx, hsx⟩ : ∃ sx, sx = v.f3[j] := ⟨_, rfl⟩
            have hsz := HS.out sx (by rw [hsx]; exact List.getElem_mem hj3)
            rw [← hsx] at hcx
            obtain ⟨b, hb⟩ := less_ev sx key (Nat.lt_trans hsz (by decide))
            obtain ⟨kl, hkl⟩ := hb.rounds
            have HLS := Aside0.mk (fun W => heliastref01_Less.calls kl sx key b W hkl)
            clear hsx hsz hb hkl hbj e0 e1 e2 e3 e4
            cases b with
            | true =>
              go_wp2_with fail
              refine (HLS.out _).mono ?_
              rintro e w4 ⟨rfl, ⟨nd, rfl⟩⟩
              go_wp2
              go_roundg (m - (j + 1))
              case measure => omega
              case rel => exact ⟨j + 1, by omega, by omega, by go_num, ⟨pw_below_drewN HBJ.out _⟩⟩
            | false =>
              go_wp2_with fail
              refine (HLS.out _).mono ?_
              rintro e w4 ⟨rfl, ⟨nd, rfl⟩⟩
              go_wp2
              go_meet
              exact ⟨j, hj, rfl, ⟨pw_below_drewN HBJ.out _⟩⟩
          · have hltz : ¬ (j : Int) < (m : Int) := by omega
            go_wp2_with fail
            go_meet
            exact ⟨j, hj, rfl, HBJ⟩
      case rest =>
        obtain ⟨j, hj, rfl, HBJ⟩ := hcut
        have HC := Aside0.mk (HWL.out j 0 (by omega) (by omega) (by omega) wc (below_then HBW.out HBW.out.size HBJ.out))
        clear e0 e1 e2 e3 e4
        obtain ⟨e0, e1, e2, e3, e4⟩ := bx_cells ((HBJ.out.block _ (blk_lt HB3'.out)).trans HB3'.out)
        obtain ⟨x0, x1, x2, x3, x4⟩ := bx_cells1 ((HBJ.out.block _ (blk_lt HB5'.out)).trans HB5'.out)
        have HB6c := Aside0.mk ((HBJ.out.block _ (blk_lt HB6'.out)).trans HB6'.out)
        have HBc := Aside0.mk (below_then HBW.out HBW.out.size HBJ.out)
        have HSc : Aside0 (w.heap.size + 3 ≤ wc.heap.size) := ⟨Nat.le_trans HSZ'.out HBJ.out.size⟩
        go_wp2_with fail
        refine HC.out.mono ?_
        rintro e W5 ⟨r, A3', c3', A4', c4', rfl, hr, ho, hb5⟩
        have hb6 := (hb5.block _ (blk_lt HB6c.out)).trans HB6c.out
        have HB65 := Aside0.mk hb6
        obtain ⟨z0, z1, z2, z3, z4⟩ := bx_cells hb6
        obtain ⟨f0, f1, f2, f3, f4⟩ := bx_free hb6
        have HR := Aside0.mk hr
        have HO := Aside0.mk ho
        have HB5W := Aside0.mk (below_then HBc.out HBc.out.size hb5)
        clear hr ho hb5 hb6
        go_wp2
        refine bodyPost_ret (results_cell_row rfl _ _ (w.heap.size + 2) 48 _ (0, 0) _ rfl (five_put HB65.out) Tryz.underlying48 rfl (by kernel_rfl)) rfl ?_
        exact With_end HR.out (fun k hk => by
          have hs2 := HSc.out
          rcases hk with hk | hk
          · exact ⟨by have := HP.out k hk; omega, .inl hk⟩
          · exact ⟨by omega, .inr (by omega)⟩) (by omega) HB5W.out HO.out
  · have h5b : (v.f0 == 5) = false := beq_eq_false_iff_ne.2 h5
    have h5c : (v.f0 != 5) = true := bne_iff_ne.2 h5
    go_enter Tryz.func60, Tryz.ntmps60
    go_upto_region 1 with fail
    generalize hwa : ((w.alloc _).alloc _).alloc _ = W2
    obtain ⟨hb2, hb3, hb5, hb6, hsz⟩ := three_boxes hwa
    clear hwa
    have HB6 := Aside0.mk hb6
    obtain ⟨e0, e1, e2, e3, e4⟩ := bx_cells hb3
    obtain ⟨x0, x1, x2, x3, x4⟩ := bx_cells1 hb5
    obtain ⟨z0, z1, z2, z3, z4⟩ := bx_cells2 hb6
    obtain ⟨f0, f1, f2, f3, f4⟩ := bx_free2 hb6
    obtain ⟨W3, hW3⟩ : ∃ W3, W3 = (W2.alloc (.cells #[.string key] 9)).alloc (.cells #[.int .i64 x.f0, .int .i64 x.f1, .string x.f2, .slice B3 x.f3.length d3, .slice B4 x.f4.length d4] 48) := ⟨_, rfl⟩
    have hb23 : Below W2.heap.size W2 W3 := by rw [hW3]; exact ((Below.refl _ _).alloc (Nat.le_refl _) _).alloc (by simp) _
    have hk3 : W3.heap[W2.heap.size]? = some (.cells #[.string key] 9 (0, 0)) := by rw [hW3]; exact blk_alloc (heap_alloc_new _ _) _
    have hv3 : W3.heap[W2.heap.size + 1]? = some (.cells #[.int .i64 x.f0, .int .i64 x.f1, .string x.f2, .slice B3 x.f3.length d3, .slice B4 x.f4.length d4] 48 (0, 0)) := by
      have := heap_alloc_new (W2.alloc (.cells #[.string key] 9)) (.cells #[.int .i64 x.f0, .int .i64 x.f1, .string x.f2, .slice B3 x.f3.length d3, .slice B4 x.f4.length d4] 48)
      rw [World.size_alloc] at this; rw [hW3]; exact this
    have hbW := below_then hb2 hb2.size hb23
    have HR : Aside0 (VF W3 (fun k => P k ∨ k = W2.heap.size ∨ k = W2.heap.size + 1) (⟨5, 0, ⟨#[]⟩, [key], [x]⟩ : SV) (some ⟨W2.heap.size, 0, none⟩) 1 (some ⟨W2.heap.size + 1, 0, none⟩) 1) :=
      ⟨⟨Nat.le_refl _, Kd.F_mono (F_str1 hk3) (fun k hk => .inr (.inl hk)), Nat.le_refl _, Kd.F_mono (F_val1 hv3 (HX.out.below hbW)) (fun k hk => hk.elim .inl (fun e => .inr (.inr e)))⟩⟩
    have HSZ := Aside0.mk hsz
    have HBW := Aside0.mk hbW
    rw [hW3] at HR HBW
    clear hb2 hb3 hb5 hb6 hsz hW3 hb23 hk3 hv3 hbW
    go_wp2
    refine bodyPost_ret (results_cell_row rfl _ _ (w.heap.size + 2) 48 _ (0, 0) _ rfl (five_put (blk_alloc (blk_alloc HB6.out _) _)) Tryz.underlying48 rfl (by kernel_rfl)) rfl ?_
    exact With_end HR.out (fun k hk => by
      have hs2 := HSZ.out
      rcases hk with hk | hk | hk
      · exact ⟨by have := HP.out k hk; omega, .inl hk⟩
      · exact ⟨by omega, .inr (by omega)⟩
      · exact ⟨by omega, .inr (by omega)⟩) (by omega) HBW.out ⟨by simp, by simp, (fun s hs => .inr (List.mem_singleton.1 hs)), fun y hy => .inr (List.mem_singleton.1 hy)⟩
def heliastref02_Num.f (a0 : Int) : Option (Int × Int × ByteArray × List ByteArray × (List (S48))) := some (2, a0, (⟨#[]⟩ : ByteArray), ([] : List ByteArray), ([] : List (S48)))
set_option maxHeartbeats 8000000 in
set_option maxRecDepth 100000 in
theorem heliastref02_Num.calls (a0 : Int) (r1 : Int) (r2 : Int) (r3 : ByteArray) (r4 : List ByteArray) (r5 : List (S48)) (w : World) (h : heliastref02_Num.f a0 = some (r1, r2, r3, r4, r5)) :
    Calls Tryz.prog 59 #[.int .i64 a0] w fun e w' => ∃ v3_ v4_ : Value, e = .returned (.agg #[.int .i64 r1, .int .i64 r2, .string r3, v3_, v4_]) ∧ Kd.R Kd.string 9 w' w.heap.size (fun _ => True) v3_ r4 ∧ Kd.R k48 48 w' w.heap.size (fun k_ => some k_ ≠ (v3_ : Value).ownBlock) v4_ r5 ∧ Below w.heap.size w w' := by
  have hu48 := Tryz.underlying48
  have HB := Aside0.mk (Below.refl w.heap.size w)
  have H : (some (2, a0, (⟨#[]⟩ : ByteArray), ([] : List ByteArray), ([] : List (S48)))) = some (r1, r2, r3, r4, r5) := h
  clear h
  simp only [Option.some.injEq, Prod.mk.injEq] at H
  obtain ⟨rfl, rfl, rfl, rfl, rfl⟩ := H
  go_enter Tryz.func59, Tryz.ntmps59
  go_wp2_with (first | ((with_reducible refine gate_dst (N := 2) rfl ?_); refine box_event ?hg (N := 2) ?hd (cs := #[.int .i64 0, .int .i64 0, .string (⟨#[]⟩ : ByteArray), .slice none 0 0, .slice none 0 0]) (t := 48) ?hr ?_; (case hd => rfl); (case hg => rfl); (case hr => first | (go_simp; done) | (go_simp; rfl)); intro gb156 hg w2 hbox hb; have n0_ := Aside0.mk (below_step (by repeat (first | (with_reducible first | exact HB.out | apply below_alloc | apply pw_below_drewN | apply below_drew1) | exact HB.out)) hb); have n1_ := Aside0.mk (hbox); have n2_ := Aside0.mk ((by rw [hg]; exact (below_size (by repeat (first | (with_reducible first | exact HB.out | apply below_alloc | apply pw_below_drewN | apply below_drew1) | exact HB.out))) : w.heap.size ≤ gb156)); have n3_ := Aside0.mk ((by rw [hg]; exact (below_size (by repeat (first | (with_reducible first | exact HB.out | apply below_alloc | apply pw_below_drewN | apply below_drew1) | exact HB.out))) : w.heap.size ≤ gb156)); clear HB; have HB := n0_; have BK156 := n1_; have GW156 := n2_; have GE156 := n3_; clear n0_ n1_ n2_ n3_; clear hb hbox hg; have hcz3_0 : w2.cell? ⟨gb156, 0, none⟩ = some (.int .i64 0) := (blk_cell BK156.out 0).trans rfl; have hcz3_1 : w2.cell? ⟨gb156, 1, none⟩ = some (.int .i64 0) := (blk_cell BK156.out 1).trans rfl; have hcz3_2 : w2.cell? ⟨gb156, 2, none⟩ = some (.string (⟨#[]⟩ : ByteArray)) := (blk_cell BK156.out 2).trans rfl; have hcz3_3 : w2.cell? ⟨gb156, 3, none⟩ = some (.slice none 0 0) := (blk_cell BK156.out 3).trans rfl; have hcz3_4 : w2.cell? ⟨gb156, 4, none⟩ = some (.slice none 0 0) := (blk_cell BK156.out 4).trans rfl; have hfz3_0 := blk_frozen BK156.out 0; have hfz3_1 := blk_frozen BK156.out 1; have hfz3_2 := blk_frozen BK156.out 2; have hfz3_3 := blk_frozen BK156.out 3; have hfz3_4 := blk_frozen BK156.out 4))
  refine bodyPost_ret (results_cell_row rfl _ _ gb156 48 #[.int .i64 2, .int .i64 a0, .string (⟨#[]⟩ : ByteArray), .slice none 0 0, .slice none 0 0] (0, 0) _ rfl (by (with_reducible repeat (first | refine blk_drewN ?_ _ | refine blk_drew ?_ | refine blk_alloc ?_ _)); refine blk_put (cs := #[.int .i64 2, .int .i64 a0, .string (⟨#[]⟩ : ByteArray), .slice none 0 0, .slice none 0 0]) ?_ 4 _ rfl; (with_reducible repeat (first | refine blk_drewN ?_ _ | refine blk_drew ?_ | refine blk_alloc ?_ _)); refine blk_put (cs := #[.int .i64 2, .int .i64 a0, .string (⟨#[]⟩ : ByteArray), .slice none 0 0, .slice none 0 0]) ?_ 3 _ rfl; (with_reducible repeat (first | refine blk_drewN ?_ _ | refine blk_drew ?_ | refine blk_alloc ?_ _)); refine blk_put (cs := #[.int .i64 2, .int .i64 a0, .string (⟨#[]⟩ : ByteArray), .slice none 0 0, .slice none 0 0]) ?_ 2 _ rfl; (with_reducible repeat (first | refine blk_drewN ?_ _ | refine blk_drew ?_ | refine blk_alloc ?_ _)); refine blk_put (cs := #[.int .i64 2, .int .i64 0, .string (⟨#[]⟩ : ByteArray), .slice none 0 0, .slice none 0 0]) ?_ 1 _ rfl; (with_reducible repeat (first | refine blk_drewN ?_ _ | refine blk_drew ?_ | refine blk_alloc ?_ _)); refine blk_put (cs := #[.int .i64 0, .int .i64 0, .string (⟨#[]⟩ : ByteArray), .slice none 0 0, .slice none 0 0]) ?_ 0 _ rfl; (with_reducible repeat (first | refine blk_drewN ?_ _ | refine blk_drew ?_ | refine blk_alloc ?_ _)); exact BK156.out) Tryz.underlying48 rfl (by kernel_rfl)) rfl ?_
  exact ⟨_, _, by first | rfl | (simp [errW_none, errW_some] <;> rfl) | (simp [*, errW_none, errW_some] <;> rfl), by first | exact Kd.R_nil _ _ _ _ _ | exact Kd.N_nil _ _ _ _ _ | exact Kd.V_nil _ _ _ _ _ | exact Kd.Q_nil _ _ _ _ _ | exact Kd.S_nil _ _ _ _ _, by first | exact Kd.R_nil _ _ _ _ _ | exact Kd.N_nil _ _ _ _ _ | exact Kd.V_nil _ _ _ _ _ | exact Kd.Q_nil _ _ _ _ _ | exact Kd.S_nil _ _ _ _ _, by repeat (first | (with_reducible first | exact HB.out | apply below_alloc | apply pw_below_drewN | apply below_drew1 | refine below_set ?_ GE156.out) | exact HB.out)⟩
def heliastlaw14_User.f (a0 : Int) : Option (ByteArray) := (some (([(⟨#[64, 97, 58, 115]⟩ : ByteArray), (⟨#[64, 98, 58, 115]⟩ : ByteArray), (⟨#[64, 99, 58, 116]⟩ : ByteArray), (⟨#[64, 100, 58, 116]⟩ : ByteArray)] : List ByteArray) : List ByteArray)).bind fun y157 => (if 0 ≤ (Int.tmod a0 4) then (if (Int.tmod a0 4) < (y157.length : Int) then (some (rdOf ByteArray.empty y157 (Int.tmod a0 4))) else (none)) else (none))
set_option maxHeartbeats 8000000 in
set_option maxRecDepth 100000 in
theorem heliastlaw14_User.calls (a0 : Int) (r : ByteArray) (w : World) (h : heliastlaw14_User.f a0 = some r) :
    Calls Tryz.prog 62 #[.int .u8 a0] w fun e w' => e = .returned (.string r) ∧ Below w.heap.size w w' := by
  have HB := Aside0.mk (Below.refl w.heap.size w)
  have H : ((some (([(⟨#[64, 97, 58, 115]⟩ : ByteArray), (⟨#[64, 98, 58, 115]⟩ : ByteArray), (⟨#[64, 99, 58, 116]⟩ : ByteArray), (⟨#[64, 100, 58, 116]⟩ : ByteArray)] : List ByteArray) : List ByteArray)).bind fun y157 => (if 0 ≤ (Int.tmod a0 4) then (if (Int.tmod a0 4) < (y157.length : Int) then (some (rdOf ByteArray.empty y157 (Int.tmod a0 4))) else (none)) else (none))) = some r := h
  clear h
  obtain ⟨y157, hy157⟩ : ∃ y_ : List ByteArray, y_ = (([(⟨#[64, 97, 58, 115]⟩ : ByteArray), (⟨#[64, 98, 58, 115]⟩ : ByteArray), (⟨#[64, 99, 58, 116]⟩ : ByteArray), (⟨#[64, 100, 58, 116]⟩ : ByteArray)] : List ByteArray)) := ⟨_, rfl⟩
  replace H : (if 0 ≤ (Int.tmod a0 4) then (if (Int.tmod a0 4) < (y157.length : Int) then (some (rdOf ByteArray.empty y157 (Int.tmod a0 4))) else (none)) else (none)) = some r := by first | (rw [hy157]; with_reducible exact H) | (have H2_ := (Option.bind_some _ _).symm.trans H; rw [hy157]; with_reducible exact H2_) | (have H2_ := (Option.bind_some _ _).symm.trans H; with_reducible exact H2_) | with_reducible exact H | (rw [hy157]; exact H) | exact H
  have Ny157 := Aside0.mk hy157
  clear hy157
  obtain ⟨ji2, hji2⟩ : ∃ j_ : Int, (Int.tmod a0 4) = j_ := ⟨_, rfl⟩
  replace H : (if 0 ≤ (ji2) then (if (ji2) < (y157.length : Int) then (some (rdOf ByteArray.empty y157 (ji2))) else (none)) else (none)) = some r := by first | (rw [hji2] at H; exact H) | (simp only [hji2] at H ⊢; exact H)
  by_cases c3 : 0 ≤ (ji2)
  · rw [if_pos c3] at H
    have c3b0 : decide (0 ≤ (ji2)) = true := decide_eq_true c3
    clear c3
    by_cases c4 : (ji2) < (y157.length : Int)
    · rw [if_pos c4] at H
      have c4b0 : decide ((ji2) < (y157.length : Int)) = true := decide_eq_true c4
      clear c4
      obtain rfl := Option.some.inj H
      go_enter Tryz.func62, Tryz.ntmps62
      go_wp2_with (first | ((with_reducible refine gate_dst (N := 3) rfl ?_); refine Kd.R_lit Kd.string _ 9 ?hg (N := 3) ?hd (xs := ([(⟨#[64, 97, 58, 115]⟩ : ByteArray), (⟨#[64, 98, 58, 115]⟩ : ByteArray), (⟨#[64, 99, 58, 116]⟩ : ByteArray), (⟨#[64, 100, 58, 116]⟩ : ByteArray)] : List ByteArray)) (inner := [.string (⟨#[64, 97, 58, 115]⟩ : ByteArray), .string (⟨#[64, 98, 58, 115]⟩ : ByteArray), .string (⟨#[64, 99, 58, 116]⟩ : ByteArray), .string (⟨#[64, 100, 58, 116]⟩ : ByteArray)]) (ok := fun _ => True) (okp := fun _ => True) ?hr ?hp (fun _ hk => hk) trivial (Below.refl _ _) (Nat.le_refl _) (by simp) ?_; (case hd => rfl); (case hg => rfl); (case hr => first | (go_simp; done) | (go_simp; rfl)); (case hp => exact (Reps.one (show Kd.M Kd.string _ _ _ (⟨#[64, 97, 58, 115]⟩ : ByteArray) [.string (⟨#[64, 97, 58, 115]⟩ : ByteArray)] from rfl) (Reps.one (show Kd.M Kd.string _ _ _ (⟨#[64, 98, 58, 115]⟩ : ByteArray) [.string (⟨#[64, 98, 58, 115]⟩ : ByteArray)] from rfl) (Reps.one (show Kd.M Kd.string _ _ _ (⟨#[64, 99, 58, 116]⟩ : ByteArray) [.string (⟨#[64, 99, 58, 116]⟩ : ByteArray)] from rfl) (Reps.one (show Kd.M Kd.string _ _ _ (⟨#[64, 100, 58, 116]⟩ : ByteArray) [.string (⟨#[64, 100, 58, 116]⟩ : ByteArray)] from rfl) (Reps.none _ _)))))); intro v158 w5 ho6 hb hg_ hnew_; clear hg_ hnew_; (first | rw [← Ny157.out] at ho6 | (simp only [Int.reduceToNat] at ho6; rw [← Ny157.out] at ho6)); have n0_ := Aside0.mk (Kd.R_lower ho6 (below_size (by repeat (first | (with_reducible first | exact HB.out | apply below_alloc | apply pw_below_drewN | apply below_drew1) | exact HB.out)))); have n1_ := Aside0.mk (below_step (by repeat (first | (with_reducible first | exact HB.out | apply below_alloc | apply pw_below_drewN | apply below_drew1) | exact HB.out)) hb); clear HB; have HO159 := n0_; have HB := n1_; clear n0_ n1_; clear hb ho6; obtain ⟨Ao7, co7, eo7⟩ := Kd.R_slice HO159.out; subst eo7; have p160 : 0 ≤ ((ji2) : Int) := of_decide_eq_true (by first | (with_reducible assumption) | assumption); have q160 : (ji2) < (y157.length : Int) := of_decide_eq_true (by first | (with_reducible assumption) | assumption); obtain ⟨ad160, e160, hx160_0⟩ := Kd.at_string (Kd.R_reads' HO159.out).2.2 (ji2) p160 q160; cases e160; replace p160 := eq_true p160; replace q160 := eq_true q160))
      go_ret
      exact ⟨by first | rfl | (simp [errW_none, errW_some] <;> rfl) | (simp only [← hji2]; first | rfl | (simp [errW_none, errW_some] <;> rfl)) | (simp [*, errW_none, errW_some] <;> rfl), by repeat (first | (with_reducible first | exact HB.out | apply below_alloc | apply pw_below_drewN | apply below_drew1) | exact HB.out)⟩
    · rw [if_neg c4] at H
      exact absurd H (by simp)
  · rw [if_neg c3] at H
    exact absurd H (by simp)
end Go.Proofs.YtmdjknkhjimgeaaGreat.S
end

/- Words of this session's own: rows of ints of the call's own through the shelf's compact. -/
import Derived.Test.YtmdjknkhjimgeaaHeS
import Derived.Lib.RowBridge
import Derived.Lib.SlicesCompact
set_option linter.unusedVariables false
namespace Go.Proofs.He
open Go Go.RowKit Go.Proofs.YtmdjknkhjimgeaaW.PrintWords
theorem compact_row {P : Program} {f : Nat} (hnone : ∀ (a : Option Addr) (cap : Nat) (w : World), Calls P f #[.slice a 0 cap] w fun e w' => e = .returned (.slice a 0 cap) ∧ w' = w)
    (hsome : ∀ (blk off cap : Nat) (zs : List Int) (w : World), Sort.Holds (Value.int .i64) w blk off zs.toArray → zs.length ≤ 9223372036854775807 → zs.length ≤ cap → Calls P f #[.slice (some ⟨blk, off, none⟩) zs.length cap] w fun e w' => e = .returned (.slice (some ⟨blk, off, none⟩) (Lib.compact zs).length cap) ∧ ∃ q, w' = Sort.putRow (Value.int .i64) (Sort.ahead w q) blk off (Lib.compact zs ++ List.replicate (zs.length - (Lib.compact zs).length) 0).toArray)
    {e base : Nat} {ok : Nat → Prop} {v : Value} {xs : List Int} {w : World} (h : (Kd.int .i64).R e w base ok v xs) :
    Calls P f #[v] w fun e' w' => ∃ v', e' = .returned v' ∧ (Kd.int .i64).R e w' base ok v' (Lib.compact xs) ∧ w.grownBy w' v.ownBlock := by
  obtain ⟨ho, hok⟩ := scalar_own h
  have ho' := ho
  rcases ho.2 with ⟨rfl, h0⟩ | ⟨g, cap, cur, rfl, _⟩
  · have hx : xs = [] := List.eq_nil_of_length_eq_zero h0
    subst hx
    refine (hnone none 0 w).mono ?_
    rintro e' w' ⟨rfl, rfl⟩
    exact ⟨_, rfl, h, World.grownBy.refl _ _⟩
  · obtain ⟨a1, a2, a3, a4⟩ := holds_of_row ho'
    have hm : xs.length ≤ 9223372036854775807 := (Kd.R_reads' h).2.2.2.1
    refine (hsome g 0 cap xs w a1 hm a4).mono ?_
    rintro e' w' ⟨rfl, q, rfl⟩
    have hl := Lib.compact_length_le xs
    have hd : (Lib.compact xs ++ List.replicate (xs.length - (Lib.compact xs).length) 0).length = xs.length := by rw [List.length_append, List.length_replicate]; omega
    have hr := row_of_put (enc := Value.int .i64) ho' q #[] _ hd
    have hg := grown_put (g := g) (w := w) (enc := Value.int .i64) q #[] (Lib.compact xs ++ List.replicate (xs.length - (Lib.compact xs).length) 0)
    rw [Sort.grow_empty] at hr hg
    have ht := own_take hr hl
    refine ⟨_, rfl, scalar_put ?_ (fun k hk => hok k (by simpa [Value.ownBlock] using hk)), hg⟩
    rw [Nat.mul_one, ← List.map_take, List.take_left] at ht
    exact ht
end Go.Proofs.He

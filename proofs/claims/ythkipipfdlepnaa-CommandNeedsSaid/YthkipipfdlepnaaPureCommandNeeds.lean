/- Proved: what a kind of command does not need may not be told, what it needs must be. Condition: none beyond the guard of the statement (texts of more than 500 bytes are let go). -/
import Derived.Test.YthkipipfdlepnaaPAllx5
import Derived.Test.YthkipipfdlepnaaCmdCore
import Derived.Test.YthkipipfdlepnaaCmdKind
namespace Go.Proofs.Ythkipipfdlepnaa.Pure
open Go.RowKit Go.Proofs.Ythkipipfdlepnaa.PAll Go.Proofs.YthkipipfdlepnaaW.PrintWords Go.Proofs.YthkipipfdlepnaaW.PrintLast Go.Proofs.YthkipipfdlepnaaW.PrintMore
theorem may_no_user {q d h n : Int} {t : ByteArray} (hd : nu d = true) : mayB 0 q d h n t = false := by
  rw [Bool.eq_false_iff]; intro hm
  have := (may_iff.1 hm).2.1
  rw [hd, fitB_true] at this; omega
theorem may_no_channel {u q d n : Int} {t : ByteArray} (hd : nu d = true) : mayB u q d 0 n t = false := by
  rw [Bool.eq_false_iff]; intro hm
  have := (may_iff.1 hm).2.2.2.1
  rw [hd, fitB_true] at this; omega
theorem may_no_n {u q d h n n' : Int} {t : ByteArray} (hm : mayB u q d h n t = true) (hn : n = 0 ∧ n' = 1 ∨ ¬ n = 0 ∧ n' = 0) : mayB u q d h n' t = false := by
  rw [Bool.eq_false_iff]; intro hm'
  have h1 := (may_iff.1 hm).2.2.2.2.1
  have h2 := (may_iff.1 hm').2.2.2.2.1
  cases c : nn d <;> rw [c] at h1 h2
  · rw [fitB_false] at h1 h2; omega
  · rw [fitB_true] at h1 h2; omega
theorem may_no_text {u q d h n : Int} {t t' : ByteArray} (hm : mayB u q d h n t = true) (hn : t.size = 0 ∧ t'.size = 1 ∨ ¬ t.size = 0 ∧ t'.size = 0) : mayB u q d h n t' = false := by
  rw [Bool.eq_false_iff]; intro hm'
  have h1 := (may_iff.1 hm).2.2.2.2.2
  have h2 := (may_iff.1 hm').2.2.2.2.2
  cases c : nt d <;> rw [c] at h1 h2
  · rw [fitB_false] at h1 h2; omega
  · rw [fitB_true] at h1 h2; omega
theorem needs_two {u q d h n n' : Int} {t t' : ByteArray} (hm : mayB u q d h n t = true) (hd : ¬ d = 0) (hn : n = 0 ∧ n' = 1 ∨ ¬ n = 0 ∧ n' = 0) (ht : t.size = 0 ∧ t'.size = 1 ∨ ¬ t.size = 0 ∧ t'.size = 0) :
    Ev (fun k => colloquylaw04_CommandNeeds.j2 k 0 q d h n t u q d 0 n t u q d h n' t u q d h n t') true := by
  have hk := decide_eq_true_iff.1 (may_iff.1 hm).1
  have hu : nu d = true := decide_eq_true (by omega)
  refine Ev.step (f := fun _ => some true) (fun k => ?_) (Ev.now _)
  rw [colloquylaw04_CommandNeeds.j2]
  simp only [may_eq, Option.bind_some, may_no_user hu, may_no_channel hu, may_no_n hm hn, may_no_text hm ht, Bool.false_eq_true, if_false, Bool.not_false]
theorem needs_one {u q d h n n' : Int} {t : ByteArray} (hm : mayB u q d h n t = true) (hd : ¬ d = 0) (hn : n = 0 ∧ n' = 1 ∨ ¬ n = 0 ∧ n' = 0) :
    Ev (fun k => colloquylaw04_CommandNeeds.j1 k u q d h n t 0 q d h n t u q d 0 n t u q d h n' t) true := by
  by_cases c : t.toList = ([] : List UInt8)
  · exact Ev.step (fun k => by rw [colloquylaw04_CommandNeeds.j1, if_pos c]) (needs_two hm hd hn (.inl ⟨toList_nil.1 c, rfl⟩))
  · exact Ev.step (fun k => by rw [colloquylaw04_CommandNeeds.j1, if_neg c]) (needs_two hm hd hn (.inr ⟨fun e => c (toList_nil.2 e), rfl⟩))
theorem CommandNeeds (x : S23) (_ : (Lit.int .i64 x.f0).wf = true ∧ (Lit.int .i64 x.f1).wf = true ∧ (Lit.int .i64 x.f2).wf = true ∧ (Lit.int .i64 x.f3).wf = true ∧ (Lit.int .i64 x.f4).wf = true ∧ x.f5.size ≤ maxLen) : ∃ k, colloquylaw04_CommandNeeds.f k x.f0 x.f1 x.f2 x.f3 x.f4 x.f5 = some true := by
  have out : Ev (fun k => colloquylaw04_CommandNeeds.j0 k true true x.f0 x.f1 x.f2 x.f3 x.f4 x.f5) true :=
    Ev.step (f := fun _ => some true) (fun k => by rw [colloquylaw04_CommandNeeds.j0, if_pos rfl]) (Ev.now _)
  refine Ev.rounds (Ev.bind awake_ev ?_)
  simp only [if_true]
  by_cases g : (x.f5.size : Int) > 500
  · simp only [if_pos g]
    exact out
  simp only [if_neg g, may_eq, Option.bind_some]
  by_cases hm : mayB x.f0 x.f1 x.f2 x.f3 x.f4 x.f5 = true
  · simp only [if_pos hm]
    by_cases hd : x.f2 = 0
    · rw [beq_iff_eq.mpr hd]
      exact out
    rw [beq_eq_false_iff_ne.mpr hd]
    by_cases hn : x.f4 = 0
    · exact Ev.step (fun k => by rw [colloquylaw04_CommandNeeds.j0, if_neg (by decide), if_pos hn]) (needs_one hm hd (.inl ⟨hn, rfl⟩))
    · exact Ev.step (fun k => by rw [colloquylaw04_CommandNeeds.j0, if_neg (by decide), if_neg hn]) (needs_one hm hd (.inr ⟨hn, rfl⟩))
  · simp only [if_neg hm]
    exact out
end Go.Proofs.Ythkipipfdlepnaa.Pure

/- Proved: the bytes of two commands differ just if the commands do. Condition: none beyond the guard of the statement (texts of more than 500 bytes are let go). -/
import Derived.Test.YthkipipfdlepnaaPAllx6
import Derived.Test.YthkipipfdlepnaaCmdGet
import Derived.Test.YthkipipfdlepnaaCmdKind
namespace Go.Proofs.Ythkipipfdlepnaa.Pure
open Go.RowKit Go.Proofs.Ythkipipfdlepnaa.PAll Go.Proofs.YthkipipfdlepnaaW.PrintWords Go.Proofs.YthkipipfdlepnaaW.PrintLast Go.Proofs.YthkipipfdlepnaaW.PrintMore
theorem bytesC_inj {u q d h n u' q' d' h' n' : Int} {t t' : ByteArray} (hm : mayB u q d h n t = true) (hm' : mayB u' q' d' h' n' t' = true) (e : bytesC u q d h n t = bytesC u' q' d' h' n' t') : (u, q, d, h, n, t) = (u', q', d', h', n', t') := by
  have h0 := getC_back hm []
  have h1 := getC_back hm' []
  rw [e, h1] at h0
  simp only [List.length_nil, Nat.lt_irrefl, if_false, Prod.mk.injEq] at h0
  simp only [Prod.mk.injEq]
  obtain ⟨a, b, c, d, e, f, _⟩ := h0
  exact ⟨a.symm, b.symm, c.symm, d.symm, e.symm, f.symm⟩
theorem CommandKinds (x y : S23) (_ : (Lit.int .i64 x.f0).wf = true ∧ (Lit.int .i64 x.f1).wf = true ∧ (Lit.int .i64 x.f2).wf = true ∧ (Lit.int .i64 x.f3).wf = true ∧ (Lit.int .i64 x.f4).wf = true ∧ x.f5.size ≤ maxLen) (_ : (Lit.int .i64 y.f0).wf = true ∧ (Lit.int .i64 y.f1).wf = true ∧ (Lit.int .i64 y.f2).wf = true ∧ (Lit.int .i64 y.f3).wf = true ∧ (Lit.int .i64 y.f4).wf = true ∧ y.f5.size ≤ maxLen) :
    ∃ k, colloquylaw04_CommandKinds.f k x.f0 x.f1 x.f2 x.f3 x.f4 x.f5 y.f0 y.f1 y.f2 y.f3 y.f4 y.f5 = some true := by
  have out : Ev (fun k => colloquylaw04_CommandKinds.j0 k true true x.f0 x.f1 x.f2 x.f3 x.f4 x.f5 y.f0 y.f1 y.f2 y.f3 y.f4 y.f5) true :=
    Ev.step (f := fun _ => some true) (fun k => by rw [colloquylaw04_CommandKinds.j0, if_pos rfl]) (Ev.now _)
  refine Ev.rounds (Ev.bind awake_ev ?_)
  simp only [if_true]
  by_cases g : (x.f5.size : Int) > 500
  · simp only [if_pos g]; exact out
  simp only [if_neg g]
  by_cases g2 : (y.f5.size : Int) > 500
  · rw [decide_eq_true g2]; exact out
  rw [decide_eq_false g2]
  refine Ev.step (fun k => by rw [colloquylaw04_CommandKinds.j0, if_neg (by decide)]) ?_
  refine Ev.bind (cput_ev _ _ _ _ _ _) (Ev.bind (cput_ev _ _ _ _ _ _) ?_)
  by_cases hm : mayB x.f0 x.f1 x.f2 x.f3 x.f4 x.f5 = true
  · by_cases hm' : mayB y.f0 y.f1 y.f2 y.f3 y.f4 y.f5 = true
    · rw [putC, if_pos hm, bytesC_eq, putC, if_pos hm', bytesC_eq]
      simp only [if_true]
      refine Ev.congr (f := fun _ => some true) (fun k => ?_) (Ev.now _)
      congr 1
      by_cases e : bytesC x.f0 x.f1 x.f2 x.f3 x.f4 x.f5 = bytesC y.f0 y.f1 y.f2 y.f3 y.f4 y.f5
      · have hi := bytesC_inj hm hm' e
        simp only [Prod.mk.injEq] at hi
        rw [e, hi.1, hi.2.1, hi.2.2.1, hi.2.2.2.1, hi.2.2.2.2.1, hi.2.2.2.2.2]
        simp only [BEq.rfl, Bool.and_self]
      · have e1 : ((strOfNums (bytesC x.f0 x.f1 x.f2 x.f3 x.f4 x.f5)).toList == (strOfNums (bytesC y.f0 y.f1 y.f2 y.f3 y.f4 y.f5)).toList) = false :=
          beq_eq_false_iff_ne.mpr (fun h => e (bytes_inj (bytesC_bytes _ _ _ _ _ _) (bytesC_bytes _ _ _ _ _ _) h))
        rw [e1, beq_iff_eq]
        symm
        rw [Bool.eq_false_iff]
        intro h
        simp only [Bool.and_eq_true, beq_iff_eq] at h
        obtain ⟨h0, h1, h2, h3, h4, h5⟩ := h
        refine e ?_
        rw [ByteArray.toList_eq, ByteArray.toList_eq] at h5
        have h5' : x.f5 = y.f5 := ByteArray.ext (Array.toList_inj.1 h5)
        rw [h0, h1, h2, h3, h4, h5']
    · rw [putC, if_pos hm, putC, if_neg hm']
      simp only [if_true]
      exact Ev.congr (f := fun _ => some true) (fun k => if_neg (by decide)) (Ev.now _)
  · rw [putC, if_neg hm]
    exact Ev.congr (f := fun _ => some true) (fun k => if_neg (by decide)) (Ev.now _)
end Go.Proofs.Ythkipipfdlepnaa.Pure

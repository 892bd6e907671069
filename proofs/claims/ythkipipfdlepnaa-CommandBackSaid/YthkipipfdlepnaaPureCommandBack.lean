/- Proved: what was put is got; without its last bytes, or with one more, it is refused. Condition: none beyond the guard of the statement (texts of more than 1000 bytes are let go). -/
import Derived.Test.YthkipipfdlepnaaPAllx13
import Derived.Test.YthkipipfdlepnaaCmdGet
import Derived.Test.YthkipipfdlepnaaCmdKind
namespace Go.Proofs.Ythkipipfdlepnaa.Pure
open Go.RowKit Go.Proofs.Ythkipipfdlepnaa.PAll Go.Proofs.YthkipipfdlepnaaW.PrintWords Go.Proofs.YthkipipfdlepnaaW.PrintLast Go.Proofs.YthkipipfdlepnaaW.PrintMore
theorem bytesC_len {u q d h n : Int} {t : ByteArray} (hm : mayB u q d h n t = true) : (bytesC u q d h n t).length ≤ 200 := by
  have h8 := encAll_len (nums_ok hm)
  have h6 := nums_len u q d h n t
  have h64 := size_le hm
  rw [← bytesC_eq, List.length_append, bytesOf_length]
  omega
theorem cut_ev {u q d h n : Int} {t : ByteArray} (hm : mayB u q d h n t = true) (cut : Int) : Ev (fun k => colloquylaw04_CommandBack.j1 k cut (bytesC u q d h n t) false) true := by
  have hl := bytesC_len hm
  by_cases c1 : cut < 0
  · exact Ev.step (f := fun _ => some true) (fun k => by rw [colloquylaw04_CommandBack.j1, if_neg (by decide), if_pos c1]) (Ev.now _)
  by_cases c2 : cut ≥ ((bytesC u q d h n t).length : Int)
  · exact Ev.step (f := fun _ => some true) (fun k => by rw [colloquylaw04_CommandBack.j1, if_neg (by decide), if_neg c1, if_pos c2]) (Ev.now _)
  refine Ev.step (fun k => by rw [colloquylaw04_CommandBack.j1, if_neg (by decide), if_neg c1, if_neg c2, if_pos (show 0 ≤ cut by omega), if_pos (show cut ≤ ((bytesC u q d h n t).length : Int) by omega)]) ?_
  refine Ev.bind (cget_ev ((bytesC_bytes u q d h n t).take _) (by rw [List.length_take]; omega)) ?_
  rw [getC_cut hm (by omega)]
  exact Ev.now _
theorem CommandBack (x : S23) (cut more : Int) (_ : (Lit.int .i64 x.f0).wf = true ∧ (Lit.int .i64 x.f1).wf = true ∧ (Lit.int .i64 x.f2).wf = true ∧ (Lit.int .i64 x.f3).wf = true ∧ (Lit.int .i64 x.f4).wf = true ∧ x.f5.size ≤ maxLen) (_ : (Lit.int .i64 cut).wf = true) (hmore : (Lit.int .u8 more).wf = true) : ∃ k, colloquylaw04_CommandBack.f k x.f0 x.f1 x.f2 x.f3 x.f4 x.f5 cut more = some true := by
  refine Ev.rounds (Ev.bind awake_ev ?_)
  simp only [if_true]
  by_cases g : (x.f5.size : Int) > 1000
  · rw [decide_eq_true g]
    exact Ev.step (f := fun _ => some true) (fun k => by rw [colloquylaw04_CommandBack.j0, if_pos rfl]) (Ev.now _)
  rw [decide_eq_false g]
  refine Ev.step (fun k => by rw [colloquylaw04_CommandBack.j0, if_neg (by decide)]) ?_
  refine Ev.bind (cput_ev _ _ _ _ _ _) ?_
  by_cases hm : mayB x.f0 x.f1 x.f2 x.f3 x.f4 x.f5 = true
  · rw [putC, if_pos hm, bytesC_eq]
    have hl := bytesC_len hm
    have hb := bytesC_bytes x.f0 x.f1 x.f2 x.f3 x.f4 x.f5
    have h0 := getC_back hm []
    rw [List.append_nil, if_neg (by simp)] at h0
    have h1 := getC_back hm [more]
    rw [if_pos (by simp)] at h1
    simp only [if_true]
    refine Ev.bind (cget_ev hb (by omega)) ?_
    rw [h0]
    refine Ev.congr (fun k => if_pos (by simp only [List.length_nil]; omega)) ?_
    simp only [Option.bind_some, List.nil_append]
    refine Ev.congr (fun k => if_pos (by omega)) ?_
    refine Ev.bind (cget_ev (Bs.append hb (Bs.cons (u8_bd hmore) Bs.nil)) (by rw [List.length_append, List.length_cons, List.length_nil]; omega)) ?_
    rw [h1]
    simp only [if_true, BEq.rfl, Bool.not_true, Bool.or_self, Bool.false_eq_true, if_false, zeroG]
    exact cut_ev hm cut
  · rw [putC, if_neg hm]
    exact Ev.congr (f := fun _ => some true) (fun k => if_neg (by decide)) (Ev.now _)
end Go.Proofs.Ythkipipfdlepnaa.Pure

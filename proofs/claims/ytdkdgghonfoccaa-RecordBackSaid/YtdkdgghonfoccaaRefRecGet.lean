/- Plain laws of layer 3 (record): which record bytes begin with, by the reference. -/
import Derived.Test.YtdkdgghonfoccaaPAllx7
import Derived.Test.YtdkdgghonfoccaaRecGet
import Derived.Test.YtdkdgghonfoccaaRefGet
namespace Go.Proofs.Ytdkdgghonfoccaa.Pure
open Go.RowKit Go.Proofs.Ytdkdgghonfoccaa.PAll Go.Proofs.YtdkdgghonfoccaaW.PrintWords Go.Proofs.YtdkdgghonfoccaaW.PrintLast Go.Proofs.YtdkdgghonfoccaaW.PrintMore
theorem refBE_num4 {b : List Int} (hb : Bs b) {i : Nat} (h : i + 4 ≤ b.length) : refBE b (i : Int) = num4 (b.drop i) := by
  have e : ∀ j : Nat, rd b ((i : Int) + (j : Int)) = (b.drop i).getD j 0 := by
    intro j
    unfold rd
    rw [show ((i : Int) + (j : Int)).toNat = i + j by omega]
    simp
  have e0 : rd b (i : Int) = (b.drop i).getD 0 0 := by have := e 0; rwa [show ((i : Int) + ((0 : Nat) : Int)) = (i : Int) by omega] at this
  have e1 := e 1
  have e2 := e 2
  have e3 := e 3
  rw [show ((1 : Nat) : Int) = 1 from rfl] at e1
  rw [show ((2 : Nat) : Int) = 2 from rfl] at e2
  rw [show ((3 : Nat) : Int) = 3 from rfl] at e3
  have hd := hb.drop i
  have hdl : (b.drop i).length = b.length - i := List.length_drop
  have h0 := hd.get (i := 0) (by omega)
  have h1 := hd.get (i := 1) (by omega)
  have h2 := hd.get (i := 2) (by omega)
  have h3 := hd.get (i := 3) (by omega)
  unfold refBE num4
  rw [e0, e1, e2, e3]
  generalize (b.drop i).getD 0 0 = a at *
  generalize (b.drop i).getD 1 0 = b at *
  generalize (List.drop i _).getD 2 0 = c at *
  generalize (List.drop i _).getD 3 0 = e at *
  omega
theorem refrest_ev {b : List Int} (hb : Bs b) (hl : b.length < 1099511627776) (kind : Int) {m : Nat} (hm : m ≤ b.length) :
    Ev (fun k => ((colloquyref01_Get.f k (b.drop m)).bind fun h => if h.2.2 = 0 then (if h.1 > 1024 then some (0, [], 0, 7) else
      (if 0 ≤ h.1 ∧ 0 ≤ h.2.1 ∧ (m : Int) + h.2.1 ≤ (b.length : Int) ∧ (b.length : Int) < 140737488355328 then
        (if (b.length : Int) < (m : Int) + h.2.1 + 4 + h.1 then some (0, [], 0, 3) else
          ((colloquyref02_Sum.f k ((b.take (((m : Int) + h.2.1).toNat + 4 + h.1.toNat)).drop (((m : Int) + h.2.1).toNat + 4))).bind fun t =>
            if t = refBE b ((m : Int) + h.2.1) then some (kind, (b.take (((m : Int) + h.2.1).toNat + 4 + h.1.toNat)).drop (((m : Int) + h.2.1).toNat + 4), (m : Int) + h.2.1 + 4 + h.1, 0) else some (0, [], 0, 4)))
      else none)) else some (0, [], 0, h.2.2))) (restOf kind m (b.drop m)) := by
  refine Ev.bind (refget_ev (hb.drop m) (by simp; omega)) ?_
  unfold restOf
  by_cases c : (getOf (b.drop m)).2.2 = 0
  · rw [if_pos c]
    refine Ev.congr (fun k => if_pos c) ?_
    obtain ⟨n, hn, hg, hs1, hs2, he⟩ := getOf_pos (hb.drop m) c
    rw [hg]
    simp only
    by_cases c2 : (n : Int) > 1024
    · rw [if_pos c2]
      exact Ev.congr (fun k => if_pos c2) (Ev.now _)
    rw [if_neg c2]
    refine Ev.congr (fun k => if_neg c2) ?_
    have hml : (b.drop m).length = b.length - m := List.length_drop
    refine Ev.congr (fun k => if_pos ⟨by omega, by omega, by omega, by omega⟩) ?_
    have e : ((m : Int) + (sz n : Int)) = ((m + sz n : Nat) : Int) := by omega
    rw [e]
    simp only [Int.toNat_natCast]
    rw [mid_of, show (b.drop m).drop (sz n) = b.drop (m + sz n) from List.drop_drop]
    have hd : (b.drop (m + sz n)).length = b.length - (m + sz n) := List.length_drop
    unfold tailOf
    by_cases c3 : (b.length : Int) < ((m + sz n : Nat) : Int) + 4 + (n : Int)
    · rw [if_pos (by omega)]
      exact Ev.congr (fun k => if_pos c3) (Ev.now _)
    refine Ev.congr (fun k => if_neg c3) ?_
    rw [if_neg (by omega), refBE_num4 hb (by omega)]
    refine Ev.bind (refsum_ev _ (by simp; omega) (((hb.drop _).drop _).take _)) ?_
    by_cases c5 : sumOf (((b.drop (m + sz n)).drop 4).take n) = num4 (b.drop (m + sz n))
    · rw [if_pos c5, if_pos c5]
      exact Ev.now _
    · rw [if_neg c5, if_neg c5]
      exact Ev.now _
  · rw [if_neg c]
    exact Ev.congr (fun k => if_neg c) (Ev.now _)
theorem refrget_ev {b : List Int} (hb : Bs b) (hl : b.length < 1099511627776) : Ev (fun k => colloquyref03_Get.f k b) (rgetOf b) := by
  refine Ev.bind (refget_ev hb hl) ?_
  unfold rgetOf
  by_cases c : (getOf b).2.2 = 0
  · rw [if_pos c]
    refine Ev.congr (fun k => if_pos c) ?_
    obtain ⟨m, hm, hg, hs1, hs2, he⟩ := getOf_pos hb c
    rw [hg]
    simp only
    by_cases c2 : (m : Int) > 1048576
    · rw [if_pos c2]
      exact Ev.congr (fun k => if_pos c2) (Ev.now _)
    rw [if_neg c2]
    refine Ev.congr (fun k => if_neg c2) ?_
    refine Ev.congr (fun k => if_pos ⟨by omega, by omega⟩) ?_
    simp only [Int.toNat_natCast]
    exact refrest_ev hb hl _ hs2
  · rw [if_neg c]
    exact Ev.congr (fun k => if_neg c) (Ev.now _)
end Go.Proofs.Ytdkdgghonfoccaa.Pure

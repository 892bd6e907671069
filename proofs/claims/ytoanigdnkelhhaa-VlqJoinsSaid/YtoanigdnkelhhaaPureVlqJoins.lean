/- Proved: numbers one behind the other are as those of two lists, one behind the other. Condition: none beyond the guard of the statement (more than 100 numbers each are let go). -/
import Derived.Test.YtoanigdnkelhhaaVlqPutAll
import Derived.Test.YtoanigdnkelhhaaVlqAwake
namespace Go.Proofs.Ytoanigdnkelhhaa.Pure
open Go.RowKit Go.Proofs.Ytoanigdnkelhhaa.PAll Go.Proofs.YtoanigdnkelhhaaW.PrintWords Go.Proofs.YtoanigdnkelhhaaW.PrintLast Go.Proofs.YtoanigdnkelhhaaW.PrintMore
theorem encAll_len (l : List Int) (h : ∀ a ∈ l, Ok a) : (encAll l).length ≤ 8 * l.length := by
  induction l with
  | nil => simp [encAll]
  | cons a l ih =>
    have := ih (fun x hx => h x (by simp [hx]))
    have hk := h a (by simp)
    have h8 := sz_le8 (n := a.toNat) (by have := hk.1; have := hk.2; omega)
    simp only [encAll, List.length_append, enc_length, List.length_cons]
    omega
theorem strOfNums_app (a b : List Int) : (strOfNums (a ++ b)).toList = (strOfNums a ++ strOfNums b).toList := by
  rw [ByteArray.toList_eq, ByteArray.toList_eq, ByteArray.data_append, Array.toList_append]
  simp [strOfNums]
theorem VlqJoins : colloquylaw01_VlqJoins.Pure := by
  intro a b _ _ _ _ _ _
  have out : Ev (fun k => colloquylaw01_VlqJoins.j0 k a b true true) true :=
    Ev.step (f := fun _ => some true) (fun k => by rw [colloquylaw01_VlqJoins.j0, if_pos rfl]) (Ev.now _)
  refine Ev.rounds (Ev.bind awake_ev ?_)
  simp only [if_true]
  by_cases h : (a.length : Int) > 100
  · simp only [if_pos h]; exact out
  simp only [if_neg h]
  by_cases h2 : (b.length : Int) > 100
  · rw [decide_eq_true h2]; exact out
  rw [decide_eq_false h2]
  refine Ev.step (fun k => by rw [colloquylaw01_VlqJoins.j0, if_neg (by decide)]) ?_
  have q1 : ([] : List Int).length + a.length < 17592186044416 := by simp; omega
  have q2 : ([] ++ a : List Int).length + b.length < 17592186044416 := by simp; omega
  refine Ev.bind (putAll_ev (l := a) (by omega)) (Ev.bind (putAll_ev (l := b) (by omega)) ?_)
  simp only [if_pos q1, Option.bind_some, if_pos q2]
  rw [List.nil_append]
  refine Ev.bind (putAll_ev (l := a ++ b) (by simp; omega)) ?_
  have no : (¬ ∀ x ∈ a ++ b, Ok x) → putAllOf (a ++ b) = ([], 1) := putAllOf_no
  by_cases ka : ∀ x ∈ a, Ok x
  · by_cases kb : ∀ x ∈ b, Ok x
    · have kab : ∀ x ∈ a ++ b, Ok x := fun x hx => (List.mem_append.1 hx).elim (ka x) (kb x)
      have la := encAll_len a ka
      have lb := encAll_len b kb
      rw [putAllOf_ok ka, putAllOf_ok kb, putAllOf_ok kab]
      have q3 : (strOfNums (encAll a)).size + (strOfNums (encAll b)).size ≤ 9223372036854775807 := by
        rw [strOfNums_size, strOfNums_size]; omega
      have e : ((strOfNums (encAll (a ++ b))).toList == (strOfNums (encAll a) ++ strOfNums (encAll b)).toList) = true := by
        rw [encAll_append, strOfNums_app]; exact BEq.rfl
      simp only [if_true, if_pos q3, e]
      exact Ev.now _
    · rw [putAllOf_ok ka, putAllOf_no kb, no (fun z => kb (fun x hx => z x (by simp [hx])))]
      exact Ev.now _
  · rw [putAllOf_no ka, no (fun z => ka (fun x hx => z x (by simp [hx])))]
    exact Ev.now _
end Go.Proofs.Ytoanigdnkelhhaa.Pure

/- Proved: what was put is got, whatever follows; many are got as they were. Condition: none beyond the guard of the statement (more than 300 numbers, or 100 bytes behind, are let go). -/
import Derived.Test.YtoanigdnkelhhaaRefGetAll
import Derived.Test.YtoanigdnkelhhaaVlqAwake
namespace Go.Proofs.Ytoanigdnkelhhaa.Pure
open Go.RowKit Go.Proofs.Ytoanigdnkelhhaa.PAll Go.Proofs.YtoanigdnkelhhaaW.PrintWords Go.Proofs.YtoanigdnkelhhaaW.PrintLast Go.Proofs.YtoanigdnkelhhaaW.PrintMore
theorem encAll_len (l : List Int) (h : ∀ a ∈ l, Ok a) : (encAll l).length ≤ 8 * l.length := by
  induction l with
  | nil => simp [encAll]
  | cons a l ih =>
    have := ih (fun x hx => h x (by simp [hx]))
    have hk := h a (by simp)
    have h8 := sz_le8 (n := a.toNat) (by have := hk.1; have := hk.2; omega)
    simp only [encAll, List.length_append, enc_length, List.length_cons]
    omega
theorem VlqBack : colloquylaw01_VlqBack.Pure := by
  intro l m _ _ _ _ _ hm
  have hm := Bs.of hm
  have out : Ev (fun k => colloquylaw01_VlqBack.j0 k l m true true) true :=
    Ev.step (f := fun _ => some true) (fun k => by rw [colloquylaw01_VlqBack.j0, if_pos rfl]) (Ev.now _)
  refine Ev.rounds (Ev.bind awake_ev ?_)
  simp only [if_true]
  by_cases h : (l.length : Int) > 300
  · simp only [if_pos h]; exact out
  simp only [if_neg h]
  by_cases h2 : (m.length : Int) > 100
  · rw [decide_eq_true h2]; exact out
  rw [decide_eq_false h2]
  refine Ev.step (fun k => by rw [colloquylaw01_VlqBack.j0, if_neg (by decide)]) ?_
  have loop : ∀ (d i : Nat), l.length - i = d → i ≤ l.length → (∀ a ∈ l.take i, Ok a) → Ev (fun k => colloquylaw01_VlqBack.l0 k l m (i : Int)) true := by
    intro d
    induction d with
    | zero =>
      intro i hd hi hok
      have hok : ∀ a ∈ l, Ok a := by rwa [List.take_of_length_le (by omega)] at hok
      have hlen := encAll_len l hok
      refine Ev.step (fun k => by rw [colloquylaw01_VlqBack.l0, if_neg (by omega)]) ?_
      refine Ev.bind (putAll_ev (by omega)) ?_
      rw [putAllOf_ok hok]
      refine Ev.bind (getAll_ev (encAll_bytes l) (by show (encAll l).length < _; omega)) ?_
      rw [getAllOf_enc hok]
      refine Ev.bind (same_ev (by omega)) ?_
      simp only [if_true]
      exact Ev.now _
    | succ d ih =>
      intro i hd hi hok
      have hlt : i < l.length := by omega
      have e4 : wrap64 ((i : Int) + 1) = ((i + 1 : Nat) : Int) := idx_step (by omega)
      refine Ev.step (fun k => by rw [colloquylaw01_VlqBack.l0, if_pos (by omega), if_pos (by omega)]) ?_
      have er : rd l (i : Int) = l.getD i 0 := by unfold rd; rw [Int.toNat_natCast]
      rw [er, e4]
      refine Ev.bind (put_ev _) ?_
      by_cases ka : Ok (l.getD i 0)
      · obtain ⟨n, hn'⟩ := Int.eq_ofNat_of_zero_le ka.1
        have hok' : ∀ a ∈ l.take (i + 1), Ok a := by
          intro a ha
          rw [List.take_succ_eq_append_getElem hlt] at ha
          rcases List.mem_append.1 ha with ha | ha
          · exact hok a ha
          · rw [List.mem_singleton.1 ha, ← getD_lt hlt 0]; exact ka
        rw [putOf_ok ka]
        rw [hn'] at ka ⊢
        have hn : n < 72057594037927936 := by have := ka.2; omega
        have h8 := sz_le8 hn
        rw [Int.toNat_natCast]
        have q1 : ([] : List Int).length + (enc n).length < 140737488355328 := by rw [enc_length]; simp; omega
        have q2 : ([] ++ enc n : List Int).length + m.length < 140737488355328 := by rw [List.nil_append, enc_length]; omega
        simp only [if_true, if_pos q1, Option.bind_some, if_pos q2]
        rw [List.nil_append]
        refine Ev.bind (get_ev (Bs.append (enc_bytes n) hm) (by rw [List.length_append, enc_length]; omega)) ?_
        rw [getOf_enc hn]
        simp only [if_true, enc_length]
        refine Ev.bind (size_ev hn) ?_
        simp only [if_true]
        exact ih (i + 1) (by omega) (by omega) hok'
      · rw [putOf_no ka]
        exact Ev.now _
  exact loop l.length 0 (by omega) (by omega) (by simp)
end Go.Proofs.Ytoanigdnkelhhaa.Pure

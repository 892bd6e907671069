/- Plain laws of layer 1: the reference's put is the program's. -/
import Derived.Test.YthkipipfdlepnaaPAllx8
import Derived.Test.YthkipipfdlepnaaVlqPutAll
namespace Go.Proofs.Ythkipipfdlepnaa.Pure
open Go.RowKit Go.Proofs.Ythkipipfdlepnaa.PAll Go.Proofs.YthkipipfdlepnaaW.PrintWords Go.Proofs.YthkipipfdlepnaaW.PrintLast Go.Proofs.YthkipipfdlepnaaW.PrintMore
theorem div128 {n : Nat} (hn : n < 72057594037927936) : wrap64 (Int.tdiv (n : Int) 128) = ((n / 128 : Nat) : Int) := by
  rw [Int.tdiv_eq_ediv_of_nonneg (by omega), wrap64_id (by omega) (by omega)]; omega
theorem refsize_l (n : Nat) : ∀ c : Nat, n < 72057594037927936 → c + sz n ≤ 1000 → Ev (fun k => colloquyref01_Size.l0 k (n : Int) (c : Int)) ((c + sz n - 1 : Nat) : Int) := by
  induction n using Nat.strongRecOn with
  | _ n ih =>
    intro c hn hc
    by_cases h : n < 128
    · rw [sz_lt h, show c + 1 - 1 = c by omega]
      exact Ev.step (f := fun _ => some (c : Int)) (fun k => by rw [colloquyref01_Size.l0, if_neg (by omega)]) (Ev.now _)
    · have hs := sz_ge h
      have hp := sz_pos (n / 128)
      have key := ih (n / 128) (by omega) (c + 1) (by omega) (by omega)
      rw [show c + sz n - 1 = c + 1 + sz (n / 128) - 1 by omega]
      have e4 : wrap64 ((c : Int) + 1) = ((c + 1 : Nat) : Int) := idx_step (by omega)
      exact Ev.step (fun k => by rw [colloquyref01_Size.l0, if_pos (by omega), div128 hn, e4]) key
theorem refsize_ev {n : Nat} (hn : n < 72057594037927936) : Ev (fun k => colloquyref01_Size.f k (n : Int)) (sz n : Int) := by
  have h8 := sz_le8 hn
  have key := refsize_l n 1 hn (by omega)
  rw [show 1 + sz n - 1 = sz n by omega] at key
  have e : decide ((n : Int) ≥ 72057594037927936) = false := decide_eq_false (by omega)
  refine Ev.congr (f := fun k => colloquyref01_Size.j0 k (n : Int) false) (fun k => ?_) ?_
  · unfold colloquyref01_Size.f
    rw [if_neg (by omega), e]
  · exact Ev.step (fun k => by rw [colloquyref01_Size.j0, if_neg (by decide)]; rfl) key
theorem refsize_no {a : Int} (h : ¬ Ok a) : Ev (fun k => colloquyref01_Size.f k a) 0 := by
  have out : Ev (fun k => colloquyref01_Size.j0 k a true) 0 := Ev.step (f := fun _ => some 0) (fun k => by rw [colloquyref01_Size.j0, if_pos rfl]) (Ev.now _)
  by_cases h0 : a < 0
  · exact Ev.congr (fun k => by unfold colloquyref01_Size.f; rw [if_pos h0]) out
  · have e : decide (a ≥ 72057594037927936) = true := decide_eq_true (by unfold Ok at h; omega)
    exact Ev.congr (fun k => by unfold colloquyref01_Size.f; rw [if_neg h0, e]) out
theorem set_rep (j : Nat) (suf : List Int) (v : Int) : (List.replicate (j + 1) 0 ++ suf).set j v = List.replicate j 0 ++ v :: suf := by
  induction j with
  | zero => rfl
  | succ j ih =>
    rw [List.replicate_succ, List.cons_append, List.set_cons_succ, ih, List.replicate_succ (n := j), List.cons_append]
theorem set_mid (j : Nat) (suf : List Int) (u v : Int) : (List.replicate j 0 ++ u :: suf).set j v = List.replicate j 0 ++ v :: suf := by
  induction j with
  | zero => rfl
  | succ j ih =>
    rw [List.replicate_succ, List.cons_append, List.set_cons_succ, ih, List.cons_append]
theorem get_mid (j : Nat) (suf : List Int) (u : Int) : (List.replicate j 0 ++ u :: suf).getD j 0 = u := by
  induction j with
  | zero => rfl
  | succ j ih => rw [List.replicate_succ, List.cons_append, List.getD_cons_succ, ih]
theorem low128 {n : Nat} : (Int.tmod (n : Int) 128) % 256 = ((n % 128 : Nat) : Int) := by
  rw [Int.tmod_eq_emod_of_nonneg (by omega)]; omega
/-- One byte of the reference's number: from the end. -/
theorem refput_one {n j i K : Nat} (hn : n < 72057594037927936) (hK : i + (j + 1) = K) (hK8 : K ≤ 8) (suf : List Int) (k : Nat) :
    colloquyref01_Put.l0 (k + 1) (n : Int) (K : Int) (List.replicate (j + 1) 0 ++ suf) (i : Int) =
      colloquyref01_Put.l0 k ((n / 128 : Nat) : Int) (K : Int) (List.replicate j 0 ++ (((n % 128 : Nat) : Int) + if i = 0 then 0 else 128) :: suf) ((i + 1 : Nat) : Int) := by
  have e1 : wrap64 ((K : Int) - 1) = (K : Int) - 1 := wrap64_id (by omega) (by omega)
  have e2 : wrap64 ((K : Int) - 1 - (i : Int)) = (j : Int) := by rw [wrap64_id (by omega) (by omega)]; omega
  have e4 : wrap64 ((i : Int) + 1) = ((i + 1 : Nat) : Int) := idx_step (by omega)
  rw [colloquyref01_Put.l0, if_pos (by omega), e1, e2, if_pos (by omega), if_pos (by simp; omega), low128, div128 hn, e4]
  simp only [Option.bind_some, Int.toNat_natCast, set_rep, rd, get_mid, set_mid]
  by_cases h : i = 0
  · subst h
    rw [if_neg (by decide), if_pos rfl]; simp
  · rw [if_pos (by omega), if_neg h]
    congr 3; omega
theorem refput_end {n i K : Nat} (hK : i = K) (suf : List Int) : Ev (fun k => colloquyref01_Put.l0 k (n : Int) (K : Int) suf (i : Int)) (suf, 0) :=
  Ev.step (f := fun _ => some (suf, 0)) (fun k => by rw [colloquyref01_Put.l0, if_neg (by omega)]) (Ev.now _)
theorem refput_hi (n : Nat) : ∀ (i K : Nat) (suf : List Int), n < 72057594037927936 → 1 ≤ i → i + sz n = K → K ≤ 8 → Ev (fun k => colloquyref01_Put.l0 k (n : Int) (K : Int) (List.replicate (sz n) 0 ++ suf) (i : Int)) (hi n ++ suf, 0) := by
  induction n using Nat.strongRecOn with
  | _ n ih =>
    intro i K suf hn hi1 hK hK8
    by_cases h : n < 128
    · have hs := sz_lt h
      rw [hs] at hK ⊢
      rw [hi_lt h]
      refine Ev.step (fun k => by rw [refput_one (j := 0) hn hK hK8]) ?_
      rw [if_neg (by omega), Nat.mod_eq_of_lt h]
      exact refput_end hK _
    · have hs := sz_ge h
      rw [hs] at hK ⊢
      rw [hi_ge h, List.append_assoc]
      refine Ev.step (fun k => by rw [refput_one hn hK hK8]) ?_
      rw [if_neg (by omega)]
      exact ih (n / 128) (by omega) (i + 1) K _ (by omega) (by omega) (by omega) hK8
theorem refput_ev (a : Int) : Ev (fun k => colloquyref01_Put.f k a) (putOf a) := by
  by_cases h : Ok a
  · rw [putOf_ok h]
    obtain ⟨n, rfl⟩ := Int.eq_ofNat_of_zero_le h.1
    have hn : n < 72057594037927936 := by have := h.2; omega
    have h8 := sz_le8 hn
    have hp := sz_pos n
    refine Ev.bind (refsize_ev hn) ?_
    refine Ev.congr (f := fun k => colloquyref01_Put.l0 k (n : Int) (sz n : Int) (List.replicate (sz n) 0 ++ []) ((0 : Nat) : Int)) (fun k => ?_) ?_
    · rw [if_neg (by omega), if_pos (by omega), if_pos (by omega), Int.toNat_natCast, List.append_nil]
      rfl
    rw [Int.toNat_natCast]
    by_cases h : n < 128
    · have hs := sz_lt h
      rw [hs, enc_lt h]
      refine Ev.step (fun k => by rw [refput_one (j := 0) hn (by omega) (by omega)]) ?_
      rw [if_pos rfl, Nat.mod_eq_of_lt h, Int.add_zero]
      exact refput_end rfl _
    · have hs := sz_ge h
      rw [enc_ge h]
      have hK : 0 + (sz (n / 128) + 1) = sz n := by omega
      generalize hg : sz n = K at *
      rw [hs]
      refine Ev.step (fun k => by rw [refput_one hn (by omega) (by omega)]) ?_
      rw [if_pos rfl, Int.add_zero]
      rw [← hs]
      exact refput_hi (n / 128) 1 K _ (by omega) (by omega) (by omega) (by omega)
  · rw [putOf_no h]
    refine Ev.bind (refsize_no h) ?_
    exact Ev.congr (fun k => if_pos rfl) (Ev.now _)
theorem refputAll_l (l : List Int) (hl : l.length < 1099511627776) : ∀ (d i : Nat) (acc : List Int), l.length - i = d → i ≤ l.length → acc.length ≤ 8 * i →
    Ev (fun k => colloquyref01_PutAll.l0 k l acc (i : Int)) (putAllR acc (l.drop i)) := by
  intro d
  induction d with
  | zero =>
    intro i acc hd hi ha
    have e : i = l.length := by omega
    subst e
    rw [List.drop_length, putAllR]
    exact Ev.step (f := fun _ => some (acc, 0)) (fun k => by rw [colloquyref01_PutAll.l0, if_neg (by omega)]) (Ev.now _)
  | succ d ih =>
    intro i acc hd hi ha
    have hlt : i < l.length := by omega
    have hlt' : (i : Int) < (l.length : Int) := by omega
    have hp := putOf_len (l.getD i 0)
    have hlim : acc.length + (putOf (l.getD i 0)).1.length < 140737488355328 := by omega
    have e4 := idx_step (Nat.lt_trans hlt hl)
    rw [drop_cons_getD hlt 0, putAllR]
    refine Ev.step (f := fun k => (colloquyref01_Put.f k (l.getD i 0)).bind fun t => if t.2 = 0 then (if acc.length + t.1.length < 140737488355328 then colloquyref01_PutAll.l0 k l (acc ++ t.1) ((i + 1 : Nat) : Int) else none) else some ([], t.2)) (fun k => ?_) ?_
    · rw [colloquyref01_PutAll.l0, if_pos hlt', if_pos (Int.natCast_nonneg i)]
      simp only [rd, Int.toNat_natCast]
      rw [e4]
    · refine Ev.bind (refput_ev _) ?_
      by_cases c : (putOf (l.getD i 0)).2 = 0
      · simp only [if_pos c, if_pos hlim]
        exact ih (i + 1) _ (by omega) (by omega) (by rw [List.length_append]; omega)
      · simp only [if_neg c]
        exact Ev.now _
theorem refputAll_ev {l : List Int} (hl : l.length < 1099511627776) : Ev (fun k => colloquyref01_PutAll.f k l) (putAllOf l) := by
  have := refputAll_l l hl l.length 0 [] (by omega) (by omega) (by simp)
  simpa [colloquyref01_PutAll.f, putAllOf] using this
end Go.Proofs.Ythkipipfdlepnaa.Pure

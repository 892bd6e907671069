/- Proved: a record whose Body has one byte that is another one, or two different neighbours that changed their places, is refused by its sum. Condition: none beyond the guard of the statement. -/
import Derived.Test.YtdkdgghonfoccaaPAllx6
import Derived.Test.YtdkdgghonfoccaaRecGet
namespace Go.Proofs.Ytdkdgghonfoccaa.Pure
open Go.RowKit Go.Proofs.Ytdkdgghonfoccaa.PAll Go.Proofs.YtdkdgghonfoccaaW.PrintWords Go.Proofs.YtdkdgghonfoccaaW.PrintLast Go.Proofs.YtdkdgghonfoccaaW.PrintMore
theorem split_at {l : List Int} {i : Nat} (h : i < l.length) : l = l.take i ++ l.getD i 0 :: l.drop (i + 1) := by
  rw [← drop_cons_getD h 0, List.take_append_drop]
theorem set_at {l : List Int} {i : Nat} (h : i < l.length) (v : Int) : l.set i v = l.take i ++ v :: l.drop (i + 1) := by
  rw [List.set_eq_take_append_cons_drop, if_pos h]
theorem other_byte (a r : List Int) (c x : Int) (hc : 0 ≤ c ∧ c < 256) (hx : 0 ≤ x ∧ x < 256) (h : sumOf (a ++ x :: r) = sumOf (a ++ c :: r)) : x = c := by
  have := (whole_inj h).1
  simp only [List.sum_append, List.sum_cons] at this
  generalize a.sum = s at *
  generalize r.sum = t at *
  omega
theorem swapped (a r : List Int) (p q : Int) (hp : 0 ≤ p ∧ p < 256) (hq : 0 ≤ q ∧ q < 256) (h : sumOf (a ++ q :: p :: r) = sumOf (a ++ p :: q :: r)) : p = q := by
  have := (whole_inj h).2
  simp only [wsum_append, wsum, List.length_append, List.length_cons] at this
  have e1 : (((r.length + 1 : Nat) : Int) + 1) * p = ((r.length : Int) + 1) * p + p := by rw [Int.natCast_add, Int.add_mul]; simp
  have e2 : (((r.length + 1 : Nat) : Int) + 1) * q = ((r.length : Int) + 1) * q + q := by rw [Int.natCast_add, Int.add_mul]; simp
  rw [e1, e2] at this
  clear h e1 e2
  generalize (((r.length + 1 + 1 : Nat) : Int)) * a.sum = u at *
  generalize ((r.length : Int) + 1) * p = v at *
  generalize ((r.length : Int) + 1) * q = w at *
  generalize wsum a = t at *
  generalize wsum r = z at *
  omega
theorem other_sum {l : List Int} (hb : Bs l) {c : Nat} (hc : c < l.length) {x : Int} (hx : 0 ≤ x ∧ x < 256) (he : ¬ l.getD c 0 = x) : ¬ sumOf (l.set c x) = sumOf l := by
  intro hs
  rw [set_at hc] at hs
  conv at hs => rhs; rw [split_at hc]
  exact he (other_byte _ _ _ _ (hb.get hc) hx hs).symm
theorem swapped_sum {l : List Int} (hb : Bs l) {c : Nat} (h1 : 1 ≤ c) (hc : c < l.length) (he : ¬ l.getD c 0 = l.getD (c - 1) 0) : ¬ sumOf ((l.set c (l.getD (c - 1) 0)).set (c - 1) (l.getD c 0)) = sumOf l := by
  intro hs
  apply he
  have hd : c - 1 < l.length := by omega
  have hg := hb.get hc
  have hh := hb.get hd
  have s1 : l = l.take (c - 1) ++ l.getD (c - 1) 0 :: l.getD c 0 :: l.drop (c + 1) := by
    conv => lhs; rw [split_at hd]
    rw [show c - 1 + 1 = c by omega, drop_cons_getD hc 0]
  generalize l.getD (c - 1) 0 = p at *
  generalize l.getD c 0 = q at *
  have s2 : (l.set c p).set (c - 1) q = l.take (c - 1) ++ q :: p :: l.drop (c + 1) := by
    have hl1 : (l.take (c - 1)).length = c - 1 := by simp; omega
    generalize l.take (c - 1) = a at *
    generalize l.drop (c + 1) = r at *
    subst s1
    rw [List.set_append_right _ _ (by omega), show c - a.length = 1 by omega]
    rw [List.set_append_right _ _ (by omega), show c - 1 - a.length = 0 by omega]
    rfl
  rw [s2] at hs
  conv at hs => rhs; rw [s1]
  exact (swapped _ _ p q hh hg hs).symm
def pre (m : Nat) (body : List Int) : List Int := enc m ++ (enc body.length ++ be4L (sumOf body))
theorem frame_pre (m : Nat) (body : List Int) : frame m body = pre m body ++ body := by simp only [frame, pre, List.append_assoc]
theorem pre_set (p l : List Int) (c : Nat) (v : Int) : (p ++ l).set (p.length + c) v = p ++ l.set c v := by
  rw [List.set_append_right _ _ (by omega), show p.length + c - p.length = c by omega]
theorem pre_get (p l : List Int) (c : Nat) : (p ++ l).getD (p.length + c) 0 = l.getD c 0 := by
  rw [List.getD_eq_getElem?_getD, List.getElem?_append_right (by omega), Nat.add_sub_cancel_left, List.getD_eq_getElem?_getD]
theorem Bs.set {l : List Int} (h : Bs l) (i : Nat) {v : Int} (hv : 0 ≤ v ∧ v < 256) : Bs (l.set i v) := by
  intro z hz
  rcases List.mem_or_eq_of_mem_set hz with hz | hz
  · exact h z hz
  · rw [hz]; exact hv
theorem refused {m : Nat} {body l : List Int} (hm : m ≤ 1048576) (hl : Bs l) (hlen : l.length = body.length) (hbl : body.length ≤ 1024) (hs : ¬ sumOf l = sumOf body) :
    Ev (fun k => (record_Get.f k (pre m body ++ l)).bind fun bt => if bt.2.2.2 = 4 then some (bt.2.2.1 == 0) else some false) true := by
  have e : pre m body ++ l = enc m ++ (enc l.length ++ (be4L (sumOf body) ++ l)) := by rw [hlen]; simp only [pre, List.append_assoc]
  have e2 : Bs (pre m body ++ l) := by
    rw [e]; exact Bs.append (enc_bytes _) (Bs.append (enc_bytes _) (Bs.append (be4L_bytes _) hl))
  have h1 := sz_kind hm
  have h2 := sz_body hbl
  refine Ev.bind (rget_ev e2 (by simp only [pre, List.length_append, enc_length, be4L_len]; omega)) ?_
  rw [e, rgetOf_sum (sumOf_bd body).1 (sumOf_bd body).2 hm (by omega) hs]
  simp only [if_true, BEq.rfl]
  exact Ev.now _
theorem RecordTurns (x : S24) (at_ b : Int) (sw : Bool) (h : (Lit.int .i64 x.f0).wf = true ∧ x.f1.length ≤ maxLen ∧ ∀ c ∈ x.f1, (Lit.int .u8 c).wf = true) (_ : (Lit.int .i64 at_).wf = true) (hw : (Lit.int .u8 b).wf = true) : ∃ k, colloquylaw03_RecordTurns.f k x.f0 x.f1 at_ b sw = some true := by
  have hb := Bs.of h.2.2
  have hbb := u8_bd hw
  refine Ev.rounds (Ev.bind awake_ev ?_)
  refine Ev.bind (rput_ev hb) ?_
  simp only [if_true]
  have out : Ev (fun k => colloquylaw03_RecordTurns.j0 k at_ b sw true (recOf x.f0 x.f1).1 true x.f0 x.f1) true :=
    Ev.step (f := fun _ => some true) (fun k => by rw [colloquylaw03_RecordTurns.j0, if_pos rfl, if_pos rfl, decide_eq_true (by omega)]) (Ev.now _)
  by_cases c : (recOf x.f0 x.f1).2 = 0
  · refine Ev.congr (fun k => if_pos c) ?_
    by_cases c1 : at_ < 0
    · exact Ev.congr (fun k => if_pos c1) out
    refine Ev.congr (fun k => if_neg c1) ?_
    by_cases c2 : at_ ≥ (x.f1.length : Int)
    · exact Ev.congr (fun k => if_pos c2) out
    refine Ev.congr (fun k => if_neg c2) ?_
    obtain ⟨h0, h1, h2, e⟩ := recOf_zero c
    rw [e]
    simp only
    clear out e c
    obtain ⟨i, rfl⟩ := Int.eq_ofNat_of_zero_le (show 0 ≤ at_ by omega)
    have hi : i < x.f1.length := by omega
    generalize hm : x.f0.toNat = m
    have hm2 : m ≤ 1048576 := by omega
    have hk1 := sz_kind hm2
    have hk2 := sz_body h2
    have hpl : (pre m x.f1).length = sz m + sz x.f1.length + 4 := by simp only [pre, List.length_append, enc_length, be4L_len]; omega
    rw [frame_pre]
    have hfl : (pre m x.f1 ++ x.f1).length = (pre m x.f1).length + x.f1.length := List.length_append
    rw [decide_eq_false (by omega)]
    refine Ev.step (fun k => by rw [colloquylaw03_RecordTurns.j0, if_neg (by decide), if_pos (by simp only [List.length_nil]; omega)]) ?_
    simp only [Option.bind_some, List.nil_append]
    generalize hF : pre m x.f1 ++ x.f1 = F at *
    have hK : wrap64 (wrap64 ((F.length : Int) - (x.f1.length : Int)) + (i : Int)) = (((pre m x.f1).length + i : Nat) : Int) := by
      rw [wrap64_id (a := (F.length : Int) - (x.f1.length : Int)) (by omega) (by omega), wrap64_id (by omega) (by omega)]; omega
    rw [hK]
    have hr : ∀ j : Nat, rd F (((pre m x.f1).length + j : Nat) : Int) = x.f1.getD j 0 := by
      intro j
      rw [← hF, rd, Int.toNat_natCast, pre_get]
    by_cases hsw : sw = true
    · refine Ev.congr (fun k => if_pos hsw) ?_
      by_cases hz : (i : Int) = 0
      · exact Ev.congr (fun k => if_pos hz) (Ev.now _)
      refine Ev.congr (fun k => if_neg hz) ?_
      have hK1 : wrap64 ((((pre m x.f1).length + i : Nat) : Int) - 1) = (((pre m x.f1).length + (i - 1) : Nat) : Int) := by
        rw [wrap64_id (by omega) (by omega)]; omega
      rw [hK1]
      refine Ev.congr (fun k => if_pos (by omega)) (Ev.congr (fun k => if_pos (by omega)) (Ev.congr (fun k => if_pos (by omega)) (Ev.congr (fun k => if_pos (by omega)) ?_)))
      by_cases he : x.f1.getD i 0 = x.f1.getD (i - 1) 0
      · exact Ev.congr (fun k => if_pos (by rw [hr, hr]; exact he)) (Ev.now _)
      refine Ev.congr (fun k => if_neg (by rw [hr, hr]; exact he)) ?_
      refine Ev.congr (fun k => if_pos (by omega)) (Ev.congr (fun k => if_pos (by omega)) ?_)
      rw [hr, hr, Int.toNat_natCast, Int.toNat_natCast, ← hF, pre_set, pre_set]
      exact refused hm2 ((hb.set _ (hb.get (by omega))).set _ (hb.get hi)) (by simp) h2 (swapped_sum hb (by omega) hi he)
    · refine Ev.congr (fun k => if_neg hsw) ?_
      refine Ev.congr (fun k => if_pos (by omega)) (Ev.congr (fun k => if_pos (by omega)) ?_)
      by_cases he : x.f1.getD i 0 = b
      · exact Ev.congr (fun k => if_pos (by rw [hr]; exact he)) (Ev.now _)
      refine Ev.congr (fun k => if_neg (by rw [hr]; exact he)) ?_
      rw [Int.toNat_natCast, ← hF, pre_set]
      exact refused hm2 (hb.set _ hbb) (by simp) h2 (other_sum hb hi hbb he)
  · exact Ev.congr (fun k => if_neg c) out
end Go.Proofs.Ytdkdgghonfoccaa.Pure

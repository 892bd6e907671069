/- Plain laws of layer 1: many numbers, one behind the other, put. -/
import Derived.Test.YthkipipfdlepnaaPAllx4
import Derived.Test.YthkipipfdlepnaaVlqCore
namespace Go.Proofs.Ythkipipfdlepnaa.Pure
open Go.RowKit Go.Proofs.Ythkipipfdlepnaa.PAll Go.Proofs.YthkipipfdlepnaaW.PrintWords Go.Proofs.YthkipipfdlepnaaW.PrintLast Go.Proofs.YthkipipfdlepnaaW.PrintMore
/-- What PutAll answers, bytes having been collected. -/
def putAllR : List Int → List Int → List Int × Int
  | acc, [] => (acc, 0)
  | acc, a :: l => if (putOf a).2 = 0 then putAllR (acc ++ (putOf a).1) l else ([], (putOf a).2)
def putAllOf (l : List Int) : List Int × Int := putAllR [] l
theorem putAll_l (l : List Int) (hl : l.length < 1099511627776) : ∀ (d i : Nat) (acc : List Int), l.length - i = d → i ≤ l.length → acc.length ≤ 8 * i →
    Ev (fun k => vlq_PutAll.l0 k acc l (l.length : Int) (i : Int)) (putAllR acc (l.drop i)) := by
  intro d
  induction d with
  | zero =>
    intro i acc hd hi ha
    have e : i = l.length := by omega
    subst e
    rw [List.drop_length, putAllR]
    exact Ev.step (f := fun _ => some (acc, 0)) (fun k => by rw [vlq_PutAll.l0, if_neg (by omega)]) (Ev.now _)
  | succ d ih =>
    intro i acc hd hi ha
    have hlt : i < l.length := by omega
    have hlt' : (i : Int) < (l.length : Int) := by omega
    have hp := putOf_len (l.getD i 0)
    have hlim : acc.length + (putOf (l.getD i 0)).1.length < 140737488355328 := by omega
    have e4 := idx_step (Nat.lt_trans hlt hl)
    rw [drop_cons_getD hlt 0, putAllR]
    refine Ev.step (f := fun k => (vlq_Put.f k (l.getD i 0)).bind fun t => if t.2 = 0 then (if acc.length + t.1.length < 140737488355328 then vlq_PutAll.l0 k (acc ++ t.1) l (l.length : Int) ((i + 1 : Nat) : Int) else none) else some ([], t.2)) (fun k => ?_) ?_
    · rw [vlq_PutAll.l0, if_pos hlt', if_pos (Int.natCast_nonneg i), if_pos hlt']
      simp only [rd, Int.toNat_natCast]
      rw [e4]
    · refine Ev.bind (put_ev _) ?_
      by_cases c : (putOf (l.getD i 0)).2 = 0
      · simp only [if_pos c, if_pos hlim]
        exact ih (i + 1) _ (by omega) (by omega) (by rw [List.length_append]; omega)
      · simp only [if_neg c]
        exact Ev.now _
theorem putAll_ev {l : List Int} (hl : l.length < 1099511627776) : Ev (fun k => vlq_PutAll.f k l) (putAllOf l) := by
  have := putAll_l l hl l.length 0 [] (by omega) (by omega) (by simp)
  simpa [vlq_PutAll.f, putAllOf] using this
/-- The bytes of many. -/
def encAll : List Int → List Int
  | [] => []
  | a :: l => enc a.toNat ++ encAll l
theorem encAll_append (a b : List Int) : encAll (a ++ b) = encAll a ++ encAll b := by
  induction a with
  | nil => rfl
  | cons x a ih => simp only [List.cons_append, encAll, ih, List.append_assoc]
theorem encAll_bytes (l : List Int) : Bs (encAll l) := by
  induction l with
  | nil => exact Bs.nil
  | cons a l ih => exact Bs.append (enc_bytes _) ih
theorem putAllR_ok {l : List Int} (h : ∀ a ∈ l, Ok a) : ∀ acc, putAllR acc l = (acc ++ encAll l, 0) := by
  induction l with
  | nil => intro acc; simp [putAllR, encAll]
  | cons a l ih =>
    intro acc
    have ha := h a (by simp)
    rw [putAllR, if_pos (putOf_zero.2 ha), ih (fun x hx => h x (by simp [hx])), putOf_ok ha, encAll, List.append_assoc]
theorem putAllR_no {l : List Int} (h : ¬ ∀ a ∈ l, Ok a) : ∀ acc, putAllR acc l = ([], 1) := by
  induction l with
  | nil => exact absurd (fun a ha => by cases ha) h
  | cons a l ih =>
    intro acc
    by_cases ha : Ok a
    · rw [putAllR, if_pos (putOf_zero.2 ha)]
      refine ih (fun hl => h (fun x hx => ?_)) _
      rcases List.mem_cons.1 hx with rfl | hx
      · exact ha
      · exact hl x hx
    · rw [putAllR, if_neg (fun z => ha (putOf_zero.1 z)), putOf_no ha]
theorem putAllOf_ok {l : List Int} (h : ∀ a ∈ l, Ok a) : putAllOf l = (encAll l, 0) := by rw [putAllOf, putAllR_ok h, List.nil_append]
theorem putAllOf_no {l : List Int} (h : ¬ ∀ a ∈ l, Ok a) : putAllOf l = ([], 1) := putAllR_no h []
theorem putAllOf_zero {l : List Int} : (putAllOf l).2 = 0 ↔ ∀ a ∈ l, Ok a := by
  by_cases h : ∀ a ∈ l, Ok a
  · rw [putAllOf_ok h]; exact ⟨fun _ => h, fun _ => rfl⟩
  · rw [putAllOf_no h]; exact ⟨fun z => by simp at z, fun z => absurd z h⟩
theorem putAllOf_bytes (l : List Int) : Bs (putAllOf l).1 := by
  by_cases h : ∀ a ∈ l, Ok a
  · rw [putAllOf_ok h]; exact encAll_bytes _
  · rw [putAllOf_no h]; exact Bs.nil
end Go.Proofs.Ythkipipfdlepnaa.Pure

/- Plain laws of layer 1: all the numbers that bytes are. -/
import Derived.Test.YtoanigdnkelhhaaVlqGet
import Derived.Test.YtoanigdnkelhhaaVlqPutAll
namespace Go.Proofs.Ytoanigdnkelhhaa.Pure
open Go.RowKit Go.Proofs.Ytoanigdnkelhhaa.PAll Go.Proofs.YtoanigdnkelhhaaW.PrintWords Go.Proofs.YtoanigdnkelhhaaW.PrintLast Go.Proofs.YtoanigdnkelhhaaW.PrintMore
theorem getOf_pos {b : List Int} (hb : Bs b) (h : (getOf b).2.2 = 0) : ∃ m : Nat, m < 72057594037927936 ∧ getOf b = ((m : Int), (sz m : Int), 0) ∧ 1 ≤ sz m ∧ sz m ≤ b.length ∧ b.take (sz m) = enc m := by
  have e : getOf b = ((getOf b).1, (getOf b).2.1, 0) := by
    have : getOf b = ((getOf b).1, (getOf b).2.1, (getOf b).2.2) := rfl
    rw [h] at this; exact this
  obtain ⟨m, h1, h2, h3, h4, h5⟩ := getOf_back hb e
  refine ⟨m, h2, ?_, sz_pos m, h4, h5⟩
  rw [h1, h3] at e; exact e
/-- What GetAll answers: d is at least how many bytes there are. -/
def getAllR : Nat → List Int → List Int → List Int × Int
  | 0, _, acc => (acc, 0)
  | d + 1, b, acc => if b.length = 0 then (acc, 0) else if (getOf b).2.2 = 0 then getAllR d (b.drop (getOf b).2.1.toNat) (acc ++ [(getOf b).1]) else ([], (getOf b).2.2)
def getAllOf (b : List Int) : List Int × Int := getAllR b.length b []
theorem getAll_l : ∀ (d : Nat) (b acc : List Int), Bs b → b.length ≤ d → b.length < 1099511627776 → acc.length + b.length < 1099511627776 → Ev (fun k => vlq_GetAll.l0 k b acc) (getAllR d b acc) := by
  intro d
  induction d with
  | zero =>
    intro b acc hb hd hl ha
    have h0 : b.length = 0 := by omega
    exact Ev.step (f := fun _ => some (acc, 0)) (fun k => by rw [vlq_GetAll.l0, if_neg (by omega)]) (Ev.now _)
  | succ d ih =>
    intro b acc hb hd hl ha
    rw [getAllR]
    by_cases h0 : b.length = 0
    · rw [if_pos h0]
      exact Ev.step (f := fun _ => some (acc, 0)) (fun k => by rw [vlq_GetAll.l0, if_neg (by omega)]) (Ev.now _)
    rw [if_neg h0]
    refine Ev.step (fun k => by rw [vlq_GetAll.l0, if_pos (by omega)]) ?_
    refine Ev.bind (get_ev hb hl) ?_
    by_cases c : (getOf b).2.2 = 0
    · obtain ⟨m, hm, hg, h1, h2, h3⟩ := getOf_pos hb c
      rw [if_pos c, hg]
      have q1 : acc.length < 17592186044416 := by omega
      have q2 : (0 : Int) ≤ (sz m : Int) := by omega
      have q3 : (sz m : Int) ≤ (b.length : Int) := by omega
      simp only [if_true, if_pos q1, if_pos q2, if_pos q3, Int.toNat_natCast]
      exact ih _ _ (hb.drop _) (by rw [List.length_drop]; omega) (by rw [List.length_drop]; omega) (by rw [List.length_append, List.length_drop]; simp; omega)
    · simp only [if_neg c]
      exact Ev.now _
theorem getAll_ev {b : List Int} (hb : Bs b) (hl : b.length < 1099511627776) : Ev (fun k => vlq_GetAll.f k b) (getAllOf b) :=
  getAll_l b.length b [] hb (Nat.le_refl _) hl (by simp; omega)
theorem getAllR_enc {l : List Int} (h : ∀ a ∈ l, Ok a) : ∀ (d : Nat) (acc : List Int), (encAll l).length ≤ d → getAllR d (encAll l) acc = (acc ++ l, 0) := by
  induction l with
  | nil => intro d acc _; cases d <;> simp [getAllR, encAll]
  | cons a l ih =>
    intro d acc hd
    have ha := h a (by simp)
    obtain ⟨n, rfl⟩ := Int.eq_ofNat_of_zero_le ha.1
    have hn : n < 72057594037927936 := by have := ha.2; omega
    have hg := getOf_enc hn (encAll l)
    have hp := sz_pos n
    simp only [encAll, Int.toNat_natCast] at hd ⊢
    have hlen : (enc n ++ encAll l).length = sz n + (encAll l).length := by rw [List.length_append, enc_length]
    obtain ⟨d, rfl⟩ : ∃ d', d = d' + 1 := ⟨d - 1, by omega⟩
    rw [getAllR, if_neg (by omega), hg]
    simp only [if_true, Int.toNat_natCast]
    rw [← enc_length n, List.drop_left, ih (fun x hx => h x (by simp [hx])) d _ (by omega), List.append_assoc]
    rfl
theorem getAllOf_enc {l : List Int} (h : ∀ a ∈ l, Ok a) : getAllOf (encAll l) = (l, 0) := by
  rw [getAllOf, getAllR_enc h _ _ (Nat.le_refl _), List.nil_append]
theorem getAllR_back : ∀ (d : Nat) (b acc l : List Int), Bs b → b.length ≤ d → getAllR d b acc = (l, 0) → ∃ m, l = acc ++ m ∧ (∀ a ∈ m, Ok a) ∧ encAll m = b := by
  intro d
  induction d with
  | zero =>
    intro b acc l hb hd h
    rw [getAllR] at h
    simp only [Prod.mk.injEq, and_true] at h
    have : b = [] := List.eq_nil_of_length_eq_zero (by omega)
    exact ⟨[], by simp [h], by simp, by rw [this]; rfl⟩
  | succ d ih =>
    intro b acc l hb hd h
    rw [getAllR] at h
    by_cases h0 : b.length = 0
    · rw [if_pos h0] at h
      simp only [Prod.mk.injEq, and_true] at h
      have : b = [] := List.eq_nil_of_length_eq_zero h0
      exact ⟨[], by simp [h], by simp, by rw [this]; rfl⟩
    rw [if_neg h0] at h
    by_cases c : (getOf b).2.2 = 0
    · obtain ⟨m, hm, hg, h1, h2, h3⟩ := getOf_pos hb c
      rw [if_pos c, hg] at h
      simp only [Int.toNat_natCast] at h
      obtain ⟨t, ht, hok, he⟩ := ih _ _ _ (hb.drop _) (by rw [List.length_drop]; omega) h
      refine ⟨(m : Int) :: t, by rw [ht]; simp, ?_, ?_⟩
      · intro a ha
        rcases List.mem_cons.1 ha with rfl | ha
        · exact ⟨by omega, by omega⟩
        · exact hok a ha
      · rw [encAll, he, Int.toNat_natCast, ← h3, List.take_append_drop]
    · rw [if_neg c] at h
      simp only [Prod.mk.injEq] at h
      exact absurd h.2 c
theorem getAllOf_back {b l : List Int} (hb : Bs b) (h : getAllOf b = (l, 0)) : (∀ a ∈ l, Ok a) ∧ encAll l = b := by
  obtain ⟨m, hm, h1, h2⟩ := getAllR_back b.length b [] l hb (Nat.le_refl _) h
  rw [List.nil_append] at hm
  rw [hm]; exact ⟨h1, h2⟩
theorem getAllR_err : ∀ (d : Nat) (b acc : List Int), (getAllR d b acc).2 = 0 ∨ (getAllR d b acc).1 = [] := by
  intro d
  induction d with
  | zero => intro b acc; rw [getAllR]; exact .inl rfl
  | succ d ih =>
    intro b acc
    rw [getAllR]
    split
    · exact .inl rfl
    split
    · exact ih _ _
    · exact .inr rfl
end Go.Proofs.Ytoanigdnkelhhaa.Pure

/- Plain laws of layer 1: the reference's list of numbers is the program's. -/
import Derived.Test.YtoanigdnkelhhaaRefGet
import Derived.Test.YtoanigdnkelhhaaVlqGetAll
namespace Go.Proofs.Ytoanigdnkelhhaa.Pure
open Go.RowKit Go.Proofs.Ytoanigdnkelhhaa.PAll Go.Proofs.YtoanigdnkelhhaaW.PrintWords Go.Proofs.YtoanigdnkelhhaaW.PrintLast Go.Proofs.YtoanigdnkelhhaaW.PrintMore
theorem refgetAll_l (x : List Int) (hx : Bs x) (hl : x.length < 1099511627776) : ∀ (d i : Nat) (acc : List Int), (x.drop i).length ≤ d → i ≤ x.length → acc.length ≤ i → Ev (fun k => colloquyref01_GetAll.l0 k x acc (i : Int)) (getAllR d (x.drop i) acc) := by
  intro d
  induction d with
  | zero =>
    intro i acc hd hi ha
    rw [List.length_drop] at hd
    exact Ev.step (f := fun _ => some (acc, 0)) (fun k => by rw [colloquyref01_GetAll.l0, if_neg (by omega)]) (Ev.now _)
  | succ d ih =>
    intro i acc hd hi ha
    have hb := hx.drop i
    rw [getAllR]
    by_cases h0 : (x.drop i).length = 0
    · rw [if_pos h0]
      rw [List.length_drop] at h0
      exact Ev.step (f := fun _ => some (acc, 0)) (fun k => by rw [colloquyref01_GetAll.l0, if_neg (by omega)]) (Ev.now _)
    rw [if_neg h0]
    rw [List.length_drop] at h0 hd
    refine Ev.step (fun k => by rw [colloquyref01_GetAll.l0, if_pos (by omega), if_pos (Int.natCast_nonneg i), if_pos (by omega), Int.toNat_natCast]) ?_
    refine Ev.bind (refget_ev hb (by rw [List.length_drop]; omega)) ?_
    by_cases c : (getOf (x.drop i)).2.2 = 0
    · obtain ⟨m, hm, hg, h1, h2, h3⟩ := getOf_pos hb c
      rw [List.length_drop] at h2
      have e : wrap64 ((i : Int) + (sz m : Int)) = ((i + sz m : Nat) : Int) := by rw [wrap64_id (by omega) (by omega)]; omega
      rw [if_pos c, hg]
      have q1 : acc.length < 17592186044416 := by omega
      simp only [if_true, if_pos q1, Int.toNat_natCast]
      rw [e, List.drop_drop]
      exact ih (i + sz m) _ (by rw [List.length_drop]; omega) (by omega) (by rw [List.length_append]; simp; omega)
    · simp only [if_neg c]
      exact Ev.now _
theorem refgetAll_ev {b : List Int} (hb : Bs b) (hl : b.length < 1099511627776) : Ev (fun k => colloquyref01_GetAll.f k b) (getAllOf b) := by
  have := refgetAll_l b hb hl b.length 0 [] (by simp) (by omega) (by simp)
  simpa [colloquyref01_GetAll.f, getAllOf] using this
theorem same_l (l : List Int) (hl : l.length < 1099511627776) : ∀ (d i : Nat), l.length - i = d → i ≤ l.length → Ev (fun k => colloquyref01_Same.l0 k l l (i : Int)) true := by
  intro d
  induction d with
  | zero =>
    intro i hd hi
    exact Ev.step (f := fun _ => some true) (fun k => by rw [colloquyref01_Same.l0, if_neg (by omega)]) (Ev.now _)
  | succ d ih =>
    intro i hd hi
    have hlt' : (i : Int) < (l.length : Int) := by omega
    have e4 := idx_step (i := i) (by omega)
    exact Ev.step (fun k => by rw [colloquyref01_Same.l0, if_pos hlt', if_pos (Int.natCast_nonneg i), if_pos hlt', if_pos rfl, e4]) (ih (i + 1) (by omega) (by omega))
theorem same_ev {l : List Int} (hl : l.length < 1099511627776) : Ev (fun k => colloquyref01_Same.f k l l) true := by
  have := same_l l hl l.length 0 (by omega) (by omega)
  exact Ev.congr (fun k => by unfold colloquyref01_Same.f; rw [if_pos rfl]; rfl) this
theorem getAllR_len : ∀ (d : Nat) (b acc : List Int), Bs b → b.length ≤ d → (getAllR d b acc).1.length ≤ acc.length + b.length := by
  intro d
  induction d with
  | zero => intro b acc _ _; rw [getAllR]; show acc.length ≤ _; omega
  | succ d ih =>
    intro b acc hb hd
    rw [getAllR]
    split
    · show acc.length ≤ _; omega
    split
    · rename_i c
      obtain ⟨m, hm, hg, h1, h2, h3⟩ := getOf_pos hb c
      rw [hg]
      simp only [Int.toNat_natCast]
      have := ih (b.drop (sz m)) (acc ++ [(m : Int)]) (hb.drop _) (by rw [List.length_drop]; omega)
      rw [List.length_append, List.length_drop] at this
      simp at this
      omega
    · simp
end Go.Proofs.Ytoanigdnkelhhaa.Pure

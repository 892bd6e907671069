/- Plain laws of layer 4 (command): which commands may be, and what Put, and the reference's, come to. -/
import Derived.Test.YthkipipfdlepnaaPAllx4
import Derived.Test.YthkipipfdlepnaaPAllx6
import Derived.Test.YthkipipfdlepnaaVlqPutAll
namespace Go.Proofs.Ythkipipfdlepnaa.Pure
open Go.RowKit Go.Proofs.Ythkipipfdlepnaa.PAll Go.Proofs.YthkipipfdlepnaaW.PrintWords Go.Proofs.YthkipipfdlepnaaW.PrintLast Go.Proofs.YthkipipfdlepnaaW.PrintMore
set_option linter.unusedSimpArgs false
/-- What a kind needs. -/
def nu (d : Int) : Bool := decide (1 ≤ d ∧ d ≤ 7)
def nn (d : Int) : Bool := decide (5 ≤ d ∧ d ≤ 7)
def nt (d : Int) : Bool := decide (4 ≤ d ∧ d ≤ 5)
def nr (d : Int) : Bool := decide (d = 0 ∨ d = 7)
def isK (d : Int) : Bool := decide (0 ≤ d ∧ d ≤ 7)
theorem of_eq (u q d h n : Int) (t : ByteArray) : command_of.f u q d h n t = some (nu d, nn d, nt d, nr d, isK d) := by
  unfold command_of.f
  by_cases c : 0 ≤ d ∧ d ≤ 7
  · have hc : d = 0 ∨ d = 1 ∨ d = 2 ∨ d = 3 ∨ d = 4 ∨ d = 5 ∨ d = 6 ∨ d = 7 := by omega
    rcases hc with rfl | rfl | rfl | rfl | rfl | rfl | rfl | rfl <;> rfl
  · rw [if_neg (by omega), if_neg (by omega), if_neg (by omega), if_neg (by omega), if_neg (by omega), if_neg (by omega)]
    have e1 : nu d = false := decide_eq_false (by omega)
    have e2 : nn d = false := decide_eq_false (by omega)
    have e3 : nt d = false := decide_eq_false (by omega)
    have e4 : nr d = false := decide_eq_false (by omega)
    have e5 : isK d = false := decide_eq_false (by omega)
    rw [e1, e2, e3, e4, e5]
/-- A number from 1 to another one, if it is needed, or else 0. -/
def fitB (a most : Int) (nd : Bool) : Bool := if nd = true then decide (1 ≤ a ∧ a ≤ most) else decide (a = 0)
theorem fits_eq (a most : Int) (nd : Bool) : command_fits.f a most nd = some (fitB a most nd) := by
  unfold command_fits.f fitB
  cases nd with
  | true =>
    simp only [if_true]
    by_cases c : a ≥ 1
    · rw [if_pos c]
      congr 1
      exact decide_eq_decide.mpr ⟨fun x => ⟨c, x⟩, fun x => x.2⟩
    · rw [if_neg c, decide_eq_false (fun x => c x.1)]
  | false => rfl
theorem fitB_true {a most : Int} : fitB a most true = true ↔ 1 ≤ a ∧ a ≤ most := by unfold fitB; rw [if_pos rfl]; exact decide_eq_true_iff
theorem fitB_false {a most : Int} : fitB a most false = true ↔ a = 0 := by unfold fitB; rw [if_neg (by decide)]; exact decide_eq_true_iff
/-- Whether a command may be. -/
def mayB (u q d h n : Int) (t : ByteArray) : Bool :=
  isK d && (fitB u 1048576 (nu d) && (fitB q 1073741824 (nu d) && (fitB h 1048576 (nu d) && (fitB n 1073741824 (nn d) && fitB (t.size : Int) 64 (nt d)))))
theorem if_and {a b : Bool} {x : Option Bool} (h : x = some b) : (if a = true then x else some false) = some (a && b) := by cases a <;> simp [h]
theorem may_eq (u q d h n : Int) (t : ByteArray) : command_May.f u q d h n t = some (mayB u q d h n t) := by
  unfold command_May.f
  rw [of_eq]
  simp only [Option.bind_some, fits_eq]
  unfold mayB
  exact if_and (if_and (if_and (if_and (if_and rfl))))
theorem may_iff {u q d h n : Int} {t : ByteArray} : mayB u q d h n t = true ↔ isK d = true ∧ fitB u 1048576 (nu d) = true ∧ fitB q 1073741824 (nu d) = true ∧ fitB h 1048576 (nu d) = true ∧ fitB n 1073741824 (nn d) = true ∧ fitB (t.size : Int) 64 (nt d) = true := by
  simp only [mayB, Bool.and_eq_true]
theorem refin_eq (a most : Int) : colloquyref04_in.f a most = some (fitB a most true) := by
  unfold colloquyref04_in.f fitB
  rw [if_pos rfl]
  by_cases c : a ≥ 1
  · rw [if_pos c]
    congr 1
    exact decide_eq_decide.mpr ⟨fun x => ⟨c, x⟩, fun x => x.2⟩
  · rw [if_neg c, decide_eq_false (fun x => c x.1)]
theorem numbered_eq (d : Int) : colloquyref04_numbered.f d = some (nn d) := by
  unfold colloquyref04_numbered.f nn
  by_cases c5 : d = 5
  · rw [if_pos c5, decide_eq_true (by omega)]
  rw [if_neg c5]
  by_cases c6 : d = 6
  · rw [if_pos c6, decide_eq_true (by omega)]
  rw [if_neg c6]
  congr 1
  rw [Bool.eq_iff_iff, beq_iff_eq, decide_eq_true_iff]
  omega
theorem worded_eq (d : Int) : colloquyref04_worded.f d = some (nt d) := by
  unfold colloquyref04_worded.f nt
  by_cases c4 : d = 4
  · rw [if_pos c4, decide_eq_true (by omega)]
  rw [if_neg c4]
  congr 1
  rw [Bool.eq_iff_iff, beq_iff_eq, decide_eq_true_iff]
  omega
theorem toList_nil {t : ByteArray} : t.toList = ([] : List UInt8) ↔ t.size = 0 := by
  rw [ByteArray.toList_eq, ← data_length t]
  exact List.length_eq_zero_iff.symm
theorem refmay_ev (u q d h n : Int) (t : ByteArray) : Ev (fun k => colloquyref04_May.f k u q d h n t) (mayB u q d h n t) := by
  by_cases c0 : d = 0
  · subst c0
    refine Ev.congr (f := fun _ => some (mayB u q 0 h n t)) (fun k => ?_) (Ev.now _)
    unfold colloquyref04_May.f
    rw [if_pos rfl]
    congr 1
    rw [Bool.eq_iff_iff, may_iff]
    have e1 : nu 0 = false := rfl
    have e2 : nn 0 = false := rfl
    have e3 : nt 0 = false := rfl
    have e5 : isK 0 = true := rfl
    rw [e1, e2, e3, e5]
    simp only [fitB_false, Bool.and_eq_true, beq_iff_eq, toList_nil, true_and]
    omega
  · by_cases ck : 0 ≤ d ∧ d ≤ 7
    · refine Ev.congr (f := fun k => colloquyref04_May.j0 k false u q d h n t) (fun k => ?_) ?_
      · unfold colloquyref04_May.f
        rw [if_neg c0, if_neg (by omega), decide_eq_false (by omega)]
      · refine Ev.step (f := fun _ => some (mayB u q d h n t)) (fun k => ?_) (Ev.now _)
        rw [colloquyref04_May.j0, if_neg (by decide)]
        simp only [refin_eq, numbered_eq, worded_eq, Option.bind_some]
        have e1 : nu d = true := decide_eq_true (by omega)
        have e5 : isK d = true := decide_eq_true (by omega)
        unfold mayB
        rw [e1, e5]
        generalize (t.size : Int) = s
        cases fitB u 1048576 true <;> cases fitB q 1073741824 true <;> cases fitB h 1048576 true <;> try (simp; done)
        cases nn d with
        | true =>
          cases fitB n 1073741824 true <;> cases nt d <;> cases h64 : fitB s 64 true <;> simp [fitB] <;> rfl
        | false =>
          by_cases cn : n = 0
          · subst cn
            cases nt d <;> cases h64 : fitB s 64 true <;> simp [fitB] <;> rfl
          · simp [fitB, cn]
    · refine Ev.congr (f := fun k => colloquyref04_May.j0 k true u q d h n t) (fun k => ?_) ?_
      · unfold colloquyref04_May.f
        rw [if_neg c0]
        by_cases cl : d < 0
        · rw [if_pos cl]
        · rw [if_neg cl, decide_eq_true (by omega)]
      · refine Ev.step (f := fun _ => some (mayB u q d h n t)) (fun k => ?_) (Ev.now _)
        rw [colloquyref04_May.j0, if_pos rfl]
        have e5 : isK d = false := decide_eq_false ck
        simp [mayB, e5]
/-- A command's numbers. -/
def numsOf (u q d h n : Int) (t : ByteArray) : List Int := [d] ++ ((if nu d = true then [u, q, h] else []) ++ ((if nn d = true then [n] else []) ++ (if nt d = true then [(t.size : Int)] else [])))
/-- A command's bytes, or the refusal. -/
def putC (u q d h n : Int) (t : ByteArray) : List Int × Int := if mayB u q d h n t = true then (encAll (numsOf u q d h n t) ++ bytesOf t, 0) else ([], 1)
theorem nums_ok {u q d h n : Int} {t : ByteArray} (hm : mayB u q d h n t = true) : ∀ a ∈ numsOf u q d h n t, Ok a := by
  obtain ⟨h1, h2, h3, h4, h5, h6⟩ := may_iff.1 hm
  have hd : 0 ≤ d ∧ d ≤ 7 := decide_eq_true_iff.1 h1
  intro a ha
  simp only [numsOf, List.mem_append, List.mem_cons, List.not_mem_nil, or_false] at ha
  rcases ha with rfl | ha | ha | ha
  · exact ⟨by omega, by omega⟩
  · by_cases c : nu d = true
    · rw [if_pos c] at ha
      rw [c, fitB_true] at h2 h3 h4
      simp only [List.mem_cons, List.not_mem_nil, or_false] at ha
      rcases ha with rfl | rfl | rfl <;> exact ⟨by omega, by omega⟩
    · rw [if_neg c] at ha; cases ha
  · by_cases c : nn d = true
    · rw [if_pos c] at ha
      rw [c, fitB_true] at h5
      simp only [List.mem_cons, List.not_mem_nil, or_false] at ha
      subst ha; exact ⟨by omega, by omega⟩
    · rw [if_neg c] at ha; cases ha
  · by_cases c : nt d = true
    · rw [if_pos c] at ha
      rw [c, fitB_true] at h6
      simp only [List.mem_cons, List.not_mem_nil, or_false] at ha
      subst ha; exact ⟨by omega, by omega⟩
    · rw [if_neg c] at ha; cases ha
theorem nums_len (u q d h n : Int) (t : ByteArray) : (numsOf u q d h n t).length ≤ 6 := by
  unfold numsOf
  cases nu d <;> cases nn d <;> cases nt d <;> simp
theorem encAll_len {l : List Int} (h : ∀ a ∈ l, Ok a) : (encAll l).length ≤ 8 * l.length := by
  induction l with
  | nil => simp [encAll]
  | cons a l ih =>
    have h1 := ih (fun x hx => h x (by simp [hx]))
    have ha := h a (by simp)
    have h2 : sz a.toNat ≤ 8 := sz_le8 (by have := ha.1; have := ha.2; omega)
    simp only [encAll, List.length_append, enc_length, List.length_cons]
    omega
theorem size_le {u q d h n : Int} {t : ByteArray} (hm : mayB u q d h n t = true) : t.size ≤ 64 := by
  obtain ⟨h1, h2, h3, h4, h5, h6⟩ := may_iff.1 hm
  cases c : nt d with
  | true => rw [c, fitB_true] at h6; omega
  | false => rw [c, fitB_false] at h6; omega
theorem put_end {u q d h n : Int} {t : ByteArray} (hm : mayB u q d h n t = true) {l : List Int} (hl : l = numsOf u q d h n t) :
    Ev (fun k => (vlq_PutAll.f k l).bind fun r => if r.1.length + t.size < 140737488355328 then some (r.1 ++ bytesOf t, (0 : Int)) else none) (putC u q d h n t) := by
  have h8 := encAll_len (nums_ok hm)
  have h6 := nums_len u q d h n t
  have h64 := size_le hm
  subst hl
  refine Ev.bind (putAll_ev (by omega)) ?_
  rw [putAllOf_ok (nums_ok hm), putC, if_pos hm]
  exact Ev.congr (fun k => if_pos (by show (encAll _).length + t.size < _; omega)) (Ev.now _)
theorem cput_ev (u q d h n : Int) (t : ByteArray) : Ev (fun k => command_Put.f k u q d h n t) (putC u q d h n t) := by
  unfold command_Put.f
  simp only [may_eq, of_eq, Option.bind_some]
  by_cases hm : mayB u q d h n t = true
  · simp only [if_pos hm]
    obtain ⟨h1, -⟩ := may_iff.1 hm
    have hd : 0 ≤ d ∧ d ≤ 7 := decide_eq_true_iff.1 h1
    have hc : d = 0 ∨ d = 1 ∨ d = 2 ∨ d = 3 ∨ d = 4 ∨ d = 5 ∨ d = 6 ∨ d = 7 := by omega
    rcases hc with rfl | rfl | rfl | rfl | rfl | rfl | rfl | rfl
    · refine Ev.step (f := fun k => (vlq_PutAll.f k [0]).bind fun r => if r.1.length + t.size < 140737488355328 then some (r.1 ++ bytesOf t, (0 : Int)) else none) (fun k => ?_) (put_end hm rfl)
      simp [nu, nn, nt, nr, command_Put.j0]
    all_goals
      refine Ev.step (f := fun k => (vlq_PutAll.f k _).bind fun r => if r.1.length + t.size < 140737488355328 then some (r.1 ++ bytesOf t, (0 : Int)) else none) (fun k => ?_) (put_end hm rfl)
      simp [nu, nn, nt, nr, command_Put.j0, numsOf]
  · simp only [if_neg hm]
    rw [putC, if_neg hm]
    exact Ev.now _
theorem awake_ev : Ev (fun k => colloquylaw04_awake.f k) true := by
  refine Ev.bind (cput_ev 7 1 4 3 0 _) ?_
  have e : putC 7 1 4 3 0 ⟨#[104, 105]⟩ = ([4, 7, 1, 3, 2, 104, 105], 0) := by
    have s : (⟨#[104, 105]⟩ : ByteArray).size = 2 := rfl
    have b : bytesOf ⟨#[104, 105]⟩ = [104, 105] := rfl
    have m : mayB 7 1 4 3 0 ⟨#[104, 105]⟩ = true := by decide
    rw [putC, if_pos m, b]
    simp [numsOf, nu, nn, nt, s, encAll, enc_lt]
  rw [e]
  exact Ev.congr (fun k => if_pos rfl) (Ev.congr (f := fun _ => some true) (fun k => by rw [ByteArray.toList_eq]; rfl) (Ev.now _))
end Go.Proofs.Ythkipipfdlepnaa.Pure

/- Plain laws of layer 3 (record): all records that bytes are, by the program and by the reference. -/
import Derived.Test.YtdkdgghonfoccaaPAllx8
import Derived.Test.YtdkdgghonfoccaaRefRecGet
namespace Go.Proofs.Ytdkdgghonfoccaa.Pure
open Go.RowKit Go.Proofs.Ytdkdgghonfoccaa.PAll Go.Proofs.YtdkdgghonfoccaaW.PrintWords Go.Proofs.YtdkdgghonfoccaaW.PrintLast Go.Proofs.YtdkdgghonfoccaaW.PrintMore
/-- What All answers: d is at least how many bytes there are. -/
def ralls : Nat → List Int → List S24 → List S24 × Int
  | 0, _, acc => (acc, 0)
  | d + 1, b, acc => if b.length = 0 then (acc, 0) else if (rgetOf b).2.2.2 = 0 then ralls d (b.drop (rgetOf b).2.2.1.toNat) (acc ++ [⟨(rgetOf b).1, (rgetOf b).2.1⟩]) else ([], (rgetOf b).2.2.2)
theorem rget_len {b : List Int} (hb : Bs b) (h : (rgetOf b).2.2.2 = 0) : ∃ n : Nat, (rgetOf b).2.2.1 = (n : Int) ∧ 1 ≤ n ∧ n ≤ b.length := by
  obtain ⟨a, body, more, h1, h2, h3, h4⟩ := rgetOf_back hb h
  have hl := congrArg List.length h3
  rw [List.length_append] at hl
  have hf := frame_len a body
  exact ⟨(frame a body).length, by rw [h4], by omega, by omega⟩
theorem rall_l : ∀ (d : Nat) (b : List Int) (acc : List S24), Bs b → b.length ≤ d → b.length < 1099511627776 → acc.length + b.length < 1099511627776 → Ev (fun k => record_All.l0 k b acc) (ralls d b acc) := by
  intro d
  induction d with
  | zero =>
    intro b acc hb hd hl ha
    refine Ev.step (fun k => by rw [record_All.l0, if_neg (by omega), ralls]) (Ev.now _)
  | succ d ih =>
    intro b acc hb hd hl ha
    by_cases h0 : b.length = 0
    · rw [ralls, if_pos h0]
      refine Ev.step (fun k => by rw [record_All.l0, if_neg (by omega)]) (Ev.now _)
    rw [ralls, if_neg h0]
    refine Ev.step (fun k => by rw [record_All.l0, if_pos (by omega)]) ?_
    refine Ev.bind (rget_ev hb hl) ?_
    by_cases c : (rgetOf b).2.2.2 = 0
    · rw [if_pos c]
      obtain ⟨n, hn, h1, h2⟩ := rget_len hb c
      refine Ev.congr (fun k => if_pos c) (Ev.congr (fun k => if_pos (by omega)) (Ev.congr (fun k => if_pos (by omega)) (Ev.congr (fun k => if_pos (by omega)) ?_)))
      rw [hn, Int.toNat_natCast]
      exact ih _ _ (hb.drop _) (by rw [List.length_drop]; omega) (by rw [List.length_drop]; omega) (by rw [List.length_drop, List.length_append, List.length_singleton]; omega)
    · rw [if_neg c]
      exact Ev.congr (fun k => if_neg c) (Ev.now _)
theorem rall_ev {b : List Int} (hb : Bs b) (hl : b.length < 1099511627776) : Ev (fun k => record_All.f k b) (ralls b.length b []) :=
  rall_l _ _ _ hb (Nat.le_refl _) hl (by simpa using hl)
theorem refrall_l (x : List Int) (hx : Bs x) (hl : x.length < 1099511627776) : ∀ (d i : Nat) (acc : List S24), (x.drop i).length ≤ d → i ≤ x.length → acc.length ≤ i → Ev (fun k => colloquyref03_All.l0 k x acc (i : Int)) (ralls d (x.drop i) acc) := by
  intro d
  induction d with
  | zero =>
    intro i acc hd hi ha
    rw [List.length_drop] at hd
    refine Ev.step (fun k => by rw [colloquyref03_All.l0, if_neg (by omega), ralls]) (Ev.now _)
  | succ d ih =>
    intro i acc hd hi ha
    by_cases h0 : (x.drop i).length = 0
    · rw [ralls, if_pos h0]
      rw [List.length_drop] at h0
      refine Ev.step (fun k => by rw [colloquyref03_All.l0, if_neg (by omega)]) (Ev.now _)
    rw [ralls, if_neg h0]
    have hdl : (x.drop i).length = x.length - i := List.length_drop
    refine Ev.step (fun k => by rw [colloquyref03_All.l0, if_pos (by omega), if_pos (by omega), if_pos (by omega), Int.toNat_natCast]) ?_
    refine Ev.bind (refrget_ev (hx.drop i) (by omega)) ?_
    by_cases c : (rgetOf (x.drop i)).2.2.2 = 0
    · rw [if_pos c]
      obtain ⟨n, hn, h1, h2⟩ := rget_len (hx.drop i) c
      refine Ev.congr (fun k => if_pos c) (Ev.congr (fun k => if_pos (by omega)) ?_)
      rw [hn, Int.toNat_natCast, wrap64_id (by omega) (by omega), show (i : Int) + (n : Int) = ((i + n : Nat) : Int) by omega, List.drop_drop]
      exact ih (i + n) _ (by rw [List.length_drop]; omega) (by omega) (by rw [List.length_append, List.length_singleton]; omega)
    · rw [if_neg c]
      exact Ev.congr (fun k => if_neg c) (Ev.now _)
theorem refrall_ev {b : List Int} (hb : Bs b) (hl : b.length < 1099511627776) : Ev (fun k => colloquyref03_All.f k b) (ralls b.length b []) := by
  have := refrall_l b hb hl b.length 0 [] (by simp) (by omega) (by simp)
  simpa [colloquyref03_All.f] using this
theorem rsame_l (l : List S24) (hl : l.length < 1099511627776) : ∀ (d i : Nat), l.length - i = d → i ≤ l.length → Ev (fun k => colloquyref03_Same.l0 k l l (i : Int)) true := by
  intro d
  induction d with
  | zero =>
    intro i hd hi
    exact Ev.step (fun k => by rw [colloquyref03_Same.l0, if_neg (by omega)]) (Ev.now _)
  | succ d ih =>
    intro i hd hi
    refine Ev.step (fun k => by rw [colloquyref03_Same.l0, if_pos (by omega), if_pos (by omega), if_pos (by omega), if_pos rfl, if_pos rfl, idx_step (by omega)]) ?_
    exact ih (i + 1) (by omega) (by omega)
theorem rsame_ev {l : List S24} (hl : l.length < 1099511627776) : Ev (fun k => colloquyref03_Same.f k l l) true := by
  have := rsame_l l hl l.length 0 (by omega) (by omega)
  exact Ev.congr (fun k => if_pos rfl) this
theorem ralls_len : ∀ (d : Nat) (b : List Int) (acc : List S24), Bs b → (ralls d b acc).1.length ≤ acc.length + d := by
  intro d
  induction d with
  | zero => intro b acc _; exact Nat.le_refl _
  | succ d ih =>
    intro b acc hb
    rw [ralls]
    split
    · simp only; omega
    · split
      · have := ih (b.drop (rgetOf b).2.2.1.toNat) (acc ++ [⟨(rgetOf b).1, (rgetOf b).2.1⟩]) (hb.drop _)
        rw [List.length_append, List.length_singleton] at this
        omega
      · simp
/-- The bytes of records, one behind the other. -/
def framesOf : List S24 → List Int
  | [] => []
  | r :: l => frame r.f0.toNat r.f1 ++ framesOf l
def OkR (r : S24) : Prop := 0 ≤ r.f0 ∧ r.f0 ≤ 1048576 ∧ r.f1.length ≤ 1024 ∧ Bs r.f1
theorem framesOf_append (a b : List S24) : framesOf (a ++ b) = framesOf a ++ framesOf b := by
  induction a with
  | nil => rfl
  | cons r a ih => rw [List.cons_append, framesOf, framesOf, ih, List.append_assoc]
theorem framesOf_bytes {l : List S24} (h : ∀ r ∈ l, OkR r) : Bs (framesOf l) := by
  induction l with
  | nil => exact Bs.nil
  | cons r l ih => exact Bs.append (frame_bytes _ (h r (by simp)).2.2.2) (ih (fun r hr => h r (by simp [hr])))
theorem framesOf_len {l : List S24} (h : ∀ r ∈ l, OkR r) : (framesOf l).length ≤ 1033 * l.length := by
  induction l with
  | nil => exact Nat.le_refl _
  | cons r l ih =>
    have := ih (fun r hr => h r (by simp [hr]))
    obtain ⟨h0, h1, h2, _⟩ := h r (by simp)
    have := sz_kind (m := r.f0.toNat) (by omega)
    have := sz_body h2
    rw [framesOf, List.length_append, frame_len, List.length_cons]; omega
theorem ralls_frames {l : List S24} (h : ∀ r ∈ l, OkR r) : ∀ (d : Nat) (acc : List S24), (framesOf l).length ≤ d → ralls d (framesOf l) acc = (acc ++ l, 0) := by
  induction l with
  | nil =>
    intro d acc _
    cases d with
    | zero => simp [ralls]
    | succ d => simp [ralls, framesOf]
  | cons r l ih =>
    intro d acc hd
    obtain ⟨h0, h1, h2, _⟩ := h r (by simp)
    have hf := frame_len r.f0.toNat r.f1
    rw [framesOf, List.length_append] at hd
    obtain ⟨d, rfl⟩ : ∃ e, d = e + 1 := ⟨d - 1, by omega⟩
    rw [framesOf, ralls, if_neg (by rw [List.length_append]; omega), rgetOf_rec (by omega) h2, if_pos rfl]
    simp only [Int.toNat_natCast]
    rw [List.drop_left, ih (fun r hr => h r (by simp [hr])) d _ (by omega), List.append_assoc, Int.toNat_of_nonneg h0]
    rfl
end Go.Proofs.Ytdkdgghonfoccaa.Pure

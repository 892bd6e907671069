/- A region that draws its order: reads, one operation that may write, and reads again. -/
import Derived.StillTailTactics
import Derived.BigQuiet
namespace Go.Proofs.Ytfmgealooebciaa.PAll
section
variable {P : Program} {ops : Array Oper} {md : Region.Mode} {w : World}
/-- What comes behind number n waits for n, or for one behind it. -/
def lateB (md : Region.Mode) (ops : Array Oper) (n : Nat) : Bool :=
  (List.range ops.size).all fun t => decide (t ≤ n) || (List.range t).any fun s => decide (n ≤ s) && Region.waitsFor md ops t s
/-- The text's order is one of those that may be; number n comes alone; behind it the text's order again. -/
def midFrom (md : Region.Mode) (ops : Array Oper) (g : Nat) : Nat → Nat → Array Bool → Bool
  | 0, k, listed => decide (Region.ready md ops listed = [k]) && Region.lexFrom md ops g (k + 1) (listed.setIfInBounds k true)
  | f + 1, k, listed => (Region.ready md ops listed).contains k && Region.free md ops listed k && midFrom md ops g f (k + 1) (listed.setIfInBounds k true)
def midB (md : Region.Mode) (ops : Array Oper) (n : Nat) : Bool :=
  Region.noSelect ops && decide (n < ops.size) && Region.sinkB md ops n && lateB md ops n && midFrom md ops (ops.size - n - 1) n 0 (Array.replicate ops.size false)
/-- While one ahead of n is not done, none from n on may come up. -/
theorem mid_waits {n : Nat} {listed : Array Bool} (hs : Region.sinkB md ops n = true) (hl : lateB md ops n = true) (inv : HeadInv md ops n listed) {i : Nat} (hi : i < n) (hun : listed.getD i true = false) {t : Nat} (hr : t ∈ Region.ready md ops listed) : t < n := by
  obtain ⟨hut, ot, hot, hall⟩ := mem_ready.1 hr
  have hts : t < ops.size := (Array.getElem?_eq_some_iff.1 hot).1
  refine Nat.lt_of_not_le fun hnt => ?_
  have done : ∀ s, Region.waitsFor md ops t s = true → listed.getD s false = true := fun s h => by
    obtain ⟨o', ho', e, he, hb, hon⟩ := Region.waitsFor_spec h
    rw [hot] at ho'
    obtain rfl := Option.some.inj ho'
    exact hon ▸ hall e he hb
  rcases Nat.eq_or_lt_of_le hnt with rfl | hlt
  · -- all ahead of n are done: from the last one down
    have all : ∀ d i, n - i ≤ d → i < n → listed.getD i false = true := by
      intro d
      induction d with
      | zero => intro i h1 h2; omega
      | succ d ih =>
        intro i h1 h2
        have h3 := List.all_eq_true.1 hs i (List.mem_range.2 h2)
        obtain ⟨j, hj, h4⟩ := List.any_eq_true.1 h3
        simp only [Bool.and_eq_true, decide_eq_true_eq] at h4
        have hj' := List.mem_range.1 hj
        by_cases c : j = n
        · subst c; exact done i h4.2
        · obtain ⟨oj, hoj, e, he, hb, hon⟩ := Region.waitsFor_spec h4.2
          exact hon ▸ inv.closed j oj hoj (ih j (by omega) (by omega)) e he hb
    have := all n i (by omega) hi
    rw [getD_both hun] at this
    cases this
  · have h3 := List.all_eq_true.1 hl t (List.mem_range.2 hts)
    simp only [Bool.or_eq_true, decide_eq_true_eq] at h3
    rcases h3 with h3 | h3
    · omega
    · obtain ⟨s, hs1, hs2⟩ := List.any_eq_true.1 h3
      simp only [Bool.and_eq_true, decide_eq_true_eq] at hs2
      have := done s hs2.2
      rw [getD_both (inv.tail s hs2.1 (by have := List.mem_range.1 hs1; omega))] at this
      cases this
/-- A read that may come up ahead of n may come first. -/
theorem mid_first {n i : Nat} {oi : Oper} {v : Value} {L : Array Bool → Act → Prop} (ho : ops[i]? = some oi) (hsel : Region.noSelect ops = true) (hs : Region.sinkB md ops n = true) (hl : lateB md ops n = true) (hin : i < n)
    (hL : ∀ listed a, L listed a → ∀ j ∈ Region.ready md ops listed, n ≤ j) (f : Nat) : ∀ (listed : Array Bool) (a : Act), HeadInv md ops n listed →
      (∀ j oj, ops[j]? = some oj → j ≠ i → listed.getD j true = false → (∀ e ∈ oj.after, Region.binds md e = true → e.on ≠ i) → oi.apart ops oj = true) →
      i ∈ Region.ready md ops listed → YieldsAt P ops w oi v a → wpAnyL P md ops w n L f (listed.setIfInBounds i true) (a.put oi.dst v) → wpAnyL P md ops w n L (f + 1) listed a := by
  induction f with
  | zero =>
    intro listed a inv _ hr hy H
    refine ⟨fun e => (by rw [e] at hr; cases hr), fun j hj => ⟨mid_waits hs hl inv hin (mem_ready.1 hr).1 hj, ?_⟩⟩
    by_cases c : j = i
    · subst c
      exact hy.stOp ho H
    · have h1 := hL _ _ H j (ready_mono hj c)
      have h2 := mid_waits hs hl inv hin (mem_ready.1 hr).1 hj
      omega
  | succ f ih =>
    intro listed a inv hfree hr hy H
    have hun := (mem_ready.1 hr).1
    refine ⟨fun e => (by rw [e] at hr; cases hr), fun j hj => ?_⟩
    have hjn := mid_waits hs hl inv hin hun hj
    refine ⟨hjn, ?_⟩
    by_cases c : j = i
    · subst c
      exact hy.stOp ho H
    · obtain ⟨hju, oj, hoj, hall⟩ := mem_ready.1 hj
      have hno : ∀ e ∈ oj.after, Region.binds md e = true → e.on ≠ i := fun e he hb heq => by
        have := hall e he hb
        rw [heq, getD_both hun] at this
        cases this
      have sel := Region.noSelect_spec hsel
      have h2 := stOp_put hoj (hfree j oj hoj c hju hno) (fun cs b => sel i oi cs b ho) (fun cs b => sel j oj cs b hoj) hy (H.2 j (ready_mono hj c)).2
      refine stOp_mono (fun a' h3 => ih (listed.setIfInBounds j true) a' (inv.set hj hjn) (fun k ok hk hki hku hkn => hfree k ok hk hki ?_ hkn) (ready_mono hr (Ne.symm c)) h3.1 ?_) h2
      · by_cases cj : j = k
        · subst cj; exact hju
        · rwa [getD_set_ne true cj] at hku
      · rw [Array.setIfInBounds_comm _ _ c]
        exact h3.2
theorem midFrom_ready {g k : Nat} {listed : Array Bool} (h : midFrom md ops g 0 k listed = true) : ∀ j ∈ Region.ready md ops listed, k ≤ j := fun j hj => by
  simp only [midFrom, Bool.and_eq_true, decide_eq_true_eq] at h
  rw [h.1] at hj
  have : j = k := by simpa using hj
  omega
theorem mid_lex {n g : Nat} {Lq : Act → Prop} (hsel : Region.noSelect ops = true) (hs : Region.sinkB md ops n = true) (hl : lateB md ops n = true) :
    ∀ (l : List Oper) (k : Nat) (listed : Array Bool) (a : Act), (∀ j, j < l.length → l[j]? = ops[k + j]?) → k + l.length = n → HeadInv md ops n listed → midFrom md ops g l.length k listed = true → wpStill P ops w Lq l a →
    wpAnyL P md ops w n (fun listed' a' => midFrom md ops g 0 n listed' = true ∧ Lq a') l.length listed a
  | [], k, listed, a, _, hk, _, hB, h => by
    obtain rfl : k = n := by simpa using hk
    exact ⟨hB, h⟩
  | o :: l, k, listed, a, hlo, hk, inv, hB, h => by
    have h0 : ops[k]? = some o := by simpa using (hlo 0 (by simp)).symm
    rw [List.length_cons] at hk
    simp only [List.length_cons, midFrom, Bool.and_eq_true] at hB
    have hr : k ∈ Region.ready md ops listed := by simpa using hB.1.1
    have hst : stOp P ops w k (wpStill P ops w Lq l) a := by unfold stOp; simp only [h0]; exact h
    obtain ⟨v, hy, hK⟩ := yieldsAt_of_stOp h0 hst
    exact mid_first h0 hsel hs hl (by omega) (fun _ _ hL => midFrom_ready hL.1) l.length listed a inv (Region.free_spec h0 hB.1.2) hr hy
      (mid_lex hsel hs hl l (k + 1) _ _ (fun j hj => by have := hlo (j + 1) (by simp; omega); simpa [Nat.add_assoc, Nat.add_comm 1 j] using this) (by omega) (inv.set hr (by omega)) hB.2 hK)
/-- What follows. -/
structure MidThen (P : Program) (ops : Array Oper) (Q : Exit → Act → World → Prop) (rest : List Oper) (K : Act → World → Prop) : Prop where
  out : ∀ a w, wpQuiet P ops (fun w' => ∃ n, w' = w.drewN n) (fun a3 => ∀ w', (∃ n, w' = w.drewN n) → Q .normal a3 w') rest a → K a w
/-- THE LAW: reads in the text's order, then number n, then reads in the text's order. -/
theorem wp_region_mid {id : Nat} {Q : Exit → Act → World → Prop} {a : Act} {w : World} {l : List Oper} {o : Oper} (n : Nat) (hm : P.follows .mixedOrders = true) (hB : midB .any l.toArray n = true) (ho : l[n]? = some o) (hg : o.guard = none)
    (h : wpStill P l.toArray { w with drawn := w.drawn + 1 } (fun a' => ∀ K : Act → World → Prop, MidThen P l.toArray Q (l.drop (n + 1)) K → o.wp P a' { w with drawn := w.drawn + 1 } K Q) (l.take n) a) : (Code.region id l.toArray true).wp P Q a w := by
  simp only [midB, Bool.and_eq_true, decide_eq_true_eq] at hB
  obtain ⟨⟨⟨⟨hsel, hn⟩, hs⟩, hl⟩, hlex⟩ := hB
  have hn' : n < l.length := by simpa using hn
  have htl : (l.take n).length = n := by rw [List.length_take]; omega
  have hdl : (l.drop (n + 1)).length = l.toArray.size - n - 1 := by simp; omega
  have hoa : l.toArray[n]? = some o := by simpa using ho
  have inv0 : HeadInv .any l.toArray n (Array.replicate l.toArray.size false) :=
    ⟨by simp, fun j oj _ h0 => (by rw [getD_replicate_false] at h0; cases h0), fun t _ ht => getD_in (by simpa using ht) (getD_replicate_false _ _)⟩
  have H := mid_lex (md := .any) (g := l.toArray.size - n - 1) hsel hs hl (l.take n) 0 _ a (fun j hj => by
    have hj' : j < n := by rw [htl] at hj; exact hj
    simp [hj']) (by simpa using htl) inv0 (by rw [htl]; exact hlex) h
  refine wp_region_any hm ?_
  have := wpAny_of_head (Q' := Q) (g := l.toArray.size - n) (fun listed a' hL => by
    obtain ⟨hB, hK⟩ := hL
    simp only [midFrom, Bool.and_eq_true, decide_eq_true_eq] at hB
    rw [show l.toArray.size - n = (l.toArray.size - n - 1) + 1 by omega]
    refine ⟨fun e => (by rw [hB.1] at e; cases e), fun i hi => ?_⟩
    rw [hB.1] at hi
    obtain rfl : i = n := by simpa using hi
    unfold wpOp
    simp only [hoa]
    have hw : Region.wanted o (yielded l.toArray a'.tmps) = true := by simp [Region.wanted, hg]
    rw [if_pos hw]
    refine .inl (hK _ ⟨fun a2 w2 h2 => ?_⟩)
    have h3 := wpAnyQ_lex (md := .any) hsel (l.drop (i + 1)) (i + 1) (listed.setIfInBounds i true) a2 (fun j => by simp [List.getElem?_drop]) (by rw [hdl]; exact hB.2) h2
    rw [hdl] at h3
    exact wpAny_of_quiet (fun _ w' hw' h => h w' hw') _ _ _ _ ⟨0, rfl⟩ h3) _ _ _ H
  rw [htl, show n + (l.toArray.size - n) = l.toArray.size by omega] at this
  exact this
end
end Go.Proofs.Ytfmgealooebciaa.PAll

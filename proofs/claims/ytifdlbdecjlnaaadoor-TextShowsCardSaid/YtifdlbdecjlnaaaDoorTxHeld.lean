/- A region that draws its order: what only reads is taken in a given order; what calls or makes memory comes when it alone may come; a last one may write. -/
import Derived.Test.YtifdlbdecjlnaaaDoorWLast
namespace Go.Proofs.YtifdlbdecjlnaaaDoor.PAll
open Go.Proofs.YtifdlbdecjlnaaaDoorW.PrintLast
section
variable {P : Program} {ops : Array Oper} {Q : Exit → Act → World → Prop} {md : Region.Mode} {S : World → Prop} {fin : Option Nat}
/-- The last one, if there is one: nothing is asked of S behind it. -/
def heldEnd (P : Program) (ops : Array Oper) (Q : Exit → Act → World → Prop) : Option Nat → Act → World → Prop
  | none, a, w => Q .normal a w
  | some z, a, w => match ops[z]? with
    | none => False
    | some o => if Region.wanted o (yielded ops a.tmps) = true then o.wp P a w (fun a' w' => Q .normal a' w') Q else Q .normal (a.put o.dst undef) w
/-- One operation that reads, in every world of S; or one that is run. -/
def wpHeld (P : Program) (ops : Array Oper) (Q : Exit → Act → World → Prop) (S : World → Prop) (fin : Option Nat) (cs : List Nat) : List Nat → Act → World → Prop
  | [], a, w => heldEnd P ops Q fin a w
  | i :: rest, a, w => match ops[i]? with
    | none => False
    | some o => if cs.contains i then (if Region.wanted o (yielded ops a.tmps) = true then o.wp P a w (fun a' w' => S w' ∧ wpHeld P ops Q S fin cs rest a' w') Q else wpHeld P ops Q S fin cs rest (a.put o.dst undef) w)
      else ∃ v, YieldsIf P ops S o v a ∧ (∀ c a' w', Q (.panic c) (a'.put o.dst v) w' → Q (.panic c) a' w') ∧ wpHeld P ops Q S fin cs rest (a.put o.dst v) w
def heldEndB (md : Region.Mode) (ops : Array Oper) (listed : Array Bool) : Option Nat → Bool
  | none => Region.ready md ops listed == []
  | some z => Region.ready md ops listed == [z] && Region.ready md ops (listed.setIfInBounds z true) == []
def heldFrom (md : Region.Mode) (ops : Array Oper) (fin : Option Nat) (cs : List Nat) : List Nat → Array Bool → Bool
  | [], listed => heldEndB md ops listed fin
  | i :: rest, listed => (if cs.contains i then !(fin.toList.contains i) && Region.ready md ops listed == [i] else Region.free md ops listed i && (Region.ready md ops listed).contains i && Region.closedB md ops listed && Region.lastB md ops listed fin.toList i) && heldFrom md ops fin cs rest (listed.setIfInBounds i true)
theorem wpAnyLast_heldEnd (listed : Array Bool) (a : Act) (w : World) (hB : heldEndB md ops listed fin = true) (h : heldEnd P ops Q fin a w) : wpAnyLast P md ops Q S fin.toList fin.toList.length listed a w := by
  cases fin with
  | none => exact wpAnyLast_done (by simpa [heldEndB] using hB) h 0
  | some z =>
    simp only [heldEndB, Bool.and_eq_true, beq_iff_eq] at hB
    cases ho : ops[z]? with
    | none => simp only [heldEnd, ho] at h
    | some o =>
      simp only [heldEnd, ho] at h
      refine wpAnyLast_ready hB.1 (by simp) (AllReadyL.cons_last ho (by simp) (fun K hK => ?_) AllReadyL.nil)
      by_cases hw : Region.wanted o (yielded ops a.tmps) = true
      · rw [if_pos hw] at h ⊢
        exact Oper.wp_mono (fun a' w' h3 => hK.out a' w' (wpAnyLast_done hB.2 h3 0)) h
      · rw [if_neg hw] at h ⊢
        exact hK.out _ _ (wpAnyLast_done hB.2 h 0)
theorem wpAnyLast_held (hs : Region.noSelect ops = true) (cs : List Nat) : ∀ (ord : List Nat) (listed : Array Bool) (a : Act) (w : World), heldFrom md ops fin cs ord listed = true → S w → wpHeld P ops Q S fin cs ord a w → wpAnyLast P md ops Q S fin.toList (fin.toList.length + ord.length) listed a w
  | [], listed, a, w, hB, _, h => wpAnyLast_heldEnd listed a w hB h
  | i :: rest, listed, a, w, hB, hS, h => by
    simp only [heldFrom, Bool.and_eq_true] at hB
    obtain ⟨h1, h2⟩ := hB
    unfold wpHeld at h
    cases ho : ops[i]? with
    | none => rw [ho] at h; exact h.elim
    | some o =>
      simp only [ho] at h
      by_cases hc : cs.contains i = true
      · rw [if_pos hc] at h h1
        simp only [Bool.and_eq_true, beq_iff_eq, Bool.not_eq_true'] at h1
        obtain ⟨h0, h1'⟩ := h1
        refine wpAnyLast_ready h1' (by simp) (AllReadyL.cons ho (by intro hm; simp [hm] at h0) (fun K hK => ?_) AllReadyL.nil)
        by_cases hw : Region.wanted o (yielded ops a.tmps) = true
        · rw [if_pos hw] at h ⊢
          exact Oper.wp_mono (fun a' w' h3 => hK.out a' w' h3.1 (fun hS' => wpAnyLast_held hs cs rest _ a' w' h2 hS' h3.2)) h
        · rw [if_neg hw] at h ⊢
          exact hK.out _ _ hS (fun hS' => wpAnyLast_held hs cs rest _ _ w h2 hS' h)
      · rw [if_neg hc] at h h1
        simp only [Bool.and_eq_true] at h1
        obtain ⟨⟨⟨h3, h4⟩, h5⟩, h7⟩ := h1
        obtain ⟨v, hy, hq, h6⟩ := h
        exact wpAnyLast_take ho hs h3 h4 h5 h7 hq hy hS (wpAnyLast_held hs cs rest _ _ w h2 hS h6)
/-- THE LAW. -/
theorem wp_region_held {id : Nat} {a : Act} {w : World} (fin : Option Nat) (cs ord : List Nat) (hm : P.follows .mixedOrders = true) (hn : ops.size = fin.toList.length + ord.length) (hs : Region.noSelect ops = true) (hB : heldFrom .any ops fin cs ord (Array.replicate (fin.toList.length + ord.length) false) = true) (hS : S w.drew)
    (h : S w.drew → wpHeld P ops Q S fin cs ord a w.drew) : (Code.region id ops true).wp P Q a w :=
  start_ (ds := fin.toList) _ hm hn rfl hS (fun hS' => wpAnyLast_held hs cs ord _ a _ hB hS' (h hS'))
theorem held_read {cs rest : List Nat} {i : Nat} {o : Oper} {N : Option Tmp} {v : Value} {a : Act} {w : World} (ho : ops[i]? = some o) (hN : o.dst = N) (hc : cs.contains i = false) (hq : ∀ c a' w', Q (.panic c) (a'.put o.dst v) w' → Q (.panic c) a' w') (hy : YieldsIf P ops S o v a) {a' : Act} (ha : a.put N v = a') (h : wpHeld P ops Q S fin cs rest a' w) : wpHeld P ops Q S fin cs (i :: rest) a w := by
  subst ha
  subst hN
  unfold wpHeld
  simp only [ho, hc]
  exact ⟨v, hy, hq, h⟩
theorem held_run {cs rest : List Nat} {i : Nat} {o : Oper} {N : Option Tmp} {a : Act} {w : World} (ho : ops[i]? = some o) (hN : o.dst = N) (hc : cs.contains i = true)
    (h : ∀ K : Act → World → Prop, Shut (∀ a' w', S w' → wpHeld P ops Q S fin cs rest a' w' → K a' w') → if Region.wanted o (yielded ops a.tmps) = true then o.wp P a w K Q else K (a.put N undef) w) : wpHeld P ops Q S fin cs (i :: rest) a w := by
  subst hN
  unfold wpHeld
  simp only [ho, hc, if_true]
  have h1 := h (fun a' w' => S w' ∧ wpHeld P ops Q S fin cs rest a' w') (fun a' w' h1 h2 => ⟨h1, h2⟩)
  by_cases hw : Region.wanted o (yielded ops a.tmps) = true
  · rw [if_pos hw] at h1 ⊢; exact h1
  · rw [if_neg hw] at h1 ⊢; exact h1.2
theorem held_done {cs : List Nat} {a : Act} {w : World} (h : Q .normal a w) : wpHeld P ops Q S none cs [] a w := h
theorem held_last {cs : List Nat} {z : Nat} {o : Oper} {N : Option Tmp} {a : Act} {w : World} (ho : ops[z]? = some o) (hN : o.dst = N)
    (h : ∀ K : Act → World → Prop, Shut (∀ a' w', Q .normal a' w' → K a' w') → if Region.wanted o (yielded ops a.tmps) = true then o.wp P a w K Q else K (a.put N undef) w) : wpHeld P ops Q S (some z) cs [] a w := by
  subst hN
  unfold wpHeld heldEnd
  simp only [ho]
  exact h (fun a' w' => Q .normal a' w') (fun a' w' h1 => h1)
theorem held_norm {cs ord : List Nat} {a a' : Act} {w : World} (ha : a = a') (h : wpHeld P ops Q S fin cs ord a' w) : wpHeld P ops Q S fin cs ord a w := ha ▸ h
/-- What holds of all worlds may grow in the midst of the region. -/
theorem wpAnyLast_switch {S1 S2 : World → Prop} (h12 : ∀ w, S2 w → S1 w) : ∀ (fuel : Nat) (listed : Array Bool) (a : Act) (w : World), S2 w → wpAnyLast P md ops Q S2 [] fuel listed a w → wpAnyLast P md ops Q S1 [] fuel listed a w
  | 0, _, _, _, _, h => h
  | fuel + 1, listed, a, w, hS, h => ⟨h.1, fun i hi => wpOp_mono (fun a' w' h' => ⟨fun _ _ => h12 _ (h'.1 (by simp) hS), wpAnyLast_switch h12 fuel _ a' w' (h'.1 (by simp) hS) h'.2⟩) (h.2 i hi)⟩
def wpHeld2 (P : Program) (ops : Array Oper) (Q : Exit → Act → World → Prop) (S S2 : World → Prop) (cs ord2 : List Nat) : List Nat → Act → World → Prop
  | [], a, w => S2 w ∧ wpHeld P ops Q S2 none cs ord2 a w
  | i :: rest, a, w => match ops[i]? with
    | none => False
    | some o => if cs.contains i then (if Region.wanted o (yielded ops a.tmps) = true then o.wp P a w (fun a' w' => S w' ∧ wpHeld2 P ops Q S S2 cs ord2 rest a' w') Q else wpHeld2 P ops Q S S2 cs ord2 rest (a.put o.dst undef) w)
      else ∃ v, YieldsIf P ops S o v a ∧ (∀ c a' w', Q (.panic c) (a'.put o.dst v) w' → Q (.panic c) a' w') ∧ wpHeld2 P ops Q S S2 cs ord2 rest (a.put o.dst v) w
def heldFrom2 (md : Region.Mode) (ops : Array Oper) (cs ord2 : List Nat) : List Nat → Array Bool → Bool
  | [], listed => heldFrom md ops none cs ord2 listed
  | i :: rest, listed => (if cs.contains i then Region.ready md ops listed == [i] else Region.free md ops listed i && (Region.ready md ops listed).contains i && Region.closedB md ops listed && Region.lastB md ops listed [] i) && heldFrom2 md ops cs ord2 rest (listed.setIfInBounds i true)
theorem wpAnyLast_held2 {S2 : World → Prop} (h12 : ∀ w, S2 w → S w) (hs : Region.noSelect ops = true) (cs ord2 : List Nat) : ∀ (ord : List Nat) (listed : Array Bool) (a : Act) (w : World), heldFrom2 md ops cs ord2 ord listed = true → S w → wpHeld2 P ops Q S S2 cs ord2 ord a w → wpAnyLast P md ops Q S [] (ord2.length + ord.length) listed a w
  | [], listed, a, w, hB, _, h => by
    have := wpAnyLast_held (fin := none) hs cs ord2 listed a w hB h.1 h.2
    have h0 : (none : Option Nat).toList.length + ord2.length = ord2.length + ([] : List Nat).length := by simp
    rw [h0] at this
    exact wpAnyLast_switch h12 _ _ _ _ h.1 this
  | i :: rest, listed, a, w, hB, hS, h => by
    simp only [heldFrom2, Bool.and_eq_true] at hB
    obtain ⟨h1, h2⟩ := hB
    unfold wpHeld2 at h
    cases ho : ops[i]? with
    | none => rw [ho] at h; exact h.elim
    | some o =>
      simp only [ho] at h
      by_cases hc : cs.contains i = true
      · rw [if_pos hc] at h h1
        simp only [beq_iff_eq] at h1
        refine wpAnyLast_ready h1 (by simp) (AllReadyL.cons ho (by simp) (fun K hK => ?_) AllReadyL.nil)
        by_cases hw : Region.wanted o (yielded ops a.tmps) = true
        · rw [if_pos hw] at h ⊢
          exact Oper.wp_mono (fun a' w' h3 => hK.out a' w' h3.1 (fun hS' => wpAnyLast_held2 h12 hs cs ord2 rest _ a' w' h2 hS' h3.2)) h
        · rw [if_neg hw] at h ⊢
          exact hK.out _ _ hS (fun hS' => wpAnyLast_held2 h12 hs cs ord2 rest _ _ w h2 hS' h)
      · rw [if_neg hc] at h h1
        simp only [Bool.and_eq_true] at h1
        obtain ⟨⟨⟨h3, h4⟩, h5⟩, h7⟩ := h1
        obtain ⟨v, hy, hq, h6⟩ := h
        exact wpAnyLast_take ho hs h3 h4 h5 h7 hq hy hS (wpAnyLast_held2 h12 hs cs ord2 rest _ _ w h2 hS h6)
theorem wp_region_held2 {id : Nat} {a : Act} {w : World} {S2 : World → Prop} (h12 : ∀ w, S2 w → S w) (cs ord2 ord : List Nat) (hm : P.follows .mixedOrders = true) (hn : ops.size = ord2.length + ord.length) (hs : Region.noSelect ops = true) (hB : heldFrom2 .any ops cs ord2 ord (Array.replicate (ord2.length + ord.length) false) = true) (hS : S w.drew)
    (h : S w.drew → wpHeld2 P ops Q S S2 cs ord2 ord a w.drew) : (Code.region id ops true).wp P Q a w :=
  start_ (ds := []) _ hm hn rfl hS (fun hS' => wpAnyLast_held2 h12 hs cs ord2 ord _ a _ hB hS' (h hS'))
theorem held2_read {S2 : World → Prop} {cs ord2 rest : List Nat} {i : Nat} {o : Oper} {N : Option Tmp} {v : Value} {a : Act} {w : World} (ho : ops[i]? = some o) (hN : o.dst = N) (hc : cs.contains i = false) (hq : ∀ c a' w', Q (.panic c) (a'.put o.dst v) w' → Q (.panic c) a' w') (hy : YieldsIf P ops S o v a) {a' : Act} (ha : a.put N v = a') (h : wpHeld2 P ops Q S S2 cs ord2 rest a' w) : wpHeld2 P ops Q S S2 cs ord2 (i :: rest) a w := by
  subst ha
  subst hN
  unfold wpHeld2
  simp only [ho, hc]
  exact ⟨v, hy, hq, h⟩
theorem held2_run {S2 : World → Prop} {cs ord2 rest : List Nat} {i : Nat} {o : Oper} {N : Option Tmp} {a : Act} {w : World} (ho : ops[i]? = some o) (hN : o.dst = N) (hc : cs.contains i = true)
    (h : ∀ K : Act → World → Prop, Shut (∀ a' w', S w' → wpHeld2 P ops Q S S2 cs ord2 rest a' w' → K a' w') → if Region.wanted o (yielded ops a.tmps) = true then o.wp P a w K Q else K (a.put N undef) w) : wpHeld2 P ops Q S S2 cs ord2 (i :: rest) a w := by
  subst hN
  unfold wpHeld2
  simp only [ho, hc, if_true]
  have h1 := h (fun a' w' => S w' ∧ wpHeld2 P ops Q S S2 cs ord2 rest a' w') (fun a' w' h1 h2 => ⟨h1, h2⟩)
  by_cases hw : Region.wanted o (yielded ops a.tmps) = true
  · rw [if_pos hw] at h1 ⊢; exact h1
  · rw [if_neg hw] at h1 ⊢; exact h1.2
theorem held2_switch {S2 : World → Prop} {cs ord2 : List Nat} {a a' : Act} {w : World} (ha : a = a') (hS : S2 w) (h : wpHeld P ops Q S2 none cs ord2 a' w) : wpHeld2 P ops Q S S2 cs ord2 [] a w := ⟨hS, ha ▸ h⟩
end
end Go.Proofs.YtifdlbdecjlnaaaDoor.PAll

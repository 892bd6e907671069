/- A region that draws its order: what only reads is taken in a given order; what calls or makes memory comes when it alone may come. -/
import Derived.Test.YtfmgealooebciaaWLast
namespace Go.Proofs.Ytfmgealooebciaa.PAll
open Go.Proofs.YtfmgealooebciaaW.PrintLast
section
variable {P : Program} {ops : Array Oper} {Q : Exit → Act → World → Prop} {md : Region.Mode} {S : World → Prop}
/-- One operation that reads, in every world of S; or one that is run. -/
def wpHeld (P : Program) (ops : Array Oper) (Q : Exit → Act → World → Prop) (S : World → Prop) (cs : List Nat) : List Nat → Act → World → Prop
  | [], a, w => Q .normal a w
  | i :: rest, a, w => match ops[i]? with
    | none => False
    | some o => if cs.contains i then (if Region.wanted o (yielded ops a.tmps) = true then o.wp P a w (fun a' w' => S w' ∧ wpHeld P ops Q S cs rest a' w') Q else wpHeld P ops Q S cs rest (a.put o.dst undef) w)
      else ∃ v, YieldsIf P ops S o v a ∧ (∀ c a' w', Q (.panic c) (a'.put o.dst v) w' → Q (.panic c) a' w') ∧ wpHeld P ops Q S cs rest (a.put o.dst v) w
def heldFrom (md : Region.Mode) (ops : Array Oper) (cs : List Nat) : List Nat → Array Bool → Bool
  | [], listed => Region.ready md ops listed == []
  | i :: rest, listed => (if cs.contains i then Region.ready md ops listed == [i] else Region.free md ops listed i && (Region.ready md ops listed).contains i && Region.closedB md ops listed) && heldFrom md ops cs rest (listed.setIfInBounds i true)
theorem wpAnyLast_held (hs : Region.noSelect ops = true) (cs : List Nat) : ∀ (ord : List Nat) (listed : Array Bool) (a : Act) (w : World), heldFrom md ops cs ord listed = true → S w → wpHeld P ops Q S cs ord a w → wpAnyLast P md ops Q S [] ord.length listed a w
  | [], listed, a, w, hB, _, h => wpAnyLast_done (by simpa [heldFrom] using hB) h 0
  | i :: rest, listed, a, w, hB, hS, h => by
    simp only [heldFrom, Bool.and_eq_true] at hB
    obtain ⟨h1, h2⟩ := hB
    unfold wpHeld at h
    cases ho : ops[i]? with
    | none => rw [ho] at h; exact h.elim
    | some o =>
      simp only [ho] at h
      by_cases hc : cs.contains i = true
      · rw [if_pos hc] at h h1
        have h1' : Region.ready md ops listed = [i] := by simpa using h1
        refine wpAnyLast_ready h1' (by simp) (AllReadyL.cons ho (by simp) (fun K hK => ?_) AllReadyL.nil)
        by_cases hw : Region.wanted o (yielded ops a.tmps) = true
        · rw [if_pos hw] at h ⊢
          exact Oper.wp_mono (fun a' w' h3 => hK.out a' w' h3.1 (fun hS' => wpAnyLast_held hs cs rest _ a' w' h2 hS' h3.2)) h
        · rw [if_neg hw] at h ⊢
          exact hK.out _ _ hS (fun hS' => wpAnyLast_held hs cs rest _ _ w h2 hS' h)
      · rw [if_neg hc] at h h1
        simp only [Bool.and_eq_true] at h1
        obtain ⟨⟨h3, h4⟩, h5⟩ := h1
        obtain ⟨v, hy, hq, h6⟩ := h
        exact wpAnyLast_take ho hs h3 h4 h5 (by simp [Region.lastB]) hq hy hS (wpAnyLast_held hs cs rest _ _ w h2 hS h6)
/-- THE LAW. -/
theorem wp_region_held {id : Nat} {a : Act} {w : World} (cs ord : List Nat) (hm : P.follows .mixedOrders = true) (hn : ops.size = ord.length) (hs : Region.noSelect ops = true) (hB : heldFrom .any ops cs ord (Array.replicate ord.length false) = true) (hS : S w.drew)
    (h : S w.drew → wpHeld P ops Q S cs ord a w.drew) : (Code.region id ops true).wp P Q a w :=
  start_ (ds := []) _ hm hn rfl hS (fun hS' => wpAnyLast_held hs cs ord _ a _ hB hS' (h hS'))
theorem held_read {cs rest : List Nat} {i : Nat} {o : Oper} {N : Option Tmp} {v : Value} {a : Act} {w : World} (ho : ops[i]? = some o) (hN : o.dst = N) (hc : cs.contains i = false) (hq : ∀ c a' w', Q (.panic c) (a'.put o.dst v) w' → Q (.panic c) a' w') (hy : YieldsIf P ops S o v a) {a' : Act} (ha : a.put N v = a') (h : wpHeld P ops Q S cs rest a' w) : wpHeld P ops Q S cs (i :: rest) a w := by
  subst ha
  subst hN
  unfold wpHeld
  simp only [ho, hc]
  exact ⟨v, hy, hq, h⟩
theorem held_run {cs rest : List Nat} {i : Nat} {o : Oper} {N : Option Tmp} {a : Act} {w : World} (ho : ops[i]? = some o) (hN : o.dst = N) (hc : cs.contains i = true)
    (h : ∀ K : Act → World → Prop, Shut (∀ a' w', S w' → wpHeld P ops Q S cs rest a' w' → K a' w') → if Region.wanted o (yielded ops a.tmps) = true then o.wp P a w K Q else K (a.put N undef) w) : wpHeld P ops Q S cs (i :: rest) a w := by
  subst hN
  unfold wpHeld
  simp only [ho, hc, if_true]
  have h1 := h (fun a' w' => S w' ∧ wpHeld P ops Q S cs rest a' w') (fun a' w' h1 h2 => ⟨h1, h2⟩)
  by_cases hw : Region.wanted o (yielded ops a.tmps) = true
  · rw [if_pos hw] at h1 ⊢; exact h1
  · rw [if_neg hw] at h1 ⊢; exact h1.2
theorem held_done {cs : List Nat} {a : Act} {w : World} (h : Q .normal a w) : wpHeld P ops Q S cs [] a w := h
theorem held_norm {cs ord : List Nat} {a a' : Act} {w : World} (ha : a = a') (h : wpHeld P ops Q S cs ord a' w) : wpHeld P ops Q S cs ord a w := ha ▸ h
end
end Go.Proofs.Ytfmgealooebciaa.PAll

/- The reference's disk in memory. -/
import Derived.Test.YtfmgealooebciaaDiskTotal
import Derived.Test.YtfmgealooebciaaHeldOrd
import Derived.StillTailTactics
namespace Go.Proofs.Ytfmgealooebciaa.PAll
open Go.RowKit Go.Proofs.YtfmgealooebciaaW.PrintWords Go.Proofs.YtfmgealooebciaaW.PrintLast Go.Proofs.YtfmgealooebciaaW.PrintMore
set_option linter.unusedVariables false
set_option linter.unusedSimpArgs false
/-- The reference's disk: sectors in vS, those that wait in vW. -/
structure RefAt (base D : Nat) (vS vW : Value) (S : List (List Int)) (W : List (Int × List Int)) (w : World) : Prop where
  blk : w.heap[D]? = some (.cells #[vS, vW] 42 (0, 0))
  le : base ≤ D
  rs : Kd.R (Kd.slice 5 (Kd.int .u8)) 30 w base (fun _ => True) vS S
  rw : Kd.R (Kd.pair (Kd.int .i64) (Kd.slice 5 (Kd.int .u8))) 58 w base (fun _ => True) vW W
/-- Its own blocks, the sectors' bytes apart. -/
def InR (D : Nat) (vS vW : Value) (k : Nat) : Prop := k = D ∨ vS.ownBlock = some k ∨ vW.ownBlock = some k
structure RTouch (D : Nat) (vS vW : Value) (w w' : World) : Prop where
  os : w'.os = w.os
  tape : w'.tape = w.tape
  output : w'.output = w.output
  size : w.heap.size ≤ w'.heap.size
  block : ∀ k, k < w.heap.size → ¬ InR D vS vW k → w'.heap[k]? = w.heap[k]?
theorem RTouch.refl (D : Nat) (vS vW : Value) (w : World) : RTouch D vS vW w w := ⟨rfl, rfl, rfl, Nat.le_refl _, fun _ _ _ => rfl⟩
theorem RTouch.trans {D : Nat} {vS vW vS' vW' : Value} {w w' w'' : World} (h : RTouch D vS vW w w') (h' : RTouch D vS' vW' w' w'') (hi : ∀ k, InR D vS' vW' k → InR D vS vW k ∨ w.heap.size ≤ k) : RTouch D vS vW w w'' :=
  ⟨h'.os.trans h.os, h'.tape.trans h.tape, h'.output.trans h.output, Nat.le_trans h.size h'.size, fun k hk hn => (h'.block k (Nat.lt_of_lt_of_le hk h.size) (fun h2 => by rcases hi k h2 with h3 | h3; exact hn h3; omega)).trans (h.block k hk hn)⟩
theorem RTouch.below {D : Nat} {vS vW : Value} {w w' w'' : World} (h : RTouch D vS vW w w') (hb : Below w'.heap.size w' w'') : RTouch D vS vW w w'' :=
  ⟨hb.os.trans h.os, hb.tape.trans h.tape, hb.output.trans h.output, Nat.le_trans h.size hb.size, fun k hk hn => (hb.block k (Nat.lt_of_lt_of_le hk h.size)).trans (h.block k hk hn)⟩
theorem RTouch.grown {D : Nat} {vS vW : Value} {w w' w'' : World} (h : RTouch D vS vW w w') {row : Option Nat} (hg : w'.grownBy w'' row) (hr : ∀ k, row = some k → InR D vS vW k ∨ w.heap.size ≤ k) : RTouch D vS vW w w'' :=
  ⟨hg.os.trans h.os, hg.tape.trans h.tape, hg.output.trans h.output, Nat.le_trans h.size hg.size, fun k hk hn => (hg.block k (Nat.lt_of_lt_of_le hk h.size) (fun e => by rcases hr k e.symm with h3 | h3; exact hn h3; omega)).trans (h.block k hk hn)⟩
theorem RTouch.cellD {D : Nat} {vS vW : Value} {w w' : World} (h : RTouch D vS vW w w') (i : Nat) (v : Value) : RTouch D vS vW w (w'.setCell ⟨D, i, none⟩ v) :=
  ⟨h.os, h.tape, h.output, Nat.le_trans h.size (Nat.le_of_eq (by simp)), fun k hk hn => (Below.heap_setCell w' ⟨D, i, none⟩ v k (fun e => hn (.inl e))).trans (h.block k hk hn)⟩
theorem RefAt.inR {base D : Nat} {vS vW : Value} {S : List (List Int)} {W : List (Int × List Int)} {w : World} (h : RefAt base D vS vW S W w) {k : Nat} (hk : InR D vS vW k) : base ≤ k ∧ ∃ cs t, (t = 42 ∨ t = 30 ∨ t = 58) ∧ w.heap[k]? = some (.cells cs t (0, 0)) := by
  rcases hk with rfl | hk | hk
  · exact ⟨h.le, _, _, .inl rfl, h.blk⟩
  · obtain ⟨inner, ho⟩ := Kd.R_own h.rs
    obtain ⟨cs, hc⟩ := own_typed ho k hk
    exact ⟨own_base ho k hk, cs, 30, .inr (.inl rfl), hc⟩
  · obtain ⟨inner, ho⟩ := Kd.R_own h.rw
    obtain ⟨cs, hc⟩ := own_typed ho k hk
    exact ⟨own_base ho k hk, cs, 58, .inr (.inr rfl), hc⟩
theorem RefAt.lt {base D : Nat} {vS vW : Value} {S : List (List Int)} {W : List (Int × List Int)} {w : World} (h : RefAt base D vS vW S W w) {k : Nat} (hk : InR D vS vW k) : k < w.heap.size := by
  obtain ⟨_, cs, t, _, hh⟩ := h.inR hk
  exact blk_lt hh
/-- Where the blocks of its kinds are kept. -/
theorem RefAt.move {base D : Nat} {vS vW : Value} {S : List (List Int)} {W : List (Int × List Int)} {w w' : World} (h : RefAt base D vS vW S W w) (hm : ∀ (k : Nat) (cells : Array Value) (q : TypeId), (q = 42 ∨ q = 30 ∨ q = 58 ∨ q = 5) → w.heap[k]? = some (Obj.cells cells q (0, 0)) → w'.heap[k]? = w.heap[k]?) : RefAt base D vS vW S W w' := by
  refine ⟨(hm D _ 42 (.inl rfl) h.blk).trans h.blk, h.le, ?_, ?_⟩
  · refine Kd.R_mono (Kd.R_move (Kd.R_bound h.rs) (fun k hk => ?_)) (fun _ hk => hk.1)
    obtain ⟨_, _, _, q, hq, cells, hc⟩ := hk
    refine hm k cells q ?_ hc
    rcases List.mem_cons.1 hq with e | hq
    · exact .inr (.inl e)
    · rcases List.mem_cons.1 hq with e | hq
      · exact .inr (.inr (.inr e))
      · cases hq
  · refine Kd.R_mono (Kd.R_move (Kd.R_bound h.rw) (fun k hk => ?_)) (fun _ hk => hk.1)
    obtain ⟨_, _, _, q, hq, cells, hc⟩ := hk
    refine hm k cells q ?_ hc
    rcases List.mem_cons.1 hq with e | hq
    · exact .inr (.inr (.inl e))
    · rcases List.mem_cons.1 hq with e | hq
      · exact .inr (.inr (.inr e))
      · cases hq
theorem RefAt.below {base D : Nat} {vS vW : Value} {S : List (List Int)} {W : List (Int × List Int)} {w w' : World} (h : RefAt base D vS vW S W w) (hb : Below w.heap.size w w') : RefAt base D vS vW S W w' := h.move (fun k _ _ _ hh => hb.block k (blk_lt hh))
theorem RefAt.lower {base base' D : Nat} {vS vW : Value} {S : List (List Int)} {W : List (Int × List Int)} {w : World} (h : RefAt base D vS vW S W w) (hb : base' ≤ base) : RefAt base' D vS vW S W w := ⟨h.blk, Nat.le_trans hb h.le, Kd.R_lower h.rs hb, Kd.R_lower h.rw hb⟩
theorem blk_type {w : World} {k : Nat} {cs cs' : Array Value} {t t' : TypeId} (h : w.heap[k]? = some (.cells cs t (0, 0))) (h' : w.heap[k]? = some (.cells cs' t' (0, 0))) : t = t' := by
  rw [h] at h'
  injection h' with h'
  injection h' with _ h'
/-- The two disks do not meet. -/
theorem DiskAt.rtouch {base D gS cW base2 D2 : Nat} {A : Option Addr} {vS vW : Value} {S S2 : List (List Int)} {W W2 : List (Int × List Int)} {w w' : World} (h : DiskAt base D gS A cW S W w) (hr : RefAt base2 D2 vS vW S2 W2 w) (ht : RTouch D2 vS vW w w') : DiskAt base D gS A cW S W w' :=
  h.move (fun k hk => by
    obtain ⟨_, cs, t, ht', hh⟩ := h.inD hk
    refine ht.block k (blk_lt hh) (fun hi => ?_)
    obtain ⟨_, cs', t', ht2, hh'⟩ := hr.inR hi
    have := blk_type hh hh'
    rcases ht' with rfl | rfl | rfl <;> rcases ht2 with rfl | rfl | rfl <;> exact absurd this (by decide))
theorem RefAt.touch {base D gS cW base2 D2 : Nat} {A : Option Addr} {vS vW : Value} {S S2 : List (List Int)} {W W2 : List (Int × List Int)} {w w' : World} (hr : RefAt base2 D2 vS vW S2 W2 w) (h : DiskAt base D gS A cW S W w) (ht : Touch D gS A w w') : RefAt base2 D2 vS vW S2 W2 w' :=
  hr.move (fun k cells q hq hh => ht.keep (blk_lt hh) (fun hi => by
    obtain ⟨_, cs', t', ht2, hh'⟩ := h.inD hi
    have := blk_type hh hh'
    rcases ht2 with rfl | rfl | rfl <;> rcases hq with rfl | rfl | rfl | rfl <;> exact absurd this (by decide)))
theorem RTouch.bel {B base D : Nat} {vS vW : Value} {S : List (List Int)} {W : List (Int × List Int)} {w0 w w' : World} (h : RTouch D vS vW w w') (hb : Below B w0 w) (hr : RefAt base D vS vW S W w) (hB : B ≤ base) : Below B w0 w' :=
  ⟨h.os.trans hb.os, h.tape.trans hb.tape, h.output.trans hb.output, Nat.le_trans hb.size h.size, fun k hk => by
    have h1 : base ≤ w.heap.size := by have := hr.le; have := blk_lt hr.blk; omega
    exact (h.block k (by omega) (fun hi => by have := (hr.inR hi).1; omega)).trans (hb.block k hk)⟩
theorem R_types' {α : Type} {d : Kd α} {e base : Nat} {w : World} {ok : Nat → Prop} {v u : Value} {xs : List α} {t : TypeId} (h : d.R e w base ok v xs) (hu : ∀ k, u.ownBlock = some k → ∃ cells, w.heap[k]? = some (.cells cells t (0, 0))) (ht : ∀ q, q ∈ e :: d.E → q ≠ t) : d.R e w base (fun k => ok k ∧ some k ≠ u.ownBlock) v xs := by
  cases hb : u.ownBlock with
  | none => exact Kd.R_mono h (fun k hk => ⟨hk, fun e => by cases e⟩)
  | some g =>
    obtain ⟨cells, hc⟩ := hu g hb
    exact Kd.R_mono (Kd.R_types h hc ht) (fun k hk => ⟨hk.1, fun e => hk.2 (Option.some.inj e)⟩)
theorem info58 : (Try.prog.info? 58).map (fun i => (i.zero, i.size, i.bytes)) = some (some (.agg #[.int .i64 0, .slice none 0 0]), 2, 32) := by kernel_rfl
end Go.Proofs.Ytfmgealooebciaa.PAll

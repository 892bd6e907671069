/- Texts merged: RefDisk RefWrite RefWrite2 RefNew RefRead RefSync. -/
import Derived.Test.YtoafbpbnlmcklaaMDiskB
import Derived.Test.YtoafbpbnlmcklaaHeldOrd
import Derived.StillTailTactics
namespace Go.Proofs.Ytoafbpbnlmcklaa.PAll
open Go.RowKit Go.Proofs.YtoafbpbnlmcklaaW.PrintWords Go.Proofs.YtoafbpbnlmcklaaW.PrintLast Go.Proofs.YtoafbpbnlmcklaaW.PrintMore
set_option linter.unusedVariables false
set_option linter.unusedSimpArgs false
/-- The reference's disk: sectors in vS, those that wait in vW. -/
structure RefAt (base D : Nat) (vS vW : Value) (S : List (List Int)) (W : List (Int × List Int)) (w : World) : Prop where
  blk : w.heap[D]? = some (.cells #[vS, vW] 59 (0, 0))
  le : base ≤ D
  rs : Kd.R (Kd.slice 5 (Kd.int .u8)) 28 w base (fun _ => True) vS S
  rw : Kd.R (Kd.pair (Kd.int .i64) (Kd.slice 5 (Kd.int .u8))) 77 w base (fun _ => True) vW W
/-- Its own blocks, the sectors' bytes apart. -/
def InR (D : Nat) (vS vW : Value) (k : Nat) : Prop := k = D ∨ vS.ownBlock = some k ∨ vW.ownBlock = some k
structure RTouch (D : Nat) (vS vW : Value) (w w' : World) : Prop where
  os : w'.os = w.os
  tape : w'.tape = w.tape
  output : w'.output = w.output
  size : w.heap.size ≤ w'.heap.size
  block : ∀ k, k < w.heap.size → ¬ InR D vS vW k → w'.heap[k]? = w.heap[k]?
theorem RTouch.refl (D : Nat) (vS vW : Value) (w : World) : RTouch D vS vW w w := ⟨rfl, rfl, rfl, Nat.le_refl _, fun _ _ _ => rfl⟩
theorem RTouch.trans {D : Nat} {vS vW vS' vW' : Value} {w w' w'' : World} (h : RTouch D vS vW w w') (h' : RTouch D vS' vW' w' w'') (hi : ∀ k, InR D vS' vW' k → InR D vS vW k ∨ w.heap.size ≤ k) : RTouch D vS vW w w'' :=
  ⟨h'.os.trans h.os, h'.tape.trans h.tape, h'.output.trans h.output, Nat.le_trans h.size h'.size, fun k hk hn => (h'.block k (Nat.lt_of_lt_of_le hk h.size) (fun h2 => by rcases hi k h2 with h3 | h3; exact hn h3; omega)).trans (h.block k hk hn)⟩
theorem RTouch.below {D : Nat} {vS vW : Value} {w w' w'' : World} (h : RTouch D vS vW w w') (hb : Below w'.heap.size w' w'') : RTouch D vS vW w w'' :=
  ⟨hb.os.trans h.os, hb.tape.trans h.tape, hb.output.trans h.output, Nat.le_trans h.size hb.size, fun k hk hn => (hb.block k (Nat.lt_of_lt_of_le hk h.size)).trans (h.block k hk hn)⟩
theorem RTouch.grown {D : Nat} {vS vW : Value} {w w' w'' : World} (h : RTouch D vS vW w w') {row : Option Nat} (hg : w'.grownBy w'' row) (hr : ∀ k, row = some k → InR D vS vW k ∨ w.heap.size ≤ k) : RTouch D vS vW w w'' :=
  ⟨hg.os.trans h.os, hg.tape.trans h.tape, hg.output.trans h.output, Nat.le_trans h.size hg.size, fun k hk hn => (hg.block k (Nat.lt_of_lt_of_le hk h.size) (fun e => by rcases hr k e.symm with h3 | h3; exact hn h3; omega)).trans (h.block k hk hn)⟩
theorem RTouch.cellD {D : Nat} {vS vW : Value} {w w' : World} (h : RTouch D vS vW w w') (i : Nat) (v : Value) : RTouch D vS vW w (w'.setCell ⟨D, i, none⟩ v) :=
  ⟨h.os, h.tape, h.output, Nat.le_trans h.size (Nat.le_of_eq (by simp)), fun k hk hn => (Below.heap_setCell w' ⟨D, i, none⟩ v k (fun e => hn (.inl e))).trans (h.block k hk hn)⟩
theorem RefAt.inR {base D : Nat} {vS vW : Value} {S : List (List Int)} {W : List (Int × List Int)} {w : World} (h : RefAt base D vS vW S W w) {k : Nat} (hk : InR D vS vW k) : base ≤ k ∧ ∃ cs t, (t = 59 ∨ t = 28 ∨ t = 77) ∧ w.heap[k]? = some (.cells cs t (0, 0)) := by
  rcases hk with rfl | hk | hk
  · exact ⟨h.le, _, _, .inl rfl, h.blk⟩
  · obtain ⟨inner, ho⟩ := Kd.R_own h.rs
    obtain ⟨cs, hc⟩ := own_typed ho k hk
    exact ⟨own_base ho k hk, cs, 28, .inr (.inl rfl), hc⟩
  · obtain ⟨inner, ho⟩ := Kd.R_own h.rw
    obtain ⟨cs, hc⟩ := own_typed ho k hk
    exact ⟨own_base ho k hk, cs, 77, .inr (.inr rfl), hc⟩
theorem RefAt.lt {base D : Nat} {vS vW : Value} {S : List (List Int)} {W : List (Int × List Int)} {w : World} (h : RefAt base D vS vW S W w) {k : Nat} (hk : InR D vS vW k) : k < w.heap.size := by
  obtain ⟨_, cs, t, _, hh⟩ := h.inR hk
  exact blk_lt hh
/-- Where the blocks of its kinds are kept. -/
theorem RefAt.move {base D : Nat} {vS vW : Value} {S : List (List Int)} {W : List (Int × List Int)} {w w' : World} (h : RefAt base D vS vW S W w) (hm : ∀ (k : Nat) (cells : Array Value) (q : TypeId), (q = 59 ∨ q = 28 ∨ q = 77 ∨ q = 5) → w.heap[k]? = some (Obj.cells cells q (0, 0)) → w'.heap[k]? = w.heap[k]?) : RefAt base D vS vW S W w' := by
  refine ⟨(hm D _ 59 (.inl rfl) h.blk).trans h.blk, h.le, ?_, ?_⟩
  · refine Kd.R_mono (Kd.R_move (Kd.R_bound h.rs) (fun k hk => ?_)) (fun _ hk => hk.1)
    obtain ⟨_, _, _, q, hq, cells, hc⟩ := hk
    refine hm k cells q ?_ hc
    rcases List.mem_cons.1 hq with e | hq
    · exact .inr (.inl e)
    · rcases List.mem_cons.1 hq with e | hq
      · exact .inr (.inr (.inr e))
      · cases hq
  · refine Kd.R_mono (Kd.R_move (Kd.R_bound h.rw) (fun k hk => ?_)) (fun _ hk => hk.1)
    obtain ⟨_, _, _, q, hq, cells, hc⟩ := hk
    refine hm k cells q ?_ hc
    rcases List.mem_cons.1 hq with e | hq
    · exact .inr (.inr (.inl e))
    · rcases List.mem_cons.1 hq with e | hq
      · exact .inr (.inr (.inr e))
      · cases hq
theorem RefAt.below {base D : Nat} {vS vW : Value} {S : List (List Int)} {W : List (Int × List Int)} {w w' : World} (h : RefAt base D vS vW S W w) (hb : Below w.heap.size w w') : RefAt base D vS vW S W w' := h.move (fun k _ _ _ hh => hb.block k (blk_lt hh))
theorem RefAt.lower {base base' D : Nat} {vS vW : Value} {S : List (List Int)} {W : List (Int × List Int)} {w : World} (h : RefAt base D vS vW S W w) (hb : base' ≤ base) : RefAt base' D vS vW S W w := ⟨h.blk, Nat.le_trans hb h.le, Kd.R_lower h.rs hb, Kd.R_lower h.rw hb⟩
theorem blk_type {w : World} {k : Nat} {cs cs' : Array Value} {t t' : TypeId} (h : w.heap[k]? = some (.cells cs t (0, 0))) (h' : w.heap[k]? = some (.cells cs' t' (0, 0))) : t = t' := by
  rw [h] at h'
  injection h' with h'
  injection h' with _ h'
/-- The two disks do not meet. -/
theorem DiskAt.rtouch {base D gS cW base2 D2 : Nat} {A : Option Addr} {vS vW : Value} {S S2 : List (List Int)} {W W2 : List (Int × List Int)} {w w' : World} (h : DiskAt base D gS A cW S W w) (hr : RefAt base2 D2 vS vW S2 W2 w) (ht : RTouch D2 vS vW w w') : DiskAt base D gS A cW S W w' :=
  h.move (fun k hk => by
    obtain ⟨_, cs, t, ht', hh⟩ := h.inD hk
    refine ht.block k (blk_lt hh) (fun hi => ?_)
    obtain ⟨_, cs', t', ht2, hh'⟩ := hr.inR hi
    have := blk_type hh hh'
    rcases ht' with rfl | rfl | rfl <;> rcases ht2 with rfl | rfl | rfl <;> exact absurd this (by decide))
theorem RefAt.touch {base D gS cW base2 D2 : Nat} {A : Option Addr} {vS vW : Value} {S S2 : List (List Int)} {W W2 : List (Int × List Int)} {w w' : World} (hr : RefAt base2 D2 vS vW S2 W2 w) (h : DiskAt base D gS A cW S W w) (ht : Touch D gS A w w') : RefAt base2 D2 vS vW S2 W2 w' :=
  hr.move (fun k cells q hq hh => ht.keep (blk_lt hh) (fun hi => by
    obtain ⟨_, cs', t', ht2, hh'⟩ := h.inD hi
    have := blk_type hh hh'
    rcases ht2 with rfl | rfl | rfl <;> rcases hq with rfl | rfl | rfl | rfl <;> exact absurd this (by decide)))
theorem RTouch.bel {B base D : Nat} {vS vW : Value} {S : List (List Int)} {W : List (Int × List Int)} {w0 w w' : World} (h : RTouch D vS vW w w') (hb : Below B w0 w) (hr : RefAt base D vS vW S W w) (hB : B ≤ base) : Below B w0 w' :=
  ⟨h.os.trans hb.os, h.tape.trans hb.tape, h.output.trans hb.output, Nat.le_trans hb.size h.size, fun k hk => by
    have h1 : base ≤ w.heap.size := by have := hr.le; have := blk_lt hr.blk; omega
    exact (h.block k (by omega) (fun hi => by have := (hr.inR hi).1; omega)).trans (hb.block k hk)⟩
theorem R_types' {α : Type} {d : Kd α} {e base : Nat} {w : World} {ok : Nat → Prop} {v u : Value} {xs : List α} {t : TypeId} (h : d.R e w base ok v xs) (hu : ∀ k, u.ownBlock = some k → ∃ cells, w.heap[k]? = some (.cells cells t (0, 0))) (ht : ∀ q, q ∈ e :: d.E → q ≠ t) : d.R e w base (fun k => ok k ∧ some k ≠ u.ownBlock) v xs := by
  cases hb : u.ownBlock with
  | none => exact Kd.R_mono h (fun k hk => ⟨hk, fun e => by cases e⟩)
  | some g =>
    obtain ⟨cells, hc⟩ := hu g hb
    exact Kd.R_mono (Kd.R_types h hc ht) (fun k hk => ⟨hk.1, fun e => hk.2 (Option.some.inj e)⟩)
theorem info58 : (Try.prog.info? 77).map (fun i => (i.zero, i.size, i.bytes)) = some (some (.agg #[.int .i64 0, .slice none 0 0]), 2, 32) := by kernel_rfl
end Go.Proofs.Ytoafbpbnlmcklaa.PAll

namespace Go.Proofs.Ytoafbpbnlmcklaa.PAll
open Go.RowKit Go.Proofs.YtoafbpbnlmcklaaW.PrintWords Go.Proofs.YtoafbpbnlmcklaaW.PrintLast Go.Proofs.YtoafbpbnlmcklaaW.PrintMore
set_option linter.unusedVariables false
set_option linter.unusedSimpArgs false
theorem info5' : ∃ i, Try.prog.info? 5 = some i ∧ i.size = 1 := ⟨(Try.prog.info? 5).get (by kernel_rfl), (Option.some_get _).symm, by kernel_rfl⟩
theorem own_some {w : World} {base : Nat} {e : TypeId} {size n : Nat} {v : Value} {xs : List Value} (h : w.ownsRow base e size v n xs) (hn : 0 < n) : ∃ g c, v = .slice (some ⟨g, 0, none⟩) n c := by
  rcases h.2 with ⟨_, h0⟩ | ⟨g, cap, cur, he, _⟩
  · omega
  · exact ⟨g, cap, he⟩
set_option maxHeartbeats 2000000 in
set_option maxRecDepth 100000 in
theorem refput_walk (base D : Nat) (vS vW : Value) (S : List (List Int)) (W : List (Int × List Int)) (i : Int) (b : List Int) (Ab : Option Addr) (cb n : Nat) (w : World) (h : RefAt base D vS vW S W w) (hb : Kd.C (Kd.int .u8) w Ab 16 b) (hcb : 16 ≤ cb) (h0 : 0 ≤ i) (h1 : i < (S.length : Int)) (hs : (S.getD i.toNat []).length = 16) (hn : n ≤ 16) :
    Calls Try.prog 42 #[.pointer (some ⟨D, 0, none⟩), .agg #[.int .i64 i, .slice Ab 16 cb], .int .i64 (n : Int)] w fun x w' => x = .returned (.tuple #[]) ∧ RefAt base D vS vW (S.set i.toNat (b.take n ++ (S.getD i.toNat []).drop n)) W w' ∧ RTouch D vS vW w w' := by
  obtain ⟨inner, hown⟩ := Kd.R_own h.rs
  obtain ⟨g, cS, rfl⟩ := own_some hown (by omega)
  have H := Aside0.mk h
  have HBb := Aside0.mk hb
  have HBL := Aside0.mk (show b.length = 16 from hb.1)
  have HV := Aside0.mk (And.intro h0 h1)
  have HS := Aside0.mk hs
  have HN := Aside0.mk hn
  have HCB := Aside0.mk hcb
  obtain ⟨i5, hi5, hz5⟩ := info5'
  have hcutA := cut_to (P := Try.prog) 28 5 .i64 Try.underlying28 hi5 Ab 16 cb (n : Int) (Int.natCast_nonneg n) (by omega) hcb
  rw [Int.toNat_natCast] at hcutA
  have p2 := eq_true h0
  have p3 := eq_true h1
  have HCT := Aside0.mk (show ∀ W, Kd.C (Kd.int .u8) W Ab 16 b → Kd.C (Kd.int .u8) W Ab n (b.take n) from fun W hW => by
    have hW' : Kd.C (Kd.int .u8) W Ab b.length b := by rw [HBL.out]; exact hW
    have := Kd.C_take hW' (m := n) (by rw [HBL.out]; exact HN.out)
    rwa [List.length_take, HBL.out, Nat.min_eq_left HN.out] at this)
  have HI5 := Aside0.mk hi5
  have HZ5 := Aside0.mk hz5
  clear h hb hown hs hn hcb hi5 hz5 h0 h1
  go_enter Try.func42, Try.ntmps42
  go_wp2_with ((with_reducible refine gate_builtin (b := .append) (xs := #[.const (.slice none 0 0), .tmp 10]) rfl ?_); at_builtin; refine Kd.R_append_rows (Kd.int .u8) (w0 := w) w.heap.size rfl (.const (.slice none 0 0)) (.tmp 10) 28 5 (.int .u8 0) 1 rfl Try.underlying28 info5 rfl (by decide) (by omega) (.slice none 0 0) [] (b.take n) Ab n cb (fun _ => True) (fun _ => False) rfl rfl (Kd.R_nil _ _ _ _ _) (HCT.out _ (Kd.C_alloc HBb.out _)) (fun _ _ h => h) (fun _ h => h.elim) (fun _ _ => trivial) (below_alloc (Below.refl _ _) _) ?aS ?aL ?_; (case aS => simp); (case aL => have := HN.out; simp; omega); intro v1 w1 ho hb1 hg hat; have HO1 := Aside0.mk ho; have HB1 := Aside0.mk hb1; have HG1 := Aside0.mk hg; clear ho hb1 hg hat)
  rw [List.nil_append] at HO1
  have H1 := Aside0.mk (H.out.below HB1.out)
  have HX1 := Aside0.mk (blk_grown (blk_new w (.cells #[.int .i64 i, .slice Ab 16 cb] 77)) HG1.out (by simp [Value.ownBlock]))
  obtain ⟨ad, A0, c0, e0, hx0, hl0, hi0⟩ := at_L1 (Kd.R_reads' H1.out.rs).2.2 i HV.out.1 HV.out.2
  cases e0
  rw [add_plain] at hx0
  rw [show rd_L1 S i = S.getD i.toNat [] from rfl] at hx0 hl0 hi0
  rw [HS.out] at hx0 hl0 hi0
  have hd0 := blk_cell HX1.out 0
  have hD0 := blk_cell H1.out.blk 0
  have hcutB := cut_from (P := Try.prog) 28 5 .i64 Try.underlying28 HI5.out 1 HZ5.out A0 16 c0 (n : Int) (Int.natCast_nonneg n) (by have := HN.out; omega)
  rw [Int.toNat_natCast] at hcutB
  obtain ⟨A1, hA1⟩ : ∃ A1, A1 = (if c0 = n then A0 else A0.map (·.add (n * 1))) := ⟨_, rfl⟩
  rw [← hA1] at hcutB
  have HCB1 := Aside0.mk (show Kd.C (Kd.int .u8) w1 A1 (16 - n) ((S.getD i.toNat []).drop n) from by
    have hC : Kd.C (Kd.int .u8) w1 A0 (S.getD i.toNat []).length (S.getD i.toNat []) := by rw [HS.out]; exact hi0
    have := Kd.C_drop hC (m := n) (c := c0) (by rw [HS.out]; exact HN.out) (by rw [HS.out]; exact hl0)
    rw [List.length_drop, HS.out] at this
    rw [hA1]; exact this)
  clear hi0 hl0 hA1
  obtain ⟨Av1, cv1, e1⟩ := Kd.R_slice HO1.out
  rw [show (b.take n).length = n by rw [List.length_take, HBL.out, Nat.min_eq_left HN.out]] at e1
  subst e1
  go_still_tail 11, (by kernel_rfl)
  change wpList _ _ _ _ _ w1.drew
  clear hx0 hd0 hD0 hcutB
  go_wp2_with ((with_reducible refine gate_builtin (b := .append) (xs := #[.tmp 12, .tmp 22]) rfl ?_); at_builtin; refine Kd.R_append_rows (Kd.int .u8) (w0 := w) w.heap.size rfl (.tmp 12) (.tmp 22) 28 5 (.int .u8 0) 1 rfl Try.underlying28 info5 rfl (by decide) (by omega) (.slice Av1 n cv1) (b.take n) ((S.getD i.toNat []).drop n) A1 (16 - n) (c0 - n) (fun _ => True) (fun _ => False) rfl rfl (Kd.R_drew HO1.out) (Kd.C_below HCB1.out (below_drew (Below.refl _ _))) (fun _ _ h => h) (fun _ h => h.elim) (fun _ _ => trivial) (below_drew HB1.out) ?aS ?aL ?_; (case aS => exact HB1.out.size); (case aL => have := HN.out; have := HBL.out; simp; omega); intro v2 w2 ho hb2 hg hat; have HO2 := Aside0.mk ho; have HB2 := Aside0.mk hb2; have HG2 := Aside0.mk hg; clear ho hb2 hg hat)
  have H2 := Aside0.mk (H.out.below HB2.out)
  have HX2 := Aside0.mk (blk_grown (blk_drew HX1.out) HG2.out (Kd.R_ne HO1.out HX1.out (by decide)))
  obtain ⟨ad, A0', c0', e0, hx0, hl0, hi0⟩ := at_L1 (Kd.R_reads' H2.out.rs).2.2 i HV.out.1 HV.out.2
  cases e0
  rw [add_plain] at hx0
  rw [show rd_L1 S i = S.getD i.toNat [] from rfl, HS.out] at hx0
  have HC0 := Aside0.mk hx0
  clear hl0 hi0 hx0
  have hd0 := blk_cell HX2.out 0
  have hD0 := blk_cell H2.out.blk 0
  go_still_tail 8, (by kernel_rfl)
  change wpList _ _ _ _ _ w2.drew
  clear hd0 hD0
  obtain ⟨inner2, hown2⟩ := Kd.R_own H2.out.rs
  obtain ⟨cells2, hc2⟩ := own_typed hown2 g (by simp [Value.ownBlock])
  have HC2 := Aside0.mk hc2
  clear hown2 hc2 inner2
  refine Kd.R_store (Kd.slice 5 (Kd.int .u8)) (w0 := w) base rfl rfl 28 (.tmp 31) (.tmp 30) rfl 28 i 0 S (b.take n ++ (S.getD i.toNat []).drop n) v2 [v2] [.slice A0' 16 c0'] (fun _ => True) (fun k => True ∧ k ≠ g) rfl (by show i.toNat = i.toNat * 1 + 0; omega) rfl ?hu (by kernel_rfl) ?hone (Kd.R_drew H2.out.rs) HV.out.1 HV.out.2 rfl ?hcc (Nat.le_refl 1) ?hM (fun _ hk => hk) ?hB ?_
  case hu =>
    obtain ⟨A, c, e⟩ := Kd.R_slice HO2.out
    subst e
    rfl
  case hone =>
    obtain ⟨A, c, e⟩ := Kd.R_slice HO2.out
    subst e
    intro q hq
    rw [List.mem_singleton] at hq
    subst hq
    rfl
  case hcc =>
    intro j u hu
    cases j with
    | succ j => simp at hu
    | zero =>
      simp only [List.getElem?_cons_zero, Option.some.injEq] at hu
      subst hu
      have := HC0.out
      show w2.drew.cell? ⟨g, i.toNat * 1 + 0, none⟩ = _
      rw [Nat.mul_one, Nat.add_zero]
      exact this
  case hM => exact ⟨v2, rfl, Kd.R_drew (Kd.R_lower (Kd.R_types HO2.out HC2.out (by decide)) (Nat.le_trans H.out.le (Nat.le_of_lt (blk_lt H.out.blk))))⟩
  case hB => exact below_drew (HB2.out.mono (Nat.le_trans H.out.le (Nat.le_of_lt (blk_lt H.out.blk))))
  intro w3 ho3 hb3 hg3
  have HO3 := Aside0.mk ho3
  have HG3 := Aside0.mk hg3
  clear ho3 hb3 hg3
  go_wp2
  go_end0
  have hne : D ≠ g := blk_ne H2.out.blk HC2.out (by decide)
  refine ⟨rfl, ⟨blk_grown (blk_drew H2.out.blk) HG3.out (fun e => hne (Option.some.inj e)), H.out.le, HO3.out, ?_⟩, ?_⟩
  · refine Kd.R_mono (Kd.R_grown (Kd.R_types (Kd.R_drew H2.out.rw) (blk_drew HC2.out) (by decide)) HG3.out (fun k hk e => hk.2 (Option.some.inj e))) (fun _ _ => trivial)
  · exact (((RTouch.refl D _ _ w).below HB2.out).below (below_drew (Below.refl _ _))).grown HG3.out (fun k hk => .inl (.inr (.inl (by rw [← hk]; rfl))))
end Go.Proofs.Ytoafbpbnlmcklaa.PAll

namespace Go.Proofs.Ytoafbpbnlmcklaa.PAll
open Go.RowKit Go.Proofs.YtoafbpbnlmcklaaW.PrintWords Go.Proofs.YtoafbpbnlmcklaaW.PrintLast Go.Proofs.YtoafbpbnlmcklaaW.PrintMore
set_option linter.unusedVariables false
set_option linter.unusedSimpArgs false
set_option maxHeartbeats 1000000 in
set_option maxRecDepth 100000 in
theorem refwrite_no (base D : Nat) (AS : Option Addr) (cS : Nat) (vW : Value) (Ab : Option Addr) (S : List (List Int)) (W : List (Int × List Int)) (i : Int) (n cb : Nat) (w : World) (h : RefAt base D (.slice AS S.length cS) vW S W w)
    (hi : (decide (i < 0) = true) ∨ (decide (i < 0) = false ∧ decide (i ≥ (S.length : Int)) = true) ∨ (decide (i < 0) = false ∧ decide (i ≥ (S.length : Int)) = false ∧ ((n : Int) != 16) = true)) :
    Calls Try.prog 19 #[.pointer (some ⟨D, 0, none⟩), .int .i64 i, .slice Ab n cb] w fun x w' => x = .returned (.int .i64 1) ∧ w' = w := by
  have q0 : w.cell? ⟨D, 0, none⟩ = some (.slice AS S.length cS) := (blk_cell h.blk 0).trans rfl
  clear h
  rcases hi with hi | ⟨hi, hj⟩ | ⟨hi, hj, hk⟩
  all_goals
    go_enter Try.func19, Try.ntmps19
    go_wp2
    go_ret
    exact ⟨rfl, rfl⟩
set_option maxHeartbeats 2000000 in
set_option maxRecDepth 100000 in
theorem refwrite_yes (base D : Nat) (AS : Option Addr) (cS : Nat) (vW : Value) (S : List (List Int)) (W : List (Int × List Int)) (i : Int) (b : List Int) (Ab : Option Addr) (cb : Nat) (w : World) (h : RefAt base D (.slice AS S.length cS) vW S W w) (hb : Kd.C (Kd.int .u8) w Ab 16 b)
    (hi : decide (i < 0) = false) (hj : decide (i ≥ (S.length : Int)) = false) (hn : W.length < 1099511627776) :
    Calls Try.prog 19 #[.pointer (some ⟨D, 0, none⟩), .int .i64 i, .slice Ab 16 cb] w fun x w' => x = .returned (.int .i64 0) ∧ ∃ vW', RefAt base D (.slice AS S.length cS) vW' S (W ++ [(i, b)]) w' ∧ RTouch D (.slice AS S.length cS) vW w w' ∧ (∀ k, vW'.ownBlock = some k → vW.ownBlock = some k ∨ w.heap.size ≤ k) := by
  have q0 : w.cell? ⟨D, 0, none⟩ = some (.slice AS S.length cS) := (blk_cell h.blk 0).trans rfl
  have H := Aside0.mk h
  have HBb := Aside0.mk hb
  have HN := Aside0.mk hn
  clear h hb hn
  go_enter Try.func19, Try.ntmps19
  go_wp2_with fail
  refine wp_region_held (S := fun U => U.cell? ⟨D, 1, none⟩ = some vW) (some 13) [7, 8, 9, 10] [0, 1, 2, 3, 4, 5, 6, 7, 8, 9, 10, 11, 12] (by kernel_rfl) rfl (by kernel_rfl) (by kernel_rfl) ((blk_cell (blk_drew H.out.blk) 1).trans rfl) (fun hHeld => ?_)
  refine held_read (i := 0) (N := (some 23)) (v := ?_) (a' := ?_) rfl rfl rfl (fun _ _ _ h => h) (Or.inl ⟨by rfl, ?_⟩) ?_ ?_
  rotate_left
  · intro w' hS
    go_simp
    with_reducible rfl
  rotate_left
  · simp only [Act.put, List.setIfInBounds_toArray, List.set_cons_zero, List.set_cons_succ, Go.Proofs.YtoafbpbnlmcklaaW.PrintLast.i64_w, Go.Proofs.YtoafbpbnlmcklaaW.PrintLast.i32_w]
    rfl
  refine held_read (i := 1) (N := (some 24)) (v := ?_) (a' := ?_) rfl rfl rfl (fun _ _ _ h => h) (Or.inl ⟨by rfl, ?_⟩) ?_ ?_
  rotate_left
  · intro w' hS
    go_simp
    with_reducible rfl
  rotate_left
  · simp only [Act.put, List.setIfInBounds_toArray, List.set_cons_zero, List.set_cons_succ, Go.Proofs.YtoafbpbnlmcklaaW.PrintLast.i64_w, Go.Proofs.YtoafbpbnlmcklaaW.PrintLast.i32_w]
    rfl
  refine held_read (i := 2) (N := (some 25)) (v := ?_) (a' := ?_) rfl rfl rfl (fun _ _ _ h => h) (Or.inl ⟨by rfl, ?_⟩) ?_ ?_
  rotate_left
  · intro w' hS
    go_simp
    with_reducible rfl
  rotate_left
  · simp only [Act.put, List.setIfInBounds_toArray, List.set_cons_zero, List.set_cons_succ, Go.Proofs.YtoafbpbnlmcklaaW.PrintLast.i64_w, Go.Proofs.YtoafbpbnlmcklaaW.PrintLast.i32_w]
    rfl
  refine held_read (i := 3) (N := (some 26)) (v := ?_) (a' := ?_) rfl rfl rfl (fun _ _ _ h => h) (Or.inl ⟨by rfl, ?_⟩) ?_ ?_
  rotate_left
  · intro w' hS
    go_simp
    with_reducible rfl
  rotate_left
  · simp only [Act.put, List.setIfInBounds_toArray, List.set_cons_zero, List.set_cons_succ, Go.Proofs.YtoafbpbnlmcklaaW.PrintLast.i64_w, Go.Proofs.YtoafbpbnlmcklaaW.PrintLast.i32_w]
    rfl
  refine held_read (i := 4) (N := (some 27)) (v := ?_) (a' := ?_) rfl rfl rfl (fun _ _ _ h => h) (Or.inl ⟨by rfl, ?_⟩) ?_ ?_
  rotate_left
  · intro w' hS
    go_simp
    with_reducible rfl
  rotate_left
  · simp only [Act.put, List.setIfInBounds_toArray, List.set_cons_zero, List.set_cons_succ, Go.Proofs.YtoafbpbnlmcklaaW.PrintLast.i64_w, Go.Proofs.YtoafbpbnlmcklaaW.PrintLast.i32_w]
    rfl
  refine held_read (i := 5) (N := (some 28)) (v := ?_) (a' := ?_) rfl rfl rfl (fun _ _ _ h => h) (Or.inl ⟨by rfl, ?_⟩) ?_ ?_
  rotate_left
  · intro w' hS
    go_simp
    with_reducible rfl
  rotate_left
  · simp only [Act.put, List.setIfInBounds_toArray, List.set_cons_zero, List.set_cons_succ, Go.Proofs.YtoafbpbnlmcklaaW.PrintLast.i64_w, Go.Proofs.YtoafbpbnlmcklaaW.PrintLast.i32_w]
    rfl
  refine held_read (i := 6) (N := (some 29)) (v := ?_) (a' := ?_) rfl rfl rfl (fun _ _ _ h => h) (Or.inl ⟨by rfl, ?_⟩) ?_ ?_
  rotate_left
  · intro w' hS
    go_simp
    with_reducible rfl
  rotate_left
  · simp only [Act.put, List.setIfInBounds_toArray, List.set_cons_zero, List.set_cons_succ, Go.Proofs.YtoafbpbnlmcklaaW.PrintLast.i64_w, Go.Proofs.YtoafbpbnlmcklaaW.PrintLast.i32_w]
    rfl
  refine held_run (i := 7) (N := (some 30)) rfl rfl rfl (fun K hK => ?_)
  refine Kd.R_append_rows_step (Kd.int .u8) (w0 := w) w.heap.size (by rfl) (.const (.slice none 0 0)) (.tmp 29) 28 5 (.int .u8 0) 1 rfl Try.underlying28 info5 rfl (by decide) (by omega) (.slice none 0 0) [] b Ab 16 cb (fun _ => True) (fun _ => False) rfl rfl (Kd.R_nil _ _ _ _ _) (Kd.C_below HBb.out (below_drew (Below.refl _ _))) (fun _ _ h => h) (fun _ h => h.elim) (fun _ _ => trivial) (below_drew (Below.refl _ _)) ?aS ?aL ?_
  case aS => exact Nat.le_refl _
  case aL => decide
  intro v1 w1 ho hb1 hg hat
  rw [List.nil_append] at ho
  have HO1 := Aside0.mk ho
  have HB1 := Aside0.mk hb1
  have H1 := Aside0.mk (H.out.below hb1)
  clear ho hb1 hg hat
  refine hK.out _ _ ((blk_cell H1.out.blk 1).trans rfl) ?_
  clear hK K
  refine held_norm (a' := ?_) ?_ ?_
  rotate_left
  · simp only [Act.put, List.setIfInBounds_toArray, List.set_cons_zero, List.set_cons_succ, Go.Proofs.YtoafbpbnlmcklaaW.PrintLast.i64_w, Go.Proofs.YtoafbpbnlmcklaaW.PrintLast.i32_w]
    rfl
  obtain ⟨Av1, cv1, e1⟩ := Kd.R_slice HO1.out
  subst e1
  refine held_run (i := 8) (N := (some 31)) rfl rfl rfl (fun K hK => ?_)
  go_simp
  refine hK.out _ _ ((blk_cell H1.out.blk 1).trans rfl) ?_
  clear hK K
  refine held_run (i := 9) (N := (some 32)) rfl rfl rfl (fun K hK => ?_)
  go_simp
  refine hK.out _ _ ((blk_cell (blk_alloc H1.out.blk _) 1).trans rfl) ?_
  clear hK K
  refine held_run (i := 10) (N := (some 33)) rfl rfl rfl (fun K hK => ?_)
  refine Kd.R_append_step (Kd.pair (Kd.int .i64) (Kd.slice 5 (Kd.int .u8))) (w0 := w) (W := w1) base (by rfl) (.tmp 27) (.tmp 32) 57 77 (.agg #[.int .i64 0, .slice none 0 0]) 32 rfl Try.underlying57 info58 rfl (by decide) (by omega) vW W (i, b) [.int .i64 i, .slice Av1 b.length cv1] (fun _ => True) (fun k => True ∧ some k ≠ vW.ownBlock) rfl rfl ?aP (fun _ hk => hk) (fun _ _ => trivial) H1.out.rw ?aB ?aC ?aL ?_
  case aP =>
    obtain ⟨inner, hown⟩ := Kd.R_own H1.out.rw
    have hne : ∀ k, vW.ownBlock = some k → ∃ cells, w1.heap[k]? = some (.cells cells 77 (0, 0)) := fun k hk => own_typed hown k hk
    refine ⟨[.int .i64 i], [.slice Av1 b.length cv1], rfl, rfl, _, rfl, ?_⟩
    have hle : base ≤ w.heap.size := Nat.le_trans H.out.le (Nat.le_of_lt (blk_lt H.out.blk))
    refine Kd.R_mono (Kd.R_bound (Kd.R_lower HO1.out hle)) (fun k hk => ⟨trivial, fun e => ?_⟩)
    obtain ⟨_, _, _, q, hq, cells, hc⟩ := hk
    obtain ⟨cells', hc'⟩ := hne k e.symm
    have e5 : q = 5 := by
      rcases List.mem_cons.1 hq with h1 | h1
      · exact h1
      · cases h1
    have := blk_type hc hc'
    rw [e5] at this
    exact absurd this (by decide)
  case aB => exact HB1.out.mono (Nat.le_trans H.out.le (Nat.le_of_lt (blk_lt H.out.blk)))
  case aC => exact Nat.le_trans H1.out.le (Nat.le_of_lt (blk_lt H1.out.blk))
  case aL => have := HN.out; omega
  intro v2 w2 ho hb2 hg hat
  obtain ⟨inner, hown⟩ := Kd.R_own H1.out.rw
  have hDW : some D ≠ vW.ownBlock := Kd.R_ne H1.out.rw H1.out.blk (by decide)
  have HO2 := Aside0.mk ho
  have HG2 := Aside0.mk hg
  have HAT := Aside0.mk hat
  have HD2 := Aside0.mk (blk_grown H1.out.blk hg hDW)
  clear ho hb2 hg hat
  refine hK.out _ _ ((blk_cell HD2.out 1).trans rfl) ?_
  clear hK K
  refine held_norm (a' := ?_) ?_ ?_
  rotate_left
  · simp only [Act.put, List.setIfInBounds_toArray, List.set_cons_zero, List.set_cons_succ, Go.Proofs.YtoafbpbnlmcklaaW.PrintLast.i64_w, Go.Proofs.YtoafbpbnlmcklaaW.PrintLast.i32_w]
    rfl
  refine held_read (i := 11) (N := (some 34)) (v := ?_) (a' := ?_) rfl rfl rfl (fun _ _ _ h => h) (Or.inl ⟨by rfl, ?_⟩) ?_ ?_
  rotate_left
  · intro w' hS
    go_simp
    with_reducible rfl
  rotate_left
  · simp only [Act.put, List.setIfInBounds_toArray, List.set_cons_zero, List.set_cons_succ, Go.Proofs.YtoafbpbnlmcklaaW.PrintLast.i64_w, Go.Proofs.YtoafbpbnlmcklaaW.PrintLast.i32_w]
    rfl
  refine held_read (i := 12) (N := (some 35)) (v := ?_) (a' := ?_) rfl rfl rfl (fun _ _ _ h => h) (Or.inl ⟨by rfl, ?_⟩) ?_ ?_
  rotate_left
  · intro w' hS
    go_simp
    with_reducible rfl
  rotate_left
  · simp only [Act.put, List.setIfInBounds_toArray, List.set_cons_zero, List.set_cons_succ, Go.Proofs.YtoafbpbnlmcklaaW.PrintLast.i64_w, Go.Proofs.YtoafbpbnlmcklaaW.PrintLast.i32_w]
    rfl
  refine held_last (z := 13) (N := none) rfl rfl (fun K hK => ?_)
  obtain ⟨A2, c2, e2⟩ := Kd.R_slice HO2.out
  rw [show (W ++ [(i, b)]).length = W.length + 1 by simp] at e2
  subst e2
  have q1 := blk_cell HD2.out 1
  have f1 := blk_frozen HD2.out 1
  go_simp
  refine hK.out _ _ ?_
  clear hK K
  go_wp2
  go_ret
  have hle := Nat.le_trans H.out.le (Nat.le_of_lt (blk_lt H.out.blk))
  have hgt : ∀ k, (Value.slice A2 (W.length + 1) c2).ownBlock = some k → vW.ownBlock = some k ∨ w.heap.size ≤ k := fun k hk => by
    rcases HAT.out with e | ⟨b', e, hb'⟩
    · exact .inl (by rw [← e]; exact hk)
    · rw [e] at hk
      injection hk with hk
      exact .inr (by have := HB1.out.size; omega)
  refine ⟨rfl, _, ⟨blk_put HD2.out 1 _ rfl, H.out.le, ?_, ?_⟩, ?_, hgt⟩
  · exact Kd.R_set (Kd.R_mono (Kd.R_grown (R_types' H1.out.rs (fun k hk => own_typed hown k hk) (by decide)) HG2.out (fun k hk => hk.2)) (fun _ _ => trivial)) HD2.out (by decide) 1 _
  · exact Kd.R_set HO2.out HD2.out (by decide) 1 _
  · exact (((RTouch.refl D _ _ w).below HB1.out).grown HG2.out (fun k hk => .inl (.inr (.inr hk)))).cellD 1 _
end Go.Proofs.Ytoafbpbnlmcklaa.PAll

namespace Go.Proofs.Ytoafbpbnlmcklaa.PAll
open Go.RowKit Go.Proofs.YtoafbpbnlmcklaaW.PrintWords Go.Proofs.YtoafbpbnlmcklaaW.PrintLast Go.Proofs.YtoafbpbnlmcklaaW.PrintMore
set_option linter.unusedVariables false
set_option linter.unusedSimpArgs false
theorem info30' : (Try.prog.info? 28).map (fun i => (i.zero, i.size, i.bytes)) = some (some (.slice none 0 0), 1, 24) := by kernel_rfl
theorem ref_start (w : World) : RefAt w.heap.size w.heap.size (.slice none 0 0) (.slice none 0 0) (List.replicate 0 zeroS) [] (w.alloc (.cells #[.slice none 0 0, .slice none 0 0] 59)) :=
  ⟨blk_new w _, Nat.le_refl _, Kd.R_nil _ _ _ _ _, Kd.R_nil _ _ _ _ _⟩
set_option maxHeartbeats 2000000 in
set_option maxRecDepth 100000 in
theorem refnew_lo (n : Int) (hn : n < 1) (w : World) : Calls Try.prog 18 #[.int .i64 n] w fun x w' => ∃ AS cS, x = .returned (.pointer (some ⟨w.heap.size, 0, none⟩)) ∧ RefAt w.heap.size w.heap.size (.slice AS 1 cS) (.slice none 0 0) (List.replicate 1 zeroS) [] w' ∧ Below w.heap.size w w' := by
  have c1 : decide (n < 1) = true := decide_eq_true hn
  clear hn
  go_enter Try.func18, Try.ntmps18
  go_wp2_with fail
  have H0 := Aside0.mk (ref_start w)
  go_loopg [4] 1 (fun kq v4 w' => ∃ (j : Nat) (AS : Option Addr) (cS : Nat), v4 = .int .i64 (j : Int) ∧ Aside0 (j + kq = 1) ∧ Aside0 (RefAt w.heap.size w.heap.size (.slice AS j cS) (.slice none 0 0) (List.replicate j zeroS) [] w') ∧ Aside0 (Below w.heap.size w w'))
  case atStart => exact ⟨0, none, 0, rfl, ⟨by omega⟩, H0, ⟨below_alloc (Below.refl _ _) _⟩⟩
  case round =>
    obtain ⟨j, AS, cS, rfl, HJ, HR, HB⟩ := hrel
    by_cases hlt : j < 1
    · have p1 : decide ((j : Int) < 1) = true := decide_eq_true (by omega)
      obtain ⟨k1, rfl⟩ : ∃ k1, gk = k1 + 1 := ⟨gk - 1, by have := HJ.out; omega⟩
      have HLT := Aside0.mk hlt
      clear hlt
      go_wp2_with fail
      refine wp_region_held (S := fun U => U.cell? ⟨w.heap.size, 0, none⟩ = some (.slice AS j cS)) (some 10) [5, 6, 7] [0, 1, 2, 3, 4, 5, 6, 7, 8, 9] (by kernel_rfl) rfl (by kernel_rfl) (by kernel_rfl) ((blk_cell (blk_drew HR.out.blk) 0).trans rfl) (fun hHeld => ?_)
      refine held_read (i := 0) (N := (some 16)) (v := ?_) (a' := ?_) rfl rfl rfl (fun _ _ _ h => h) (Or.inl ⟨by rfl, ?_⟩) ?_ ?_
      rotate_left
      · intro w' hS
        go_simp
        with_reducible rfl
      rotate_left
      · simp only [Act.put, List.setIfInBounds_toArray, List.set_cons_zero, List.set_cons_succ, Go.Proofs.YtoafbpbnlmcklaaW.PrintLast.i64_w, Go.Proofs.YtoafbpbnlmcklaaW.PrintLast.i32_w]
        rfl
      refine held_read (i := 1) (N := (some 17)) (v := ?_) (a' := ?_) rfl rfl rfl (fun _ _ _ h => h) (Or.inl ⟨by rfl, ?_⟩) ?_ ?_
      rotate_left
      · intro w' hS
        go_simp
        with_reducible rfl
      rotate_left
      · simp only [Act.put, List.setIfInBounds_toArray, List.set_cons_zero, List.set_cons_succ, Go.Proofs.YtoafbpbnlmcklaaW.PrintLast.i64_w, Go.Proofs.YtoafbpbnlmcklaaW.PrintLast.i32_w]
        rfl
      refine held_read (i := 2) (N := (some 18)) (v := ?_) (a' := ?_) rfl rfl rfl (fun _ _ _ h => h) (Or.inl ⟨by rfl, ?_⟩) ?_ ?_
      rotate_left
      · intro w' hS
        go_simp
        with_reducible rfl
      rotate_left
      · simp only [Act.put, List.setIfInBounds_toArray, List.set_cons_zero, List.set_cons_succ, Go.Proofs.YtoafbpbnlmcklaaW.PrintLast.i64_w, Go.Proofs.YtoafbpbnlmcklaaW.PrintLast.i32_w]
        rfl
      refine held_read (i := 3) (N := (some 19)) (v := ?_) (a' := ?_) rfl rfl rfl (fun _ _ _ h => h) (Or.inl ⟨by rfl, ?_⟩) ?_ ?_
      rotate_left
      · intro w' hS
        go_simp
        with_reducible rfl
      rotate_left
      · simp only [Act.put, List.setIfInBounds_toArray, List.set_cons_zero, List.set_cons_succ, Go.Proofs.YtoafbpbnlmcklaaW.PrintLast.i64_w, Go.Proofs.YtoafbpbnlmcklaaW.PrintLast.i32_w]
        rfl
      refine held_read (i := 4) (N := (some 20)) (v := ?_) (a' := ?_) rfl rfl rfl (fun _ _ _ h => h) (Or.inl ⟨by rfl, ?_⟩) ?_ ?_
      rotate_left
      · intro w' hS
        go_simp
        with_reducible rfl
      rotate_left
      · simp only [Act.put, List.setIfInBounds_toArray, List.set_cons_zero, List.set_cons_succ, Go.Proofs.YtoafbpbnlmcklaaW.PrintLast.i64_w, Go.Proofs.YtoafbpbnlmcklaaW.PrintLast.i32_w]
        rfl
      refine held_run (i := 5) (N := (some 21)) rfl rfl rfl (fun K hK => ?_)
      refine Kd.R_make_step (Kd.int .u8) (w0 := wr) wr.heap.size 5 (by rfl) (N := 21) rfl 28 _ _ rfl 16 rfl rfl Try.underlying28 (.int .u8 0) 1 info5 rfl (by decide) (by omega) 0 (ok := fun _ => True) (okp := fun _ => True) rfl (fun _ hk => hk) trivial (by omega) (by omega) (below_drew (Below.refl _ _)) (Nat.le_refl _) ?_
      intro v1 w1 ho hb1 hg hat
      have HO1 := Aside0.mk ho
      have HB1 := Aside0.mk hb1
      have H1 := Aside0.mk (HR.out.below hb1)
      clear ho hb1 hg hat
      refine hK.out _ _ ((blk_cell H1.out.blk 0).trans rfl) ?_
      clear hK K
      refine held_norm (a' := ?_) ?_ ?_
      rotate_left
      · simp only [Act.put, List.setIfInBounds_toArray, List.set_cons_zero, List.set_cons_succ, Go.Proofs.YtoafbpbnlmcklaaW.PrintLast.i64_w, Go.Proofs.YtoafbpbnlmcklaaW.PrintLast.i32_w]
        rfl
      obtain ⟨Av1, cv1, e1⟩ := Kd.R_slice HO1.out
      subst e1
      refine held_run (i := 6) (N := (some 22)) rfl rfl rfl (fun K hK => ?_)
      go_simp
      refine hK.out _ _ ((blk_cell (blk_alloc H1.out.blk _) 0).trans rfl) ?_
      clear hK K
      refine held_run (i := 7) (N := (some 23)) rfl rfl rfl (fun K hK => ?_)
      refine Kd.R_append_step (Kd.slice 5 (Kd.int .u8)) (w0 := w) (W := w1) w.heap.size (by rfl) (.tmp 20) (.tmp 22) 22 28 (.slice none 0 0) 24 rfl Try.underlying22 info30' rfl (by decide) (by omega) (.slice AS j cS) (List.replicate j zeroS) zeroS [.slice Av1 16 cv1] (fun _ => True) (fun k => True ∧ some k ≠ (Value.slice AS j cS).ownBlock) rfl rfl ?aP (fun _ hk => hk) (fun _ _ => trivial) H1.out.rs ?aB ?aC ?aL ?_
      case aP =>
        obtain ⟨inner, hown⟩ := Kd.R_own H1.out.rs
        exact ⟨_, rfl, R_types' (Kd.R_lower HO1.out HB.out.size) (fun k hk => own_typed hown k hk) (by decide)⟩
      case aB => exact below_then HB.out HB.out.size HB1.out
      case aC => exact Nat.le_trans H1.out.le (Nat.le_of_lt (blk_lt H1.out.blk))
      case aL => have := HLT.out; rw [List.length_replicate]; omega
      intro v2 w2 ho hb2 hg hat
      have hDW : some w.heap.size ≠ (Value.slice AS j cS).ownBlock := Kd.R_ne H1.out.rs H1.out.blk (by decide)
      have HO2 := Aside0.mk ho
      have HB2 := Aside0.mk hb2
      have HD2 := Aside0.mk (blk_grown H1.out.blk hg hDW)
      clear ho hb2 hg hat
      refine hK.out _ _ ((blk_cell HD2.out 0).trans rfl) ?_
      clear hK K
      refine held_norm (a' := ?_) ?_ ?_
      rotate_left
      · simp only [Act.put, List.setIfInBounds_toArray, List.set_cons_zero, List.set_cons_succ, Go.Proofs.YtoafbpbnlmcklaaW.PrintLast.i64_w, Go.Proofs.YtoafbpbnlmcklaaW.PrintLast.i32_w]
        rfl
      refine held_read (i := 8) (N := (some 24)) (v := ?_) (a' := ?_) rfl rfl rfl (fun _ _ _ h => h) (Or.inl ⟨by rfl, ?_⟩) ?_ ?_
      rotate_left
      · intro w' hS
        go_simp
        with_reducible rfl
      rotate_left
      · simp only [Act.put, List.setIfInBounds_toArray, List.set_cons_zero, List.set_cons_succ, Go.Proofs.YtoafbpbnlmcklaaW.PrintLast.i64_w, Go.Proofs.YtoafbpbnlmcklaaW.PrintLast.i32_w]
        rfl
      refine held_read (i := 9) (N := (some 25)) (v := ?_) (a' := ?_) rfl rfl rfl (fun _ _ _ h => h) (Or.inl ⟨by rfl, ?_⟩) ?_ ?_
      rotate_left
      · intro w' hS
        go_simp
        with_reducible rfl
      rotate_left
      · simp only [Act.put, List.setIfInBounds_toArray, List.set_cons_zero, List.set_cons_succ, Go.Proofs.YtoafbpbnlmcklaaW.PrintLast.i64_w, Go.Proofs.YtoafbpbnlmcklaaW.PrintLast.i32_w]
        rfl
      refine held_last (z := 10) (N := none) rfl rfl (fun K hK => ?_)
      obtain ⟨A2, c2, e2⟩ := Kd.R_slice HO2.out
      rw [List.length_append, List.length_replicate] at e2
      subst e2
      have q1 := blk_cell HD2.out 0
      have f1 := blk_frozen HD2.out 0
      go_simp
      refine hK.out _ _ ?_
      clear hK K q1 f1
      go_wp2
      go_roundg k1
      case measure => omega
      case rel =>
        refine ⟨j + 1, A2, c2, ?_, ⟨by have := HJ.out; omega⟩, ⟨blk_put HD2.out 0 _ rfl, Nat.le_refl _, ?_, Kd.R_nil _ _ _ _ _⟩, ⟨?_⟩⟩
        · exact congrArg (Value.int .i64) (widx (by have := HLT.out; omega))
        · rw [List.replicate_succ']
          exact Kd.R_set HO2.out HD2.out (by decide) 0 _
        · exact HB2.out.setCell (Nat.le_refl _) _
    · have hj1 : j = 1 := by have := HJ.out; omega
      subst hj1
      have p1 : decide (((1 : Nat) : Int) < 1) = false := decide_eq_false (by omega)
      clear hlt
      go_wp2
      go_ret
      exact ⟨_, _, rfl, HR.out, HB.out⟩
set_option maxHeartbeats 2000000 in
set_option maxRecDepth 100000 in
theorem refnew_hi (n : Int) (hn : 512 < n) (w : World) : Calls Try.prog 18 #[.int .i64 n] w fun x w' => ∃ AS cS, x = .returned (.pointer (some ⟨w.heap.size, 0, none⟩)) ∧ RefAt w.heap.size w.heap.size (.slice AS 512 cS) (.slice none 0 0) (List.replicate 512 zeroS) [] w' ∧ Below w.heap.size w w' := by
  have c1 : decide (n < 1) = false := decide_eq_false (by omega)
  have c2 : decide (n > 512) = true := decide_eq_true hn
  clear hn
  go_enter Try.func18, Try.ntmps18
  go_wp2_with fail
  have H0 := Aside0.mk (ref_start w)
  go_loopg [4] 512 (fun kq v4 w' => ∃ (j : Nat) (AS : Option Addr) (cS : Nat), v4 = .int .i64 (j : Int) ∧ Aside0 (j + kq = 512) ∧ Aside0 (RefAt w.heap.size w.heap.size (.slice AS j cS) (.slice none 0 0) (List.replicate j zeroS) [] w') ∧ Aside0 (Below w.heap.size w w'))
  case atStart => exact ⟨0, none, 0, rfl, ⟨by omega⟩, H0, ⟨below_alloc (Below.refl _ _) _⟩⟩
  case round =>
    obtain ⟨j, AS, cS, rfl, HJ, HR, HB⟩ := hrel
    by_cases hlt : j < 512
    · have p1 : decide ((j : Int) < 512) = true := decide_eq_true (by omega)
      obtain ⟨k1, rfl⟩ : ∃ k1, gk = k1 + 1 := ⟨gk - 1, by have := HJ.out; omega⟩
      have HLT := Aside0.mk hlt
      clear hlt
      go_wp2_with fail
      refine wp_region_held (S := fun U => U.cell? ⟨w.heap.size, 0, none⟩ = some (.slice AS j cS)) (some 10) [5, 6, 7] [0, 1, 2, 3, 4, 5, 6, 7, 8, 9] (by kernel_rfl) rfl (by kernel_rfl) (by kernel_rfl) ((blk_cell (blk_drew HR.out.blk) 0).trans rfl) (fun hHeld => ?_)
      refine held_read (i := 0) (N := (some 16)) (v := ?_) (a' := ?_) rfl rfl rfl (fun _ _ _ h => h) (Or.inl ⟨by rfl, ?_⟩) ?_ ?_
      rotate_left
      · intro w' hS
        go_simp
        with_reducible rfl
      rotate_left
      · simp only [Act.put, List.setIfInBounds_toArray, List.set_cons_zero, List.set_cons_succ, Go.Proofs.YtoafbpbnlmcklaaW.PrintLast.i64_w, Go.Proofs.YtoafbpbnlmcklaaW.PrintLast.i32_w]
        rfl
      refine held_read (i := 1) (N := (some 17)) (v := ?_) (a' := ?_) rfl rfl rfl (fun _ _ _ h => h) (Or.inl ⟨by rfl, ?_⟩) ?_ ?_
      rotate_left
      · intro w' hS
        go_simp
        with_reducible rfl
      rotate_left
      · simp only [Act.put, List.setIfInBounds_toArray, List.set_cons_zero, List.set_cons_succ, Go.Proofs.YtoafbpbnlmcklaaW.PrintLast.i64_w, Go.Proofs.YtoafbpbnlmcklaaW.PrintLast.i32_w]
        rfl
      refine held_read (i := 2) (N := (some 18)) (v := ?_) (a' := ?_) rfl rfl rfl (fun _ _ _ h => h) (Or.inl ⟨by rfl, ?_⟩) ?_ ?_
      rotate_left
      · intro w' hS
        go_simp
        with_reducible rfl
      rotate_left
      · simp only [Act.put, List.setIfInBounds_toArray, List.set_cons_zero, List.set_cons_succ, Go.Proofs.YtoafbpbnlmcklaaW.PrintLast.i64_w, Go.Proofs.YtoafbpbnlmcklaaW.PrintLast.i32_w]
        rfl
      refine held_read (i := 3) (N := (some 19)) (v := ?_) (a' := ?_) rfl rfl rfl (fun _ _ _ h => h) (Or.inl ⟨by rfl, ?_⟩) ?_ ?_
      rotate_left
      · intro w' hS
        go_simp
        with_reducible rfl
      rotate_left
      · simp only [Act.put, List.setIfInBounds_toArray, List.set_cons_zero, List.set_cons_succ, Go.Proofs.YtoafbpbnlmcklaaW.PrintLast.i64_w, Go.Proofs.YtoafbpbnlmcklaaW.PrintLast.i32_w]
        rfl
      refine held_read (i := 4) (N := (some 20)) (v := ?_) (a' := ?_) rfl rfl rfl (fun _ _ _ h => h) (Or.inl ⟨by rfl, ?_⟩) ?_ ?_
      rotate_left
      · intro w' hS
        go_simp
        with_reducible rfl
      rotate_left
      · simp only [Act.put, List.setIfInBounds_toArray, List.set_cons_zero, List.set_cons_succ, Go.Proofs.YtoafbpbnlmcklaaW.PrintLast.i64_w, Go.Proofs.YtoafbpbnlmcklaaW.PrintLast.i32_w]
        rfl
      refine held_run (i := 5) (N := (some 21)) rfl rfl rfl (fun K hK => ?_)
      refine Kd.R_make_step (Kd.int .u8) (w0 := wr) wr.heap.size 5 (by rfl) (N := 21) rfl 28 _ _ rfl 16 rfl rfl Try.underlying28 (.int .u8 0) 1 info5 rfl (by decide) (by omega) 0 (ok := fun _ => True) (okp := fun _ => True) rfl (fun _ hk => hk) trivial (by omega) (by omega) (below_drew (Below.refl _ _)) (Nat.le_refl _) ?_
      intro v1 w1 ho hb1 hg hat
      have HO1 := Aside0.mk ho
      have HB1 := Aside0.mk hb1
      have H1 := Aside0.mk (HR.out.below hb1)
      clear ho hb1 hg hat
      refine hK.out _ _ ((blk_cell H1.out.blk 0).trans rfl) ?_
      clear hK K
      refine held_norm (a' := ?_) ?_ ?_
      rotate_left
      · simp only [Act.put, List.setIfInBounds_toArray, List.set_cons_zero, List.set_cons_succ, Go.Proofs.YtoafbpbnlmcklaaW.PrintLast.i64_w, Go.Proofs.YtoafbpbnlmcklaaW.PrintLast.i32_w]
        rfl
      obtain ⟨Av1, cv1, e1⟩ := Kd.R_slice HO1.out
      subst e1
      refine held_run (i := 6) (N := (some 22)) rfl rfl rfl (fun K hK => ?_)
      go_simp
      refine hK.out _ _ ((blk_cell (blk_alloc H1.out.blk _) 0).trans rfl) ?_
      clear hK K
      refine held_run (i := 7) (N := (some 23)) rfl rfl rfl (fun K hK => ?_)
      refine Kd.R_append_step (Kd.slice 5 (Kd.int .u8)) (w0 := w) (W := w1) w.heap.size (by rfl) (.tmp 20) (.tmp 22) 22 28 (.slice none 0 0) 24 rfl Try.underlying22 info30' rfl (by decide) (by omega) (.slice AS j cS) (List.replicate j zeroS) zeroS [.slice Av1 16 cv1] (fun _ => True) (fun k => True ∧ some k ≠ (Value.slice AS j cS).ownBlock) rfl rfl ?aP (fun _ hk => hk) (fun _ _ => trivial) H1.out.rs ?aB ?aC ?aL ?_
      case aP =>
        obtain ⟨inner, hown⟩ := Kd.R_own H1.out.rs
        exact ⟨_, rfl, R_types' (Kd.R_lower HO1.out HB.out.size) (fun k hk => own_typed hown k hk) (by decide)⟩
      case aB => exact below_then HB.out HB.out.size HB1.out
      case aC => exact Nat.le_trans H1.out.le (Nat.le_of_lt (blk_lt H1.out.blk))
      case aL => have := HLT.out; rw [List.length_replicate]; omega
      intro v2 w2 ho hb2 hg hat
      have hDW : some w.heap.size ≠ (Value.slice AS j cS).ownBlock := Kd.R_ne H1.out.rs H1.out.blk (by decide)
      have HO2 := Aside0.mk ho
      have HB2 := Aside0.mk hb2
      have HD2 := Aside0.mk (blk_grown H1.out.blk hg hDW)
      clear ho hb2 hg hat
      refine hK.out _ _ ((blk_cell HD2.out 0).trans rfl) ?_
      clear hK K
      refine held_norm (a' := ?_) ?_ ?_
      rotate_left
      · simp only [Act.put, List.setIfInBounds_toArray, List.set_cons_zero, List.set_cons_succ, Go.Proofs.YtoafbpbnlmcklaaW.PrintLast.i64_w, Go.Proofs.YtoafbpbnlmcklaaW.PrintLast.i32_w]
        rfl
      refine held_read (i := 8) (N := (some 24)) (v := ?_) (a' := ?_) rfl rfl rfl (fun _ _ _ h => h) (Or.inl ⟨by rfl, ?_⟩) ?_ ?_
      rotate_left
      · intro w' hS
        go_simp
        with_reducible rfl
      rotate_left
      · simp only [Act.put, List.setIfInBounds_toArray, List.set_cons_zero, List.set_cons_succ, Go.Proofs.YtoafbpbnlmcklaaW.PrintLast.i64_w, Go.Proofs.YtoafbpbnlmcklaaW.PrintLast.i32_w]
        rfl
      refine held_read (i := 9) (N := (some 25)) (v := ?_) (a' := ?_) rfl rfl rfl (fun _ _ _ h => h) (Or.inl ⟨by rfl, ?_⟩) ?_ ?_
      rotate_left
      · intro w' hS
        go_simp
        with_reducible rfl
      rotate_left
      · simp only [Act.put, List.setIfInBounds_toArray, List.set_cons_zero, List.set_cons_succ, Go.Proofs.YtoafbpbnlmcklaaW.PrintLast.i64_w, Go.Proofs.YtoafbpbnlmcklaaW.PrintLast.i32_w]
        rfl
      refine held_last (z := 10) (N := none) rfl rfl (fun K hK => ?_)
      obtain ⟨A2, c2, e2⟩ := Kd.R_slice HO2.out
      rw [List.length_append, List.length_replicate] at e2
      subst e2
      have q1 := blk_cell HD2.out 0
      have f1 := blk_frozen HD2.out 0
      go_simp
      refine hK.out _ _ ?_
      clear hK K q1 f1
      go_wp2
      go_roundg k1
      case measure => omega
      case rel =>
        refine ⟨j + 1, A2, c2, ?_, ⟨by have := HJ.out; omega⟩, ⟨blk_put HD2.out 0 _ rfl, Nat.le_refl _, ?_, Kd.R_nil _ _ _ _ _⟩, ⟨?_⟩⟩
        · exact congrArg (Value.int .i64) (widx (by have := HLT.out; omega))
        · rw [List.replicate_succ']
          exact Kd.R_set HO2.out HD2.out (by decide) 0 _
        · exact HB2.out.setCell (Nat.le_refl _) _
    · have hj1 : j = 512 := by have := HJ.out; omega
      subst hj1
      have p1 : decide (((512 : Nat) : Int) < 512) = false := decide_eq_false (by omega)
      clear hlt
      go_wp2
      go_ret
      exact ⟨_, _, rfl, HR.out, HB.out⟩
set_option maxHeartbeats 2000000 in
set_option maxRecDepth 100000 in
theorem refnew_mid (m : Nat) (h1 : 1 ≤ m) (h2 : m ≤ 512) (w : World) : Calls Try.prog 18 #[.int .i64 (m : Int)] w fun x w' => ∃ AS cS, x = .returned (.pointer (some ⟨w.heap.size, 0, none⟩)) ∧ RefAt w.heap.size w.heap.size (.slice AS m cS) (.slice none 0 0) (List.replicate m zeroS) [] w' ∧ Below w.heap.size w w' := by
  have c1 : decide ((m : Int) < 1) = false := decide_eq_false (by omega)
  have c2 : decide ((m : Int) > 512) = false := decide_eq_false (by omega)
  have HM := Aside0.mk h2
  clear h1 h2
  go_enter Try.func18, Try.ntmps18
  go_wp2_with fail
  have H0 := Aside0.mk (ref_start w)
  go_loopg [4] m (fun kq v4 w' => ∃ (j : Nat) (AS : Option Addr) (cS : Nat), v4 = .int .i64 (j : Int) ∧ Aside0 (j + kq = m) ∧ Aside0 (RefAt w.heap.size w.heap.size (.slice AS j cS) (.slice none 0 0) (List.replicate j zeroS) [] w') ∧ Aside0 (Below w.heap.size w w'))
  case atStart => exact ⟨0, none, 0, rfl, ⟨by omega⟩, H0, ⟨below_alloc (Below.refl _ _) _⟩⟩
  case round =>
    obtain ⟨j, AS, cS, rfl, HJ, HR, HB⟩ := hrel
    by_cases hlt : j < m
    · have p0 : decide (j < m) = true := decide_eq_true hlt
      have p1 : decide ((j : Int) < (m : Int)) = true := decide_eq_true (by omega)
      obtain ⟨k1, rfl⟩ : ∃ k1, gk = k1 + 1 := ⟨gk - 1, by have := HJ.out; omega⟩
      have HLT := Aside0.mk hlt
      clear hlt
      go_wp2_with fail
      refine wp_region_held (S := fun U => U.cell? ⟨w.heap.size, 0, none⟩ = some (.slice AS j cS)) (some 10) [5, 6, 7] [0, 1, 2, 3, 4, 5, 6, 7, 8, 9] (by kernel_rfl) rfl (by kernel_rfl) (by kernel_rfl) ((blk_cell (blk_drew HR.out.blk) 0).trans rfl) (fun hHeld => ?_)
      refine held_read (i := 0) (N := (some 16)) (v := ?_) (a' := ?_) rfl rfl rfl (fun _ _ _ h => h) (Or.inl ⟨by rfl, ?_⟩) ?_ ?_
      rotate_left
      · intro w' hS
        go_simp
        with_reducible rfl
      rotate_left
      · simp only [Act.put, List.setIfInBounds_toArray, List.set_cons_zero, List.set_cons_succ, Go.Proofs.YtoafbpbnlmcklaaW.PrintLast.i64_w, Go.Proofs.YtoafbpbnlmcklaaW.PrintLast.i32_w]
        rfl
      refine held_read (i := 1) (N := (some 17)) (v := ?_) (a' := ?_) rfl rfl rfl (fun _ _ _ h => h) (Or.inl ⟨by rfl, ?_⟩) ?_ ?_
      rotate_left
      · intro w' hS
        go_simp
        with_reducible rfl
      rotate_left
      · simp only [Act.put, List.setIfInBounds_toArray, List.set_cons_zero, List.set_cons_succ, Go.Proofs.YtoafbpbnlmcklaaW.PrintLast.i64_w, Go.Proofs.YtoafbpbnlmcklaaW.PrintLast.i32_w]
        rfl
      refine held_read (i := 2) (N := (some 18)) (v := ?_) (a' := ?_) rfl rfl rfl (fun _ _ _ h => h) (Or.inl ⟨by rfl, ?_⟩) ?_ ?_
      rotate_left
      · intro w' hS
        go_simp
        with_reducible rfl
      rotate_left
      · simp only [Act.put, List.setIfInBounds_toArray, List.set_cons_zero, List.set_cons_succ, Go.Proofs.YtoafbpbnlmcklaaW.PrintLast.i64_w, Go.Proofs.YtoafbpbnlmcklaaW.PrintLast.i32_w]
        rfl
      refine held_read (i := 3) (N := (some 19)) (v := ?_) (a' := ?_) rfl rfl rfl (fun _ _ _ h => h) (Or.inl ⟨by rfl, ?_⟩) ?_ ?_
      rotate_left
      · intro w' hS
        go_simp
        with_reducible rfl
      rotate_left
      · simp only [Act.put, List.setIfInBounds_toArray, List.set_cons_zero, List.set_cons_succ, Go.Proofs.YtoafbpbnlmcklaaW.PrintLast.i64_w, Go.Proofs.YtoafbpbnlmcklaaW.PrintLast.i32_w]
        rfl
      refine held_read (i := 4) (N := (some 20)) (v := ?_) (a' := ?_) rfl rfl rfl (fun _ _ _ h => h) (Or.inl ⟨by rfl, ?_⟩) ?_ ?_
      rotate_left
      · intro w' hS
        go_simp
        with_reducible rfl
      rotate_left
      · simp only [Act.put, List.setIfInBounds_toArray, List.set_cons_zero, List.set_cons_succ, Go.Proofs.YtoafbpbnlmcklaaW.PrintLast.i64_w, Go.Proofs.YtoafbpbnlmcklaaW.PrintLast.i32_w]
        rfl
      refine held_run (i := 5) (N := (some 21)) rfl rfl rfl (fun K hK => ?_)
      refine Kd.R_make_step (Kd.int .u8) (w0 := wr) wr.heap.size 5 (by rfl) (N := 21) rfl 28 _ _ rfl 16 rfl rfl Try.underlying28 (.int .u8 0) 1 info5 rfl (by decide) (by omega) 0 (ok := fun _ => True) (okp := fun _ => True) rfl (fun _ hk => hk) trivial (by omega) (by omega) (below_drew (Below.refl _ _)) (Nat.le_refl _) ?_
      intro v1 w1 ho hb1 hg hat
      have HO1 := Aside0.mk ho
      have HB1 := Aside0.mk hb1
      have H1 := Aside0.mk (HR.out.below hb1)
      clear ho hb1 hg hat
      refine hK.out _ _ ((blk_cell H1.out.blk 0).trans rfl) ?_
      clear hK K
      refine held_norm (a' := ?_) ?_ ?_
      rotate_left
      · simp only [Act.put, List.setIfInBounds_toArray, List.set_cons_zero, List.set_cons_succ, Go.Proofs.YtoafbpbnlmcklaaW.PrintLast.i64_w, Go.Proofs.YtoafbpbnlmcklaaW.PrintLast.i32_w]
        rfl
      obtain ⟨Av1, cv1, e1⟩ := Kd.R_slice HO1.out
      subst e1
      refine held_run (i := 6) (N := (some 22)) rfl rfl rfl (fun K hK => ?_)
      go_simp
      refine hK.out _ _ ((blk_cell (blk_alloc H1.out.blk _) 0).trans rfl) ?_
      clear hK K
      refine held_run (i := 7) (N := (some 23)) rfl rfl rfl (fun K hK => ?_)
      refine Kd.R_append_step (Kd.slice 5 (Kd.int .u8)) (w0 := w) (W := w1) w.heap.size (by rfl) (.tmp 20) (.tmp 22) 22 28 (.slice none 0 0) 24 rfl Try.underlying22 info30' rfl (by decide) (by omega) (.slice AS j cS) (List.replicate j zeroS) zeroS [.slice Av1 16 cv1] (fun _ => True) (fun k => True ∧ some k ≠ (Value.slice AS j cS).ownBlock) rfl rfl ?aP (fun _ hk => hk) (fun _ _ => trivial) H1.out.rs ?aB ?aC ?aL ?_
      case aP =>
        obtain ⟨inner, hown⟩ := Kd.R_own H1.out.rs
        exact ⟨_, rfl, R_types' (Kd.R_lower HO1.out HB.out.size) (fun k hk => own_typed hown k hk) (by decide)⟩
      case aB => exact below_then HB.out HB.out.size HB1.out
      case aC => exact Nat.le_trans H1.out.le (Nat.le_of_lt (blk_lt H1.out.blk))
      case aL => have := HLT.out; rw [List.length_replicate]; have := HM.out; omega
      intro v2 w2 ho hb2 hg hat
      have hDW : some w.heap.size ≠ (Value.slice AS j cS).ownBlock := Kd.R_ne H1.out.rs H1.out.blk (by decide)
      have HO2 := Aside0.mk ho
      have HB2 := Aside0.mk hb2
      have HD2 := Aside0.mk (blk_grown H1.out.blk hg hDW)
      clear ho hb2 hg hat
      refine hK.out _ _ ((blk_cell HD2.out 0).trans rfl) ?_
      clear hK K
      refine held_norm (a' := ?_) ?_ ?_
      rotate_left
      · simp only [Act.put, List.setIfInBounds_toArray, List.set_cons_zero, List.set_cons_succ, Go.Proofs.YtoafbpbnlmcklaaW.PrintLast.i64_w, Go.Proofs.YtoafbpbnlmcklaaW.PrintLast.i32_w]
        rfl
      refine held_read (i := 8) (N := (some 24)) (v := ?_) (a' := ?_) rfl rfl rfl (fun _ _ _ h => h) (Or.inl ⟨by rfl, ?_⟩) ?_ ?_
      rotate_left
      · intro w' hS
        go_simp
        with_reducible rfl
      rotate_left
      · simp only [Act.put, List.setIfInBounds_toArray, List.set_cons_zero, List.set_cons_succ, Go.Proofs.YtoafbpbnlmcklaaW.PrintLast.i64_w, Go.Proofs.YtoafbpbnlmcklaaW.PrintLast.i32_w]
        rfl
      refine held_read (i := 9) (N := (some 25)) (v := ?_) (a' := ?_) rfl rfl rfl (fun _ _ _ h => h) (Or.inl ⟨by rfl, ?_⟩) ?_ ?_
      rotate_left
      · intro w' hS
        go_simp
        with_reducible rfl
      rotate_left
      · simp only [Act.put, List.setIfInBounds_toArray, List.set_cons_zero, List.set_cons_succ, Go.Proofs.YtoafbpbnlmcklaaW.PrintLast.i64_w, Go.Proofs.YtoafbpbnlmcklaaW.PrintLast.i32_w]
        rfl
      refine held_last (z := 10) (N := none) rfl rfl (fun K hK => ?_)
      obtain ⟨A2, c2, e2⟩ := Kd.R_slice HO2.out
      rw [List.length_append, List.length_replicate] at e2
      subst e2
      have q1 := blk_cell HD2.out 0
      have f1 := blk_frozen HD2.out 0
      go_simp
      refine hK.out _ _ ?_
      clear hK K q1 f1
      go_wp2
      go_roundg k1
      case measure => omega
      case rel =>
        refine ⟨j + 1, A2, c2, ?_, ⟨by have := HJ.out; omega⟩, ⟨blk_put HD2.out 0 _ rfl, Nat.le_refl _, ?_, Kd.R_nil _ _ _ _ _⟩, ⟨?_⟩⟩
        · exact congrArg (Value.int .i64) (widx (by have := HLT.out; have := HM.out; omega))
        · rw [List.replicate_succ']
          exact Kd.R_set HO2.out HD2.out (by decide) 0 _
        · exact HB2.out.setCell (Nat.le_refl _) _
    · obtain rfl : m = j := by have := HJ.out; omega
      have p0 : decide (m < m) = false := decide_eq_false (by omega)
      have p1 : decide (((m : Nat) : Int) < (m : Int)) = false := decide_eq_false (by omega)
      clear hlt
      go_wp2
      go_ret
      exact ⟨_, _, rfl, HR.out, HB.out⟩
theorem refnew_tot (n : Int) (w : World) : Calls Try.prog 18 #[.int .i64 n] w fun x w' => ∃ AS cS, x = .returned (.pointer (some ⟨w.heap.size, 0, none⟩)) ∧ RefAt w.heap.size w.heap.size (.slice AS (clampN n) cS) (.slice none 0 0) (List.replicate (clampN n) zeroS) [] w' ∧ Below w.heap.size w w' := by
  by_cases c1 : n < 1
  · have e : clampN n = 1 := by unfold clampN; rw [if_pos c1]; rfl
    rw [e]; exact refnew_lo n c1 w
  · by_cases c2 : 512 < n
    · have e : clampN n = 512 := by unfold clampN; rw [if_neg c1, if_pos c2]; rfl
      rw [e]; exact refnew_hi n c2 w
    · obtain ⟨m, rfl⟩ : ∃ m : Nat, n = (m : Int) := ⟨n.toNat, by omega⟩
      have e : clampN (m : Int) = m := by unfold clampN; rw [if_neg c1, if_neg c2]; rfl
      rw [e]; exact refnew_mid m (by omega) (by omega) w
end Go.Proofs.Ytoafbpbnlmcklaa.PAll

namespace Go.Proofs.Ytoafbpbnlmcklaa.PAll
open Go.RowKit Go.Proofs.YtoafbpbnlmcklaaW.PrintWords Go.Proofs.YtoafbpbnlmcklaaW.PrintLast Go.Proofs.YtoafbpbnlmcklaaW.PrintMore
set_option linter.unusedVariables false
set_option linter.unusedSimpArgs false
/-- A write that waits, in memory. -/
theorem at_kw {w : World} {g n : Nat} {xs : List (Int × List Int)} (h : Kd.C (Kd.pair (Kd.int .i64) (Kd.slice 5 (Kd.int .u8))) w (some ⟨g, 0, none⟩) n xs) (j : Nat) (p : Int × List Int) (hp : xs[j]? = some p) :
    ∃ A0 c0, w.cell? ⟨g, j * 2, none⟩ = some (.int .i64 p.1) ∧ w.cell? ⟨g, j * 2 + 1, none⟩ = some (.slice A0 p.2.length c0) ∧ p.2.length ≤ c0 ∧ (Kd.int .u8).C w A0 p.2.length p.2 := by
  have hlt : j < xs.length := (List.getElem?_eq_some_iff.1 hp).1
  have hn := h.1
  obtain ⟨ad, c, e, _, hK, hc⟩ := Kd.C_get h ((0 : Int), ([] : List Int)) (j : Int) (by omega) (by omega)
  cases e
  rw [Int.toNat_natCast] at hK hc
  rw [List.getD_eq_getElem?_getD, hp, Option.getD_some] at hK
  obtain ⟨c0, c1, rfl, h0, A0, cc, rfl, hl, hC⟩ := hK
  have h0' : c0 = [.int .i64 p.1] := h0
  subst h0'
  have e0 := hc 0 _ rfl
  have e1 := hc 1 _ rfl
  have hsz : (Kd.pair (Kd.int .i64) (Kd.slice 5 (Kd.int .u8))).sz = 2 := rfl
  rw [hsz, add_plain] at e0 e1
  exact ⟨A0, cc, e0, e1, hl, hC⟩
theorem rw_block {base D : Nat} {vS vW : Value} {S : List (List Int)} {W : List (Int × List Int)} {w : World} (h : RefAt base D vS vW S W w) (hn : 0 < W.length) : ∃ g c, vW = .slice (some ⟨g, 0, none⟩) W.length c ∧ Kd.C (Kd.pair (Kd.int .i64) (Kd.slice 5 (Kd.int .u8))) w (some ⟨g, 0, none⟩) W.length W := by
  obtain ⟨inner, hown⟩ := Kd.R_own h.rw
  obtain ⟨g, c, rfl⟩ := own_some hown hn
  exact ⟨g, c, rfl, (Kd.R_reads' h.rw).2.2⟩
theorem rs_block {base D : Nat} {vS vW : Value} {S : List (List Int)} {W : List (Int × List Int)} {w : World} (h : RefAt base D vS vW S W w) (hn : 0 < S.length) : ∃ g c, vS = .slice (some ⟨g, 0, none⟩) S.length c ∧ Kd.C (Kd.slice 5 (Kd.int .u8)) w (some ⟨g, 0, none⟩) S.length S := by
  obtain ⟨inner, hown⟩ := Kd.R_own h.rs
  obtain ⟨g, c, rfl⟩ := own_some hown hn
  exact ⟨g, c, rfl, (Kd.R_reads' h.rs).2.2⟩
theorem rw_slice {base D : Nat} {vS vW : Value} {S : List (List Int)} {W : List (Int × List Int)} {w : World} (h : RefAt base D vS vW S W w) : ∃ A c, vW = .slice A W.length c := Kd.R_slice h.rw
set_option maxHeartbeats 1000000 in
set_option maxRecDepth 100000 in
theorem refread_no (base D : Nat) (AS : Option Addr) (cS : Nat) (vW : Value) (S : List (List Int)) (W : List (Int × List Int)) (i : Int) (w : World) (h : RefAt base D (.slice AS S.length cS) vW S W w)
    (hi : (decide (i < 0) = true) ∨ (decide (i < 0) = false ∧ decide (i ≥ (S.length : Int)) = true)) :
    Calls Try.prog 38 #[.pointer (some ⟨D, 0, none⟩), .int .i64 i] w fun x w' => x = .returned (.tuple #[.slice none 0 0, .int .i64 1]) ∧ w' = w := by
  have q0 : w.cell? ⟨D, 0, none⟩ = some (.slice AS S.length cS) := (blk_cell h.blk 0).trans rfl
  clear h
  rcases hi with hi | ⟨hi, hj⟩
  all_goals
    go_enter Try.func38, Try.ntmps38
    go_wp2
    go_ret2
    exact ⟨rfl, rfl⟩
set_option maxHeartbeats 2000000 in
set_option maxRecDepth 100000 in
theorem refread_yes (base D g cS : Nat) (vW : Value) (S : List (List Int)) (W : List (Int × List Int)) (i : Int) (s : List Int) (w : World) (h : RefAt base D (.slice (some ⟨g, 0, none⟩) S.length cS) vW S W w) (h0 : 0 ≤ i) (h1 : i < (S.length : Int)) (hs : S[i.toNat]? = some s) (hl : s.length = 16) (hn : W.length < 1099511627776) (hr : ∀ p ∈ W, p.2.length = 16) :
    Calls Try.prog 38 #[.pointer (some ⟨D, 0, none⟩), .int .i64 i] w fun x w' => ∃ v, x = .returned (.tuple #[v, .int .i64 0]) ∧ Kd.R (Kd.int .u8) 5 w' w.heap.size (fun _ => True) v (readW i W s) ∧ Below w.heap.size w w' := by
  obtain ⟨AW, cW, eW⟩ := rw_slice h
  subst eW
  have q0 : w.cell? ⟨D, 0, none⟩ = some (.slice (some ⟨g, 0, none⟩) S.length cS) := (blk_cell h.blk 0).trans rfl
  have q1 : w.cell? ⟨D, 1, none⟩ = some (.slice AW W.length cW) := (blk_cell h.blk 1).trans rfl
  obtain ⟨ad, A0, c0, e0, hx0, hl0, hi0⟩ := at_L1 (Kd.R_reads' h.rs).2.2 i h0 h1
  cases e0
  have es : rd_L1 S i = s := by unfold rd_L1; rw [List.getD_eq_getElem?_getD, hs, Option.getD_some]
  rw [es, hl] at hx0 hl0 hi0
  rw [add_plain] at hx0
  have H := Aside0.mk h
  have HR := Aside0.mk hr
  have HN := Aside0.mk hn
  have HSL := Aside0.mk hl
  have HC0 := Aside0.mk hi0
  have c0' : decide (i < 0) = false := decide_eq_false (by omega)
  have c1' : decide (i ≥ (S.length : Int)) = false := decide_eq_false (by omega)
  have p2 := eq_true h0
  have p3 := eq_true h1
  clear h hs hl hn hr es hl0 hi0
  go_enter Try.func38, Try.ntmps38
  go_wp2_with fail
  go_loopg [6, 7] W.length (fun kq v6 v7 w' => ∃ (j : Nat) (A6 : Option Addr) (c6 : Nat), v6 = .slice A6 16 c6 ∧ v7 = .int .i64 (j : Int) ∧ Aside0 (j + kq = W.length) ∧ Aside0 (Kd.C (Kd.int .u8) w A6 16 (readW i (W.take j) s)) ∧ w = w')
  case atStart => exact ⟨0, A0, c0, rfl, rfl, ⟨by omega⟩, ⟨HC0.out⟩, rfl⟩
  case round =>
    obtain ⟨j, A6, c6, rfl, rfl, HJ, HC6, rfl⟩ := hrel
    by_cases hlt : j < W.length
    · obtain ⟨p, hp⟩ : ∃ p, W[j]? = some p := ⟨_, List.getElem?_eq_getElem hlt⟩
      obtain ⟨gW, cW', eW, hCW⟩ := rw_block H.out (by omega)
      cases eW
      obtain ⟨Ap, cp, hy0, hy1, hlp, hCp⟩ := at_kw hCW j p hp
      have hp16 : p.2.length = 16 := HR.out p (List.mem_of_getElem? hp)
      rw [hp16] at hy1 hlp hCp
      have HCp := Aside0.mk hCp
      have HQ := Aside0.mk hp
      have HLT := Aside0.mk hlt
      have r1 : decide ((j : Int) < (W.length : Int)) = true := decide_eq_true (by omega)
      have r2 := eq_true (show 0 ≤ (j : Int) by omega)
      have r3 := eq_true (show (j : Int) < (W.length : Int) by omega)
      obtain ⟨k1, rfl⟩ : ∃ k1, gk = k1 + 1 := ⟨gk - 1, by have := HJ.out; omega⟩
      clear hCW hp hlt hp16 hlp hCp
      by_cases c : p.1 = i
      · have cb : (p.1 == i) = true := beq_iff_eq.mpr c
        have HE := Aside0.mk c
        clear c
        go_wp2
        go_roundg k1
        case measure => omega
        case rel =>
          refine ⟨j + 1, Ap, cp, rfl, ?_, ⟨by have := HJ.out; omega⟩, ⟨?_⟩, rfl⟩
          · exact congrArg (Value.int .i64) (widx (by have := HLT.out; have := HN.out; omega))
          · rw [readW_step i HQ.out s, if_pos HE.out]
            exact HCp.out
      · have cb : (p.1 == i) = false := beq_eq_false_iff_ne.mpr c
        have HE := Aside0.mk c
        clear c
        go_wp2
        go_roundg k1
        case measure => omega
        case rel =>
          refine ⟨j + 1, A6, c6, rfl, ?_, ⟨by have := HJ.out; omega⟩, ⟨?_⟩, rfl⟩
          · exact congrArg (Value.int .i64) (widx (by have := HLT.out; have := HN.out; omega))
          · rw [readW_step i HQ.out s, if_neg HE.out]
            exact HC6.out
    · obtain rfl : W.length = j := by have := HJ.out; omega
      have r0 : decide (W.length < W.length) = false := decide_eq_false (by omega)
      rw [List.take_length] at HC6
      clear hlt
      go_wp2_with ((with_reducible refine gate_builtin (b := .append) (xs := #[.const (.slice none 0 0), .tmp 53]) rfl ?_); at_builtin; refine Kd.R_append_rows (Kd.int .u8) (w0 := w) w.heap.size rfl (.const (.slice none 0 0)) (.tmp 53) 28 5 (.int .u8 0) 1 rfl Try.underlying28 info5 rfl (by decide) (by omega) (.slice none 0 0) [] (readW i W s) A6 16 c6 (fun _ => True) (fun _ => False) rfl rfl (Kd.R_nil _ _ _ _ _) HC6.out (fun _ _ h => h) (fun _ h => h.elim) (fun _ _ => trivial) (Below.refl _ _) (Nat.le_refl _) (by decide) ?_; intro v1 w1 ho hb1 hg hat; have HO1 := Aside0.mk ho; have HB1 := Aside0.mk hb1; clear ho hb1 hg hat)
      rw [List.nil_append] at HO1
      go_ret2
      exact ⟨_, rfl, HO1.out, HB1.out⟩
theorem refread_walk (base D m j : Nat) (AS : Option Addr) (cS : Nat) (vW : Value) (S : List (List Int)) (W : List (Int × List Int)) (i : Int) (w : World) (h : RefAt base D (.slice AS S.length cS) vW S W w) (hp : Parts m j S W) (hj : j < 1099511627776) :
    Calls Try.prog 38 #[.pointer (some ⟨D, 0, none⟩), .int .i64 i] w fun x w' => ∃ v, x = .returned (.tuple #[v, .int .i64 (readE S i)]) ∧ Kd.R (Kd.int .u8) 5 w' w.heap.size (fun _ => True) v (readL S W i) ∧ Below w.heap.size w w' := by
  by_cases c : 0 ≤ i ∧ i < (S.length : Int)
  · obtain ⟨c0, c1⟩ := c
    rw [readE, if_pos ⟨c0, c1⟩, readL, if_pos ⟨c0, c1⟩]
    have hlt : i.toNat < S.length := by omega
    have hs : S[i.toNat]? = some (S.getD i.toNat []) := by rw [List.getD_eq_getElem?_getD, List.getElem?_eq_getElem hlt, Option.getD_some]
    obtain ⟨g, c, e, _⟩ := rs_block h (by omega)
    cases e
    exact refread_yes base D g _ vW S W i _ w h c0 c1 hs (hp.s16 _ (List.mem_of_getElem? hs)) (Nat.lt_of_le_of_lt hp.few hj) (fun p hq => (hp.val p hq).2.2)
  · rw [readE, if_neg c, readL, if_neg c]
    refine (refread_no base D AS cS vW S W i w h ?_).mono ?_
    · by_cases c0 : i < 0
      · exact .inl (decide_eq_true c0)
      · exact .inr ⟨decide_eq_false c0, decide_eq_true (by
          by_cases c1 : i < (S.length : Int)
          · exact absurd ⟨by omega, c1⟩ c
          · omega)⟩
    · rintro x w' ⟨rfl, rfl⟩
      exact ⟨_, rfl, Kd.R_nil _ _ _ _ _, Below.refl _ _⟩
end Go.Proofs.Ytoafbpbnlmcklaa.PAll

namespace Go.Proofs.Ytoafbpbnlmcklaa.PAll
open Go.RowKit Go.Proofs.YtoafbpbnlmcklaaW.PrintWords Go.Proofs.YtoafbpbnlmcklaaW.PrintLast Go.Proofs.YtoafbpbnlmcklaaW.PrintMore
set_option linter.unusedVariables false
set_option linter.unusedSimpArgs false
theorem put16 {b s : List Int} (hb : b.length = 16) (hs : s.length = 16) : b.take 16 ++ s.drop 16 = b := by
  rw [List.take_of_length_le (by omega), List.drop_of_length_le (by omega), List.append_nil]
/-- The disk, what waits let go. -/
theorem RefAt.forget {base D : Nat} {vS vW : Value} {S : List (List Int)} {W : List (Int × List Int)} {w : World} (h : RefAt base D vS vW S W w) : RefAt base D vS (.slice none 0 0) S [] (w.setCell ⟨D, 1, none⟩ (.slice none 0 0)) :=
  ⟨blk_put h.blk 1 _ rfl, h.le, Kd.R_set h.rs h.blk (by decide) 1 _, Kd.R_nil _ _ _ _ _⟩
set_option maxHeartbeats 2000000 in
set_option maxRecDepth 100000 in
theorem refsync_walk (base D m q : Nat) (vS vW : Value) (S : List (List Int)) (W : List (Int × List Int)) (w : World) (h : RefAt base D vS vW S W w) (hp : Parts m q S W) (hq : q < 1099511627776) :
    Calls Try.prog 29 #[.pointer (some ⟨D, 0, none⟩)] w fun x w' => x = .returned (.tuple #[]) ∧ RefAt base D vS (.slice none 0 0) (applyW S W) [] w' ∧ RTouch D vS vW w w' := by
  have HN := Aside0.mk (Nat.lt_of_le_of_lt hp.few hq)
  obtain ⟨AW, cW, eW⟩ := rw_slice h
  subst eW
  have H := Aside0.mk h
  have HP := Aside0.mk hp
  clear h hp hq
  go_enter Try.func29, Try.ntmps29
  go_wp2_with fail
  go_loopg [2] W.length (fun kq v2 w' => ∃ j : Nat, v2 = .int .i64 (j : Int) ∧ Aside0 (j + kq = W.length) ∧ Aside0 (RefAt base D vS (.slice AW W.length cW) (applyW S (W.take j)) W w') ∧ Aside0 (RTouch D vS (.slice AW W.length cW) w w'))
  case atStart => exact ⟨0, rfl, ⟨by omega⟩, H, ⟨RTouch.refl _ _ _ _⟩⟩
  case round =>
    obtain ⟨j, rfl, HJ, HR, HT⟩ := hrel
    have q1 : wr.cell? ⟨D, 1, none⟩ = some (.slice AW W.length cW) := (blk_cell HR.out.blk 1).trans rfl
    by_cases hlt : j < W.length
    · obtain ⟨p, hp⟩ : ∃ p, W[j]? = some p := ⟨_, List.getElem?_eq_getElem hlt⟩
      obtain ⟨gW, cW', eW, hCW⟩ := rw_block HR.out (by omega)
      cases eW
      obtain ⟨Ap, cp, hy0, hy1, hlp, hCp⟩ := at_kw hCW j p hp
      have hpv := HP.out.val p (List.mem_of_getElem? hp)
      rw [hpv.2.2] at hy1 hlp hCp
      have HCp := Aside0.mk hCp
      have HLp := Aside0.mk hlp
      have HPV := Aside0.mk hpv
      have HQ := Aside0.mk hp
      have HLT := Aside0.mk hlt
      have HPj := Aside0.mk (show Parts m (q + j) (applyW S (W.take j)) [] from ⟨(applyW_len _ S).trans HP.out.len, applyW_16 _ S (fun x hx => (HP.out.val x (List.mem_of_mem_take hx)).2.2) HP.out.s16, by simp, by simp⟩)
      have r1 : decide ((j : Int) < (W.length : Int)) = true := decide_eq_true (by omega)
      have r2 := eq_true (show 0 ≤ (j : Int) by omega)
      have r3 := eq_true (show (j : Int) < (W.length : Int) by omega)
      obtain ⟨k1, rfl⟩ : ∃ k1, gk = k1 + 1 := ⟨gk - 1, by have := HJ.out; omega⟩
      clear hCW hp hlt hlp hCp hpv
      go_wp2_with fail
      have hiS : p.1 < ((applyW S (W.take j)).length : Int) := by rw [applyW_len]; exact HPV.out.2.1
      have hs16 : ((applyW S (W.take j)).getD p.1.toNat []).length = 16 := by
        have hlt' : p.1.toNat < (applyW S (W.take j)).length := by have := HPV.out.1; omega
        rw [List.getD_eq_getElem?_getD, List.getElem?_eq_getElem hlt', Option.getD_some]
        exact HPj.out.s16 _ (List.getElem_mem hlt')
      refine (refput_walk base D vS _ (applyW S (W.take j)) W p.1 p.2 Ap cp 16 wr HR.out HCp.out HLp.out HPV.out.1 hiS hs16 (Nat.le_refl _)).mono ?_
      rintro x w1 ⟨rfl, hr1, ht1⟩
      rw [put16 HPV.out.2.2 hs16] at hr1
      have HR1 := Aside0.mk hr1
      have HT1 := Aside0.mk (HT.out.trans ht1 (fun k hk => .inl hk))
      clear hr1 ht1 hiS hs16 q1 hy0 hy1
      go_wp2
      go_roundg k1
      case measure => omega
      case rel =>
        refine ⟨j + 1, ?_, ⟨by have := HJ.out; omega⟩, ⟨?_⟩, HT1⟩
        · exact congrArg (Value.int .i64) (widx (by have := HLT.out; have := HN.out; omega))
        · rw [applyW_step HQ.out]
          exact HR1.out
    · obtain rfl : W.length = j := by have := HJ.out; omega
      have r0 : decide (W.length < W.length) = false := decide_eq_false (by omega)
      have f1 := blk_frozen HR.out.blk 1
      rw [List.take_length] at HR
      clear hlt
      go_wp2
      go_end0
      exact ⟨rfl, HR.out.forget, HT.out.cellD 1 _⟩
set_option maxHeartbeats 4000000 in
set_option maxRecDepth 100000 in
theorem refcrash_n (base D m q n : Nat) (vS vW : Value) (S : List (List Int)) (W : List (Int × List Int)) (Ak : Option Addr) (ck : Nat) (keep : List Bool) (torn bytes : Int) (w : World) (h : RefAt base D vS vW S W w) (hp : Parts m q S W) (hq : q < 1099511627776) (hn16 : n ≤ 16)
    (hk : Kd.F Kd.bool w (fun k => ¬ InR D vS vW k) Ak keep.length keep) (hb : (decide (bytes < 0) = true ∧ n = 0) ∨ (decide (bytes < 0) = false ∧ decide (bytes > 16) = true ∧ n = 16) ∨ (decide (bytes < 0) = false ∧ decide (bytes > 16) = false ∧ bytes = (n : Int))) :
    Calls Try.prog 30 #[.pointer (some ⟨D, 0, none⟩), .slice Ak keep.length ck, .int .i64 torn, .int .i64 bytes] w fun x w' => x = .returned (.tuple #[]) ∧ RefAt base D vS (.slice none 0 0) (crashW keep torn n S W W.length) [] w' ∧ RTouch D vS vW w w' := by
  have HN := Aside0.mk (Nat.lt_of_le_of_lt hp.few hq)
  obtain ⟨AW, cW, eW⟩ := rw_slice h
  subst eW
  have H := Aside0.mk h
  have HP := Aside0.mk hp
  have HK := Aside0.mk hk
  have HN16 := Aside0.mk hn16
  clear h hp hq hk
  rcases hb with ⟨hb, rfl⟩ | ⟨hb, hb2, rfl⟩ | ⟨hb, hb2, rfl⟩
  · go_enter Try.func30, Try.ntmps30
    go_wp2_with fail
    go_loopg [9] W.length (fun kq v9 w' => ∃ j : Nat, v9 = .int .i64 (j : Int) ∧ Aside0 (j + kq = W.length) ∧ Aside0 (RefAt base D vS (.slice AW W.length cW) (crashW keep torn 0 S W j) W w') ∧ Aside0 (RTouch D vS (.slice AW W.length cW) w w'))
    case atStart => exact ⟨0, rfl, ⟨by omega⟩, H, ⟨RTouch.refl _ _ _ _⟩⟩
    case round =>
      obtain ⟨j, rfl, HJ, HR, HT⟩ := hrel
      have q1 : wr.cell? ⟨D, 1, none⟩ = some (.slice AW W.length cW) := (blk_cell HR.out.blk 1).trans rfl
      have HKw := Aside0.mk (Kd.F_step HK.out (fun k hk1 hk2 => HT.out.block k hk2 hk1))
      by_cases hlt : j < W.length
      · obtain ⟨p, hp⟩ : ∃ p, W[j]? = some p := ⟨_, List.getElem?_eq_getElem hlt⟩
        obtain ⟨gW, cW', eW, hCW⟩ := rw_block HR.out (by omega)
        cases eW
        obtain ⟨Ap, cp, hy0, hy1, hlp, hCp⟩ := at_kw hCW j p hp
        have hpv := HP.out.val p (List.mem_of_getElem? hp)
        rw [hpv.2.2] at hy1 hlp hCp
        have HCp := Aside0.mk hCp
        have HLp := Aside0.mk hlp
        have HPV := Aside0.mk hpv
        have HQ := Aside0.mk hp
        have HLT := Aside0.mk hlt
        have HiS := Aside0.mk (show p.1 < ((crashW keep torn 0 S W j).length : Int) by rw [crashW_len]; exact HPV.out.2.1)
        have Hs16 := Aside0.mk (show ((crashW keep torn 0 S W j).getD p.1.toNat []).length = 16 by
          have hlt' : p.1.toNat < (crashW keep torn 0 S W j).length := by have := HPV.out.1; have := HiS.out; omega
          rw [List.getD_eq_getElem?_getD, List.getElem?_eq_getElem hlt', Option.getD_some]
          exact crashW_16 HN16.out HP.out.s16 (fun x hx => HP.out.val x hx) j _ (List.getElem_mem hlt'))
        have r1 : decide ((j : Int) < (W.length : Int)) = true := decide_eq_true (by omega)
        have r2 := eq_true (show 0 ≤ (j : Int) by omega)
        have r3 := eq_true (show (j : Int) < (W.length : Int) by omega)
        obtain ⟨k1, rfl⟩ : ∃ k1, gk = k1 + 1 := ⟨gk - 1, by have := HJ.out; omega⟩
        clear hCW hp hlt hlp hCp hpv
        by_cases ckl : j < keep.length
        · obtain ⟨adk, eAk, hxk⟩ := Kd.at_bool (Kd.F_now HKw.out) (j : Int) (by omega) (by omega)
          subst eAk
          rw [Int.toNat_natCast] at hxk
          have e1 : rdOf false keep (j : Int) = keep.getD j false := by unfold rdOf; rw [Int.toNat_natCast]
          have k1' : decide ((j : Int) < (keep.length : Int)) = true := decide_eq_true (by omega)
          have k2' := eq_true (show (j : Int) < (keep.length : Int) by omega)
          rw [e1] at hxk
          clear ckl e1
          by_cases ckb : keep.getD j false = true
          · have HKB := Aside0.mk ckb
            rw [ckb] at hxk
            clear ckb
            go_wp2_with fail
            refine (refput_walk base D vS _ (crashW keep torn 0 S W j) W p.1 p.2 Ap cp 16 wr HR.out HCp.out HLp.out HPV.out.1 HiS.out Hs16.out (Nat.le_refl _)).mono ?_
            rintro x w1 ⟨rfl, hr1, ht1⟩
            rw [put16 HPV.out.2.2 Hs16.out] at hr1
            have HR1 := Aside0.mk hr1
            have HT1 := Aside0.mk (HT.out.trans ht1 (fun k hk => .inl hk))
            clear hr1 ht1 q1 hy0 hy1
            go_wp2
            go_roundg k1
            case measure => omega
            case rel =>
              refine ⟨j + 1, ?_, ⟨by have := HJ.out; omega⟩, ⟨?_⟩, HT1⟩
              · exact congrArg (Value.int .i64) (widx (by have := HLT.out; have := HN.out; omega))
              · rw [crashW_step HQ.out, crashS, if_pos HKB.out]
                exact HR1.out
          · have HKB := Aside0.mk ckb
            rw [Bool.eq_false_iff.mpr ckb] at hxk
            clear ckb
            by_cases ct : (j : Int) = torn
            · have HTB := Aside0.mk ct
              have ctb : ((j : Int) == torn) = true := beq_iff_eq.mpr ct
              clear ct
              go_wp2_with fail
              refine (refput_walk base D vS _ (crashW keep torn 0 S W j) W p.1 p.2 Ap cp 0 wr HR.out HCp.out HLp.out HPV.out.1 HiS.out Hs16.out HN16.out).mono ?_
              rintro x w1 ⟨rfl, hr1, ht1⟩
              have HR1 := Aside0.mk hr1
              have HT1 := Aside0.mk (HT.out.trans ht1 (fun k hk => .inl hk))
              clear hr1 ht1 q1 hy0 hy1
              go_wp2
              go_roundg k1
              case measure => omega
              case rel =>
                refine ⟨j + 1, ?_, ⟨by have := HJ.out; omega⟩, ⟨?_⟩, HT1⟩
                · exact congrArg (Value.int .i64) (widx (by have := HLT.out; have := HN.out; omega))
                · rw [crashW_step HQ.out, crashS, if_neg HKB.out, if_pos HTB.out]
                  exact HR1.out
            · have HTB := Aside0.mk ct
              have ctb : ((j : Int) == torn) = false := beq_eq_false_iff_ne.mpr ct
              clear ct
              go_wp2
              go_roundg k1
              case measure => omega
              case rel =>
                refine ⟨j + 1, ?_, ⟨by have := HJ.out; omega⟩, ⟨?_⟩, HT⟩
                · exact congrArg (Value.int .i64) (widx (by have := HLT.out; have := HN.out; omega))
                · rw [crashW_step HQ.out, crashS, if_neg HKB.out, if_neg HTB.out]
                  exact HR.out
        · have HKB := Aside0.mk (show ¬ keep.getD j false = true by rw [List.getD_eq_getElem?_getD, List.getElem?_eq_none (by omega)]; decide)
          have k1' : decide ((j : Int) < (keep.length : Int)) = false := decide_eq_false (by omega)
          have k3' : decide (j < keep.length) = false := decide_eq_false ckl
          clear ckl
          by_cases ct : (j : Int) = torn
          · have HTB := Aside0.mk ct
            have ctb : ((j : Int) == torn) = true := beq_iff_eq.mpr ct
            clear ct
            go_wp2_with fail
            refine (refput_walk base D vS _ (crashW keep torn 0 S W j) W p.1 p.2 Ap cp 0 wr HR.out HCp.out HLp.out HPV.out.1 HiS.out Hs16.out HN16.out).mono ?_
            rintro x w1 ⟨rfl, hr1, ht1⟩
            have HR1 := Aside0.mk hr1
            have HT1 := Aside0.mk (HT.out.trans ht1 (fun k hk => .inl hk))
            clear hr1 ht1 q1 hy0 hy1
            go_wp2
            go_roundg k1
            case measure => omega
            case rel =>
              refine ⟨j + 1, ?_, ⟨by have := HJ.out; omega⟩, ⟨?_⟩, HT1⟩
              · exact congrArg (Value.int .i64) (widx (by have := HLT.out; have := HN.out; omega))
              · rw [crashW_step HQ.out, crashS, if_neg HKB.out, if_pos HTB.out]
                exact HR1.out
          · have HTB := Aside0.mk ct
            have ctb : ((j : Int) == torn) = false := beq_eq_false_iff_ne.mpr ct
            clear ct
            go_wp2
            go_roundg k1
            case measure => omega
            case rel =>
              refine ⟨j + 1, ?_, ⟨by have := HJ.out; omega⟩, ⟨?_⟩, HT⟩
              · exact congrArg (Value.int .i64) (widx (by have := HLT.out; have := HN.out; omega))
              · rw [crashW_step HQ.out, crashS, if_neg HKB.out, if_neg HTB.out]
                exact HR.out
      · obtain rfl : W.length = j := by have := HJ.out; omega
        have r0 : decide (W.length < W.length) = false := decide_eq_false (by omega)
        have f1 := blk_frozen HR.out.blk 1
        clear hlt
        go_wp2
        go_end0
        exact ⟨rfl, HR.out.forget, HT.out.cellD 1 _⟩
  · go_enter Try.func30, Try.ntmps30
    go_wp2_with fail
    go_loopg [9] W.length (fun kq v9 w' => ∃ j : Nat, v9 = .int .i64 (j : Int) ∧ Aside0 (j + kq = W.length) ∧ Aside0 (RefAt base D vS (.slice AW W.length cW) (crashW keep torn 16 S W j) W w') ∧ Aside0 (RTouch D vS (.slice AW W.length cW) w w'))
    case atStart => exact ⟨0, rfl, ⟨by omega⟩, H, ⟨RTouch.refl _ _ _ _⟩⟩
    case round =>
      obtain ⟨j, rfl, HJ, HR, HT⟩ := hrel
      have q1 : wr.cell? ⟨D, 1, none⟩ = some (.slice AW W.length cW) := (blk_cell HR.out.blk 1).trans rfl
      have HKw := Aside0.mk (Kd.F_step HK.out (fun k hk1 hk2 => HT.out.block k hk2 hk1))
      by_cases hlt : j < W.length
      · obtain ⟨p, hp⟩ : ∃ p, W[j]? = some p := ⟨_, List.getElem?_eq_getElem hlt⟩
        obtain ⟨gW, cW', eW, hCW⟩ := rw_block HR.out (by omega)
        cases eW
        obtain ⟨Ap, cp, hy0, hy1, hlp, hCp⟩ := at_kw hCW j p hp
        have hpv := HP.out.val p (List.mem_of_getElem? hp)
        rw [hpv.2.2] at hy1 hlp hCp
        have HCp := Aside0.mk hCp
        have HLp := Aside0.mk hlp
        have HPV := Aside0.mk hpv
        have HQ := Aside0.mk hp
        have HLT := Aside0.mk hlt
        have HiS := Aside0.mk (show p.1 < ((crashW keep torn 16 S W j).length : Int) by rw [crashW_len]; exact HPV.out.2.1)
        have Hs16 := Aside0.mk (show ((crashW keep torn 16 S W j).getD p.1.toNat []).length = 16 by
          have hlt' : p.1.toNat < (crashW keep torn 16 S W j).length := by have := HPV.out.1; have := HiS.out; omega
          rw [List.getD_eq_getElem?_getD, List.getElem?_eq_getElem hlt', Option.getD_some]
          exact crashW_16 HN16.out HP.out.s16 (fun x hx => HP.out.val x hx) j _ (List.getElem_mem hlt'))
        have r1 : decide ((j : Int) < (W.length : Int)) = true := decide_eq_true (by omega)
        have r2 := eq_true (show 0 ≤ (j : Int) by omega)
        have r3 := eq_true (show (j : Int) < (W.length : Int) by omega)
        obtain ⟨k1, rfl⟩ : ∃ k1, gk = k1 + 1 := ⟨gk - 1, by have := HJ.out; omega⟩
        clear hCW hp hlt hlp hCp hpv
        by_cases ckl : j < keep.length
        · obtain ⟨adk, eAk, hxk⟩ := Kd.at_bool (Kd.F_now HKw.out) (j : Int) (by omega) (by omega)
          subst eAk
          rw [Int.toNat_natCast] at hxk
          have e1 : rdOf false keep (j : Int) = keep.getD j false := by unfold rdOf; rw [Int.toNat_natCast]
          have k1' : decide ((j : Int) < (keep.length : Int)) = true := decide_eq_true (by omega)
          have k2' := eq_true (show (j : Int) < (keep.length : Int) by omega)
          rw [e1] at hxk
          clear ckl e1
          by_cases ckb : keep.getD j false = true
          · have HKB := Aside0.mk ckb
            rw [ckb] at hxk
            clear ckb
            go_wp2_with fail
            refine (refput_walk base D vS _ (crashW keep torn 16 S W j) W p.1 p.2 Ap cp 16 wr HR.out HCp.out HLp.out HPV.out.1 HiS.out Hs16.out (Nat.le_refl _)).mono ?_
            rintro x w1 ⟨rfl, hr1, ht1⟩
            rw [put16 HPV.out.2.2 Hs16.out] at hr1
            have HR1 := Aside0.mk hr1
            have HT1 := Aside0.mk (HT.out.trans ht1 (fun k hk => .inl hk))
            clear hr1 ht1 q1 hy0 hy1
            go_wp2
            go_roundg k1
            case measure => omega
            case rel =>
              refine ⟨j + 1, ?_, ⟨by have := HJ.out; omega⟩, ⟨?_⟩, HT1⟩
              · exact congrArg (Value.int .i64) (widx (by have := HLT.out; have := HN.out; omega))
              · rw [crashW_step HQ.out, crashS, if_pos HKB.out]
                exact HR1.out
          · have HKB := Aside0.mk ckb
            rw [Bool.eq_false_iff.mpr ckb] at hxk
            clear ckb
            by_cases ct : (j : Int) = torn
            · have HTB := Aside0.mk ct
              have ctb : ((j : Int) == torn) = true := beq_iff_eq.mpr ct
              clear ct
              go_wp2_with fail
              refine (refput_walk base D vS _ (crashW keep torn 16 S W j) W p.1 p.2 Ap cp 16 wr HR.out HCp.out HLp.out HPV.out.1 HiS.out Hs16.out HN16.out).mono ?_
              rintro x w1 ⟨rfl, hr1, ht1⟩
              have HR1 := Aside0.mk hr1
              have HT1 := Aside0.mk (HT.out.trans ht1 (fun k hk => .inl hk))
              clear hr1 ht1 q1 hy0 hy1
              go_wp2
              go_roundg k1
              case measure => omega
              case rel =>
                refine ⟨j + 1, ?_, ⟨by have := HJ.out; omega⟩, ⟨?_⟩, HT1⟩
                · exact congrArg (Value.int .i64) (widx (by have := HLT.out; have := HN.out; omega))
                · rw [crashW_step HQ.out, crashS, if_neg HKB.out, if_pos HTB.out]
                  exact HR1.out
            · have HTB := Aside0.mk ct
              have ctb : ((j : Int) == torn) = false := beq_eq_false_iff_ne.mpr ct
              clear ct
              go_wp2
              go_roundg k1
              case measure => omega
              case rel =>
                refine ⟨j + 1, ?_, ⟨by have := HJ.out; omega⟩, ⟨?_⟩, HT⟩
                · exact congrArg (Value.int .i64) (widx (by have := HLT.out; have := HN.out; omega))
                · rw [crashW_step HQ.out, crashS, if_neg HKB.out, if_neg HTB.out]
                  exact HR.out
        · have HKB := Aside0.mk (show ¬ keep.getD j false = true by rw [List.getD_eq_getElem?_getD, List.getElem?_eq_none (by omega)]; decide)
          have k1' : decide ((j : Int) < (keep.length : Int)) = false := decide_eq_false (by omega)
          have k3' : decide (j < keep.length) = false := decide_eq_false ckl
          clear ckl
          by_cases ct : (j : Int) = torn
          · have HTB := Aside0.mk ct
            have ctb : ((j : Int) == torn) = true := beq_iff_eq.mpr ct
            clear ct
            go_wp2_with fail
            refine (refput_walk base D vS _ (crashW keep torn 16 S W j) W p.1 p.2 Ap cp 16 wr HR.out HCp.out HLp.out HPV.out.1 HiS.out Hs16.out HN16.out).mono ?_
            rintro x w1 ⟨rfl, hr1, ht1⟩
            have HR1 := Aside0.mk hr1
            have HT1 := Aside0.mk (HT.out.trans ht1 (fun k hk => .inl hk))
            clear hr1 ht1 q1 hy0 hy1
            go_wp2
            go_roundg k1
            case measure => omega
            case rel =>
              refine ⟨j + 1, ?_, ⟨by have := HJ.out; omega⟩, ⟨?_⟩, HT1⟩
              · exact congrArg (Value.int .i64) (widx (by have := HLT.out; have := HN.out; omega))
              · rw [crashW_step HQ.out, crashS, if_neg HKB.out, if_pos HTB.out]
                exact HR1.out
          · have HTB := Aside0.mk ct
            have ctb : ((j : Int) == torn) = false := beq_eq_false_iff_ne.mpr ct
            clear ct
            go_wp2
            go_roundg k1
            case measure => omega
            case rel =>
              refine ⟨j + 1, ?_, ⟨by have := HJ.out; omega⟩, ⟨?_⟩, HT⟩
              · exact congrArg (Value.int .i64) (widx (by have := HLT.out; have := HN.out; omega))
              · rw [crashW_step HQ.out, crashS, if_neg HKB.out, if_neg HTB.out]
                exact HR.out
      · obtain rfl : W.length = j := by have := HJ.out; omega
        have r0 : decide (W.length < W.length) = false := decide_eq_false (by omega)
        have f1 := blk_frozen HR.out.blk 1
        clear hlt
        go_wp2
        go_end0
        exact ⟨rfl, HR.out.forget, HT.out.cellD 1 _⟩
  · go_enter Try.func30, Try.ntmps30
    go_wp2_with fail
    go_loopg [9] W.length (fun kq v9 w' => ∃ j : Nat, v9 = .int .i64 (j : Int) ∧ Aside0 (j + kq = W.length) ∧ Aside0 (RefAt base D vS (.slice AW W.length cW) (crashW keep torn n S W j) W w') ∧ Aside0 (RTouch D vS (.slice AW W.length cW) w w'))
    case atStart => exact ⟨0, rfl, ⟨by omega⟩, H, ⟨RTouch.refl _ _ _ _⟩⟩
    case round =>
      obtain ⟨j, rfl, HJ, HR, HT⟩ := hrel
      have q1 : wr.cell? ⟨D, 1, none⟩ = some (.slice AW W.length cW) := (blk_cell HR.out.blk 1).trans rfl
      have HKw := Aside0.mk (Kd.F_step HK.out (fun k hk1 hk2 => HT.out.block k hk2 hk1))
      by_cases hlt : j < W.length
      · obtain ⟨p, hp⟩ : ∃ p, W[j]? = some p := ⟨_, List.getElem?_eq_getElem hlt⟩
        obtain ⟨gW, cW', eW, hCW⟩ := rw_block HR.out (by omega)
        cases eW
        obtain ⟨Ap, cp, hy0, hy1, hlp, hCp⟩ := at_kw hCW j p hp
        have hpv := HP.out.val p (List.mem_of_getElem? hp)
        rw [hpv.2.2] at hy1 hlp hCp
        have HCp := Aside0.mk hCp
        have HLp := Aside0.mk hlp
        have HPV := Aside0.mk hpv
        have HQ := Aside0.mk hp
        have HLT := Aside0.mk hlt
        have HiS := Aside0.mk (show p.1 < ((crashW keep torn n S W j).length : Int) by rw [crashW_len]; exact HPV.out.2.1)
        have Hs16 := Aside0.mk (show ((crashW keep torn n S W j).getD p.1.toNat []).length = 16 by
          have hlt' : p.1.toNat < (crashW keep torn n S W j).length := by have := HPV.out.1; have := HiS.out; omega
          rw [List.getD_eq_getElem?_getD, List.getElem?_eq_getElem hlt', Option.getD_some]
          exact crashW_16 HN16.out HP.out.s16 (fun x hx => HP.out.val x hx) j _ (List.getElem_mem hlt'))
        have r1 : decide ((j : Int) < (W.length : Int)) = true := decide_eq_true (by omega)
        have r2 := eq_true (show 0 ≤ (j : Int) by omega)
        have r3 := eq_true (show (j : Int) < (W.length : Int) by omega)
        obtain ⟨k1, rfl⟩ : ∃ k1, gk = k1 + 1 := ⟨gk - 1, by have := HJ.out; omega⟩
        clear hCW hp hlt hlp hCp hpv
        by_cases ckl : j < keep.length
        · obtain ⟨adk, eAk, hxk⟩ := Kd.at_bool (Kd.F_now HKw.out) (j : Int) (by omega) (by omega)
          subst eAk
          rw [Int.toNat_natCast] at hxk
          have e1 : rdOf false keep (j : Int) = keep.getD j false := by unfold rdOf; rw [Int.toNat_natCast]
          have k1' : decide ((j : Int) < (keep.length : Int)) = true := decide_eq_true (by omega)
          have k2' := eq_true (show (j : Int) < (keep.length : Int) by omega)
          rw [e1] at hxk
          clear ckl e1
          by_cases ckb : keep.getD j false = true
          · have HKB := Aside0.mk ckb
            rw [ckb] at hxk
            clear ckb
            go_wp2_with fail
            refine (refput_walk base D vS _ (crashW keep torn n S W j) W p.1 p.2 Ap cp 16 wr HR.out HCp.out HLp.out HPV.out.1 HiS.out Hs16.out (Nat.le_refl _)).mono ?_
            rintro x w1 ⟨rfl, hr1, ht1⟩
            rw [put16 HPV.out.2.2 Hs16.out] at hr1
            have HR1 := Aside0.mk hr1
            have HT1 := Aside0.mk (HT.out.trans ht1 (fun k hk => .inl hk))
            clear hr1 ht1 q1 hy0 hy1
            go_wp2
            go_roundg k1
            case measure => omega
            case rel =>
              refine ⟨j + 1, ?_, ⟨by have := HJ.out; omega⟩, ⟨?_⟩, HT1⟩
              · exact congrArg (Value.int .i64) (widx (by have := HLT.out; have := HN.out; omega))
              · rw [crashW_step HQ.out, crashS, if_pos HKB.out]
                exact HR1.out
          · have HKB := Aside0.mk ckb
            rw [Bool.eq_false_iff.mpr ckb] at hxk
            clear ckb
            by_cases ct : (j : Int) = torn
            · have HTB := Aside0.mk ct
              have ctb : ((j : Int) == torn) = true := beq_iff_eq.mpr ct
              clear ct
              go_wp2_with fail
              refine (refput_walk base D vS _ (crashW keep torn n S W j) W p.1 p.2 Ap cp n wr HR.out HCp.out HLp.out HPV.out.1 HiS.out Hs16.out HN16.out).mono ?_
              rintro x w1 ⟨rfl, hr1, ht1⟩
              have HR1 := Aside0.mk hr1
              have HT1 := Aside0.mk (HT.out.trans ht1 (fun k hk => .inl hk))
              clear hr1 ht1 q1 hy0 hy1
              go_wp2
              go_roundg k1
              case measure => omega
              case rel =>
                refine ⟨j + 1, ?_, ⟨by have := HJ.out; omega⟩, ⟨?_⟩, HT1⟩
                · exact congrArg (Value.int .i64) (widx (by have := HLT.out; have := HN.out; omega))
                · rw [crashW_step HQ.out, crashS, if_neg HKB.out, if_pos HTB.out]
                  exact HR1.out
            · have HTB := Aside0.mk ct
              have ctb : ((j : Int) == torn) = false := beq_eq_false_iff_ne.mpr ct
              clear ct
              go_wp2
              go_roundg k1
              case measure => omega
              case rel =>
                refine ⟨j + 1, ?_, ⟨by have := HJ.out; omega⟩, ⟨?_⟩, HT⟩
                · exact congrArg (Value.int .i64) (widx (by have := HLT.out; have := HN.out; omega))
                · rw [crashW_step HQ.out, crashS, if_neg HKB.out, if_neg HTB.out]
                  exact HR.out
        · have HKB := Aside0.mk (show ¬ keep.getD j false = true by rw [List.getD_eq_getElem?_getD, List.getElem?_eq_none (by omega)]; decide)
          have k1' : decide ((j : Int) < (keep.length : Int)) = false := decide_eq_false (by omega)
          have k3' : decide (j < keep.length) = false := decide_eq_false ckl
          clear ckl
          by_cases ct : (j : Int) = torn
          · have HTB := Aside0.mk ct
            have ctb : ((j : Int) == torn) = true := beq_iff_eq.mpr ct
            clear ct
            go_wp2_with fail
            refine (refput_walk base D vS _ (crashW keep torn n S W j) W p.1 p.2 Ap cp n wr HR.out HCp.out HLp.out HPV.out.1 HiS.out Hs16.out HN16.out).mono ?_
            rintro x w1 ⟨rfl, hr1, ht1⟩
            have HR1 := Aside0.mk hr1
            have HT1 := Aside0.mk (HT.out.trans ht1 (fun k hk => .inl hk))
            clear hr1 ht1 q1 hy0 hy1
            go_wp2
            go_roundg k1
            case measure => omega
            case rel =>
              refine ⟨j + 1, ?_, ⟨by have := HJ.out; omega⟩, ⟨?_⟩, HT1⟩
              · exact congrArg (Value.int .i64) (widx (by have := HLT.out; have := HN.out; omega))
              · rw [crashW_step HQ.out, crashS, if_neg HKB.out, if_pos HTB.out]
                exact HR1.out
          · have HTB := Aside0.mk ct
            have ctb : ((j : Int) == torn) = false := beq_eq_false_iff_ne.mpr ct
            clear ct
            go_wp2
            go_roundg k1
            case measure => omega
            case rel =>
              refine ⟨j + 1, ?_, ⟨by have := HJ.out; omega⟩, ⟨?_⟩, HT⟩
              · exact congrArg (Value.int .i64) (widx (by have := HLT.out; have := HN.out; omega))
              · rw [crashW_step HQ.out, crashS, if_neg HKB.out, if_neg HTB.out]
                exact HR.out
      · obtain rfl : W.length = j := by have := HJ.out; omega
        have r0 : decide (W.length < W.length) = false := decide_eq_false (by omega)
        have f1 := blk_frozen HR.out.blk 1
        clear hlt
        go_wp2
        go_end0
        exact ⟨rfl, HR.out.forget, HT.out.cellD 1 _⟩
theorem refcrash_walk (base D m q : Nat) (vS vW : Value) (S : List (List Int)) (W : List (Int × List Int)) (Ak : Option Addr) (ck : Nat) (keep : List Bool) (torn bytes : Int) (w : World) (h : RefAt base D vS vW S W w) (hp : Parts m q S W) (hq : q < 1099511627776)
    (hk : Kd.F Kd.bool w (fun k => ¬ InR D vS vW k) Ak keep.length keep) :
    Calls Try.prog 30 #[.pointer (some ⟨D, 0, none⟩), .slice Ak keep.length ck, .int .i64 torn, .int .i64 bytes] w fun x w' => x = .returned (.tuple #[]) ∧ RefAt base D vS (.slice none 0 0) (crashW keep torn (clampB bytes) S W W.length) [] w' ∧ RTouch D vS vW w w' := by
  refine refcrash_n base D m q (clampB bytes) vS vW S W Ak ck keep torn bytes w h hp hq (clampB_le bytes) hk ?_
  unfold clampB
  by_cases c : bytes < 0
  · exact .inl ⟨decide_eq_true c, by rw [if_pos c]; rfl⟩
  · by_cases d : 16 < bytes
    · exact .inr (.inl ⟨decide_eq_false c, decide_eq_true d, by rw [if_neg c, if_pos d]; rfl⟩)
    · exact .inr (.inr ⟨decide_eq_false c, decide_eq_false d, by rw [if_neg c, if_neg d]; omega⟩)
end Go.Proofs.Ytoafbpbnlmcklaa.PAll

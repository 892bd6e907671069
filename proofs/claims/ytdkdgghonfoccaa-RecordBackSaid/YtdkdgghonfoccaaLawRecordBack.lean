/- Proved: the statement RecordBackSaid. Conditions: none but the statement's own. -/
import Derived.Test.YtdkdgghonfoccaaRows
import Derived.Test.YtdkdgghonfoccaaPAllx10
import Derived.Test.YtdkdgghonfoccaaPureRecordBack
import Derived.Test.YtdkdgghonfoccaaOpens
import Derived.WalkKit
import Derived.ProofKit
import Derived.OpenShut
import Derived.ShutString
import Derived.ChangeOld
import Derived.Below
import Derived.SizedLaws
import Derived.Test.YtdkdgghonfoccaaWSized
namespace Go.Proofs.Ytdkdgghonfoccaa.recordBack
open Go.ChangeShapes Go.WideShapes Go.ChangeAt Go.RowKit Go.Proofs.Ytdkdgghonfoccaa.PAll Go.Proofs.Ytdkdgghonfoccaa.Rowx Go.Proofs.YtdkdgghonfoccaaW.PrintWords
open Go.ChangeMaps (open_string shut_string)
set_option linter.unusedVariables false
theorem own : ownKnob Try.prog.godebug = none := by kernel_rfl
theorem laidOut : laidOutB Try.prog = true := by kernel_rfl
theorem opens24 : Opens Try.prog 24 k24 (fun x : S24 => ((Lit.int .i64 x.f0).wf = true ∧ (x.f1.length ≤ maxLen ∧ ∀ c0 ∈ x.f1, (Lit.int .u8 c0).wf = true))) :=
  Opens.iso (Opens.struct Try.underlying24 (by kernel_rfl) (OpensF.cons rfl (Opens.int Try.underlying3 (by kernel_rfl)) (OpensF.last rfl (Opens.slice Try.underlying22 (by kernel_rfl) (Opens.int Try.underlying5 (by kernel_rfl)))))) (fun x : S24 => (x.f0, x.f1)) (fun p => ⟨p.1, p.2⟩) (fun _ => rfl)
set_option maxRecDepth 100000 in
theorem lifted (os : Os) (started : os.Started) (H : Type) (enc : TypeId × Value → H) :
    ReturnsInHanded {} Try.checked os 9 .any (Rows.recordBackSpec.pre6 enc Try.prog Try.f9 Rows.recordBackRow.domain false) (Rows.recordBackSpec.post enc Try.prog Try.f9 false true false false) := by
  refine returnsInHanded_of_change_sized (C := Try.checked) own started (by kernel_rfl) Try.func9
    (ChangeSpec.witness6 (enc := enc) (C := Try.checked) false ⟨#[], #[.slice none 0 0, .slice none 0 0], []⟩ 8 (by kernel_rfl) (by kernel_rfl) (by kernel_rfl) (by kernel_rfl)) ?_
  intro W base args ds gs before hval0 hW hcnd hsz0 _
  have hsz : (DataW.weightsEach Try.prog (Try.f9.params.toList ++ Rows.recordBackSpec.plain.varTypes Try.prog) (ds ++ gs)).all (· ≤ reachBytes) = true := hsz0
  have hval : ∀ (j : Nat) t v, Try.f9.params[j]? = some t → args[j]? = some v → Value.okWide Try.prog W .any base t v := hval0
  have hW' := hW
  obtain ⟨p, q, hA0, hV, rfl, hfz, hnd⟩ := hW
  have hA : DataW.TrodAll enc Try.prog W 0 (fun _ => true) true Try.f9.params.toList args.toList ds p := hA0
  rw [Try.params9] at hA hval hsz
  obtain ⟨v0, vs0, d0, ds0, p0, q0, hargs, rfl, rfl, h0, r0⟩ := trodAll_cons hA
  obtain ⟨v1, vs1, d1, ds1, p1, q1, rfl, rfl, rfl, h1, r1⟩ := trodAll_cons r0
  obtain ⟨rfl, rfl, rfl⟩ := trodAll_nil r1
  obtain rfl : args = #[v0, v1] := by cases args; simp_all
  obtain ⟨rfl, rfl⟩ := trodVars_none hV
  have k0 := h0
  have lt0 : ∀ x ∈ p0, x.block < W.heap.size := by obtain ⟨m, hm⟩ := k0; exact DataW.trod_lt m _ _ _ hm
  obtain ⟨A0, c0, l0, rfl, hc0, hr0, hm0, hg0⟩ := open_row Try.underlying35 (by kernel_rfl) opens24 (hval 0 35 v0 rfl rfl) h0
  have k1 := h1
  have lt1 : ∀ x ∈ p1, x.block < W.heap.size := by obtain ⟨m, hm⟩ := k1; exact DataW.trod_lt m _ _ _ hm
  obtain ⟨A1, c1, l1, rfl, hc1, hr1, hm1, hg1⟩ := open_row Try.underlying22 (by kernel_rfl) (Opens.int Try.underlying5 (by kernel_rfl)) (hval 1 22 v1 rfl rfl) h1
  clear hA0 hval0 hsz0 hsz
  obtain ⟨k, hk⟩ := Pure.RecordBack l0 l1 hg0 hg1
  refine (PAll.colloquylaw03_RecordBack.calls (k := k) (A0 := A0) (c0 := c0) (l0 := l0) (A1 := A1) (c1 := c1) (l1 := l1) (hr0 := hr0) (hc0 := hc0) (hr1 := hr1) (hc1 := hc1) (r := true) (w := W) (h := hk)).mono fun e W' ⟨he, bel⟩ => ?_
  subst he
  exact ⟨_, rfl, _, _, _, [], _, [], hW', trodAll_mk1 (shut_bool Try.underlying4 _), (trodAll_cons_mk (Below.trod laidOut (by kernel_rfl) (of_decide_eq_true (by kernel_rfl)) k0 bel lt0) (trodAll_cons_mk (Below.trod laidOut (by kernel_rfl) (of_decide_eq_true (by kernel_rfl)) k1 bel lt1) trodAll_mk0)), rfl, bel.frame _, fun h => by cases h⟩
theorem over : Rows.recordBackRow.holds Try.pinned (OpenSpec.ofChange Rows.recordBackSpec) :=
  OpenClaim.holds_of_wide 9 Try.f9 rfl rfl rfl rfl rfl rfl rfl ⟨rfl, rfl, rfl, rfl, rfl⟩ rfl rfl rfl rfl rfl (by kernel_rfl) Try.func9 (by kernel_rfl)
    (of_decide_eq_true (by kernel_rfl)) (by unfold Func.isWrapper; first | (rw [if_pos (by decide +kernel)]; kernel_rfl) | (rw [if_neg (by decide +kernel)]; exact ⟨rfl, rfl⟩))
    (fun os started H enc _ => lifted os started H enc)
theorem proved : Rows.RecordBackSaid := over
#print axioms proved
end Go.Proofs.Ytdkdgghonfoccaa.recordBack
namespace Go.Proofs.Ytdkdgghonfoccaa
/-- The row, under a short name, for the claim. -/
theorem recordBack_holds : Rows.RecordBackSaid := recordBack.proved
end Go.Proofs.Ytdkdgghonfoccaa

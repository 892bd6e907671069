/- slices.Clone of bytes, in memory. -/
import Derived.Test.YtfmgealooebciaaPAllx0
namespace Go.Proofs.Ytfmgealooebciaa.PAll
open Go.RowKit Go.Proofs.YtfmgealooebciaaW.PrintWords Go.Proofs.YtfmgealooebciaaW.PrintLast Go.Proofs.YtfmgealooebciaaW.PrintMore
set_option linter.unusedVariables false
set_option linter.unusedSimpArgs false
def slices_Clone_byte_byte.f (l0 : List Int) : Option (List Int) := if l0.length < 140737488355328 then some l0 else none
theorem empty_row (w : World) (e : TypeId) : Kd.R (Kd.int .u8) e (w.alloc (.cells #[] e)) w.heap.size (fun _ => True) (.slice (some ⟨w.heap.size, 0, none⟩) 0 0) [] :=
  ⟨fun _ _ => trivial, [], World.ownsRow_lit (base := w.heap.size) (e := e) (size := 1) w #[] 0 (Nat.le_refl _) (by decide) rfl, ⟨rfl, fun j p h => by simp at h⟩⟩
set_option maxHeartbeats 1000000 in
set_option maxRecDepth 100000 in
theorem slices_Clone_byte_byte.calls (A0 : Option Addr) (c0 : Nat) (l0 : List Int) (r : List Int) (w : World) (hr0 : Kd.C (Kd.int .u8) w A0 l0.length l0) (hc0 : l0.length ≤ c0) (h : slices_Clone_byte_byte.f l0 = some r) :
    Calls Try.prog 27 #[.slice A0 l0.length c0] w fun e w' => ∃ v0_ : Value, e = .returned v0_ ∧ Kd.R (Kd.int .u8) 5 w' w.heap.size (fun _ => True) v0_ r ∧ Below w.heap.size w w' := by
  unfold slices_Clone_byte_byte.f at h
  by_cases c : l0.length < 140737488355328
  · rw [if_pos c] at h
    obtain rfl := Option.some.inj h
    have HR0 := Aside0.mk hr0
    have HL := Aside0.mk c
    clear c h hr0
    cases A0 with
    | none =>
      have e0 : l0 = [] := by
        apply Classical.byContradiction
        intro hne
        obtain ⟨ad, he, _⟩ := HR0.out.2.2 (by cases l0 with | nil => exact absurd rfl hne | cons => simp)
        cases he
      subst e0
      have hnil := fun w => Lib.run_eql_slice_nil (P := Try.prog) w 30 5 none 0 c0 0 0 Try.underlying30
      simp only [Option.isNone_none] at hnil
      go_enter Try.func27, Try.ntmps27
      go_wp2
      go_ret
      exact ⟨_, rfl, Kd.R_nil _ _ _ _ _, Below.refl _ _⟩
    | some a =>
      have hnil := fun w => Lib.run_eql_slice_nil (P := Try.prog) w 30 5 (some a) l0.length c0 0 0 Try.underlying30
      simp only [Option.isNone_some] at hnil
      have HO := Aside0.mk (empty_row w 5)
      go_enter Try.func27, Try.ntmps27
      go_wp2_with ((with_reducible refine gate_builtin (b := .append) (xs := #[.tmp 5, .tmp 6]) rfl ?_); at_builtin; refine Kd.R_append_rows (Kd.int .u8) (w0 := w) w.heap.size rfl (.tmp 5) (.tmp 6) 30 5 (.int .u8 0) 1 rfl Try.underlying30 info5 rfl (by decide) (by omega) (.slice (some ⟨w.heap.size, 0, none⟩) 0 0) [] l0 (some a) l0.length c0 (fun _ => True) (fun _ => False) rfl rfl HO.out (Kd.C_alloc HR0.out _) (fun _ _ h => h) (fun _ h => h.elim) (fun _ _ => trivial) (below_alloc (Below.refl _ _) _) ?aS ?aL ?_; (case aS => simp); (case aL => have := HL.out; simp; omega); intro v1 w1 ho hb1 hg hat; have K3 := Aside0.mk ho; have K4 := Aside0.mk hb1; clear ho hb1 hg hat)
      go_ret
      exact ⟨_, rfl, by simpa using K3.out, K4.out⟩
  · rw [if_neg c] at h; cases h
end Go.Proofs.Ytfmgealooebciaa.PAll

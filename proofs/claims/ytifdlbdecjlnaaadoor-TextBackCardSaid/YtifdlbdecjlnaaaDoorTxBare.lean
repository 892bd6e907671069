/- The document's 'Bare': what it answers. Conditions: those that each theorem states. -/
import Derived.Test.YtifdlbdecjlnaaaDoorTxAwake
import Derived.Test.YtifdlbdecjlnaaaDoorTxParse
namespace Go.Proofs.YtifdlbdecjlnaaaDoor.PAll
open Go.RowKit Go.Proofs.YtifdlbdecjlnaaaDoorW.PrintWords Go.Proofs.YtifdlbdecjlnaaaDoorW.PrintLast Go.Proofs.YtifdlbdecjlnaaaDoorW.PrintMore
set_option linter.unusedVariables false
set_option linter.unusedSimpArgs false
theorem nref_l (k : Int) (b : Bool) (h : decide (k = 5 ∨ k = 6 ∨ k = 7) = b) (w : World) : Calls Tryd.prog 28 #[.int .i64 k] w fun e w' => e = .returned (.bool b) ∧ w' = w := by
  by_cases h5 : k = 5
  · subst h5
    subst h
    go_enter Tryd.func28, Tryd.ntmps28
    go_wp2
    go_ret
    exact ⟨rfl, rfl⟩
  by_cases h6 : k = 6
  · subst h6
    subst h
    go_enter Tryd.func28, Tryd.ntmps28
    go_wp2
    go_ret
    exact ⟨rfl, rfl⟩
  have q5 : (k == 5) = false := beq_eq_false_iff_ne.mpr h5
  have q6 : (k == 6) = false := beq_eq_false_iff_ne.mpr h6
  have hb : b = (k == 7) := by
    rw [← h]
    by_cases h7 : k = 7
    · subst h7; rfl
    · rw [beq_eq_false_iff_ne.mpr h7]; exact decide_eq_false (by omega)
  subst hb
  clear h
  go_enter Tryd.func28, Tryd.ntmps28
  go_wp2
  go_ret
  exact ⟨by first | rfl | (simp [q5, q6]; done), rfl⟩
theorem wref_l (k : Int) (b : Bool) (h : decide (k = 4 ∨ k = 5) = b) (w : World) : Calls Tryd.prog 29 #[.int .i64 k] w fun e w' => e = .returned (.bool b) ∧ w' = w := by
  by_cases h4 : k = 4
  · subst h4
    subst h
    go_enter Tryd.func29, Tryd.ntmps29
    go_wp2
    go_ret
    exact ⟨rfl, rfl⟩
  have q4 : (k == 4) = false := beq_eq_false_iff_ne.mpr h4
  have hb : b = (k == 5) := by
    rw [← h]
    by_cases h5 : k = 5
    · subst h5; rfl
    · rw [beq_eq_false_iff_ne.mpr h5]; exact decide_eq_false (by omega)
  subst hb
  clear h
  go_enter Tryd.func29, Tryd.ntmps29
  go_wp2
  go_ret
  exact ⟨by first | rfl | (simp [q4]; done), rfl⟩
theorem bare_end (w : World) (c1 c2 c3 : Array Value) (hc : c2.size = 6) (tmps : Array Value) (h2 : tmps.getD 2 undef = .pointer (some ⟨w.heap.size + 1, 0, none⟩)) :
    (results Tryd.f18 tmps).run Tryd.prog (((w.alloc (.cells c1 24)).alloc (.cells c2 24)).alloc (.cells c3 24)) = .ok (.agg c2) (((w.alloc (.cells c1 24)).alloc (.cells c2 24)).alloc (.cells c3 24)) := by
  have hW : (((w.alloc (.cells c1 24)).alloc (.cells c2 24)).alloc (.cells c3 24)).heap[w.heap.size + 1]? = some (.cells c2 24 (0, 0)) := by
    show (((w.heap.push _).push _).push _)[w.heap.size + 1]? = _
    rw [Array.getElem?_push, if_neg (by rw [Array.size_push, Array.size_push]; omega), Array.getElem?_push, if_pos (by rw [Array.size_push])]
  have a := load_cmd _ c2 hc _ hW
  have h : Tryd.f18.results = #[.cell 2 24] := rfl
  have h2' : tmps[2]?.getD undef = .pointer (some ⟨w.heap.size + 1, 0, none⟩) := by simpa using h2
  simp [results, h, h2', asAddr, a]
set_option maxHeartbeats 400000 in
set_option maxRecDepth 100000 in
theorem bare_w (a0 a1 k n m : Int) (t : ByteArray) (bn bw : Bool) (hn : decide (k = 5 ∨ k = 6 ∨ k = 7) = bn) (hw : decide (k = 4 ∨ k = 5) = bw) (w : World) :
    Calls Tryd.prog 18 #[.agg #[.int .i64 a0, .int .i64 a1, .int .i64 k, .int .i64 n, .int .i64 m, .string t]] w fun e w' => e = .returned (.agg (cmdV k n (if bn then m else 0) (if bw then t else ⟨#[]⟩))) ∧ Below w.heap.size w w' := by
  have c1 := nref_l k bn hn
  have c2 := wref_l k bw hw
  clear hn hw
  cases bn <;> cases bw
  all_goals go_enter Tryd.func18, Tryd.ntmps18
  all_goals go_wp2_with (first | (go_at_call 28; refine (c1 _).mono ?_; rintro e w' ⟨rfl, hw_⟩; rw [hw_]; clear hw_) | (go_at_call 29; refine (c2 _).mono ?_; rintro e w' ⟨rfl, hw_⟩; rw [hw_]; clear hw_))
  all_goals exact bodyPost_ret (bare_end w _ _ _ rfl _ rfl) rfl ⟨rfl, (((Below.refl _ _).alloc (Nat.le_refl _) _).alloc (by rw [World.size_alloc]; omega) _).alloc (by rw [World.size_alloc, World.size_alloc]; omega) _⟩
end Go.Proofs.YtifdlbdecjlnaaaDoor.PAll

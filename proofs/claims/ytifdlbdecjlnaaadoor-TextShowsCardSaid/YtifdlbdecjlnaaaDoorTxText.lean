/- The line's method 'text'. Conditions: those that each theorem states. -/
import Derived.Test.YtifdlbdecjlnaaaDoorTxNum
namespace Go.Proofs.YtifdlbdecjlnaaaDoor.PAll
open Go.RowKit Go.Proofs.YtifdlbdecjlnaaaDoorW.PrintWords Go.Proofs.YtifdlbdecjlnaaaDoorW.PrintLast Go.Proofs.YtifdlbdecjlnaaaDoorW.PrintMore
set_option linter.unusedVariables false
set_option linter.unusedSimpArgs false
theorem text_space (b : Nat) (l : List UInt8) (hl : ∀ r, l ≠ 32 :: r) (w : World) (hb : Ln b l w) : Calls Tryd.prog 24 #[.pointer (some ⟨b, 0, none⟩)] w fun e w' => e = .panicked (Wr 2) ∧ w' = w := by
  go_enter Tryd.func24, Tryd.ntmps24
  go_wp2_with (first | (go_at_call 35; refine (space_no b l hl _ hb).mono ?_; rintro e w' ⟨rfl, hw_⟩; obtain rfl := hw_.symm))
  exact ⟨rfl, rfl, rfl⟩
theorem line_set (b : Nat) (s : List UInt8) (w w1 : World) (h0 : Held b s w w1) : w1.cell? ⟨b, 0, none⟩ = some (.string (Str s)) ∧ w1.frozen? ⟨b, 0, none⟩ = false := ⟨h0.line.cell, h0.line.frozen⟩
set_option maxHeartbeats 600000 in
theorem text_long (b : Nat) (s : List UInt8) (hlen : ¬ s.length ≤ 64) (w : World) (hb : Ln b (32 :: s) w) : Calls Tryd.prog 24 #[.pointer (some ⟨b, 0, none⟩)] w fun e w' => e = .panicked (Wr 7) ∧ Held b s w w' := by
  have hSp := space_yes b s w hb
  have hH := Aside0.mk ((Held.refl hb).set s)
  clear hb
  have hsz : (Str s).size = s.length := Str_size s
  have zeroth : ∀ w1, w1 = w.setCell ⟨b, 0, none⟩ (.string (Str s)) → Aside0 (Held b s w w1) ∧ w1.cell? ⟨b, 0, none⟩ = some (.string (Str s)) ∧ w1.frozen? ⟨b, 0, none⟩ = false := fun w1 h => by rw [h]; exact ⟨hH, hH.out.line.cell, hH.out.line.frozen⟩
  obtain ⟨m, hm⟩ : ∃ m, s.length = m := ⟨_, rfl⟩
  obtain ⟨sB, hs⟩ : ∃ x, Str s = x := ⟨_, rfl⟩
  rw [hs] at hSp hsz zeroth
  rw [hm] at hlen hsz
  clear hm hs hH
  have g1 : decide ((m : Int) ≤ 64) = false := decide_eq_false (by omega)
  go_enter Tryd.func24, Tryd.ntmps24
  go_wp2_with (first | (go_at_call 35; refine (hSp).mono ?_; rintro e w1 ⟨rfl, hw1⟩; obtain ⟨H1, hc1, hz1⟩ := zeroth _ hw1; clear hw1) | (go_at_call 25; refine (fail_no' _ _ _ ?hc_ _).mono ?_; (case hc_ => first | rfl | assumption | (simp [*]; done)); rintro e w' ⟨rfl, hw_⟩; obtain rfl := hw_.symm) | (go_at_call 25; refine (fail_yes' _ _ _ ?hc_ _).mono ?_; (case hc_ => first | rfl | assumption | (simp [*]; done)); rintro e w' ⟨rfl, hw_⟩; obtain rfl := hw_.symm))
  exact ⟨rfl, rfl, H1.out⟩
set_option maxHeartbeats 600000 in
theorem text_bad (b : Nat) (s : List UInt8) (hlen : s.length ≤ 64) (w : World) (hb : Ln b (32 :: s) w) (hM : ∀ w1, Held b s w w1 → Calls Tryd.prog 12 #[.string (Str s)] w1 fun e w' => e = .returned (.bool false) ∧ Below w1.heap.size w1 w') : Calls Tryd.prog 24 #[.pointer (some ⟨b, 0, none⟩)] w fun e w' => e = .panicked (Wr 2) ∧ Held b s w w' := by
  have hSp := space_yes b s w hb
  have hH := Aside0.mk ((Held.refl hb).set s)
  clear hb
  have hsz : (Str s).size = s.length := Str_size s
  have zeroth : ∀ w1, w1 = w.setCell ⟨b, 0, none⟩ (.string (Str s)) → Aside0 (Held b s w w1) ∧ w1.cell? ⟨b, 0, none⟩ = some (.string (Str s)) ∧ w1.frozen? ⟨b, 0, none⟩ = false := fun w1 h => by rw [h]; exact ⟨hH, hH.out.line.cell, hH.out.line.frozen⟩
  have hM' : ∀ w1, Aside0 (Held b s w w1) → Calls Tryd.prog 12 #[.string (Str s)] w1 fun e w' => e = .returned (.bool false) ∧ Aside0 (Held b s w w') := fun w1 h => (hM w1 h.out).mono fun e w' ⟨h1, h2⟩ => ⟨h1, ⟨h.out.below h2⟩⟩
  obtain ⟨m, hm⟩ : ∃ m, s.length = m := ⟨_, rfl⟩
  obtain ⟨sB, hs⟩ : ∃ x, Str s = x := ⟨_, rfl⟩
  rw [hs] at hSp hsz zeroth hM'
  rw [hm] at hlen hsz
  clear hm hs hH hM
  have g1 : decide ((m : Int) ≤ 64) = true := decide_eq_true (by omega)
  go_enter Tryd.func24, Tryd.ntmps24
  go_wp2_with (first | (go_at_call 35; refine (hSp).mono ?_; rintro e w1 ⟨rfl, hw1⟩; obtain ⟨H1, hc1, hz1⟩ := zeroth _ hw1; clear hw1) | (go_at_call 25; refine (fail_no' _ _ _ ?hc_ _).mono ?_; (case hc_ => first | rfl | assumption | (simp [*]; done)); rintro e w' ⟨rfl, hw_⟩; obtain rfl := hw_.symm) | (go_at_call 25; refine (fail_yes' _ _ _ ?hc_ _).mono ?_; (case hc_ => first | rfl | assumption | (simp [*]; done)); rintro e w' ⟨rfl, hw_⟩; obtain rfl := hw_.symm) | (go_at_call 12; refine (hM' _ H1).mono ?_; rintro e w2 ⟨rfl, H2⟩))
  exact ⟨rfl, rfl, H2.out⟩
set_option maxHeartbeats 600000 in
theorem text_ok (b : Nat) (s : List UInt8) (hlen : s.length ≤ 64) (w : World) (hb : Ln b (32 :: s) w) (hM : ∀ w1, Held b s w w1 → Calls Tryd.prog 12 #[.string (Str s)] w1 fun e w' => e = .returned (.bool true) ∧ Below w1.heap.size w1 w') : Calls Tryd.prog 24 #[.pointer (some ⟨b, 0, none⟩)] w fun e w' => e = .returned (.string (Str s)) ∧ Held b [] w w' := by
  have hSp := space_yes b s w hb
  have hH := Aside0.mk ((Held.refl hb).set s)
  clear hb
  have hsz : (Str s).size = s.length := Str_size s
  have zeroth : ∀ w1, w1 = w.setCell ⟨b, 0, none⟩ (.string (Str s)) → Aside0 (Held b s w w1) ∧ w1.cell? ⟨b, 0, none⟩ = some (.string (Str s)) ∧ w1.frozen? ⟨b, 0, none⟩ = false := fun w1 h => by rw [h]; exact ⟨hH, hH.out.line.cell, hH.out.line.frozen⟩
  have hM' : ∀ w1, Aside0 (Held b s w w1) → Calls Tryd.prog 12 #[.string (Str s)] w1 fun e w' => e = .returned (.bool true) ∧ (Aside0 (Held b s w w') ∧ w'.cell? ⟨b, 0, none⟩ = some (.string (Str s)) ∧ w'.frozen? ⟨b, 0, none⟩ = false) := fun w1 h => (hM w1 h.out).mono fun e w' ⟨h1, h2⟩ => ⟨h1, ⟨h.out.below h2⟩, line_set _ _ _ _ (h.out.below h2)⟩
  have tail : ∀ w1, Aside0 (Held b s w w1) → Held b [] w (w1.setCell ⟨b, 0, none⟩ (.string (⟨#[]⟩ : ByteArray))) := fun w1 h => h.out.set []
  obtain ⟨m, hm⟩ : ∃ m, s.length = m := ⟨_, rfl⟩
  obtain ⟨sB, hs⟩ : ∃ x, Str s = x := ⟨_, rfl⟩
  rw [hs] at hSp hsz zeroth hM' ⊢
  rw [hm] at hlen hsz
  clear hm hs hH hM
  have g1 : decide ((m : Int) ≤ 64) = true := decide_eq_true (by omega)
  go_enter Tryd.func24, Tryd.ntmps24
  go_wp2_with (first | (go_at_call 35; refine (hSp).mono ?_; rintro e w1 ⟨rfl, hw1⟩; obtain ⟨H1, hc1, hz1⟩ := zeroth _ hw1; clear hw1) | (go_at_call 25; refine (fail_no' _ _ _ ?hc_ _).mono ?_; (case hc_ => first | rfl | assumption | (simp [*]; done)); rintro e w' ⟨rfl, hw_⟩; obtain rfl := hw_.symm) | (go_at_call 12; refine (hM' _ H1).mono ?_; rintro e w2 ⟨rfl, H2, hc2, hz2⟩))
  go_ret
  exact ⟨rfl, tail _ H2⟩
end Go.Proofs.YtifdlbdecjlnaaaDoor.PAll

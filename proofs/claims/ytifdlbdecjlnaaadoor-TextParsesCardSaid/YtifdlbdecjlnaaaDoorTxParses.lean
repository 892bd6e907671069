/- The law TextParses's code: it answers true. Conditions: those that each theorem states. -/
import Derived.Test.YtifdlbdecjlnaaaDoorTxRef
namespace Go.Proofs.YtifdlbdecjlnaaaDoor.PAll
open Go.RowKit Go.Proofs.YtifdlbdecjlnaaaDoorW.PrintWords Go.Proofs.YtifdlbdecjlnaaaDoorW.PrintLast Go.Proofs.YtifdlbdecjlnaaaDoorW.PrintMore
set_option linter.unusedVariables false
set_option linter.unusedSimpArgs false
set_option maxHeartbeats 400000 in
set_option maxRecDepth 100000 in
theorem parses_w (l : List UInt8) (w : World) (hT : Tabs w) : Calls Tryd.prog 3 #[.string (Str l)] w fun e w' => e = .returned (.bool true) ∧ Below w.heap.size w w' := by
  have cA := awake_w
  have hsz : (Str l).size = l.length := Str_size l
  have hT0 := Aside0.mk hT
  have hB0 := Aside0.mk (Below.refl w.heap.size w)
  clear hT
  obtain ⟨m', hm⟩ : ∃ m, l.length = m := ⟨_, rfl⟩
  rw [hm] at hsz
  by_cases h5 : m' > 500
  · have g1 : decide ((m' : Int) > 500) = true := decide_eq_true (by omega)
    go_enter Tryd.func3, Tryd.ntmps3
    go_wp2_with (go_at_call 9; refine (cA _ hT0.out).mono ?_; rintro e w1 ⟨rfl, hb⟩; obtain ⟨hB1, hT1⟩ := step_new hB0 hT0 hb; clear hb cA)
    go_ret
    exact ⟨rfl, hB1.out⟩
  have g1 : decide ((m' : Int) > 500) = false := decide_eq_false (by omega)
  have hl : l.length < 1000000 := by omega
  obtain ⟨⟨⟨k, n, m, t⟩, x⟩, hp⟩ : ∃ v, parseR l = v := ⟨_, rfl⟩
  have cP := fun w hT => parse_c l hl w hT k n m t x hp
  obtain ⟨q, hq⟩ := (refparse_ev l hl k n m t x hp).rounds
  have cR := fun w => colloquyref14_Parse.calls q _ _ _ _ _ _ _ _ w hq
  obtain ⟨q2, hq2⟩ := (refmay_ev l hl).rounds
  have cM := fun w hT => may_w l hl w hT
  have cN : ∀ w, Calls Tryd.prog 13 #[.string (Str l)] w fun e w' => e = .returned (.bool (mayS l)) ∧ Below w.heap.size w w' := fun w => (colloquyref14_May.calls q2 _ _ w hq2).mono fun _ _ h => ⟨h.1, h.2.below⟩
  generalize mayS l = M at cM cN
  unfold cmdV at cP
  generalize Str t = ts at cP cR
  generalize Str l = s at *
  clear hq hq2 hp hl hm h5
  go_enter Tryd.func3, Tryd.ntmps3
  go_wp2_with (first | (go_at_call 9; refine (cA _ hT0.out).mono ?_; rintro e w1 ⟨rfl, hb⟩; obtain ⟨hB1, hT1⟩ := step_new hB0 hT0 hb; clear hb cA) | (go_at_call 10; refine (cP _ hT1.out).mono ?_; rintro e w2 ⟨rfl, hb⟩; obtain ⟨hB2, hT2⟩ := step_new hB1 hT1 hb; clear hb cP) | (go_at_call 11; obtain ⟨hB3, hT3, G3⟩ := cmd_new (cmdV k n m ts) hB2 hT2; unfold cmdV at hB3 hT3; refine (cR _).mono ?_; rintro e w4 ⟨rfl, hb⟩; obtain ⟨hB4, hT4⟩ := step_new hB3 hT3 hb; have G4 := blk_new G3 hb; obtain ⟨q0, q1, q2, q3, q4, q5⟩ := cmd_cellsA G4; clear hb cR G3 G4) | (go_at_call 12; obtain ⟨hB5, hT5, _⟩ := cmd_new (cmdV k n m ts) hB4 hT4; unfold cmdV at hB5 hT5; refine (cM _ hT5.out).mono ?_; rintro e w6 ⟨rfl, hb⟩; obtain ⟨hB6, hT6⟩ := step_new hB5 hT5 hb; clear hb cM) | (go_at_call 13; refine (cN _).mono ?_; rintro e w7 ⟨rfl, hb⟩; obtain ⟨hB7, hT7⟩ := step_new hB6 hT6 hb; clear hb cN))
  go_ret
  exact ⟨by first | rfl | (simp; done), hB7.out⟩
end Go.Proofs.YtifdlbdecjlnaaaDoor.PAll

/- The law TextLong's code: it answers true. Conditions: those that each theorem states. -/
import Derived.Test.YtifdlbdecjlnaaaDoorTxAwake
namespace Go.Proofs.YtifdlbdecjlnaaaDoor.PAll
open Go.RowKit Go.Proofs.YtifdlbdecjlnaaaDoorW.PrintWords Go.Proofs.YtifdlbdecjlnaaaDoorW.PrintLast Go.Proofs.YtifdlbdecjlnaaaDoorW.PrintMore
set_option linter.unusedVariables false
set_option linter.unusedSimpArgs false
theorem long_parse (l : List UInt8) : parseR (47 :: 112 :: 111 :: 115 :: 116 :: 32 :: 49 :: 32 :: l) = if 64 < l.length then ((0, 0, 0, []), 7) else if mayS l then ((4, 1, 0, l), 0) else ((0, 0, 0, []), 2) := by
  have h1 : wordS (47 :: 112 :: 111 :: 115 :: 116 :: 32 :: 49 :: 32 :: l) = .ok (4, 32 :: 49 :: 32 :: l) := by kernel_rfl
  have h2 : numS 1048576 (32 :: 49 :: 32 :: l) = .ok (1, 32 :: l) := by kernel_rfl
  unfold parseR parseS
  rw [h1]
  simp only []
  rw [h2]
  simp only []
  rw [if_neg (show ¬ (5 : Int) ≤ 4 by decide)]
  simp only []
  rw [if_pos (show True ∨ (4 : Int) = 5 from .inl trivial)]
  simp only [textS]
  by_cases h : 64 < l.length
  · simp [h]
  · by_cases hm : mayS l = true
    · simp [h, hm]
    · simp [h, hm]
set_option maxHeartbeats 1000000 in
set_option maxRecDepth 100000 in
theorem long_w (l : List UInt8) (w : World) (hT : Tabs w) : Calls Tryd.prog 5 #[.string (Str l)] w fun e w' => e = .returned (.bool true) ∧ Below w.heap.size w w' := by
  have cA := awake_w
  have hsz : (Str l).size = l.length := Str_size l
  have hT0 := Aside0.mk hT
  have hB0 := Aside0.mk (Below.refl w.heap.size w)
  have hap : (⟨#[47, 112, 111, 115, 116, 32, 49, 32]⟩ : ByteArray) ++ Str l = Str (47 :: 112 :: 111 :: 115 :: 116 :: 32 :: 49 :: 32 :: l) := Str_append [47, 112, 111, 115, 116, 32, 49, 32] l
  clear hT
  obtain ⟨m, hm⟩ : ∃ m, l.length = m := ⟨_, rfl⟩
  by_cases h5 : m > 500
  · rw [hm] at hsz
    have g1 : decide ((m : Int) > 500) = true := decide_eq_true (by omega)
    go_enter Tryd.func5, Tryd.ntmps5
    go_wp2_with (go_at_call 9; refine (cA _ hT0.out).mono ?_; rintro e w1 ⟨rfl, hb⟩; obtain ⟨hB1, hT1⟩ := step_new hB0 hT0 hb; clear hb cA)
    go_ret
    exact ⟨rfl, hB1.out⟩
  have g1 : decide ((m : Int) > 500) = false := decide_eq_false (by omega)
  have hP := long_parse l
  have hlen : (47 :: 112 :: 111 :: 115 :: 116 :: 32 :: 49 :: 32 :: l).length < 1000000 := by simp; omega
  rw [hm] at hP hsz
  by_cases h6 : m > 64
  · have g2 : decide ((m : Int) > 64) = true := decide_eq_true (by omega)
    rw [if_pos (by omega)] at hP
    have cP := fun w hT => parse_c _ hlen w hT _ _ _ _ _ hP
    unfold cmdV at cP
    rw [show Str [] = (⟨#[]⟩ : ByteArray) from rfl] at cP
    generalize Str (47 :: 112 :: 111 :: 115 :: 116 :: 32 :: 49 :: 32 :: l) = s2 at hap cP
    generalize Str l = s at hap hsz ⊢
    clear hP hlen hm h6
    go_enter Tryd.func5, Tryd.ntmps5
    go_wp2_with (first | (go_at_call 9; refine (cA _ hT0.out).mono ?_; rintro e w1 ⟨rfl, hb⟩; obtain ⟨hB1, hT1⟩ := step_new hB0 hT0 hb; clear hb cA) | (go_at_call 10; refine (cP _ hT1.out).mono ?_; rintro e w2 ⟨rfl, hb⟩; obtain ⟨hB2, hT2⟩ := step_new hB1 hT1 hb; clear hb cP))
    go_ret
    exact ⟨rfl, hB2.out.alloc hB2.out.size _⟩
  · have g2 : decide ((m : Int) > 64) = false := decide_eq_false (by omega)
    rw [if_neg (by omega)] at hP
    obtain ⟨M, hM⟩ : ∃ M, mayS l = M := ⟨_, rfl⟩
    have cM := fun w hT => may_w l (by omega) w hT
    rw [hM] at hP cM
    cases M
    · rw [if_neg (by decide)] at hP
      have cP := fun w hT => parse_c _ hlen w hT _ _ _ _ _ hP
      unfold cmdV at cP
      rw [show Str [] = (⟨#[]⟩ : ByteArray) from rfl] at cP
      generalize Str (47 :: 112 :: 111 :: 115 :: 116 :: 32 :: 49 :: 32 :: l) = s2 at hap cP
      generalize Str l = s at hap hsz cM ⊢
      clear hP hlen hm h6 hM
      go_enter Tryd.func5, Tryd.ntmps5
      go_wp2_with (first | (go_at_call 9; refine (cA _ hT0.out).mono ?_; rintro e w1 ⟨rfl, hb⟩; obtain ⟨hB1, hT1⟩ := step_new hB0 hT0 hb; clear hb cA) | (go_at_call 10; refine (cP _ hT1.out).mono ?_; rintro e w2 ⟨rfl, hb⟩; obtain ⟨hB2, hT2⟩ := step_new hB1 hT1 hb; clear hb cP) | (go_at_call 12; obtain ⟨hB3, hT3, _⟩ := cmd_new #[.int .i64 0, .int .i64 0, .int .i64 0, .int .i64 0, .int .i64 0, .string ⟨#[]⟩] hB2 hT2; refine (cM _ hT3.out).mono ?_; rintro e w4 ⟨rfl, hb⟩; obtain ⟨hB4, hT4⟩ := step_new hB3 hT3 hb; clear hb cM))
      go_ret
      exact ⟨rfl, hB4.out⟩
    · rw [if_pos rfl] at hP
      have cP := fun w hT => parse_c _ hlen w hT _ _ _ _ _ hP
      unfold cmdV at cP
      generalize Str (47 :: 112 :: 111 :: 115 :: 116 :: 32 :: 49 :: 32 :: l) = s2 at hap cP
      generalize Str l = s at hap hsz cM cP ⊢
      clear hP hlen hm h6 hM
      go_enter Tryd.func5, Tryd.ntmps5
      go_wp2_with (first | (go_at_call 9; refine (cA _ hT0.out).mono ?_; rintro e w1 ⟨rfl, hb⟩; obtain ⟨hB1, hT1⟩ := step_new hB0 hT0 hb; clear hb cA) | (go_at_call 10; refine (cP _ hT1.out).mono ?_; rintro e w2 ⟨rfl, hb⟩; obtain ⟨hB2, hT2⟩ := step_new hB1 hT1 hb; clear hb cP) | (go_at_call 12; obtain ⟨hB3, hT3, G3⟩ := cmd_new #[.int .i64 0, .int .i64 0, .int .i64 4, .int .i64 1, .int .i64 0, .string s] hB2 hT2; refine (cM _ hT3.out).mono ?_; rintro e w4 ⟨rfl, hb⟩; obtain ⟨hB4, hT4⟩ := step_new hB3 hT3 hb; have G4 := blk_new G3 hb; obtain ⟨q0, q1, q2, q3, q4, q5⟩ := cmd_cells (k := 4) (n := 1) (m := 0) (t := s) G4; clear hb cM))
      go_ret
      exact ⟨rfl, hB4.out⟩
end Go.Proofs.YtifdlbdecjlnaaaDoor.PAll

/- The line's method 'word'. Conditions: those that each theorem states. -/
import Derived.Test.YtifdlbdecjlnaaaDoorTxCal
namespace Go.Proofs.YtifdlbdecjlnaaaDoor.PAll
open Go.RowKit Go.Proofs.YtifdlbdecjlnaaaDoorW.PrintWords Go.Proofs.YtifdlbdecjlnaaaDoorW.PrintLast Go.Proofs.YtifdlbdecjlnaaaDoorW.PrintMore
set_option linter.unusedVariables false
set_option linter.unusedSimpArgs false
theorem word_slash (b : Nat) (l : List UInt8) (hl : ∀ r, l ≠ 47 :: r) (w : World) (hb : Ln b l w) : Calls Tryd.prog 21 #[.pointer (some ⟨b, 0, none⟩)] w fun e w' => e = .panicked (Wr 2) ∧ w' = w := by
  have hc := hb.cell
  have hz := hb.frozen
  go_enter Tryd.func21, Tryd.ntmps21
  go_wp2_with (first | (go_at_call 38; refine (cut_no 47 l hl _).mono ?_; rintro e w' ⟨rfl, hw_⟩; obtain rfl := hw_.symm) | (go_at_call 25; refine (fail_yes _ _ _).mono ?_; rintro e w' ⟨rfl, hw_⟩; obtain rfl := hw_.symm))
  exact ⟨rfl, rfl, rfl⟩
set_option maxHeartbeats 2000000 in
theorem word_at (b : Nat) (t r : List UInt8) (ht : ∀ b ∈ t, b ≠ 32) (hr : r = [] ∨ ∃ q, r = 32 :: q) (w : World) (hb : Ln b (47 :: (t ++ r)) w) (k : Int) (hk : kindOf t = k) (h0 : 0 < k) : Calls Tryd.prog 21 #[.pointer (some ⟨b, 0, none⟩)] w fun e w' => e = .returned (.int .i64 k) ∧ Held b r w w' := by
  have hc := hb.cell
  have d1 : decide (k > 0) = true := by simpa using h0
  have hz := hb.frozen
  have hlt := hb.lt
  have hHb := Aside0.mk hb
  clear hb
  have hk' := Aside0.mk hk
  clear hk
  have HX : ∀ w, Calls Tryd.prog 38 #[.string (Str (47 :: (t ++ r))), .string ⟨#[47]⟩] w fun e w' => e = .returned (.tuple #[.string (Str (t ++ r)), .bool true]) ∧ w' = w := fun w => cut_yes 47 _ w
  have hx : (Str (t ++ r)).extract 0 t.length = Str t := by rw [Str_extract]; simp
  have hy : (Str (t ++ r)).extract t.length (Str (t ++ r)).size = Str r := by rw [Str_extract, Str_size, List.take_length, List.drop_left]
  have e1 : ((t.length : Nat) : Int) ≤ ((Str (t ++ r)).size : Int) := by rw [Str_size, List.length_append]; omega
  have ci : (∀ w, Calls Tryd.prog 39 #[.string (Str (t ++ r)), .int .u8 32] w fun e w' => e = .returned (.int .i64 (t.length : Int)) ∧ w' = w) ∨ ((∀ w, Calls Tryd.prog 39 #[.string (Str (t ++ r)), .int .u8 32] w fun e w' => e = .returned (.int .i64 (-1)) ∧ w' = w) ∧ (Str (t ++ r)).size = t.length ∧ Str r = ByteArray.empty) := by
    rcases hr with rfl | ⟨q, rfl⟩
    · exact .inr ⟨fun w => idx_none _ (by simpa using ht) w, by simp [Str_size], rfl⟩
    · exact .inl fun w => idx_at t q ht w
  clear hr
  obtain ⟨m, hm⟩ : ∃ m, (t.length : Nat) = m := ⟨_, rfl⟩
  obtain ⟨s, hs⟩ : ∃ s, Str (t ++ r) = s := ⟨_, rfl⟩
  obtain ⟨s0, hs0⟩ : ∃ s, Str (47 :: (t ++ r)) = s := ⟨_, rfl⟩
  rw [hm, hs] at ci e1 hx hy
  rw [hs, hs0] at HX
  rw [hs0] at hc
  clear hm hs hs0
  have n1 : ¬ ((m : Int) < 0) := by omega
  have p1 : (0 : Int) ≤ (m : Int) := by omega
  have tail : ∀ w1, Held b (47 :: (t ++ r)) w w1 → Held b r w (w1.setCell ⟨b, 0, none⟩ (.string (Str r))) := fun w1 h => h.set r
  rcases ci with ci | ⟨ci, hsz, hem⟩
  · go_enter Tryd.func21, Tryd.ntmps21
    go_wp2_with (first | (go_at_call 38; refine (HX _).mono ?_; rintro e w' ⟨rfl, hw_⟩; obtain rfl := hw_.symm) | (go_at_call 25; refine (fail_no _ _ _).mono ?_; rintro e w' ⟨rfl, hw_⟩; obtain rfl := hw_.symm) | (go_at_call 39; refine (ci _).mono ?_; rintro e w' ⟨rfl, hw_⟩; obtain rfl := hw_.symm))
    go_cut [6] from 24 to 29 (fun v w' => v = .int .i64 k ∧ Held b (47 :: (t ++ r)) w w')
    case first =>
      go_region_with (first | (go_at_call 16; refine (words_l _).mono ?_; rintro e w1 ⟨rfl, hg, hB⟩) | (go_at_call 40; refine (index_l _ t _ ‹_›).mono ?_; rintro e w' ⟨rfl, hw_⟩; obtain rfl := hw_.symm))
      all_goals go_wp2
      all_goals go_meet
      all_goals refine ⟨congrArg _ hk'.out, ?_⟩
      all_goals exact ((Held.refl hHb.out).drew).below hB
    obtain ⟨rfl, hH⟩ := hcut
    have hHc := hH.line.cell
    have hHz := hH.line.frozen
    have HH := Aside0.mk hH
    clear hH
    go_wp2_with (first | (go_at_call 25; refine (fail_no _ _ _).mono ?_; rintro e w' ⟨rfl, hw_⟩; obtain rfl := hw_.symm))
    go_ret
    exact ⟨rfl, tail _ HH.out⟩
  · go_enter Tryd.func21, Tryd.ntmps21
    go_wp2_with (first | (go_at_call 38; refine (HX _).mono ?_; rintro e w' ⟨rfl, hw_⟩; obtain rfl := hw_.symm) | (go_at_call 25; refine (fail_no _ _ _).mono ?_; rintro e w' ⟨rfl, hw_⟩; obtain rfl := hw_.symm) | (go_at_call 39; refine (ci _).mono ?_; rintro e w' ⟨rfl, hw_⟩; obtain rfl := hw_.symm))
    go_cut [6] from 24 to 29 (fun v w' => v = .int .i64 k ∧ Held b (47 :: (t ++ r)) w w')
    case first =>
      go_region_with (first | (go_at_call 16; refine (words_l _).mono ?_; rintro e w1 ⟨rfl, hg, hB⟩) | (go_at_call 40; refine (index_l _ t _ ‹_›).mono ?_; rintro e w' ⟨rfl, hw_⟩; obtain rfl := hw_.symm))
      all_goals go_wp2
      all_goals go_meet
      all_goals refine ⟨congrArg _ hk'.out, ?_⟩
      all_goals exact ((Held.refl hHb.out).drew).below hB
    obtain ⟨rfl, hH⟩ := hcut
    have hHc := hH.line.cell
    have hHz := hH.line.frozen
    have HH := Aside0.mk hH
    clear hH
    go_wp2_with (first | (go_at_call 25; refine (fail_no _ _ _).mono ?_; rintro e w' ⟨rfl, hw_⟩; obtain rfl := hw_.symm))
    go_ret
    exact ⟨rfl, hem ▸ tail _ HH.out⟩
set_option maxHeartbeats 2000000 in
theorem word_none (b : Nat) (t r : List UInt8) (ht : ∀ b ∈ t, b ≠ 32) (hr : r = [] ∨ ∃ q, r = 32 :: q) (w : World) (hb : Ln b (47 :: (t ++ r)) w) (k : Int) (hk : kindOf t = k) (h0 : ¬ 0 < k) : Calls Tryd.prog 21 #[.pointer (some ⟨b, 0, none⟩)] w fun e w' => e = .panicked (Wr 2) ∧ Held b (47 :: (t ++ r)) w w' := by
  have hc := hb.cell
  have d1 : decide (k > 0) = false := by simpa using h0
  have hz := hb.frozen
  have hlt := hb.lt
  have hHb := Aside0.mk hb
  clear hb
  have hk' := Aside0.mk hk
  clear hk
  have HX : ∀ w, Calls Tryd.prog 38 #[.string (Str (47 :: (t ++ r))), .string ⟨#[47]⟩] w fun e w' => e = .returned (.tuple #[.string (Str (t ++ r)), .bool true]) ∧ w' = w := fun w => cut_yes 47 _ w
  have hx : (Str (t ++ r)).extract 0 t.length = Str t := by rw [Str_extract]; simp
  have hy : (Str (t ++ r)).extract t.length (Str (t ++ r)).size = Str r := by rw [Str_extract, Str_size, List.take_length, List.drop_left]
  have e1 : ((t.length : Nat) : Int) ≤ ((Str (t ++ r)).size : Int) := by rw [Str_size, List.length_append]; omega
  have ci : (∀ w, Calls Tryd.prog 39 #[.string (Str (t ++ r)), .int .u8 32] w fun e w' => e = .returned (.int .i64 (t.length : Int)) ∧ w' = w) ∨ ((∀ w, Calls Tryd.prog 39 #[.string (Str (t ++ r)), .int .u8 32] w fun e w' => e = .returned (.int .i64 (-1)) ∧ w' = w) ∧ (Str (t ++ r)).size = t.length ∧ Str r = ByteArray.empty) := by
    rcases hr with rfl | ⟨q, rfl⟩
    · exact .inr ⟨fun w => idx_none _ (by simpa using ht) w, by simp [Str_size], rfl⟩
    · exact .inl fun w => idx_at t q ht w
  clear hr
  obtain ⟨m, hm⟩ : ∃ m, (t.length : Nat) = m := ⟨_, rfl⟩
  obtain ⟨s, hs⟩ : ∃ s, Str (t ++ r) = s := ⟨_, rfl⟩
  obtain ⟨s0, hs0⟩ : ∃ s, Str (47 :: (t ++ r)) = s := ⟨_, rfl⟩
  rw [hm, hs] at ci e1 hx hy
  rw [hs, hs0] at HX
  rw [hs0] at hc
  clear hm hs hs0
  have n1 : ¬ ((m : Int) < 0) := by omega
  have p1 : (0 : Int) ≤ (m : Int) := by omega
  have tail : ∀ w1, Held b (47 :: (t ++ r)) w w1 → Held b r w (w1.setCell ⟨b, 0, none⟩ (.string (Str r))) := fun w1 h => h.set r
  rcases ci with ci | ⟨ci, hsz, hem⟩
  · go_enter Tryd.func21, Tryd.ntmps21
    go_wp2_with (first | (go_at_call 38; refine (HX _).mono ?_; rintro e w' ⟨rfl, hw_⟩; obtain rfl := hw_.symm) | (go_at_call 25; refine (fail_no _ _ _).mono ?_; rintro e w' ⟨rfl, hw_⟩; obtain rfl := hw_.symm) | (go_at_call 39; refine (ci _).mono ?_; rintro e w' ⟨rfl, hw_⟩; obtain rfl := hw_.symm))
    go_cut [6] from 24 to 29 (fun v w' => v = .int .i64 k ∧ Held b (47 :: (t ++ r)) w w')
    case first =>
      go_region_with (first | (go_at_call 16; refine (words_l _).mono ?_; rintro e w1 ⟨rfl, hg, hB⟩) | (go_at_call 40; refine (index_l _ t _ ‹_›).mono ?_; rintro e w' ⟨rfl, hw_⟩; obtain rfl := hw_.symm))
      all_goals go_wp2
      all_goals go_meet
      all_goals refine ⟨congrArg _ hk'.out, ?_⟩
      all_goals exact ((Held.refl hHb.out).drew).below hB
    obtain ⟨rfl, hH⟩ := hcut
    have hHc := hH.line.cell
    have hHz := hH.line.frozen
    have HH := Aside0.mk hH
    clear hH
    go_wp2_with (first | (go_at_call 25; refine (fail_yes _ _ _).mono ?_; rintro e w' ⟨rfl, hw_⟩; obtain rfl := hw_.symm))
    exact ⟨rfl, rfl, HH.out⟩
  · go_enter Tryd.func21, Tryd.ntmps21
    go_wp2_with (first | (go_at_call 38; refine (HX _).mono ?_; rintro e w' ⟨rfl, hw_⟩; obtain rfl := hw_.symm) | (go_at_call 25; refine (fail_no _ _ _).mono ?_; rintro e w' ⟨rfl, hw_⟩; obtain rfl := hw_.symm) | (go_at_call 39; refine (ci _).mono ?_; rintro e w' ⟨rfl, hw_⟩; obtain rfl := hw_.symm))
    go_cut [6] from 24 to 29 (fun v w' => v = .int .i64 k ∧ Held b (47 :: (t ++ r)) w w')
    case first =>
      go_region_with (first | (go_at_call 16; refine (words_l _).mono ?_; rintro e w1 ⟨rfl, hg, hB⟩) | (go_at_call 40; refine (index_l _ t _ ‹_›).mono ?_; rintro e w' ⟨rfl, hw_⟩; obtain rfl := hw_.symm))
      all_goals go_wp2
      all_goals go_meet
      all_goals refine ⟨congrArg _ hk'.out, ?_⟩
      all_goals exact ((Held.refl hHb.out).drew).below hB
    obtain ⟨rfl, hH⟩ := hcut
    have hHc := hH.line.cell
    have hHz := hH.line.frozen
    have HH := Aside0.mk hH
    clear hH
    go_wp2_with (first | (go_at_call 25; refine (fail_yes _ _ _).mono ?_; rintro e w' ⟨rfl, hw_⟩; obtain rfl := hw_.symm))
    exact ⟨rfl, rfl, HH.out⟩
end Go.Proofs.YtifdlbdecjlnaaaDoor.PAll

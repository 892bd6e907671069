/- The law TextOnce's code: it answers true. Conditions: those that each theorem states. -/
import Derived.Test.YtifdlbdecjlnaaaDoorTxLine
namespace Go.Proofs.YtifdlbdecjlnaaaDoor.PAll
open Go.RowKit Go.Proofs.YtifdlbdecjlnaaaDoorW.PrintWords Go.Proofs.YtifdlbdecjlnaaaDoorW.PrintLast Go.Proofs.YtifdlbdecjlnaaaDoorW.PrintMore
set_option linter.unusedVariables false
set_option linter.unusedSimpArgs false
theorem err_pos {l : List UInt8} {x : Int} (h : parseS mayS l = .error x) : x ≠ 0 := by
  have hw2 : ∀ {l : List UInt8} {x : Int}, wordS l = .error x → x ≠ 0 := by
    intro l x h
    unfold wordS at h
    split at h
    · split at h
      · cases h
      · cases h; decide
    · cases h; decide
  have hn2 : ∀ {most : Int} {l : List UInt8} {x : Int}, numS most l = .error x → x ≠ 0 := by
    intro most l x h
    unfold numS at h
    split at h
    · split at h
      · cases h; decide
      split at h
      · cases h; decide
      split at h
      · cases h; decide
      cases h
    · cases h; decide
  have ht2 : ∀ {l : List UInt8} {x : Int}, textS mayS l = .error x → x ≠ 0 := by
    intro l x h
    unfold textS at h
    split at h
    · split at h
      · cases h; decide
      split at h
      · cases h
      · cases h; decide
    · cases h; decide
  unfold parseS at h
  split at h
  · rename_i hw; cases h; exact hw2 hw
  · split at h
    · rename_i hn; cases h; exact hn2 hn
    · split at h
      · rename_i hm
        cases h
        split at hm
        · exact hn2 hm
        · cases hm
      · split at h
        · rename_i ht
          cases h
          split at ht
          · exact ht2 ht
          · cases ht
        · split at h
          · cases h
          · cases h; decide
theorem may_len {t : List UInt8} (h : mayS t = true) : t.length ≤ 64 := by
  unfold mayS at h
  rw [Bool.and_eq_true, Bool.and_eq_true, decide_eq_true_eq, decide_eq_true_eq] at h
  exact h.1.2
theorem parse_text {l t : List UInt8} {k n m : Int} (h : parseS mayS l = .ok (k, n, m, t)) : t.length ≤ 64 := by
  unfold parseS at h
  split at h
  · cases h
  · split at h
    · cases h
    · split at h
      · cases h
      · split at h
        · cases h
        · rename_i ht
          split at h
          · cases h
            split at ht
            · exact may_len (text_of ht).2.2
            · cases ht; simp
          · cases h
set_option maxHeartbeats 400000 in
set_option maxRecDepth 100000 in
theorem once_w (l : List UInt8) (w : World) (hT : Tabs w) (hP : Pow w) : Calls Tryd.prog 8 #[.string (Str l)] w fun e w' => e = .returned (.bool true) ∧ Below w.heap.size w w' := by
  have cA := awake_w
  have hsz : (Str l).size = l.length := Str_size l
  have hT0 := Aside0.mk hT
  have hP0 := Aside0.mk hP
  have hB0 := Aside0.mk (Below.refl w.heap.size w)
  clear hT hP
  obtain ⟨m', hm⟩ : ∃ m, l.length = m := ⟨_, rfl⟩
  rw [hm] at hsz
  by_cases h5 : m' > 500
  · have g1 : decide ((m' : Int) > 500) = true := decide_eq_true (by omega)
    go_enter Tryd.func8, Tryd.ntmps8
    go_wp2_with (go_at_call 9; refine (cA _ hT0.out).mono ?_; rintro e w1 ⟨rfl, hb⟩; obtain ⟨hB1, hT1⟩ := step_new hB0 hT0 hb; clear hb cA)
    go_ret
    exact ⟨rfl, hB1.out⟩
  have g1 : decide ((m' : Int) > 500) = false := decide_eq_false (by omega)
  have hl : l.length < 1000000 := by omega
  cases hp : parseS mayS l with
  | error x =>
    have hx := err_pos hp
    have hR : parseR l = ((0, 0, 0, []), x) := by unfold parseR; rw [hp]
    have cP := fun w hT => parse_c l hl w hT _ _ _ _ _ hR
    unfold cmdV at cP
    rw [show Str [] = (⟨#[]⟩ : ByteArray) from rfl] at cP
    have x1 : (x == 0) = false := beq_eq_false_iff_ne.mpr hx
    have x2 : (x != 0) = true := bne_iff_ne.mpr hx
    generalize Str l = s at *
    clear hp hR hl hm h5
    go_enter Tryd.func8, Tryd.ntmps8
    go_wp2_with (first | (go_at_call 9; refine (cA _ hT0.out).mono ?_; rintro e w1 ⟨rfl, hb⟩; obtain ⟨hB1, hT1⟩ := step_new hB0 hT0 hb; clear hb cA) | (go_at_call 10; refine (cP _ hT1.out).mono ?_; rintro e w2 ⟨rfl, hb⟩; obtain ⟨hB2, hT2⟩ := step_new hB1 hT1 hb; clear hb cP))
    go_ret
    exact ⟨by first | rfl | (simp; done), hB2.out.alloc hB2.out.size _⟩
  | ok c =>
    obtain ⟨k, n, m, t⟩ := c
    have hR : parseR l = ((k, n, m, t), 0) := by unfold parseR; rw [hp]
    have cP := fun w hT => parse_c l hl w hT _ _ _ _ _ hR
    have htl : t.length < 1000000 := by have := parse_text hp; omega
    have cS := fun w hT hP => show_w 0 0 k n m t htl w hT hP _ (once_of hp)
    unfold cmdV at cP
    generalize Str t = ts at cP cS
    generalize Str l = s at *
    clear hp hR hl hm h5 htl
    go_enter Tryd.func8, Tryd.ntmps8
    go_wp2_with (first | (go_at_call 9; refine (cA _ hT0.out).mono ?_; rintro e w1 ⟨rfl, hb⟩; obtain ⟨hB1, hT1⟩ := step_new hB0 hT0 hb; clear hb cA) | (go_at_call 10; refine (cP _ hT1.out).mono ?_; rintro e w2 ⟨rfl, hb⟩; obtain ⟨hB2, hT2⟩ := step_new hB1 hT1 hb; clear hb cP) | (go_at_call 14; obtain ⟨hB3, hT3, _⟩ := cmd_new (cmdV k n m ts) hB2 hT2; unfold cmdV at hB3 hT3; refine (cS _ hT3.out (hP0.out.below hB3.out)).mono ?_; rintro e w4 ⟨rfl, hb⟩; obtain ⟨hB4, hT4⟩ := step_new hB3 hT3 hb; clear hb cS))
    go_ret
    exact ⟨by first | rfl | (simp; done), hB4.out⟩
end Go.Proofs.YtifdlbdecjlnaaaDoor.PAll

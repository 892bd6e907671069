/- 'May': what it answers for any text. Conditions: those that each theorem states. -/
import Derived.Test.YtifdlbdecjlnaaaDoorTxCal
import Derived.Laws.RangeAny
import Derived.Deep.LoopGhost
namespace Go.Proofs.YtifdlbdecjlnaaaDoor.PAll
open Go.RowKit Go.Proofs.YtifdlbdecjlnaaaDoorW.PrintWords Go.Proofs.YtifdlbdecjlnaaaDoorW.PrintLast Go.Proofs.YtifdlbdecjlnaaaDoorW.PrintMore
set_option linter.unusedVariables false
set_option linter.unusedSimpArgs false
/-- The tables of package utf8 lie as they were laid. -/
def Tabs (w : World) : Prop := Lib.Utf8Tabs (Tryd.lays196_ren.g 3) (Tryd.lays196_ren.g 4) w
def runesAt (s : ByteArray) : Nat → Nat → Bool
  | 0, _ => true
  | n + 1, pos => if pos < s.size then (if (Utf8.decode s pos).1 < 32 ∨ (Utf8.decode s pos).1 = 127 then false else runesAt s n (pos + (Utf8.decode s pos).2)) else true
def mayS (l : List UInt8) : Bool := decide (1 ≤ l.length) && decide (l.length ≤ 64) && (Lib.validD l && runesAt (Str l) l.length 0)
theorem valid_l (l : List UInt8) (hl : l.length < 1000000) (w : World) (hT : Tabs w) : Calls Tryd.prog 30 #[.string (Str l)] w fun e w' => e = .returned (.bool (Lib.validD l)) ∧ Below w.heap.size w w' := by
  have := Any.utf8_ValidString Tryd.lays196 (Str l) w (by rw [Str_size]; omega) hT
  rw [Str_data] at this
  exact this
theorem width_ge (s : ByteArray) (pos : Nat) : 1 ≤ (Utf8.decode s pos).2 := Lib.width_pos s pos
set_option maxHeartbeats 1000000 in
set_option maxRecDepth 100000 in
theorem may_w (l : List UInt8) (hl : l.length < 1000000) (w : World) (hT : Tabs w) : Calls Tryd.prog 12 #[.string (Str l)] w fun e w' => e = .returned (.bool (mayS l)) ∧ Below w.heap.size w w' := by
  have hV := valid_l l hl
  have hsz : (Str l).size = l.length := Str_size l
  obtain ⟨A, hA⟩ : ∃ A, mayS l = A := ⟨_, rfl⟩
  rw [hA]
  unfold mayS at hA
  obtain ⟨m, hm⟩ : ∃ m, l.length = m := ⟨_, rfl⟩
  obtain ⟨s, hs⟩ : ∃ s, Str l = s := ⟨_, rfl⟩
  obtain ⟨V, hVV⟩ : ∃ V, Lib.validD l = V := ⟨_, rfl⟩
  rw [hm, hs, hVV] at hA
  rw [hs, hVV] at hV
  rw [hs, hm] at hsz
  rw [hs]
  rw [hm] at hl
  clear hs hm hVV
  by_cases h1 : m < 1
  · have d1 : decide ((m : Int) < 1) = true := decide_eq_true (by omega)
    have e1 : decide (1 ≤ m) = false := decide_eq_false (by omega)
    rw [e1] at hA
    simp at hA
    subst hA
    clear hV
    go_enter Tryd.func12, Tryd.ntmps12
    go_wp2
    go_ret
    exact ⟨rfl, Below.refl _ _⟩
  by_cases h2 : 64 < m
  · have d1 : decide ((m : Int) < 1) = false := decide_eq_false (by omega)
    have d2 : decide ((m : Int) > 64) = true := decide_eq_true (by omega)
    have e2 : decide (m ≤ 64) = false := decide_eq_false (by omega)
    rw [e2] at hA
    simp at hA
    subst hA
    clear hV
    go_enter Tryd.func12, Tryd.ntmps12
    go_wp2
    go_ret
    exact ⟨rfl, Below.refl _ _⟩
  have d1 : decide ((m : Int) < 1) = false := decide_eq_false (by omega)
  have d2 : decide ((m : Int) > 64) = false := decide_eq_false (by omega)
  have e1 : decide (1 ≤ m) = true := decide_eq_true (by omega)
  have e2 : decide (m ≤ 64) = true := decide_eq_true (by omega)
  rw [e1, e2] at hA
  cases V
  · simp at hA
    subst hA
    go_enter Tryd.func12, Tryd.ntmps12
    go_wp2_with (first | (go_at_call 30; refine (hV _ hT).mono ?_; rintro e w1 ⟨rfl, hB⟩))
    go_ret
    exact ⟨rfl, hB⟩
  · simp only [Bool.true_and] at hA
    go_enter Tryd.func12, Tryd.ntmps12
    go_wp2_with (first | (go_at_call 30; refine (hV _ hT).mono ?_; rintro e w1 ⟨rfl, hB⟩))
    have hA' := Aside0.mk hA
    have hB' := Aside0.mk hB
    clear hA hB hV
    go_loopg [4] m (fun kq v4 w' => ∃ pos : Nat, w' = w1.iter s pos ∧ Aside0 (runesAt s kq pos = A) ∧ Aside0 (m ≤ pos + kq))
    case atStart => exact ⟨0, rfl, hA', ⟨by omega⟩⟩
    case round =>
      obtain ⟨pos, rfl, hR, hP⟩ := hrel
      by_cases hlt : pos < s.size
      · have hw := width_ge s pos
        obtain ⟨q, rfl⟩ : ∃ q, gk = q + 1 := ⟨gk - 1, by have := hP.out; omega⟩
        have hR2 := hR.out
        unfold runesAt at hR2
        rw [if_pos hlt] at hR2
        have hnx := fun ty => run_next_any (P := Tryd.prog) w1 s pos ty hlt
        obtain ⟨x, hx⟩ : ∃ x, (Utf8.decode s pos).1 = x := ⟨_, rfl⟩
        obtain ⟨wd, hwd⟩ : ∃ x, (Utf8.decode s pos).2 = x := ⟨_, rfl⟩
        rw [hx, hwd] at hR2 hnx
        rw [hwd] at hw
        clear hx hwd hR
        by_cases hbad : x < 32 ∨ x = 127
        · rw [if_pos hbad] at hR2
          subst hR2
          by_cases hlow : x < 32
          · have b1 : decide ((x : Int) < 32) = true := decide_eq_true (by omega)
            have b4 : ((x : Int) < 32) := by omega
            clear hbad hP hlt hw
            go_wp2
            go_ret
            exact ⟨rfl, hB'.out.trans ((Below.refl _ _).alloc (Nat.le_of_eq rfl) _ |>.mono hB'.out.size)⟩
          · have b1 : decide ((x : Int) < 32) = false := decide_eq_false (by omega)
            have b5 : x = 127 := by omega
            subst b5
            clear hbad hP hlt hw
            go_wp2
            go_ret
            exact ⟨rfl, hB'.out.trans ((Below.refl _ _).alloc (Nat.le_of_eq rfl) _ |>.mono hB'.out.size)⟩
        · rw [if_neg hbad] at hR2
          have hR2' := Aside0.mk hR2
          clear hR2
          have b1 : decide ((x : Int) < 32) = false := decide_eq_false (by omega)
          have b2 : ((x : Int) == 127) = false := by rw [beq_eq_false_iff_ne]; omega
          have b3 : ¬ ((x : Int) = 127) := by omega
          have b4 : ¬ ((x : Int) < 32) := by omega
          have hPP := Aside0.mk (show m ≤ (pos + wd) + q by have := hP.out; omega)
          clear hbad hP hlt hw
          go_wp2
          go_roundg q
          case measure => omega
          case rel => exact ⟨_, rfl, hR2', hPP⟩
      · have hR2 := hR.out
        have hAA : A = true := by
          rw [← hR2]
          cases gk with
          | zero => rfl
          | succ q => unfold runesAt; rw [if_neg hlt]
        subst hAA
        have hnx := fun ty => run_next_end (P := Tryd.prog) w1 s pos ty hlt
        clear hR2 hR hP
        go_wp2
        go_ret
        exact ⟨rfl, hB'.out.trans ((Below.refl _ _).alloc (Nat.le_of_eq rfl) _ |>.mono hB'.out.size)⟩
end Go.Proofs.YtifdlbdecjlnaaaDoor.PAll

/- What a line asks for, in plain words, and the line's methods by them. Conditions: those that each theorem states. -/
import Derived.Test.YtifdlbdecjlnaaaDoorTxCatch
import Derived.Test.YtifdlbdecjlnaaaDoorTxWord
namespace Go.Proofs.YtifdlbdecjlnaaaDoor.PAll
open Go.RowKit Go.Proofs.YtifdlbdecjlnaaaDoorW.PrintWords Go.Proofs.YtifdlbdecjlnaaaDoorW.PrintLast Go.Proofs.YtifdlbdecjlnaaaDoorW.PrintMore
set_option linter.unusedVariables false
set_option linter.unusedSimpArgs false
def nsp (b : UInt8) : Bool := b != 32
def wordS : List UInt8 → Except Int (Int × List UInt8)
  | 47 :: s => if 0 < kindOf (s.takeWhile nsp) then .ok (kindOf (s.takeWhile nsp), s.dropWhile nsp) else .error 2
  | _ => .error 2
def numS (most : Int) : List UInt8 → Except Int (Int × List UInt8)
  | 32 :: s =>
    if s.takeWhile isDig = [] ∨ (s.takeWhile isDig).head? = some 48 then .error 2
    else if 10 < (s.takeWhile isDig).length then .error 1
    else if most < (decVal (s.takeWhile isDig) : Int) then .error 1
    else .ok ((decVal (s.takeWhile isDig) : Int), s.dropWhile isDig)
  | _ => .error 2
def textS (may : List UInt8 → Bool) : List UInt8 → Except Int (List UInt8 × List UInt8)
  | 32 :: s => if 64 < s.length then .error 7 else if may s then .ok (s, []) else .error 2
  | _ => .error 2
def parseS (may : List UInt8 → Bool) (l : List UInt8) : Except Int (Int × Int × Int × List UInt8) :=
  match wordS l with
  | .error x => .error x
  | .ok (k, r) =>
    match numS 1048576 r with
    | .error x => .error x
    | .ok (n, r) =>
      match (if 5 ≤ k then numS 1073741824 r else .ok (0, r)) with
      | .error x => .error x
      | .ok (m, r) =>
        match (if k = 4 ∨ k = 5 then textS may r else .ok ([], r)) with
        | .error x => .error x
        | .ok (t, r) => if r = [] then .ok (k, n, m, t) else .error 2

theorem tw_all (p : UInt8 → Bool) (s : List UInt8) : ∀ b ∈ s.takeWhile p, p b = true := by
  induction s with
  | nil => intro b hb; cases hb
  | cons a s ih =>
    intro b hb
    rw [List.takeWhile_cons] at hb
    split at hb
    · rename_i h
      rcases List.mem_cons.1 hb with rfl | hb
      · exact h
      · exact ih b hb
    · cases hb
theorem dw_head (p : UInt8 → Bool) (s : List UInt8) : ∀ c q, s.dropWhile p = c :: q → p c = false := by
  induction s with
  | nil => intro c q h; cases h
  | cons a s ih =>
    intro c q h
    rw [List.dropWhile_cons] at h
    split at h
    · exact ih c q h
    · rename_i hp
      cases h
      simpa using hp
/-- How a method ends: by its value, the line then holding what is left; or by a panic. -/
def Ends (b : Nat) (w : World) {α : Type} (res : Except Int (α × List UInt8)) (v : α → Value) (e : Ending) (w' : World) : Prop :=
  (∃ x r, res = .ok (x, r) ∧ e = .returned (v x) ∧ Held b r w w') ∨ (∃ x r, res = .error x ∧ e = .panicked (Wr x) ∧ Held b r w w')
theorem word_w (b : Nat) (l : List UInt8) (w : World) (hb : Ln b l w) : Calls Tryd.prog 21 #[.pointer (some ⟨b, 0, none⟩)] w fun e w' => Ends b w (wordS l) (fun k => .int .i64 k) e w' := by
  by_cases h : ∃ s, l = 47 :: s
  · obtain ⟨s, rfl⟩ := h
    have hs : s.takeWhile nsp ++ s.dropWhile nsp = s := List.takeWhile_append_dropWhile
    have ht : ∀ b ∈ s.takeWhile nsp, b ≠ 32 := fun b hb => by have := tw_all nsp s b hb; simpa [nsp] using this
    have hr : s.dropWhile nsp = [] ∨ ∃ q, s.dropWhile nsp = 32 :: q := by
      cases hd : s.dropWhile nsp with
      | nil => exact .inl rfl
      | cons c q => exact .inr ⟨q, by have := dw_head nsp s c q hd; have : c = 32 := by simpa [nsp] using this
                                      rw [this]⟩
    have hb' : Ln b (47 :: (s.takeWhile nsp ++ s.dropWhile nsp)) w := by rw [hs]; exact hb
    by_cases h0 : 0 < kindOf (s.takeWhile nsp)
    · exact (word_at b _ _ ht hr w hb' _ rfl h0).mono fun e w' ⟨h1, h2⟩ => .inl ⟨_, _, by simp only [wordS]; rw [if_pos h0], h1, h2⟩
    · exact (word_none b _ _ ht hr w hb' _ rfl h0).mono fun e w' ⟨h1, h2⟩ => .inr ⟨_, _, by simp only [wordS]; rw [if_neg h0], h1, h2⟩
  · exact (word_slash b l (fun r hr => h ⟨r, hr⟩) w hb).mono fun e w' ⟨h1, h2⟩ => .inr ⟨_, l, by
      unfold wordS; split
      · rename_i s; exact absurd ⟨s, rfl⟩ h
      · rfl, h1, by rw [h2]; exact Held.refl hb⟩
theorem num_w (b : Nat) (most : Int) (l : List UInt8) (hlen : l.length < 1000000) (w : World) (hb : Ln b l w) : Calls Tryd.prog 20 #[.pointer (some ⟨b, 0, none⟩), .int .i64 most] w fun e w' => Ends b w (numS most l) (fun k => .int .i64 k) e w' := by
  by_cases h : ∃ s, l = 32 :: s
  · obtain ⟨s, rfl⟩ := h
    have hs : s.takeWhile isDig ++ s.dropWhile isDig = s := List.takeWhile_append_dropWhile
    have hd := tw_all isDig s
    have hr := dw_head isDig s
    have hb' : Ln b (32 :: (s.takeWhile isDig ++ s.dropWhile isDig)) w := by rw [hs]; exact hb
    have hl : (s.takeWhile isDig).length < 1000000 := by
      have := congrArg List.length hs
      rw [List.length_append] at this
      rw [List.length_cons] at hlen
      omega
    cases hD : s.takeWhile isDig with
    | nil =>
      exact (number_none b _ _ hD hd hr hl most w hb').mono fun e w' ⟨h1, h2⟩ => .inr ⟨_, _, by simp [numS, hD], h1, h2⟩
    | cons c d =>
      by_cases hc : c = 48
      · subst hc
        exact (number_zero b _ d _ hD hd hr hl most w hb').mono fun e w' ⟨h1, h2⟩ => .inr ⟨_, _, by simp [numS, hD], h1, h2⟩
      · by_cases h2 : (s.takeWhile isDig).length ≤ 10
        · by_cases hbig : most < (decVal (s.takeWhile isDig) : Int)
          · exact (number_big b _ c d _ hD hd hr hl hc h2 most w hb' hbig).mono fun e w' ⟨h1, h3⟩ => .inr ⟨_, _, by
              simp only [numS]; rw [if_neg (by rw [hD]; simp [hc]), if_neg (by omega), if_pos hbig], h1, h3⟩
          · exact (number_ok b _ c d _ hD hd hr hl hc h2 most w hb' (by omega)).mono fun e w' ⟨h1, h3⟩ => .inl ⟨_, _, by
              simp only [numS]; rw [if_neg (by rw [hD]; simp [hc]), if_neg (by omega), if_neg hbig], h1, h3⟩
        · exact (number_long b _ c d _ hD hd hr hl hc h2 most w hb').mono fun e w' ⟨h1, h3⟩ => .inr ⟨_, _, by
              simp only [numS]; rw [if_neg (by rw [hD]; simp [hc]), if_pos (by omega)], h1, h3⟩
  · exact (number_space b l (fun r hr => h ⟨r, hr⟩) most w hb).mono fun e w' ⟨h1, h2⟩ => .inr ⟨_, l, by
      unfold numS; split
      · rename_i s; exact absurd ⟨s, rfl⟩ h
      · rfl, h1, by rw [h2]; exact Held.refl hb⟩
theorem text_w (may : List UInt8 → Bool) (b : Nat) (l : List UInt8) (w : World) (hb : Ln b l w) (hM : ∀ s w1, s.length ≤ 64 → Held b s w w1 → Calls Tryd.prog 12 #[.string (Str s)] w1 fun e w' => e = .returned (.bool (may s)) ∧ Below w1.heap.size w1 w') :
    Calls Tryd.prog 24 #[.pointer (some ⟨b, 0, none⟩)] w fun e w' => Ends b w (textS may l) (fun t => .string (Str t)) e w' := by
  by_cases h : ∃ s, l = 32 :: s
  · obtain ⟨s, rfl⟩ := h
    by_cases hl : s.length ≤ 64
    · by_cases hm : may s = true
      · exact (text_ok b s hl w hb (fun w1 h1 => hm ▸ hM s w1 hl h1)).mono fun e w' ⟨h1, h2⟩ => .inl ⟨_, _, by simp only [textS]; rw [if_neg (by omega), if_pos hm], h1, h2⟩
      · have hm' : may s = false := by simpa using hm
        exact (text_bad b s hl w hb (fun w1 h1 => hm' ▸ hM s w1 hl h1)).mono fun e w' ⟨h1, h2⟩ => .inr ⟨_, _, by simp only [textS]; rw [if_neg (by omega), if_neg hm], h1, h2⟩
    · exact (text_long b s hl w hb).mono fun e w' ⟨h1, h2⟩ => .inr ⟨_, _, by simp only [textS]; rw [if_pos (by omega)], h1, h2⟩
  · exact (text_space b l (fun r hr => h ⟨r, hr⟩) w hb).mono fun e w' ⟨h1, h2⟩ => .inr ⟨_, l, by
      unfold textS; split
      · rename_i s; exact absurd ⟨s, rfl⟩ h
      · rfl, h1, by rw [h2]; exact Held.refl hb⟩
end Go.Proofs.YtifdlbdecjlnaaaDoor.PAll

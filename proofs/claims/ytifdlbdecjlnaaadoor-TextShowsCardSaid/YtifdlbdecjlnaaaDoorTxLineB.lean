/- Plain law: what is shown is parsed as it was. Conditions: those that each theorem states. -/
import Derived.Test.YtifdlbdecjlnaaaDoorTxLine
namespace Go.Proofs.YtifdlbdecjlnaaaDoor.PAll
open Go.RowKit
set_option linter.unusedVariables false
set_option linter.unusedSimpArgs false
theorem tw_app (p : UInt8 → Bool) : ∀ (a r : List UInt8), (∀ b ∈ a, p b = true) → (r = [] ∨ ∃ c q, r = c :: q ∧ p c = false) → (a ++ r).takeWhile p = a ∧ (a ++ r).dropWhile p = r
  | [], r, _, hr => by
    rcases hr with rfl | ⟨c, q, rfl, hc⟩
    · exact ⟨rfl, rfl⟩
    · rw [List.nil_append, List.takeWhile_cons, List.dropWhile_cons, hc]; exact ⟨rfl, rfl⟩
  | b :: a, r, ha, hr => by
    obtain ⟨i1, i2⟩ := tw_app p a r (fun c hc => ha c (List.mem_cons_of_mem _ hc)) hr
    rw [List.cons_append, List.takeWhile_cons, List.dropWhile_cons, ha b (List.mem_cons_self ..)]
    exact ⟨congrArg (b :: ·) i1, i2⟩
theorem word_back (k : Nat) (hk : 1 ≤ k ∧ k ≤ 7) (r : List UInt8) : wordS (47 :: (wordAt k ++ 32 :: r)) = .ok ((k : Int), 32 :: r) := by
  have h1 : ∀ j : Fin 8, ∀ b ∈ wordAt j.val, nsp b = true := by decide
  have h2 : ∀ j : Fin 8, 1 ≤ j.val → kindOf (wordAt j.val) = (j.val : Int) := by decide
  obtain ⟨i1, i2⟩ := tw_app nsp (wordAt k) (32 :: r) (h1 ⟨k, by omega⟩) (.inr ⟨32, r, rfl, rfl⟩)
  have hk2 := h2 ⟨k, by omega⟩ hk.1
  simp only [wordS]
  rw [i1, i2, hk2, if_pos (by show (0 : Int) < (k : Int); omega)]
theorem num_back (most : Int) (n : Nat) (h1 : 1 ≤ n) (h2 : (n : Int) ≤ most) (h3 : n ≤ 1073741824) (r : List UInt8) (hr : r = [] ∨ ∃ q, r = 32 :: q) : numS most (32 :: (Lib.decDigits n ++ r)) = .ok ((n : Int), r) := by
  obtain ⟨d1, d2, d3, d4⟩ := dec_back n n (Nat.le_refl _) h1
  have hl := dec_len10 n h3
  obtain ⟨i1, i2⟩ := tw_app isDig (Lib.decDigits n) r d1 (by
    rcases hr with rfl | ⟨q, rfl⟩
    · exact .inl rfl
    · exact .inr ⟨32, q, rfl, by decide⟩)
  simp only [numS]
  rw [i1, i2, d4, if_neg (by intro h; rcases h with h | h; exact d2 h; exact d3 h), if_neg (by omega), if_neg (by omega)]
theorem text_back (t : List UInt8) (h : mayS t = true) (hl : t.length ≤ 64) : textS mayS (32 :: t) = .ok (t, []) := by
  simp only [textS]
  rw [if_neg (by omega), if_pos h]
theorem back_err {k n m : Int} {t s : List UInt8} {x : Int} (h : showR k n m t = (s, x)) (hx : x ≠ 0) : s = [] := by
  unfold showR at h
  split at h
  · cases h; rfl
  split at h
  · cases h; rfl
  split at h
  · cases h; rfl
  cases h
  exact absurd rfl hx
theorem may_len' {t : List UInt8} (h : mayS t = true) : t.length ≤ 64 := by
  unfold mayS at h
  rw [Bool.and_eq_true, Bool.and_eq_true, decide_eq_true_eq, decide_eq_true_eq] at h
  exact h.1.2
/-- What is shown is parsed as it was, without what it does not need. -/
theorem back_of {k n m : Int} {t s : List UInt8} (h : showR k n m t = (s, 0)) : (1 ≤ k ∧ k ≤ 7) ∧ parseS mayS s = .ok (k, n, if 5 ≤ k then m else 0, if k = 4 ∨ k = 5 then t else []) := by
  unfold showR at h
  split at h
  · cases h
  rename_i c1
  split at h
  · cases h
  rename_i c2
  split at h
  · cases h
  rename_i c3
  obtain ⟨kk, rfl⟩ : ∃ kk : Nat, k = (kk : Int) := ⟨k.toNat, by omega⟩
  obtain ⟨nn, rfl⟩ : ∃ nn : Nat, n = (nn : Int) := ⟨n.toNat, by omega⟩
  refine ⟨by omega, ?_⟩
  have hs := (congrArg Prod.fst h).symm
  simp only [Int.toNat_natCast] at hs
  clear h
  have hw := word_back kk (by omega)
  have hn := num_back 1048576 nn (by omega) (by omega) (by omega)
  by_cases h5 : 5 ≤ (kk : Int)
  · obtain ⟨mm, rfl⟩ : ∃ mm : Nat, m = (mm : Int) := ⟨m.toNat, by omega⟩
    have hm := num_back 1073741824 mm (by omega) (by omega) (by omega)
    simp only [Int.toNat_natCast] at hs
    rw [if_pos h5] at hs ⊢
    by_cases h45 : (kk : Int) = 4 ∨ (kk : Int) = 5
    · rw [if_pos h45] at hs ⊢
      have ht : mayS t = true := by
        cases hM : mayS t
        · exact absurd ⟨h45, hM⟩ c3
        · rfl
      have e : s = 47 :: (wordAt kk ++ 32 :: (Lib.decDigits nn ++ 32 :: (Lib.decDigits mm ++ 32 :: t))) := by
        rw [hs]; simp [Lib.join, List.intercalate]
      rw [e]
      unfold parseS
      rw [hw]
      simp only []
      rw [hn _ (.inr ⟨_, rfl⟩)]
      simp only []
      rw [if_pos h5, hm _ (.inr ⟨_, rfl⟩)]
      simp only []
      rw [if_pos h45, text_back t ht (may_len' ht)]
      simp
    · rw [if_neg h45] at hs ⊢
      have e : s = 47 :: (wordAt kk ++ 32 :: (Lib.decDigits nn ++ 32 :: (Lib.decDigits mm ++ []))) := by
        rw [hs]; simp [Lib.join, List.intercalate]
      rw [e]
      unfold parseS
      rw [hw]
      simp only []
      rw [hn _ (.inr ⟨_, rfl⟩)]
      simp only []
      rw [if_pos h5, hm _ (.inl rfl)]
      simp only []
      rw [if_neg h45]
      simp
  · rw [if_neg h5] at hs ⊢
    by_cases h45 : (kk : Int) = 4 ∨ (kk : Int) = 5
    · rw [if_pos h45] at hs ⊢
      have ht : mayS t = true := by
        cases hM : mayS t
        · exact absurd ⟨h45, hM⟩ c3
        · rfl
      have e : s = 47 :: (wordAt kk ++ 32 :: (Lib.decDigits nn ++ 32 :: t)) := by
        rw [hs]; simp [Lib.join, List.intercalate]
      rw [e]
      unfold parseS
      rw [hw]
      simp only []
      rw [hn _ (.inr ⟨_, rfl⟩)]
      simp only []
      rw [if_neg h5]
      simp only []
      rw [if_pos h45, text_back t ht (may_len' ht)]
      simp
    · rw [if_neg h45] at hs ⊢
      have e : s = 47 :: (wordAt kk ++ 32 :: (Lib.decDigits nn ++ [])) := by
        rw [hs]; simp [Lib.join, List.intercalate]
      rw [e]
      unfold parseS
      rw [hw]
      simp only []
      rw [hn _ (.inl rfl)]
      simp only []
      rw [if_neg h5]
      simp only []
      rw [if_neg h45]
      simp
end Go.Proofs.YtifdlbdecjlnaaaDoor.PAll

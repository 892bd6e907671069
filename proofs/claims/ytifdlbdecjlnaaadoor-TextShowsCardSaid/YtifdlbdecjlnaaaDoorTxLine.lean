/- Plain law: lines and what they ask for. Conditions: those that each theorem states. -/
import Derived.Test.YtifdlbdecjlnaaaDoorTxShow
namespace Go.Proofs.YtifdlbdecjlnaaaDoor.PAll
open Go.RowKit
set_option linter.unusedVariables false
set_option linter.unusedSimpArgs false
theorem dec_snoc (x : List UInt8) (b : UInt8) : decVal (x ++ [b]) = 10 * decVal x + (b.toNat - 48) := by simp [decVal, List.foldl_append]
theorem dig_nat (b : UInt8) : isDig b = true ↔ 48 ≤ b.toNat ∧ b.toNat ≤ 57 := by simp [isDig]
theorem fold_ge : ∀ (d : List UInt8) (a : Nat), a ≤ d.foldl (fun a b => 10 * a + (b.toNat - 48)) a
  | [], a => Nat.le_refl _
  | b :: d, a => by
    rw [List.foldl_cons]
    exact Nat.le_trans (by omega) (fold_ge d _)
theorem dec_pos (d : List UInt8) (hd : ∀ b ∈ d, isDig b = true) (hne : d ≠ []) (h0 : d.head? ≠ some 48) : 1 ≤ decVal d := by
  cases d with
  | nil => exact absurd rfl hne
  | cons b d =>
    have hb := (dig_nat b).1 (hd b (List.mem_cons_self ..))
    have h48 : b.toNat ≠ 48 := fun h => h0 (by rw [show b = 48 from UInt8.toNat_inj.mp h]; rfl)
    unfold decVal
    rw [List.foldl_cons]
    exact Nat.le_trans (by omega) (fold_ge d _)
/-- Digits without a nought ahead are those of their number. -/
theorem dec_of (n : Nat) : ∀ (d : List UInt8), d.length = n → (∀ b ∈ d, isDig b = true) → d ≠ [] → d.head? ≠ some 48 → Lib.decDigits (decVal d) = d := by
  induction n with
  | zero =>
    intro d hl _ hne
    exact absurd (List.length_eq_zero_iff.1 hl) hne
  | succ n ih =>
    intro d hl hd hne h0
    rcases List.eq_nil_or_concat d with h | ⟨x, b, h⟩
    · exact absurd h hne
    · have h : d = x ++ [b] := by simpa using h
      subst h
      have hb := (dig_nat b).1 (hd b (by simp))
      have hx : ∀ c ∈ x, isDig c = true := fun c hc => hd c (by simp [hc])
      have hb2 : UInt8.ofNat (48 + (b.toNat - 48)) = b := by
        rw [show 48 + (b.toNat - 48) = b.toNat by omega]
        exact UInt8.ofNat_toNat
      rw [dec_snoc]
      by_cases hxn : x = []
      · subst hxn
        rw [show decVal [] = 0 from rfl, Lib.decDigits, dif_pos (by omega)]
        rw [Nat.mul_zero, Nat.zero_add, hb2]
        rfl
      · have hx0 : x.head? ≠ some 48 := by
          intro h
          apply h0
          cases x with
          | nil => exact absurd rfl hxn
          | cons c x => simpa using h
        have hp := dec_pos x hx hxn hx0
        have ihx := ih x (by simp at hl; exact hl) hx hxn hx0
        rw [Lib.decDigits, dif_neg (by omega), show (10 * decVal x + (b.toNat - 48)) / 10 = decVal x by omega, show (10 * decVal x + (b.toNat - 48)) % 10 = b.toNat - 48 by omega, ihx, hb2]
/-- The digits of a number above 0: digits, none of them a nought ahead, and its value is that number. -/
theorem dec_back : ∀ (n u : Nat), u ≤ n → 1 ≤ u → (∀ b ∈ Lib.decDigits u, isDig b = true) ∧ Lib.decDigits u ≠ [] ∧ (Lib.decDigits u).head? ≠ some 48 ∧ decVal (Lib.decDigits u) = u
  | 0, u, h, h1 => by omega
  | n + 1, u, h, h1 => by
    have hof : ∀ r, r < 10 → (UInt8.ofNat (48 + r)).toNat = 48 + r := fun r hr => by
      rw [UInt8.toNat_ofNat']; omega
    have hdg : ∀ r, r < 10 → isDig (UInt8.ofNat (48 + r)) = true := fun r hr => (dig_nat _).2 (by rw [hof r hr]; omega)
    by_cases h10 : u < 10
    · rw [Lib.decDigits, dif_pos h10]
      refine ⟨fun b hb => ?_, by simp, ?_, ?_⟩
      · rw [List.mem_singleton] at hb; rw [hb]; exact hdg u h10
      · intro k
        have : UInt8.ofNat (48 + u) = 48 := by simpa using k
        have := congrArg UInt8.toNat this
        rw [hof u h10] at this
        have e : (48 : UInt8).toNat = 48 := rfl
        omega
      · unfold decVal
        rw [List.foldl_cons, List.foldl_nil, hof u h10]
        omega
    · obtain ⟨i1, i2, i3, i4⟩ := dec_back n (u / 10) (by omega) (by omega)
      rw [Lib.decDigits, dif_neg h10]
      refine ⟨fun b hb => ?_, by simp, ?_, ?_⟩
      · rcases List.mem_append.1 hb with hb | hb
        · exact i1 b hb
        · rw [List.mem_singleton] at hb; rw [hb]; exact hdg _ (by omega)
      · intro k
        apply i3
        cases hc : Lib.decDigits (u / 10) with
        | nil => exact absurd hc i2
        | cons c x => rw [hc] at k; simpa using k
      · rw [dec_snoc, i4, hof _ (by omega)]
        omega
theorem dec_len10 (u : Nat) (h : u ≤ 1073741824) : (Lib.decDigits u).length ≤ 10 := by
  have : ∀ (k u : Nat), u < 10 ^ (k + 1) → (Lib.decDigits u).length ≤ k + 1 := by
    intro k
    induction k with
    | zero => intro u hu; rw [Lib.decDigits, dif_pos (by omega)]; simp
    | succ k ih =>
      intro u hu
      rw [Lib.decDigits]
      split
      · simp
      · rw [List.length_append]
        have := ih (u / 10) (by rw [Nat.pow_succ] at hu; omega)
        simp only [List.length_cons, List.length_nil]
        omega
  exact this 9 u (by omega)
/-! ### what a part of a line is -/
theorem kindAt_mem : ∀ (zs : List (List UInt8)) (x : List UInt8) (i : Int), 0 ≤ i → 0 ≤ kindAt zs x i → zs[(kindAt zs x i - i).toNat]? = some x
  | [], x, i, hi, h => by simp [kindAt] at h
  | z :: zs, x, i, hi, h => by
    unfold kindAt at h ⊢
    by_cases hz : z = x
    · rw [if_pos hz]
      simp [hz]
    · rw [if_neg hz] at h ⊢
      have ih := kindAt_mem zs x (i + 1) (by omega) h
      have hge : i + 1 ≤ kindAt zs x (i + 1) := by
        have : ∀ (zs : List (List UInt8)) (i : Int), kindAt zs x i = -1 ∨ i ≤ kindAt zs x i := by
          intro zs
          induction zs with
          | nil => intro i; exact .inl rfl
          | cons z zs ih =>
            intro i
            unfold kindAt
            by_cases h : z = x
            · rw [if_pos h]; exact .inr (Int.le_refl _)
            · rw [if_neg h]
              rcases ih (i + 1) with k | k
              · exact .inl k
              · exact .inr (by omega)
        rcases this zs (i + 1) with k | k
        · omega
        · exact k
      rw [show (kindAt zs x (i + 1) - i).toNat = (kindAt zs x (i + 1) - (i + 1)).toNat + 1 by omega, List.getElem?_cons_succ]
      exact ih
theorem word_of {l r : List UInt8} {k : Int} (h : wordS l = .ok (k, r)) : 1 ≤ k ∧ k ≤ 7 ∧ l = 47 :: (wordAt k.toNat ++ r) ∧ (r = [] ∨ ∃ q, r = 32 :: q) := by
  unfold wordS at h
  split at h
  · rename_i s
    split at h
    · rename_i h0
      cases h
      have hm := kindAt_mem kindWords (s.takeWhile nsp) 0 (Int.le_refl _) (by unfold kindOf at h0; omega)
      have hk : kindAt kindWords (s.takeWhile nsp) 0 = kindOf (s.takeWhile nsp) := rfl
      rw [hk, Int.sub_zero] at hm
      have hlt : (kindOf (s.takeWhile nsp)).toNat < 8 := by
        have := (List.getElem?_eq_some_iff.1 hm).1
        exact this
      have hw : wordAt (kindOf (s.takeWhile nsp)).toNat = s.takeWhile nsp := by
        unfold wordAt
        rw [List.getD_eq_getElem?_getD, hm]
        rfl
      refine ⟨by omega, by omega, by rw [hw, List.takeWhile_append_dropWhile], ?_⟩
      cases hd : s.dropWhile nsp with
      | nil => exact .inl rfl
      | cons c q => exact .inr ⟨q, by have := dw_head nsp s c q hd; have : c = 32 := by simpa [nsp] using this
                                      rw [this]⟩
    · cases h
  · cases h
theorem num_of {most : Int} {l r : List UInt8} {n : Int} (h : numS most l = .ok (n, r)) : 1 ≤ n ∧ n ≤ most ∧ l = 32 :: (Lib.decDigits n.toNat ++ r) := by
  unfold numS at h
  split at h
  · rename_i s
    split at h
    · cases h
    rename_i h1
    split at h
    · cases h
    rename_i h2
    split at h
    · cases h
    rename_i h3
    cases h
    have hne : s.takeWhile isDig ≠ [] := fun h => h1 (.inl h)
    have h0 : (s.takeWhile isDig).head? ≠ some 48 := fun h => h1 (.inr h)
    have hp := dec_pos _ (tw_all isDig s) hne h0
    have hd := dec_of _ (s.takeWhile isDig) rfl (tw_all isDig s) hne h0
    refine ⟨by omega, by omega, ?_⟩
    rw [Int.toNat_natCast, hd, List.takeWhile_append_dropWhile]
  · cases h
theorem text_of {l r t : List UInt8} (h : textS mayS l = .ok (t, r)) : l = 32 :: t ∧ r = [] ∧ mayS t = true := by
  unfold textS at h
  split at h
  · split at h
    · cases h
    split at h
    · rename_i hm
      cases h
      exact ⟨rfl, rfl, hm⟩
    · cases h
  · cases h
/-- What is parsed is shown as the same line. -/
theorem once_of {l : List UInt8} {k n m : Int} {t : List UInt8} (h : parseS mayS l = .ok (k, n, m, t)) : showR k n m t = (l, 0) := by
  unfold parseS at h
  cases hw : wordS l with
  | error x => rw [hw] at h; cases h
  | ok kr =>
    obtain ⟨k1, r1⟩ := kr
    rw [hw] at h
    simp only [] at h
    obtain ⟨hk1, hk7, hl, hr1⟩ := word_of hw
    cases hn : numS 1048576 r1 with
    | error x => rw [hn] at h; cases h
    | ok nr =>
      obtain ⟨n1, r2⟩ := nr
      rw [hn] at h
      simp only [] at h
      obtain ⟨hn1, hn2, hr⟩ := num_of hn
      by_cases h5 : 5 ≤ k1
      · rw [if_pos h5] at h
        cases hm : numS 1073741824 r2 with
        | error x => rw [hm] at h; cases h
        | ok mr =>
          obtain ⟨m1, r3⟩ := mr
          rw [hm] at h
          simp only [] at h
          obtain ⟨hm1, hm2, hr3⟩ := num_of hm
          by_cases h45 : k1 = 4 ∨ k1 = 5
          · rw [if_pos h45] at h
            cases ht : textS mayS r3 with
            | error x => rw [ht] at h; cases h
            | ok tr =>
              obtain ⟨t1, r4⟩ := tr
              rw [ht] at h
              simp only [] at h
              obtain ⟨e1, e2, e3⟩ := text_of ht
              rw [if_pos e2] at h
              cases h
              unfold showR
              rw [if_neg (by omega), if_neg (by omega), if_neg (by rw [e3]; simp), if_pos h5, if_pos h45, hl, hr, hr3, e1]
              simp [Lib.join, List.intercalate]
          · rw [if_neg h45] at h
            simp only [] at h
            split at h
            · rename_i e2
              cases h
              unfold showR
              rw [if_neg (by omega), if_neg (by omega), if_neg (fun q => h45 q.1), if_pos h5, if_neg h45, hl, hr, hr3, e2]
              simp [Lib.join, List.intercalate]
            · cases h
      · rw [if_neg h5] at h
        simp only [] at h
        by_cases h45 : k1 = 4 ∨ k1 = 5
        · rw [if_pos h45] at h
          cases ht : textS mayS r2 with
          | error x => rw [ht] at h; cases h
          | ok tr =>
            obtain ⟨t1, r4⟩ := tr
            rw [ht] at h
            simp only [] at h
            obtain ⟨e1, e2, e3⟩ := text_of ht
            rw [if_pos e2] at h
            cases h
            unfold showR
            rw [if_neg (by omega), if_neg (fun q => h5 q.1), if_neg (by rw [e3]; simp), if_neg h5, if_pos h45, hl, hr, e1]
            simp [Lib.join, List.intercalate]
        · rw [if_neg h45] at h
          simp only [] at h
          split at h
          · rename_i e2
            cases h
            unfold showR
            rw [if_neg (by omega), if_neg (fun q => h5 q.1), if_neg (fun q => h45 q.1), if_neg h5, if_neg h45, hl, hr, e2]
            simp [Lib.join, List.intercalate]
          · cases h
end Go.Proofs.YtifdlbdecjlnaaaDoor.PAll

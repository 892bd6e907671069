/- Plain laws of the numbers of layer 1: how many bytes one has, and which. -/
import Derived.Test.YthkipipfdlepnaaPAllx3
import Derived.Test.YthkipipfdlepnaaBase
namespace Go.Proofs.Ythkipipfdlepnaa.Pure
open Go.RowKit Go.Proofs.Ythkipipfdlepnaa.PAll Go.Proofs.YthkipipfdlepnaaW.PrintWords Go.Proofs.YthkipipfdlepnaaW.PrintLast Go.Proofs.YthkipipfdlepnaaW.PrintMore

/-- How many bytes a number has. -/
def sz (n : Nat) : Nat := if n < 128 then 1 else sz (n / 128) + 1
termination_by n
decreasing_by omega
/-- The bytes ahead of the last one: each with the mark. -/
def hi (n : Nat) : List Int := if n < 128 then [(n : Int) + 128] else hi (n / 128) ++ [((n % 128 : Nat) : Int) + 128]
termination_by n
decreasing_by omega
/-- A number's bytes. -/
def enc (n : Nat) : List Int := if n < 128 then [(n : Int)] else hi (n / 128) ++ [((n % 128 : Nat) : Int)]
theorem sz_lt {n : Nat} (h : n < 128) : sz n = 1 := by rw [sz, if_pos h]
theorem sz_ge {n : Nat} (h : ¬ n < 128) : sz n = sz (n / 128) + 1 := by rw [sz, if_neg h]
theorem hi_lt {n : Nat} (h : n < 128) : hi n = [(n : Int) + 128] := by rw [hi, if_pos h]
theorem hi_ge {n : Nat} (h : ¬ n < 128) : hi n = hi (n / 128) ++ [((n % 128 : Nat) : Int) + 128] := by rw [hi, if_neg h]
theorem enc_lt {n : Nat} (h : n < 128) : enc n = [(n : Int)] := by rw [enc, if_pos h]
theorem enc_ge {n : Nat} (h : ¬ n < 128) : enc n = hi (n / 128) ++ [((n % 128 : Nat) : Int)] := by rw [enc, if_neg h]
theorem sz_pos (n : Nat) : 1 ≤ sz n := by
  by_cases h : n < 128
  · rw [sz_lt h]; omega
  · rw [sz_ge h]; omega
theorem hi_length (n : Nat) : (hi n).length = sz n := by
  induction n using Nat.strongRecOn with
  | _ n ih =>
    by_cases h : n < 128
    · rw [hi_lt h, sz_lt h]; rfl
    · rw [hi_ge h, sz_ge h, List.length_append, ih _ (by omega)]; rfl
theorem enc_length (n : Nat) : (enc n).length = sz n := by
  by_cases h : n < 128
  · rw [enc_lt h, sz_lt h]; rfl
  · rw [enc_ge h, sz_ge h, List.length_append, hi_length]; rfl
theorem hi_bytes (n : Nat) : ∀ c ∈ hi n, 128 ≤ c ∧ c < 256 := by
  induction n using Nat.strongRecOn with
  | _ n ih =>
    intro c hc
    by_cases h : n < 128
    · rw [hi_lt h] at hc
      rw [List.mem_singleton.1 hc]; omega
    · rw [hi_ge h] at hc
      rcases List.mem_append.1 hc with hc | hc
      · exact ih _ (by omega) c hc
      · rw [List.mem_singleton.1 hc]; omega
theorem enc_bytes (n : Nat) : Bs (enc n) := by
  intro c hc
  by_cases h : n < 128
  · rw [enc_lt h] at hc
    rw [List.mem_singleton.1 hc]; omega
  · rw [enc_ge h] at hc
    rcases List.mem_append.1 hc with hc | hc
    · have := hi_bytes _ c hc; omega
    · rw [List.mem_singleton.1 hc]; omega
theorem sz_bound (n : Nat) : n < 2 ^ (7 * sz n) ∧ (sz n ≠ 1 → 2 ^ (7 * (sz n - 1)) ≤ n) := by
  induction n using Nat.strongRecOn with
  | _ n ih =>
    by_cases h : n < 128
    · rw [sz_lt h]; exact ⟨by omega, fun h => absurd rfl h⟩
    · have ⟨i1, i2⟩ := ih (n / 128) (by omega)
      have hp := sz_pos (n / 128)
      rw [sz_ge h]
      generalize sz (n / 128) = s at *
      have e : 2 ^ (7 * (s + 1)) = 2 ^ (7 * s) * 128 := by rw [show 7 * (s + 1) = 7 * s + 7 by omega, Nat.pow_add]
      refine ⟨by rw [e]; omega, fun _ => ?_⟩
      rw [show s + 1 - 1 = s by omega]
      by_cases h1 : s = 1
      · subst h1; omega
      · have i2 := i2 h1
        have e2 : 2 ^ (7 * s) = 2 ^ (7 * (s - 1)) * 128 := by rw [show 7 * s = 7 * (s - 1) + 7 by omega, Nat.pow_add]
        omega
theorem sz_le_iff {n j : Nat} (hj : 1 ≤ j) : sz n ≤ j ↔ n < 2 ^ (7 * j) := by
  have ⟨b1, b2⟩ := sz_bound n
  constructor
  · intro h
    exact Nat.lt_of_lt_of_le b1 (Nat.pow_le_pow_right (by decide) (by omega))
  · intro h
    apply Classical.byContradiction
    intro hc
    have b2 := b2 (by omega)
    have : 2 ^ (7 * j) ≤ 2 ^ (7 * (sz n - 1)) := Nat.pow_le_pow_right (by decide) (by omega)
    omega
theorem sz_le8 {n : Nat} (h : n < 72057594037927936) : sz n ≤ 8 := (sz_le_iff (by decide)).2 (by simpa using h)
theorem lt_of_sz8 {n : Nat} (h : sz n ≤ 8) : n < 72057594037927936 := by simpa using (sz_le_iff (by decide)).1 h

/-- L is how many bits n has. -/
def LenOk (n L : Nat) : Prop := n < 2 ^ L ∧ 2 ^ L ≤ 2 * n + 1
theorem sz_of_len {n L : Nat} (h : LenOk n L) : max 1 ((L + 6) / 7) = sz n := by
  obtain ⟨h1, h2⟩ := h
  have ⟨b1, b2⟩ := sz_bound n
  have hp := sz_pos n
  have u : L < 7 * sz n + 1 := by
    have : 2 ^ L < 2 ^ (7 * sz n + 1) := by rw [Nat.pow_succ]; omega
    exact (Nat.pow_lt_pow_iff_right (by decide)).1 this
  by_cases hs : sz n = 1
  · omega
  have d : 7 * (sz n - 1) < L := by
    have : 2 ^ (7 * (sz n - 1)) < 2 ^ L := by have := b2 hs; omega
    exact (Nat.pow_lt_pow_iff_right (by decide)).1 this
  omega
theorem LenOk.up {n q s t : Nat} (hq : q = n / 2 ^ s) (h1 : 1 ≤ q) (h : LenOk q t) : LenOk n (s + t) := by
  obtain ⟨a, b⟩ := h
  have hs : 0 < 2 ^ s := Nat.two_pow_pos s
  have hd : 2 ^ s * q ≤ n := by rw [hq]; exact Nat.mul_div_le _ _
  have hu : n < 2 ^ s * (q + 1) := by rw [hq]; exact Nat.lt_mul_div_succ n hs
  refine ⟨?_, ?_⟩
  · rw [Nat.pow_add]
    exact Nat.lt_of_lt_of_le hu (Nat.mul_le_mul_left _ a)
  · have ht : t ≠ 0 := by rintro rfl; simp at a; omega
    have he : 2 ^ t ≤ 2 * q := by
      obtain ⟨t', rfl⟩ : ∃ t', t = t' + 1 := ⟨t - 1, by omega⟩
      rw [Nat.pow_succ] at b ⊢; omega
    rw [Nat.pow_add]
    have := Nat.mul_le_mul_left (2 ^ s) he
    rw [← Nat.mul_assoc, Nat.mul_comm (2 ^ s) 2, Nat.mul_assoc] at this
    omega
theorem tab_ok : ∀ x : Nat, x < 256 → 0 ≤ bt (⟨#[0, 1, 2, 2, 3, 3, 3, 3, 4, 4, 4, 4, 4, 4, 4, 4, 5, 5, 5, 5, 5, 5, 5, 5, 5, 5, 5, 5, 5, 5, 5, 5, 6, 6, 6, 6, 6, 6, 6, 6, 6, 6, 6, 6, 6, 6, 6, 6, 6, 6, 6, 6, 6, 6, 6, 6, 6, 6, 6, 6, 6, 6, 6, 6, 7, 7, 7, 7, 7, 7, 7, 7, 7, 7, 7, 7, 7, 7, 7, 7, 7, 7, 7, 7, 7, 7, 7, 7, 7, 7, 7, 7, 7, 7, 7, 7, 7, 7, 7, 7, 7, 7, 7, 7, 7, 7, 7, 7, 7, 7, 7, 7, 7, 7, 7, 7, 7, 7, 7, 7, 7, 7, 7, 7, 7, 7, 7, 7, 8, 8, 8, 8, 8, 8, 8, 8, 8, 8, 8, 8, 8, 8, 8, 8, 8, 8, 8, 8, 8, 8, 8, 8, 8, 8, 8, 8, 8, 8, 8, 8, 8, 8, 8, 8, 8, 8, 8, 8, 8, 8, 8, 8, 8, 8, 8, 8, 8, 8, 8, 8, 8, 8, 8, 8, 8, 8, 8, 8, 8, 8, 8, 8, 8, 8, 8, 8, 8, 8, 8, 8, 8, 8, 8, 8, 8, 8, 8, 8, 8, 8, 8, 8, 8, 8, 8, 8, 8, 8, 8, 8, 8, 8, 8, 8, 8, 8, 8, 8, 8, 8, 8, 8, 8, 8, 8, 8, 8, 8, 8, 8, 8, 8, 8, 8, 8, 8, 8, 8, 8, 8, 8, 8, 8, 8, 8, 8]⟩ : ByteArray) (x : Int) ∧ bt (⟨#[0, 1, 2, 2, 3, 3, 3, 3, 4, 4, 4, 4, 4, 4, 4, 4, 5, 5, 5, 5, 5, 5, 5, 5, 5, 5, 5, 5, 5, 5, 5, 5, 6, 6, 6, 6, 6, 6, 6, 6, 6, 6, 6, 6, 6, 6, 6, 6, 6, 6, 6, 6, 6, 6, 6, 6, 6, 6, 6, 6, 6, 6, 6, 6, 7, 7, 7, 7, 7, 7, 7, 7, 7, 7, 7, 7, 7, 7, 7, 7, 7, 7, 7, 7, 7, 7, 7, 7, 7, 7, 7, 7, 7, 7, 7, 7, 7, 7, 7, 7, 7, 7, 7, 7, 7, 7, 7, 7, 7, 7, 7, 7, 7, 7, 7, 7, 7, 7, 7, 7, 7, 7, 7, 7, 7, 7, 7, 7, 8, 8, 8, 8, 8, 8, 8, 8, 8, 8, 8, 8, 8, 8, 8, 8, 8, 8, 8, 8, 8, 8, 8, 8, 8, 8, 8, 8, 8, 8, 8, 8, 8, 8, 8, 8, 8, 8, 8, 8, 8, 8, 8, 8, 8, 8, 8, 8, 8, 8, 8, 8, 8, 8, 8, 8, 8, 8, 8, 8, 8, 8, 8, 8, 8, 8, 8, 8, 8, 8, 8, 8, 8, 8, 8, 8, 8, 8, 8, 8, 8, 8, 8, 8, 8, 8, 8, 8, 8, 8, 8, 8, 8, 8, 8, 8, 8, 8, 8, 8, 8, 8, 8, 8, 8, 8, 8, 8, 8, 8, 8, 8, 8, 8, 8, 8, 8, 8, 8, 8, 8, 8, 8, 8, 8, 8, 8, 8]⟩ : ByteArray) (x : Int) ≤ 8 ∧
    x < 2 ^ (bt (⟨#[0, 1, 2, 2, 3, 3, 3, 3, 4, 4, 4, 4, 4, 4, 4, 4, 5, 5, 5, 5, 5, 5, 5, 5, 5, 5, 5, 5, 5, 5, 5, 5, 6, 6, 6, 6, 6, 6, 6, 6, 6, 6, 6, 6, 6, 6, 6, 6, 6, 6, 6, 6, 6, 6, 6, 6, 6, 6, 6, 6, 6, 6, 6, 6, 7, 7, 7, 7, 7, 7, 7, 7, 7, 7, 7, 7, 7, 7, 7, 7, 7, 7, 7, 7, 7, 7, 7, 7, 7, 7, 7, 7, 7, 7, 7, 7, 7, 7, 7, 7, 7, 7, 7, 7, 7, 7, 7, 7, 7, 7, 7, 7, 7, 7, 7, 7, 7, 7, 7, 7, 7, 7, 7, 7, 7, 7, 7, 7, 8, 8, 8, 8, 8, 8, 8, 8, 8, 8, 8, 8, 8, 8, 8, 8, 8, 8, 8, 8, 8, 8, 8, 8, 8, 8, 8, 8, 8, 8, 8, 8, 8, 8, 8, 8, 8, 8, 8, 8, 8, 8, 8, 8, 8, 8, 8, 8, 8, 8, 8, 8, 8, 8, 8, 8, 8, 8, 8, 8, 8, 8, 8, 8, 8, 8, 8, 8, 8, 8, 8, 8, 8, 8, 8, 8, 8, 8, 8, 8, 8, 8, 8, 8, 8, 8, 8, 8, 8, 8, 8, 8, 8, 8, 8, 8, 8, 8, 8, 8, 8, 8, 8, 8, 8, 8, 8, 8, 8, 8, 8, 8, 8, 8, 8, 8, 8, 8, 8, 8, 8, 8, 8, 8, 8, 8, 8, 8]⟩ : ByteArray) (x : Int)).toNat ∧ 2 ^ (bt (⟨#[0, 1, 2, 2, 3, 3, 3, 3, 4, 4, 4, 4, 4, 4, 4, 4, 5, 5, 5, 5, 5, 5, 5, 5, 5, 5, 5, 5, 5, 5, 5, 5, 6, 6, 6, 6, 6, 6, 6, 6, 6, 6, 6, 6, 6, 6, 6, 6, 6, 6, 6, 6, 6, 6, 6, 6, 6, 6, 6, 6, 6, 6, 6, 6, 7, 7, 7, 7, 7, 7, 7, 7, 7, 7, 7, 7, 7, 7, 7, 7, 7, 7, 7, 7, 7, 7, 7, 7, 7, 7, 7, 7, 7, 7, 7, 7, 7, 7, 7, 7, 7, 7, 7, 7, 7, 7, 7, 7, 7, 7, 7, 7, 7, 7, 7, 7, 7, 7, 7, 7, 7, 7, 7, 7, 7, 7, 7, 7, 8, 8, 8, 8, 8, 8, 8, 8, 8, 8, 8, 8, 8, 8, 8, 8, 8, 8, 8, 8, 8, 8, 8, 8, 8, 8, 8, 8, 8, 8, 8, 8, 8, 8, 8, 8, 8, 8, 8, 8, 8, 8, 8, 8, 8, 8, 8, 8, 8, 8, 8, 8, 8, 8, 8, 8, 8, 8, 8, 8, 8, 8, 8, 8, 8, 8, 8, 8, 8, 8, 8, 8, 8, 8, 8, 8, 8, 8, 8, 8, 8, 8, 8, 8, 8, 8, 8, 8, 8, 8, 8, 8, 8, 8, 8, 8, 8, 8, 8, 8, 8, 8, 8, 8, 8, 8, 8, 8, 8, 8, 8, 8, 8, 8, 8, 8, 8, 8, 8, 8, 8, 8, 8, 8, 8, 8, 8, 8]⟩ : ByteArray) (x : Int)).toNat ≤ 2 * x + 1 := by decide +kernel
theorem tab_len {x : Nat} (h : x < 256) : ∃ t : Nat, t ≤ 8 ∧ LenOk x t ∧ bt (⟨#[0, 1, 2, 2, 3, 3, 3, 3, 4, 4, 4, 4, 4, 4, 4, 4, 5, 5, 5, 5, 5, 5, 5, 5, 5, 5, 5, 5, 5, 5, 5, 5, 6, 6, 6, 6, 6, 6, 6, 6, 6, 6, 6, 6, 6, 6, 6, 6, 6, 6, 6, 6, 6, 6, 6, 6, 6, 6, 6, 6, 6, 6, 6, 6, 7, 7, 7, 7, 7, 7, 7, 7, 7, 7, 7, 7, 7, 7, 7, 7, 7, 7, 7, 7, 7, 7, 7, 7, 7, 7, 7, 7, 7, 7, 7, 7, 7, 7, 7, 7, 7, 7, 7, 7, 7, 7, 7, 7, 7, 7, 7, 7, 7, 7, 7, 7, 7, 7, 7, 7, 7, 7, 7, 7, 7, 7, 7, 7, 8, 8, 8, 8, 8, 8, 8, 8, 8, 8, 8, 8, 8, 8, 8, 8, 8, 8, 8, 8, 8, 8, 8, 8, 8, 8, 8, 8, 8, 8, 8, 8, 8, 8, 8, 8, 8, 8, 8, 8, 8, 8, 8, 8, 8, 8, 8, 8, 8, 8, 8, 8, 8, 8, 8, 8, 8, 8, 8, 8, 8, 8, 8, 8, 8, 8, 8, 8, 8, 8, 8, 8, 8, 8, 8, 8, 8, 8, 8, 8, 8, 8, 8, 8, 8, 8, 8, 8, 8, 8, 8, 8, 8, 8, 8, 8, 8, 8, 8, 8, 8, 8, 8, 8, 8, 8, 8, 8, 8, 8, 8, 8, 8, 8, 8, 8, 8, 8, 8, 8, 8, 8, 8, 8, 8, 8, 8, 8]⟩ : ByteArray) (x : Int) = (t : Int) := by
  obtain ⟨a, b, c, d⟩ := tab_ok x h
  generalize bt _ _ = y at *
  obtain ⟨t, rfl⟩ := Int.eq_ofNat_of_zero_le a
  exact ⟨t, by omega, ⟨c, d⟩, rfl⟩
theorem len64_j0 {x off : Nat} (hx : x < 4294967296) (ho : off ≤ 64) : ∃ L, LenOk x L ∧ L ≤ 32 ∧ Ev (fun k => bits_Len64.j0 k (x : Int) (off : Int)) ((off + L : Nat) : Int) := by
  by_cases h1 : x ≥ 65536
  · by_cases h2 : x / 65536 ≥ 256
    · obtain ⟨t, h8, hl, ht⟩ := tab_len (x := x / 65536 / 256 % 256) (by omega)
      have e : (((x : Int) / 65536) / 256) % 256 = ((x / 65536 / 256 % 256 : Nat) : Int) := by omega
      refine ⟨24 + t, LenOk.up (by rw [show (2 : Nat) ^ 24 = 65536 * 256 by decide, ← Nat.div_div_eq_div_mul]; omega) (by omega) hl, by omega, ?_⟩
      refine Ev.step (f := fun _ => some _) (fun k => ?_) (Ev.now _)
      rw [bits_Len64.j0]
      rw [if_pos (by omega), if_pos (by omega), e, if_pos (by omega), if_pos (by omega), ht]
      rw [wrap64_id (a := (t : Int)) (by omega) (by omega), wrap64_id (a := (off : Int) + 16) (by omega) (by omega), wrap64_id (a := (off : Int) + 16 + 8) (by omega) (by omega), wrap64_id (by omega) (by omega)]
      exact congrArg some (by omega)
    · obtain ⟨t, h8, hl, ht⟩ := tab_len (x := x / 65536 % 256) (by omega)
      have e : ((x : Int) / 65536) % 256 = ((x / 65536 % 256 : Nat) : Int) := by omega
      refine ⟨16 + t, LenOk.up (by rw [show (2 : Nat) ^ 16 = 65536 by decide]; omega) (by omega) hl, by omega, ?_⟩
      refine Ev.step (f := fun _ => some _) (fun k => ?_) (Ev.now _)
      rw [bits_Len64.j0]
      rw [if_pos (by omega), if_neg (by omega), e, if_pos (by omega), if_pos (by omega), ht]
      rw [wrap64_id (a := (t : Int)) (by omega) (by omega), wrap64_id (a := (off : Int) + 16) (by omega) (by omega), wrap64_id (by omega) (by omega)]
      exact congrArg some (by omega)
  · by_cases h2 : x ≥ 256
    · obtain ⟨t, h8, hl, ht⟩ := tab_len (x := x / 256 % 256) (by omega)
      have e : ((x : Int) / 256) % 256 = ((x / 256 % 256 : Nat) : Int) := by omega
      refine ⟨8 + t, LenOk.up (by rw [show (2 : Nat) ^ 8 = 256 by decide]; omega) (by omega) hl, by omega, ?_⟩
      refine Ev.step (f := fun _ => some _) (fun k => ?_) (Ev.now _)
      rw [bits_Len64.j0]
      rw [if_neg (by omega), if_pos (by omega), e, if_pos (by omega), if_pos (by omega), ht]
      rw [wrap64_id (a := (t : Int)) (by omega) (by omega), wrap64_id (a := (off : Int) + 8) (by omega) (by omega), wrap64_id (by omega) (by omega)]
      exact congrArg some (by omega)
    · obtain ⟨t, h8, hl, ht⟩ := tab_len (x := x) (by omega)
      have e : (x : Int) % 256 = (x : Int) := by omega
      refine ⟨t, hl, by omega, ?_⟩
      refine Ev.step (f := fun _ => some _) (fun k => ?_) (Ev.now _)
      rw [bits_Len64.j0]
      rw [if_neg (by omega), if_neg (by omega), e, if_pos (by omega), if_pos (by omega), ht]
      rw [wrap64_id (a := (t : Int)) (by omega) (by omega), wrap64_id (by omega) (by omega)]
      exact congrArg some (by omega)
theorem len_ev {n : Nat} (hn : n < 18446744073709551616) : ∃ L, LenOk n L ∧ L ≤ 64 ∧ Ev (fun k => bits_Len.f k (n : Int)) (L : Int) := by
  by_cases h : n ≥ 4294967296
  · obtain ⟨L, hl, h32, hev⟩ := len64_j0 (x := n / 4294967296) (off := 32) (by omega) (by decide)
    refine ⟨32 + L, LenOk.up (by rw [show (2 : Nat) ^ 32 = 4294967296 by decide]) (by omega) hl, by omega, ?_⟩
    refine Ev.bind (a := ((32 + L : Nat) : Int)) ?_ (Ev.now _)
    refine Ev.congr (fun k => ?_) hev
    unfold bits_Len64.f
    rw [if_pos (by omega)]
    rfl
  · obtain ⟨L, hl, h32, hev⟩ := len64_j0 (x := n) (off := 0) (by omega) (by decide)
    refine ⟨L, hl, by omega, ?_⟩
    refine Ev.bind (a := (L : Int)) ?_ (Ev.now _)
    rw [Nat.zero_add] at hev
    refine Ev.congr (fun k => ?_) hev
    unfold bits_Len64.f
    rw [if_neg (by omega)]
    rfl
/-- May a number be put? -/
def Ok (a : Int) : Prop := 0 ≤ a ∧ a < 72057594037927936
theorem size_ev {n : Nat} (h : n < 72057594037927936) : Ev (fun k => vlq_Size.f k (n : Int)) (sz n : Int) := by
  obtain ⟨L, hl, h64, hev⟩ := len_ev (n := n) (by omega)
  have hw : IntKind.u64.wrap (n : Int) = (n : Int) := by simp [IntKind.wrap, IntKind.bits, IntKind.signed]; omega
  have e : mx 1 (wrap64 (Int.tdiv (wrap64 ((wrap64 ((L : Int) + 7)) - 1)) 7)) = (sz n : Int) := by
    rw [wrap64_id (a := (L : Int) + 7) (by omega) (by omega), wrap64_id (a := (L : Int) + 7 - 1) (by omega) (by omega), Int.tdiv_eq_ediv_of_nonneg (by omega), wrap64_id (by omega) (by omega), mx_max, ← sz_of_len hl]
    omega
  refine Ev.congr (f := fun k => (bits_Len.f k (n : Int)).bind fun t => some (mx 1 (wrap64 (Int.tdiv (wrap64 ((wrap64 (t + 7)) - 1)) 7)))) (fun k => ?_) ?_
  · unfold vlq_Size.f
    rw [if_neg (by omega), if_neg (by omega), hw]
  · refine Ev.bind hev ?_
    rw [e]
    exact Ev.now _
theorem size_no {a : Int} (h : ¬ Ok a) : Ev (fun k => vlq_Size.f k a) 0 := by
  refine Ev.congr (f := fun _ => some 0) (fun k => ?_) (Ev.now _)
  unfold vlq_Size.f
  by_cases h0 : a < 0
  · rw [if_pos h0]
  · rw [if_neg h0, if_pos (by unfold Ok at h; omega)]

theorem low_or {n : Nat} (hn : n < 72057594037927936) {g : Int} (hg : g = 0 ∨ g = 128) : (Go.bits .or .i64 (Go.bits .and .i64 (n : Int) 127) g) % 256 = ((n % 128 : Nat) : Int) + g := by
  have e := bits_mask .i64 62 (by decide) wraps62 7 (by decide) (n : Int) (by omega) (by omega)
  rw [show ((2 : Int) ^ 7 - 1) = 127 by decide, show ((2 : Int) ^ 7) = 128 by decide] at e
  rw [e]
  have comm : ∀ x y : Int, Go.bits .or .i64 x y = Go.bits .or .i64 y x := fun x y => by
    unfold Go.bits
    simp only [BitVec.or_comm]
  rcases hg with rfl | rfl
  · rw [comm, bits_join .i64 62 (by decide) wraps62 7 0 ((n : Int) % 128) (by decide) (by decide) (by decide) (by omega) (by omega) (by omega)]; omega
  · rw [comm, bits_join .i64 62 (by decide) wraps62 7 128 ((n : Int) % 128) (by decide) (by decide) (by decide) (by omega) (by omega) (by omega)]; omega
theorem put_hi (n : Nat) : ∀ (xs : List Int), n < 72057594037927936 → xs.length + sz n < 140737488355328 → Ev (fun k => vlq_Put.p k (n : Int) 128 xs) (xs ++ hi n) := by
  induction n using Nat.strongRecOn with
  | _ n ih =>
    intro xs hn hl
    by_cases h : n < 128
    · have e : xs ++ hi n = xs ++ [(Go.bits .or .i64 (Go.bits .and .i64 (n : Int) 127) 128) % 256] := by
        rw [hi_lt h, low_or hn (.inr rfl), Nat.mod_eq_of_lt h]
      rw [sz_lt h] at hl
      rw [e]
      refine Ev.step (f := fun _ => some _) (fun k => ?_) (Ev.now _)
      simp only [vlq_Put.p]
      rw [if_neg (by omega), if_pos (by omega)]
    · have hs := sz_ge h
      have key := ih (n / 128) (by omega) xs (by omega) (by omega)
      have e : xs ++ hi n = (xs ++ hi (n / 128)) ++ [(Go.bits .or .i64 (Go.bits .and .i64 (n : Int) 127) 128) % 256] := by
        rw [hi_ge h, low_or hn (.inr rfl), List.append_assoc]
      have hlen : (xs ++ hi (n / 128)).length < 140737488355328 := by rw [List.length_append, hi_length]; omega
      have hdiv : ((n : Int) / 128) = ((n / 128 : Nat) : Int) := by omega
      rw [e]
      refine Ev.step (f := fun k => (vlq_Put.p k ((n / 128 : Nat) : Int) 128 xs).bind fun ys => if ys.length < 140737488355328 then some (ys ++ [(Go.bits .or .i64 (Go.bits .and .i64 (n : Int) 127) 128) % 256]) else none) (fun k => ?_) ?_
      · simp only [vlq_Put.p]
        rw [if_pos (by omega), hdiv]
      · refine Ev.bind key ?_
        rw [if_pos hlen]
        exact Ev.now _
theorem put_p {n : Nat} (hn : n < 72057594037927936) : Ev (fun k => vlq_Put.p k (n : Int) 0 []) (enc n) := by
  have h8 := sz_le8 hn
  by_cases h : n < 128
  · have e : enc n = [] ++ [(Go.bits .or .i64 (Go.bits .and .i64 (n : Int) 127) 0) % 256] := by
      rw [enc_lt h, low_or hn (.inl rfl), Nat.mod_eq_of_lt h]; simp
    rw [e]
    refine Ev.step (f := fun _ => some _) (fun k => ?_) (Ev.now _)
    simp only [vlq_Put.p]
    rw [if_neg (by omega), if_pos (by decide)]
  · have hs := sz_ge h
    have key := put_hi (n / 128) [] (by omega) (by simp; omega)
    have e : enc n = ([] ++ hi (n / 128)) ++ [(Go.bits .or .i64 (Go.bits .and .i64 (n : Int) 127) 0) % 256] := by
      rw [enc_ge h, low_or hn (.inl rfl)]; simp
    have hlen : ([] ++ hi (n / 128)).length < 140737488355328 := by rw [List.length_append, hi_length]; simp; omega
    have hdiv : ((n : Int) / 128) = ((n / 128 : Nat) : Int) := by omega
    rw [e]
    refine Ev.step (f := fun k => (vlq_Put.p k ((n / 128 : Nat) : Int) 128 []).bind fun ys => if ys.length < 140737488355328 then some (ys ++ [(Go.bits .or .i64 (Go.bits .and .i64 (n : Int) 127) 0) % 256]) else none) (fun k => ?_) ?_
    · simp only [vlq_Put.p]
      rw [if_pos (by omega), hdiv]
    · refine Ev.bind key ?_
      rw [if_pos hlen]
      exact Ev.now _
/-- What Put answers. -/
def putOf (a : Int) : List Int × Int := if 0 ≤ a ∧ a < 72057594037927936 then (enc a.toNat, 0) else ([], 1)
theorem putOf_ok {a : Int} (h : Ok a) : putOf a = (enc a.toNat, 0) := if_pos h
theorem putOf_no {a : Int} (h : ¬ Ok a) : putOf a = ([], 1) := if_neg h
theorem put_ev (a : Int) : Ev (fun k => vlq_Put.f k a) (putOf a) := by
  by_cases h : Ok a
  · rw [putOf_ok h]
    obtain ⟨n, rfl⟩ := Int.eq_ofNat_of_zero_le h.1
    have hn : n < 72057594037927936 := by have := h.2; omega
    refine Ev.bind (size_ev hn) ?_
    have := sz_pos n
    refine Ev.congr (fun k => if_neg (by omega)) ?_
    refine Ev.bind (put_p hn) ?_
    rw [Int.toNat_natCast]
    exact Ev.now _
  · rw [putOf_no h]
    refine Ev.bind (size_no h) ?_
    exact Ev.congr (fun k => if_pos rfl) (Ev.now _)
theorem putOf_bytes (a : Int) : Bs (putOf a).1 := by
  unfold putOf
  split
  · exact enc_bytes _
  · exact Bs.nil
theorem putOf_len (a : Int) : (putOf a).1.length ≤ 8 := by
  by_cases h : Ok a
  · rw [putOf_ok h, enc_length]
    exact sz_le8 (by have := h.1; have := h.2; omega)
  · rw [putOf_no h]; simp
theorem putOf_zero {a : Int} : (putOf a).2 = 0 ↔ Ok a := by
  by_cases h : Ok a
  · simp [putOf_ok h, h]
  · simp [putOf_no h, h]
end Go.Proofs.Ythkipipfdlepnaa.Pure

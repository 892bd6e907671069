/- Texts merged: Base VlqCore VlqGet GetPos. -/
import Derived.Test.YtoafbpbnlmcklaaPAllx0
import Derived.Test.YtoafbpbnlmcklaaPAllx1
import Derived.Test.YtoafbpbnlmcklaaPAllx2
namespace Go.Proofs.Ytoafbpbnlmcklaa.Pure
open Go.RowKit Go.Proofs.Ytoafbpbnlmcklaa.PAll Go.Proofs.YtoafbpbnlmcklaaW.PrintWords Go.Proofs.YtoafbpbnlmcklaaW.PrintLast Go.Proofs.YtoafbpbnlmcklaaW.PrintMore
theorem wrap64_id {a : Int} (h0 : -9223372036854775808 ≤ a) (h1 : a ≤ 9223372036854775807) : wrap64 a = a := by unfold wrap64; omega
theorem wraps62 (n : Int) (h0 : 0 ≤ n) (h1 : n < 2 ^ 62) : IntKind.i64.wrap n = n := by rw [IntKind.wrap_i64]; omega
theorem wraps32 (n : Int) (h0 : 0 ≤ n) (h1 : n < 2 ^ 32) : IntKind.u32.wrap n = n := by rw [IntKind.wrap_u32]; omega
theorem getD_lt {α : Type} {l : List α} {i : Nat} (h : i < l.length) (d : α) : l.getD i d = l[i] := by simp [h]
theorem drop_cons_getD {α : Type} {l : List α} {i : Nat} (h : i < l.length) (d : α) : l.drop i = l.getD i d :: l.drop (i + 1) := by
  rw [getD_lt h]; exact List.drop_eq_getElem_cons h
theorem idx_step {i : Nat} (h : i < 1099511627776) : wrap64 ((i : Int) + 1) = ((i + 1 : Nat) : Int) := by
  rw [wrap64_id (by omega) (by omega)]; omega
theorem mx_max (a b : Int) : mx a b = max a b := by unfold mx; omega
theorem mn_min (a b : Int) : mn a b = min a b := by unfold mn; omega
/-- Bytes. -/
def Bs (l : List Int) : Prop := ∀ c ∈ l, 0 ≤ c ∧ c < 256
theorem Bs.nil : Bs [] := by intro c h; cases h
theorem Bs.cons {c : Int} {l : List Int} (h : 0 ≤ c ∧ c < 256) (hl : Bs l) : Bs (c :: l) := by
  intro x hx
  rcases List.mem_cons.1 hx with rfl | hx
  · exact h
  · exact hl x hx
theorem Bs.append {a b : List Int} (ha : Bs a) (hb : Bs b) : Bs (a ++ b) := by
  intro x hx
  rcases List.mem_append.1 hx with hx | hx
  · exact ha x hx
  · exact hb x hx
theorem Bs.head {c : Int} {l : List Int} (h : Bs (c :: l)) : 0 ≤ c ∧ c < 256 := h c (by simp)
theorem Bs.tail {c : Int} {l : List Int} (h : Bs (c :: l)) : Bs l := fun x hx => h x (by simp [hx])
theorem Bs.left {a b : List Int} (h : Bs (a ++ b)) : Bs a := fun x hx => h x (by simp [hx])
theorem Bs.right {a b : List Int} (h : Bs (a ++ b)) : Bs b := fun x hx => h x (by simp [hx])
theorem Bs.take {l : List Int} (h : Bs l) (k : Nat) : Bs (l.take k) := fun x hx => h x (List.mem_of_mem_take hx)
theorem Bs.drop {l : List Int} (h : Bs l) (k : Nat) : Bs (l.drop k) := fun x hx => h x (List.mem_of_mem_drop hx)
theorem Bs.get {l : List Int} (h : Bs l) {i : Nat} (hi : i < l.length) : 0 ≤ l.getD i 0 ∧ l.getD i 0 < 256 := h _ (by rw [getD_lt hi]; exact List.getElem_mem hi)
theorem Bs.of {l : List Int} (h : ∀ x ∈ l, (Lit.int .u8 x).wf = true) : Bs l := by
  intro c hc
  have := h c hc
  simp [Lit.wf, IntKind.min, IntKind.max, IntKind.signed, IntKind.bits] at this
  omega
theorem i64_bd {a : Int} (h : (Lit.int .i64 a).wf = true) : -9223372036854775808 ≤ a ∧ a ≤ 9223372036854775807 := by
  simp [Lit.wf, IntKind.min, IntKind.max, IntKind.signed, IntKind.bits] at h; omega
theorem u32_bd {a : Int} (h : (Lit.int .u32 a).wf = true) : 0 ≤ a ∧ a < 4294967296 := by
  simp [Lit.wf, IntKind.min, IntKind.max, IntKind.signed, IntKind.bits] at h; omega
theorem u8_bd {a : Int} (h : (Lit.int .u8 a).wf = true) : 0 ≤ a ∧ a < 256 := by
  simp [Lit.wf, IntKind.min, IntKind.max, IntKind.signed, IntKind.bits] at h; omega
/-- Bytes as a text are the bytes. -/
theorem bytes_inj {a b : List Int} (ha : Bs a) (hb : Bs b) (h : (strOfNums a).toList = (strOfNums b).toList) : a = b := by
  have h' : a.map (fun n => UInt8.ofNat n.toNat) = b.map (fun n => UInt8.ofNat n.toNat) := by
    have e : ∀ l : List Int, (strOfNums l).toList = l.map (fun n => UInt8.ofNat n.toNat) := fun l => by
      rw [ByteArray.toList_eq]; exact strOfNums_data l
    rw [← e, ← e, h]
  clear h
  induction a generalizing b with
  | nil => cases b with
    | nil => rfl
    | cons y b => simp at h'
  | cons x a ih => cases b with
    | nil => simp at h'
    | cons y b =>
      simp only [List.map_cons, List.cons.injEq] at h'
      have h1 := congrArg UInt8.toNat h'.1
      simp only [UInt8.toNat_ofNat'] at h1
      have := ha.head
      have := hb.head
      rw [ih ha.tail hb.tail h'.2, show x = y by omega]
end Go.Proofs.Ytoafbpbnlmcklaa.Pure

namespace Go.Proofs.Ytoafbpbnlmcklaa.Pure
open Go.RowKit Go.Proofs.Ytoafbpbnlmcklaa.PAll Go.Proofs.YtoafbpbnlmcklaaW.PrintWords Go.Proofs.YtoafbpbnlmcklaaW.PrintLast Go.Proofs.YtoafbpbnlmcklaaW.PrintMore

/-- How many bytes a number has. -/
def sz (n : Nat) : Nat := if n < 128 then 1 else sz (n / 128) + 1
termination_by n
decreasing_by omega
/-- The bytes ahead of the last one: each with the mark. -/
def hi (n : Nat) : List Int := if n < 128 then [(n : Int) + 128] else hi (n / 128) ++ [((n % 128 : Nat) : Int) + 128]
termination_by n
decreasing_by omega
/-- A number's bytes. -/
def enc (n : Nat) : List Int := if n < 128 then [(n : Int)] else hi (n / 128) ++ [((n % 128 : Nat) : Int)]
theorem sz_lt {n : Nat} (h : n < 128) : sz n = 1 := by rw [sz, if_pos h]
theorem sz_ge {n : Nat} (h : ¬ n < 128) : sz n = sz (n / 128) + 1 := by rw [sz, if_neg h]
theorem hi_lt {n : Nat} (h : n < 128) : hi n = [(n : Int) + 128] := by rw [hi, if_pos h]
theorem hi_ge {n : Nat} (h : ¬ n < 128) : hi n = hi (n / 128) ++ [((n % 128 : Nat) : Int) + 128] := by rw [hi, if_neg h]
theorem enc_lt {n : Nat} (h : n < 128) : enc n = [(n : Int)] := by rw [enc, if_pos h]
theorem enc_ge {n : Nat} (h : ¬ n < 128) : enc n = hi (n / 128) ++ [((n % 128 : Nat) : Int)] := by rw [enc, if_neg h]
theorem sz_pos (n : Nat) : 1 ≤ sz n := by
  by_cases h : n < 128
  · rw [sz_lt h]; omega
  · rw [sz_ge h]; omega
theorem hi_length (n : Nat) : (hi n).length = sz n := by
  induction n using Nat.strongRecOn with
  | _ n ih =>
    by_cases h : n < 128
    · rw [hi_lt h, sz_lt h]; rfl
    · rw [hi_ge h, sz_ge h, List.length_append, ih _ (by omega)]; rfl
theorem enc_length (n : Nat) : (enc n).length = sz n := by
  by_cases h : n < 128
  · rw [enc_lt h, sz_lt h]; rfl
  · rw [enc_ge h, sz_ge h, List.length_append, hi_length]; rfl
theorem hi_bytes (n : Nat) : ∀ c ∈ hi n, 128 ≤ c ∧ c < 256 := by
  induction n using Nat.strongRecOn with
  | _ n ih =>
    intro c hc
    by_cases h : n < 128
    · rw [hi_lt h] at hc
      rw [List.mem_singleton.1 hc]; omega
    · rw [hi_ge h] at hc
      rcases List.mem_append.1 hc with hc | hc
      · exact ih _ (by omega) c hc
      · rw [List.mem_singleton.1 hc]; omega
theorem enc_bytes (n : Nat) : Bs (enc n) := by
  intro c hc
  by_cases h : n < 128
  · rw [enc_lt h] at hc
    rw [List.mem_singleton.1 hc]; omega
  · rw [enc_ge h] at hc
    rcases List.mem_append.1 hc with hc | hc
    · have := hi_bytes _ c hc; omega
    · rw [List.mem_singleton.1 hc]; omega
theorem sz_bound (n : Nat) : n < 2 ^ (7 * sz n) ∧ (sz n ≠ 1 → 2 ^ (7 * (sz n - 1)) ≤ n) := by
  induction n using Nat.strongRecOn with
  | _ n ih =>
    by_cases h : n < 128
    · rw [sz_lt h]; exact ⟨by omega, fun h => absurd rfl h⟩
    · have ⟨i1, i2⟩ := ih (n / 128) (by omega)
      have hp := sz_pos (n / 128)
      rw [sz_ge h]
      generalize sz (n / 128) = s at *
      have e : 2 ^ (7 * (s + 1)) = 2 ^ (7 * s) * 128 := by rw [show 7 * (s + 1) = 7 * s + 7 by omega, Nat.pow_add]
      refine ⟨by rw [e]; omega, fun _ => ?_⟩
      rw [show s + 1 - 1 = s by omega]
      by_cases h1 : s = 1
      · subst h1; omega
      · have i2 := i2 h1
        have e2 : 2 ^ (7 * s) = 2 ^ (7 * (s - 1)) * 128 := by rw [show 7 * s = 7 * (s - 1) + 7 by omega, Nat.pow_add]
        omega
theorem sz_le_iff {n j : Nat} (hj : 1 ≤ j) : sz n ≤ j ↔ n < 2 ^ (7 * j) := by
  have ⟨b1, b2⟩ := sz_bound n
  constructor
  · intro h
    exact Nat.lt_of_lt_of_le b1 (Nat.pow_le_pow_right (by decide) (by omega))
  · intro h
    apply Classical.byContradiction
    intro hc
    have b2 := b2 (by omega)
    have : 2 ^ (7 * j) ≤ 2 ^ (7 * (sz n - 1)) := Nat.pow_le_pow_right (by decide) (by omega)
    omega
theorem sz_le8 {n : Nat} (h : n < 72057594037927936) : sz n ≤ 8 := (sz_le_iff (by decide)).2 (by simpa using h)
theorem lt_of_sz8 {n : Nat} (h : sz n ≤ 8) : n < 72057594037927936 := by simpa using (sz_le_iff (by decide)).1 h

/-- L is how many bits n has. -/
def LenOk (n L : Nat) : Prop := n < 2 ^ L ∧ 2 ^ L ≤ 2 * n + 1
theorem sz_of_len {n L : Nat} (h : LenOk n L) : max 1 ((L + 6) / 7) = sz n := by
  obtain ⟨h1, h2⟩ := h
  have ⟨b1, b2⟩ := sz_bound n
  have hp := sz_pos n
  have u : L < 7 * sz n + 1 := by
    have : 2 ^ L < 2 ^ (7 * sz n + 1) := by rw [Nat.pow_succ]; omega
    exact (Nat.pow_lt_pow_iff_right (by decide)).1 this
  by_cases hs : sz n = 1
  · omega
  have d : 7 * (sz n - 1) < L := by
    have : 2 ^ (7 * (sz n - 1)) < 2 ^ L := by have := b2 hs; omega
    exact (Nat.pow_lt_pow_iff_right (by decide)).1 this
  omega
theorem LenOk.up {n q s t : Nat} (hq : q = n / 2 ^ s) (h1 : 1 ≤ q) (h : LenOk q t) : LenOk n (s + t) := by
  obtain ⟨a, b⟩ := h
  have hs : 0 < 2 ^ s := Nat.two_pow_pos s
  have hd : 2 ^ s * q ≤ n := by rw [hq]; exact Nat.mul_div_le _ _
  have hu : n < 2 ^ s * (q + 1) := by rw [hq]; exact Nat.lt_mul_div_succ n hs
  refine ⟨?_, ?_⟩
  · rw [Nat.pow_add]
    exact Nat.lt_of_lt_of_le hu (Nat.mul_le_mul_left _ a)
  · have ht : t ≠ 0 := by rintro rfl; simp at a; omega
    have he : 2 ^ t ≤ 2 * q := by
      obtain ⟨t', rfl⟩ : ∃ t', t = t' + 1 := ⟨t - 1, by omega⟩
      rw [Nat.pow_succ] at b ⊢; omega
    rw [Nat.pow_add]
    have := Nat.mul_le_mul_left (2 ^ s) he
    rw [← Nat.mul_assoc, Nat.mul_comm (2 ^ s) 2, Nat.mul_assoc] at this
    omega
theorem tab_ok : ∀ x : Nat, x < 256 → 0 ≤ bt (⟨#[0, 1, 2, 2, 3, 3, 3, 3, 4, 4, 4, 4, 4, 4, 4, 4, 5, 5, 5, 5, 5, 5, 5, 5, 5, 5, 5, 5, 5, 5, 5, 5, 6, 6, 6, 6, 6, 6, 6, 6, 6, 6, 6, 6, 6, 6, 6, 6, 6, 6, 6, 6, 6, 6, 6, 6, 6, 6, 6, 6, 6, 6, 6, 6, 7, 7, 7, 7, 7, 7, 7, 7, 7, 7, 7, 7, 7, 7, 7, 7, 7, 7, 7, 7, 7, 7, 7, 7, 7, 7, 7, 7, 7, 7, 7, 7, 7, 7, 7, 7, 7, 7, 7, 7, 7, 7, 7, 7, 7, 7, 7, 7, 7, 7, 7, 7, 7, 7, 7, 7, 7, 7, 7, 7, 7, 7, 7, 7, 8, 8, 8, 8, 8, 8, 8, 8, 8, 8, 8, 8, 8, 8, 8, 8, 8, 8, 8, 8, 8, 8, 8, 8, 8, 8, 8, 8, 8, 8, 8, 8, 8, 8, 8, 8, 8, 8, 8, 8, 8, 8, 8, 8, 8, 8, 8, 8, 8, 8, 8, 8, 8, 8, 8, 8, 8, 8, 8, 8, 8, 8, 8, 8, 8, 8, 8, 8, 8, 8, 8, 8, 8, 8, 8, 8, 8, 8, 8, 8, 8, 8, 8, 8, 8, 8, 8, 8, 8, 8, 8, 8, 8, 8, 8, 8, 8, 8, 8, 8, 8, 8, 8, 8, 8, 8, 8, 8, 8, 8, 8, 8, 8, 8, 8, 8, 8, 8, 8, 8, 8, 8, 8, 8, 8, 8, 8, 8]⟩ : ByteArray) (x : Int) ∧ bt (⟨#[0, 1, 2, 2, 3, 3, 3, 3, 4, 4, 4, 4, 4, 4, 4, 4, 5, 5, 5, 5, 5, 5, 5, 5, 5, 5, 5, 5, 5, 5, 5, 5, 6, 6, 6, 6, 6, 6, 6, 6, 6, 6, 6, 6, 6, 6, 6, 6, 6, 6, 6, 6, 6, 6, 6, 6, 6, 6, 6, 6, 6, 6, 6, 6, 7, 7, 7, 7, 7, 7, 7, 7, 7, 7, 7, 7, 7, 7, 7, 7, 7, 7, 7, 7, 7, 7, 7, 7, 7, 7, 7, 7, 7, 7, 7, 7, 7, 7, 7, 7, 7, 7, 7, 7, 7, 7, 7, 7, 7, 7, 7, 7, 7, 7, 7, 7, 7, 7, 7, 7, 7, 7, 7, 7, 7, 7, 7, 7, 8, 8, 8, 8, 8, 8, 8, 8, 8, 8, 8, 8, 8, 8, 8, 8, 8, 8, 8, 8, 8, 8, 8, 8, 8, 8, 8, 8, 8, 8, 8, 8, 8, 8, 8, 8, 8, 8, 8, 8, 8, 8, 8, 8, 8, 8, 8, 8, 8, 8, 8, 8, 8, 8, 8, 8, 8, 8, 8, 8, 8, 8, 8, 8, 8, 8, 8, 8, 8, 8, 8, 8, 8, 8, 8, 8, 8, 8, 8, 8, 8, 8, 8, 8, 8, 8, 8, 8, 8, 8, 8, 8, 8, 8, 8, 8, 8, 8, 8, 8, 8, 8, 8, 8, 8, 8, 8, 8, 8, 8, 8, 8, 8, 8, 8, 8, 8, 8, 8, 8, 8, 8, 8, 8, 8, 8, 8, 8]⟩ : ByteArray) (x : Int) ≤ 8 ∧
    x < 2 ^ (bt (⟨#[0, 1, 2, 2, 3, 3, 3, 3, 4, 4, 4, 4, 4, 4, 4, 4, 5, 5, 5, 5, 5, 5, 5, 5, 5, 5, 5, 5, 5, 5, 5, 5, 6, 6, 6, 6, 6, 6, 6, 6, 6, 6, 6, 6, 6, 6, 6, 6, 6, 6, 6, 6, 6, 6, 6, 6, 6, 6, 6, 6, 6, 6, 6, 6, 7, 7, 7, 7, 7, 7, 7, 7, 7, 7, 7, 7, 7, 7, 7, 7, 7, 7, 7, 7, 7, 7, 7, 7, 7, 7, 7, 7, 7, 7, 7, 7, 7, 7, 7, 7, 7, 7, 7, 7, 7, 7, 7, 7, 7, 7, 7, 7, 7, 7, 7, 7, 7, 7, 7, 7, 7, 7, 7, 7, 7, 7, 7, 7, 8, 8, 8, 8, 8, 8, 8, 8, 8, 8, 8, 8, 8, 8, 8, 8, 8, 8, 8, 8, 8, 8, 8, 8, 8, 8, 8, 8, 8, 8, 8, 8, 8, 8, 8, 8, 8, 8, 8, 8, 8, 8, 8, 8, 8, 8, 8, 8, 8, 8, 8, 8, 8, 8, 8, 8, 8, 8, 8, 8, 8, 8, 8, 8, 8, 8, 8, 8, 8, 8, 8, 8, 8, 8, 8, 8, 8, 8, 8, 8, 8, 8, 8, 8, 8, 8, 8, 8, 8, 8, 8, 8, 8, 8, 8, 8, 8, 8, 8, 8, 8, 8, 8, 8, 8, 8, 8, 8, 8, 8, 8, 8, 8, 8, 8, 8, 8, 8, 8, 8, 8, 8, 8, 8, 8, 8, 8, 8]⟩ : ByteArray) (x : Int)).toNat ∧ 2 ^ (bt (⟨#[0, 1, 2, 2, 3, 3, 3, 3, 4, 4, 4, 4, 4, 4, 4, 4, 5, 5, 5, 5, 5, 5, 5, 5, 5, 5, 5, 5, 5, 5, 5, 5, 6, 6, 6, 6, 6, 6, 6, 6, 6, 6, 6, 6, 6, 6, 6, 6, 6, 6, 6, 6, 6, 6, 6, 6, 6, 6, 6, 6, 6, 6, 6, 6, 7, 7, 7, 7, 7, 7, 7, 7, 7, 7, 7, 7, 7, 7, 7, 7, 7, 7, 7, 7, 7, 7, 7, 7, 7, 7, 7, 7, 7, 7, 7, 7, 7, 7, 7, 7, 7, 7, 7, 7, 7, 7, 7, 7, 7, 7, 7, 7, 7, 7, 7, 7, 7, 7, 7, 7, 7, 7, 7, 7, 7, 7, 7, 7, 8, 8, 8, 8, 8, 8, 8, 8, 8, 8, 8, 8, 8, 8, 8, 8, 8, 8, 8, 8, 8, 8, 8, 8, 8, 8, 8, 8, 8, 8, 8, 8, 8, 8, 8, 8, 8, 8, 8, 8, 8, 8, 8, 8, 8, 8, 8, 8, 8, 8, 8, 8, 8, 8, 8, 8, 8, 8, 8, 8, 8, 8, 8, 8, 8, 8, 8, 8, 8, 8, 8, 8, 8, 8, 8, 8, 8, 8, 8, 8, 8, 8, 8, 8, 8, 8, 8, 8, 8, 8, 8, 8, 8, 8, 8, 8, 8, 8, 8, 8, 8, 8, 8, 8, 8, 8, 8, 8, 8, 8, 8, 8, 8, 8, 8, 8, 8, 8, 8, 8, 8, 8, 8, 8, 8, 8, 8, 8]⟩ : ByteArray) (x : Int)).toNat ≤ 2 * x + 1 := by decide +kernel
theorem tab_len {x : Nat} (h : x < 256) : ∃ t : Nat, t ≤ 8 ∧ LenOk x t ∧ bt (⟨#[0, 1, 2, 2, 3, 3, 3, 3, 4, 4, 4, 4, 4, 4, 4, 4, 5, 5, 5, 5, 5, 5, 5, 5, 5, 5, 5, 5, 5, 5, 5, 5, 6, 6, 6, 6, 6, 6, 6, 6, 6, 6, 6, 6, 6, 6, 6, 6, 6, 6, 6, 6, 6, 6, 6, 6, 6, 6, 6, 6, 6, 6, 6, 6, 7, 7, 7, 7, 7, 7, 7, 7, 7, 7, 7, 7, 7, 7, 7, 7, 7, 7, 7, 7, 7, 7, 7, 7, 7, 7, 7, 7, 7, 7, 7, 7, 7, 7, 7, 7, 7, 7, 7, 7, 7, 7, 7, 7, 7, 7, 7, 7, 7, 7, 7, 7, 7, 7, 7, 7, 7, 7, 7, 7, 7, 7, 7, 7, 8, 8, 8, 8, 8, 8, 8, 8, 8, 8, 8, 8, 8, 8, 8, 8, 8, 8, 8, 8, 8, 8, 8, 8, 8, 8, 8, 8, 8, 8, 8, 8, 8, 8, 8, 8, 8, 8, 8, 8, 8, 8, 8, 8, 8, 8, 8, 8, 8, 8, 8, 8, 8, 8, 8, 8, 8, 8, 8, 8, 8, 8, 8, 8, 8, 8, 8, 8, 8, 8, 8, 8, 8, 8, 8, 8, 8, 8, 8, 8, 8, 8, 8, 8, 8, 8, 8, 8, 8, 8, 8, 8, 8, 8, 8, 8, 8, 8, 8, 8, 8, 8, 8, 8, 8, 8, 8, 8, 8, 8, 8, 8, 8, 8, 8, 8, 8, 8, 8, 8, 8, 8, 8, 8, 8, 8, 8, 8]⟩ : ByteArray) (x : Int) = (t : Int) := by
  obtain ⟨a, b, c, d⟩ := tab_ok x h
  generalize bt _ _ = y at *
  obtain ⟨t, rfl⟩ := Int.eq_ofNat_of_zero_le a
  exact ⟨t, by omega, ⟨c, d⟩, rfl⟩
theorem len64_j0 {x off : Nat} (hx : x < 4294967296) (ho : off ≤ 64) : ∃ L, LenOk x L ∧ L ≤ 32 ∧ Ev (fun k => bits_Len64.j0 k (x : Int) (off : Int)) ((off + L : Nat) : Int) := by
  by_cases h1 : x ≥ 65536
  · by_cases h2 : x / 65536 ≥ 256
    · obtain ⟨t, h8, hl, ht⟩ := tab_len (x := x / 65536 / 256 % 256) (by omega)
      have e : (((x : Int) / 65536) / 256) % 256 = ((x / 65536 / 256 % 256 : Nat) : Int) := by omega
      refine ⟨24 + t, LenOk.up (by rw [show (2 : Nat) ^ 24 = 65536 * 256 by decide, ← Nat.div_div_eq_div_mul]; omega) (by omega) hl, by omega, ?_⟩
      refine Ev.step (f := fun _ => some _) (fun k => ?_) (Ev.now _)
      rw [bits_Len64.j0]
      rw [if_pos (by omega), if_pos (by omega), e, if_pos (by omega), if_pos (by omega), ht]
      rw [wrap64_id (a := (t : Int)) (by omega) (by omega), wrap64_id (a := (off : Int) + 16) (by omega) (by omega), wrap64_id (a := (off : Int) + 16 + 8) (by omega) (by omega), wrap64_id (by omega) (by omega)]
      exact congrArg some (by omega)
    · obtain ⟨t, h8, hl, ht⟩ := tab_len (x := x / 65536 % 256) (by omega)
      have e : ((x : Int) / 65536) % 256 = ((x / 65536 % 256 : Nat) : Int) := by omega
      refine ⟨16 + t, LenOk.up (by rw [show (2 : Nat) ^ 16 = 65536 by decide]; omega) (by omega) hl, by omega, ?_⟩
      refine Ev.step (f := fun _ => some _) (fun k => ?_) (Ev.now _)
      rw [bits_Len64.j0]
      rw [if_pos (by omega), if_neg (by omega), e, if_pos (by omega), if_pos (by omega), ht]
      rw [wrap64_id (a := (t : Int)) (by omega) (by omega), wrap64_id (a := (off : Int) + 16) (by omega) (by omega), wrap64_id (by omega) (by omega)]
      exact congrArg some (by omega)
  · by_cases h2 : x ≥ 256
    · obtain ⟨t, h8, hl, ht⟩ := tab_len (x := x / 256 % 256) (by omega)
      have e : ((x : Int) / 256) % 256 = ((x / 256 % 256 : Nat) : Int) := by omega
      refine ⟨8 + t, LenOk.up (by rw [show (2 : Nat) ^ 8 = 256 by decide]; omega) (by omega) hl, by omega, ?_⟩
      refine Ev.step (f := fun _ => some _) (fun k => ?_) (Ev.now _)
      rw [bits_Len64.j0]
      rw [if_neg (by omega), if_pos (by omega), e, if_pos (by omega), if_pos (by omega), ht]
      rw [wrap64_id (a := (t : Int)) (by omega) (by omega), wrap64_id (a := (off : Int) + 8) (by omega) (by omega), wrap64_id (by omega) (by omega)]
      exact congrArg some (by omega)
    · obtain ⟨t, h8, hl, ht⟩ := tab_len (x := x) (by omega)
      have e : (x : Int) % 256 = (x : Int) := by omega
      refine ⟨t, hl, by omega, ?_⟩
      refine Ev.step (f := fun _ => some _) (fun k => ?_) (Ev.now _)
      rw [bits_Len64.j0]
      rw [if_neg (by omega), if_neg (by omega), e, if_pos (by omega), if_pos (by omega), ht]
      rw [wrap64_id (a := (t : Int)) (by omega) (by omega), wrap64_id (by omega) (by omega)]
      exact congrArg some (by omega)
theorem len_ev {n : Nat} (hn : n < 18446744073709551616) : ∃ L, LenOk n L ∧ L ≤ 64 ∧ Ev (fun k => bits_Len.f k (n : Int)) (L : Int) := by
  by_cases h : n ≥ 4294967296
  · obtain ⟨L, hl, h32, hev⟩ := len64_j0 (x := n / 4294967296) (off := 32) (by omega) (by decide)
    refine ⟨32 + L, LenOk.up (by rw [show (2 : Nat) ^ 32 = 4294967296 by decide]) (by omega) hl, by omega, ?_⟩
    refine Ev.bind (a := ((32 + L : Nat) : Int)) ?_ (Ev.now _)
    refine Ev.congr (fun k => ?_) hev
    unfold bits_Len64.f
    rw [if_pos (by omega)]
    rfl
  · obtain ⟨L, hl, h32, hev⟩ := len64_j0 (x := n) (off := 0) (by omega) (by decide)
    refine ⟨L, hl, by omega, ?_⟩
    refine Ev.bind (a := (L : Int)) ?_ (Ev.now _)
    rw [Nat.zero_add] at hev
    refine Ev.congr (fun k => ?_) hev
    unfold bits_Len64.f
    rw [if_neg (by omega)]
    rfl
/-- May a number be put? -/
def Ok (a : Int) : Prop := 0 ≤ a ∧ a < 72057594037927936
theorem size_ev {n : Nat} (h : n < 72057594037927936) : Ev (fun k => vlq_Size.f k (n : Int)) (sz n : Int) := by
  obtain ⟨L, hl, h64, hev⟩ := len_ev (n := n) (by omega)
  have hw : IntKind.u64.wrap (n : Int) = (n : Int) := by simp [IntKind.wrap, IntKind.bits, IntKind.signed]; omega
  have e : mx 1 (wrap64 (Int.tdiv (wrap64 ((wrap64 ((L : Int) + 7)) - 1)) 7)) = (sz n : Int) := by
    rw [wrap64_id (a := (L : Int) + 7) (by omega) (by omega), wrap64_id (a := (L : Int) + 7 - 1) (by omega) (by omega), Int.tdiv_eq_ediv_of_nonneg (by omega), wrap64_id (by omega) (by omega), mx_max, ← sz_of_len hl]
    omega
  refine Ev.congr (f := fun k => (bits_Len.f k (n : Int)).bind fun t => some (mx 1 (wrap64 (Int.tdiv (wrap64 ((wrap64 (t + 7)) - 1)) 7)))) (fun k => ?_) ?_
  · unfold vlq_Size.f
    rw [if_neg (by omega), if_neg (by omega), hw]
  · refine Ev.bind hev ?_
    rw [e]
    exact Ev.now _
theorem size_no {a : Int} (h : ¬ Ok a) : Ev (fun k => vlq_Size.f k a) 0 := by
  refine Ev.congr (f := fun _ => some 0) (fun k => ?_) (Ev.now _)
  unfold vlq_Size.f
  by_cases h0 : a < 0
  · rw [if_pos h0]
  · rw [if_neg h0, if_pos (by unfold Ok at h; omega)]

theorem low_or {n : Nat} (hn : n < 72057594037927936) {g : Int} (hg : g = 0 ∨ g = 128) : (Go.bits .or .i64 (Go.bits .and .i64 (n : Int) 127) g) % 256 = ((n % 128 : Nat) : Int) + g := by
  have e := bits_mask .i64 62 (by decide) wraps62 7 (by decide) (n : Int) (by omega) (by omega)
  rw [show ((2 : Int) ^ 7 - 1) = 127 by decide, show ((2 : Int) ^ 7) = 128 by decide] at e
  rw [e]
  have comm : ∀ x y : Int, Go.bits .or .i64 x y = Go.bits .or .i64 y x := fun x y => by
    unfold Go.bits
    simp only [BitVec.or_comm]
  rcases hg with rfl | rfl
  · rw [comm, bits_join .i64 62 (by decide) wraps62 7 0 ((n : Int) % 128) (by decide) (by decide) (by decide) (by omega) (by omega) (by omega)]; omega
  · rw [comm, bits_join .i64 62 (by decide) wraps62 7 128 ((n : Int) % 128) (by decide) (by decide) (by decide) (by omega) (by omega) (by omega)]; omega
theorem put_hi (n : Nat) : ∀ (xs : List Int), n < 72057594037927936 → xs.length + sz n < 140737488355328 → Ev (fun k => vlq_Put.p k (n : Int) 128 xs) (xs ++ hi n) := by
  induction n using Nat.strongRecOn with
  | _ n ih =>
    intro xs hn hl
    by_cases h : n < 128
    · have e : xs ++ hi n = xs ++ [(Go.bits .or .i64 (Go.bits .and .i64 (n : Int) 127) 128) % 256] := by
        rw [hi_lt h, low_or hn (.inr rfl), Nat.mod_eq_of_lt h]
      rw [sz_lt h] at hl
      rw [e]
      refine Ev.step (f := fun _ => some _) (fun k => ?_) (Ev.now _)
      simp only [vlq_Put.p]
      rw [if_neg (by omega), if_pos (by omega)]
    · have hs := sz_ge h
      have key := ih (n / 128) (by omega) xs (by omega) (by omega)
      have e : xs ++ hi n = (xs ++ hi (n / 128)) ++ [(Go.bits .or .i64 (Go.bits .and .i64 (n : Int) 127) 128) % 256] := by
        rw [hi_ge h, low_or hn (.inr rfl), List.append_assoc]
      have hlen : (xs ++ hi (n / 128)).length < 140737488355328 := by rw [List.length_append, hi_length]; omega
      have hdiv : ((n : Int) / 128) = ((n / 128 : Nat) : Int) := by omega
      rw [e]
      refine Ev.step (f := fun k => (vlq_Put.p k ((n / 128 : Nat) : Int) 128 xs).bind fun ys => if ys.length < 140737488355328 then some (ys ++ [(Go.bits .or .i64 (Go.bits .and .i64 (n : Int) 127) 128) % 256]) else none) (fun k => ?_) ?_
      · simp only [vlq_Put.p]
        rw [if_pos (by omega), hdiv]
      · refine Ev.bind key ?_
        rw [if_pos hlen]
        exact Ev.now _
theorem put_p {n : Nat} (hn : n < 72057594037927936) : Ev (fun k => vlq_Put.p k (n : Int) 0 []) (enc n) := by
  have h8 := sz_le8 hn
  by_cases h : n < 128
  · have e : enc n = [] ++ [(Go.bits .or .i64 (Go.bits .and .i64 (n : Int) 127) 0) % 256] := by
      rw [enc_lt h, low_or hn (.inl rfl), Nat.mod_eq_of_lt h]; simp
    rw [e]
    refine Ev.step (f := fun _ => some _) (fun k => ?_) (Ev.now _)
    simp only [vlq_Put.p]
    rw [if_neg (by omega), if_pos (by decide)]
  · have hs := sz_ge h
    have key := put_hi (n / 128) [] (by omega) (by simp; omega)
    have e : enc n = ([] ++ hi (n / 128)) ++ [(Go.bits .or .i64 (Go.bits .and .i64 (n : Int) 127) 0) % 256] := by
      rw [enc_ge h, low_or hn (.inl rfl)]; simp
    have hlen : ([] ++ hi (n / 128)).length < 140737488355328 := by rw [List.length_append, hi_length]; simp; omega
    have hdiv : ((n : Int) / 128) = ((n / 128 : Nat) : Int) := by omega
    rw [e]
    refine Ev.step (f := fun k => (vlq_Put.p k ((n / 128 : Nat) : Int) 128 []).bind fun ys => if ys.length < 140737488355328 then some (ys ++ [(Go.bits .or .i64 (Go.bits .and .i64 (n : Int) 127) 0) % 256]) else none) (fun k => ?_) ?_
    · simp only [vlq_Put.p]
      rw [if_pos (by omega), hdiv]
    · refine Ev.bind key ?_
      rw [if_pos hlen]
      exact Ev.now _
/-- What Put answers. -/
def putOf (a : Int) : List Int × Int := if 0 ≤ a ∧ a < 72057594037927936 then (enc a.toNat, 0) else ([], 1)
theorem putOf_ok {a : Int} (h : Ok a) : putOf a = (enc a.toNat, 0) := if_pos h
theorem putOf_no {a : Int} (h : ¬ Ok a) : putOf a = ([], 1) := if_neg h
theorem put_ev (a : Int) : Ev (fun k => vlq_Put.f k a) (putOf a) := by
  by_cases h : Ok a
  · rw [putOf_ok h]
    obtain ⟨n, rfl⟩ := Int.eq_ofNat_of_zero_le h.1
    have hn : n < 72057594037927936 := by have := h.2; omega
    refine Ev.bind (size_ev hn) ?_
    have := sz_pos n
    refine Ev.congr (fun k => if_neg (by omega)) ?_
    refine Ev.bind (put_p hn) ?_
    rw [Int.toNat_natCast]
    exact Ev.now _
  · rw [putOf_no h]
    refine Ev.bind (size_no h) ?_
    exact Ev.congr (fun k => if_pos rfl) (Ev.now _)
theorem putOf_bytes (a : Int) : Bs (putOf a).1 := by
  unfold putOf
  split
  · exact enc_bytes _
  · exact Bs.nil
theorem putOf_len (a : Int) : (putOf a).1.length ≤ 8 := by
  by_cases h : Ok a
  · rw [putOf_ok h, enc_length]
    exact sz_le8 (by have := h.1; have := h.2; omega)
  · rw [putOf_no h]; simp
theorem putOf_zero {a : Int} : (putOf a).2 = 0 ↔ Ok a := by
  by_cases h : Ok a
  · simp [putOf_ok h, h]
  · simp [putOf_no h, h]
end Go.Proofs.Ytoafbpbnlmcklaa.Pure

namespace Go.Proofs.Ytoafbpbnlmcklaa.Pure
open Go.RowKit Go.Proofs.Ytoafbpbnlmcklaa.PAll Go.Proofs.YtoafbpbnlmcklaaW.PrintWords Go.Proofs.YtoafbpbnlmcklaaW.PrintLast Go.Proofs.YtoafbpbnlmcklaaW.PrintMore
/-- What Get answers, i bytes having been read as n. -/
def getR : Nat → Nat → List Int → Int × Int × Int
  | _, _, [] => (0, 0, 3)
  | i, n, c :: r => if i = 0 ∧ c = 128 then (0, 0, 2) else if i = 7 ∧ c ≥ 128 then (0, 0, 2) else if c < 128 then (((n * 128 + c.toNat : Nat) : Int), ((i + 1 : Nat) : Int), 0) else getR (i + 1) (n * 128 + (c.toNat - 128)) r
def getOf (b : List Int) : Int × Int × Int := getR 0 0 b

theorem step_or {n : Nat} {c : Int} (hn : n < 562949953421312) (hc : 0 ≤ c ∧ c < 256) :
    Go.bits .or .i64 (wrap64 ((n : Int) * 128)) (wrap64 (Go.bits .and .u8 c 127)) = (n : Int) * 128 + c % 128 := by
  have e := bits_mask .u8 8 (by decide) wraps_u8 7 (by decide) c hc.1 (by omega)
  rw [show ((2 : Int) ^ 7 - 1) = 127 by decide, show ((2 : Int) ^ 7) = 128 by decide] at e
  rw [e, wrap64_id (by omega) (by omega), wrap64_id (by omega) (by omega), bits_join .i64 62 (by decide) wraps62 7 _ _ (by omega) (by omega) (by omega) (by omega) (by omega) (by omega)]
theorem get_one {b : List Int} (hb : Bs b) (hl : b.length < 1099511627776) {i n : Nat} (hlt : i < b.length) (hn : n < 562949953421312) (k : Nat) :
    vlq_Get.l0 (k + 1) b (n : Int) (i : Int) = if (i : Int) = 0 ∧ b.getD i 0 = 128 then some (0, 0, 2) else if (i : Int) = 7 ∧ b.getD i 0 ≥ 128 then some (0, 0, 2) else
      if b.getD i 0 < 128 then some ((n : Int) * 128 + b.getD i 0 % 128, ((i + 1 : Nat) : Int), 0) else vlq_Get.l0 k b ((n : Int) * 128 + b.getD i 0 % 128) ((i + 1 : Nat) : Int) := by
  have hc := hb.get hlt
  have e4 := idx_step (Nat.lt_trans hlt hl)
  have e5 := step_or hn hc
  have hne : ¬ (i : Int) = (b.length : Int) := by omega
  have hlt' : (i : Int) < (b.length : Int) := by omega
  simp only [vlq_Get.l0]
  rw [if_neg hne, if_pos (Int.natCast_nonneg i), if_pos hlt']
  simp only [rd, Int.toNat_natCast]
  rw [e5, e4]
  rfl
theorem get_l (b : List Int) (hb : Bs b) (hl : b.length < 1099511627776) : ∀ (d i n : Nat), b.length - i = d → i ≤ b.length → i ≤ 7 → n < 128 ^ i →
    Ev (fun k => vlq_Get.l0 k b (n : Int) (i : Int)) (getR i n (b.drop i)) := by
  intro d
  induction d with
  | zero =>
    intro i n hd hi h7 hn
    have e : i = b.length := by omega
    subst e
    rw [List.drop_length]
    refine Ev.step (f := fun _ => some (0, 0, 3)) (fun k => ?_) (Ev.now _)
    rw [vlq_Get.l0, if_pos rfl]
  | succ d ih =>
    intro i n hd hi h7 hn
    have hlt : i < b.length := by omega
    have hc := hb.get hlt
    have hp : 128 ^ i ≤ 128 ^ 7 := Nat.pow_le_pow_right (by decide) h7
    have hn7 : n < 562949953421312 := Nat.lt_of_lt_of_le hn hp
    have hone := get_one hb hl hlt hn7
    have hd1 : b.length - (i + 1) = d := by omega
    have hi1 : i + 1 ≤ b.length := by omega
    rw [drop_cons_getD hlt 0]
    unfold getR
    by_cases c1 : i = 0 ∧ b.getD i 0 = 128
    · rw [if_pos c1]
      exact Ev.step (f := fun _ => some _) (fun k => by rw [hone, if_pos ⟨by omega, c1.2⟩]) (Ev.now _)
    rw [if_neg c1]
    have c1' : ¬ ((i : Int) = 0 ∧ b.getD i 0 = 128) := fun z => c1 ⟨by omega, z.2⟩
    by_cases c2 : i = 7 ∧ b.getD i 0 ≥ 128
    · rw [if_pos c2]
      exact Ev.step (f := fun _ => some _) (fun k => by rw [hone, if_neg c1', if_pos ⟨by omega, c2.2⟩]) (Ev.now _)
    rw [if_neg c2]
    have c2' : ¬ ((i : Int) = 7 ∧ b.getD i 0 ≥ 128) := fun z => c2 ⟨by omega, z.2⟩
    by_cases c3 : b.getD i 0 < 128
    · rw [if_pos c3]
      have e : ((n * 128 + (b.getD i 0).toNat : Nat) : Int) = (n : Int) * 128 + b.getD i 0 % 128 := by omega
      rw [e]
      exact Ev.step (f := fun _ => some _) (fun k => by rw [hone, if_neg c1', if_neg c2', if_pos c3]) (Ev.now _)
    rw [if_neg c3]
    have e : (n : Int) * 128 + b.getD i 0 % 128 = ((n * 128 + ((b.getD i 0).toNat - 128) : Nat) : Int) := by omega
    have h6 : i ≤ 6 := by
      have : i ≠ 7 := fun z => c2 ⟨z, by omega⟩
      omega
    refine Ev.step (fun k => by rw [hone, if_neg c1', if_neg c2', if_neg c3, e]) (ih (i + 1) _ hd1 hi1 (by omega) ?_)
    rw [Nat.pow_succ]
    omega
theorem get_ev {b : List Int} (hb : Bs b) (hl : b.length < 1099511627776) : Ev (fun k => vlq_Get.f k b) (getOf b) := by
  have := get_l b hb hl b.length 0 0 (by omega) (by omega) (by omega) (by decide)
  simpa [vlq_Get.f, getOf] using this

theorem getR_hi (m : Nat) : ∀ (r : List Int), 1 ≤ m → sz m ≤ 7 → getR 0 0 (hi m ++ r) = getR (sz m) m r := by
  induction m using Nat.strongRecOn with
  | _ m ih =>
    intro r h1 h7
    by_cases h : m < 128
    · rw [hi_lt h, sz_lt h]
      show getR 0 0 (((m : Int) + 128) :: r) = _
      rw [getR, if_neg (by omega), if_neg (by omega), if_neg (by omega), show 0 * 128 + (((m : Int) + 128).toNat - 128) = m by omega]
    · have hs := sz_ge h
      rw [hi_ge h, List.append_assoc, ih (m / 128) (by omega) _ (by omega) (by omega)]
      have hp := sz_pos (m / 128)
      rw [hs]
      show getR (sz (m / 128)) (m / 128) ((((m % 128 : Nat) : Int) + 128) :: r) = _
      rw [getR, if_neg (by omega), if_neg (by omega), if_neg (by omega), show m / 128 * 128 + ((((m % 128 : Nat) : Int) + 128).toNat - 128) = m by omega]
theorem getOf_enc {n : Nat} (hn : n < 72057594037927936) (r : List Int) : getOf (enc n ++ r) = ((n : Int), (sz n : Int), 0) := by
  have h8 := sz_le8 hn
  unfold getOf
  by_cases h : n < 128
  · rw [enc_lt h, sz_lt h]
    show getR 0 0 ((n : Int) :: r) = _
    rw [getR, if_neg (by omega), if_neg (by omega), if_pos (by omega)]
    simp
  · have hs := sz_ge h
    have hp := sz_pos (n / 128)
    rw [enc_ge h, List.append_assoc, getR_hi _ _ (by omega) (by omega), hs]
    show getR (sz (n / 128)) (n / 128) (((n % 128 : Nat) : Int) :: r) = _
    rw [getR, if_neg (by omega), if_neg (by omega), if_pos (by omega)]
    simp only [Int.toNat_natCast]
    rw [show n / 128 * 128 + n % 128 = n by omega]
theorem getR_hi_cut (m : Nat) : ∀ c, 1 ≤ m → sz m ≤ 7 → getR 0 0 ((hi m).take c) = (0, 0, 3) := by
  induction m using Nat.strongRecOn with
  | _ m ih =>
    intro c h1 h7
    by_cases hc : (hi m).length ≤ c
    · rw [List.take_of_length_le hc]
      have := getR_hi m [] h1 h7
      rw [List.append_nil] at this
      rw [this, getR]
    by_cases h : m < 128
    · rw [hi_lt h] at hc ⊢
      have : c = 0 := by simp at hc; omega
      subst this
      rw [List.take_zero, getR]
    · have hs := sz_ge h
      rw [hi_ge h] at hc ⊢
      rw [List.take_append_of_le_length (by simp at hc; omega)]
      exact ih (m / 128) (by omega) c (by omega) (by omega)
theorem getOf_cut {n : Nat} (hn : n < 72057594037927936) {c : Nat} (hc : c < (enc n).length) : getOf ((enc n).take c) = (0, 0, 3) := by
  have h8 := sz_le8 hn
  unfold getOf
  by_cases h : n < 128
  · rw [enc_lt h] at hc ⊢
    have : c = 0 := by simpa using hc
    subst this
    rw [List.take_zero, getR]
  · have hs := sz_ge h
    rw [enc_ge h] at hc ⊢
    rw [List.take_append_of_le_length (by simp at hc; omega)]
    exact getR_hi_cut _ c (by omega) (by omega)
/-- What the answer is of: so many first bytes are just those of the number. -/
theorem getR_back (r : List Int) : ∀ (i n : Nat) (v k : Int), Bs r → (i = 0 ∧ n = 0 ∨ 1 ≤ n ∧ sz n = i ∧ i ≤ 7) → getR i n r = (v, k, 0) →
    ∃ t m : Nat, t + 1 ≤ r.length ∧ k = ((i + (t + 1) : Nat) : Int) ∧ v = (m : Int) ∧ m < 72057594037927936 ∧ enc m = (if i = 0 then [] else hi n) ++ r.take (t + 1) := by
  induction r with
  | nil => intro i n v k _ _ h; rw [getR] at h; simp at h
  | cons c r ih =>
    intro i n v k hb hin h
    have hc := hb.head
    rw [getR] at h
    by_cases c1 : i = 0 ∧ c = 128
    · rw [if_pos c1] at h; simp at h
    rw [if_neg c1] at h
    by_cases c2 : i = 7 ∧ c ≥ 128
    · rw [if_pos c2] at h; simp at h
    rw [if_neg c2] at h
    by_cases c3 : c < 128
    · rw [if_pos c3] at h
      simp only [Prod.mk.injEq] at h
      obtain ⟨h1, h2, _⟩ := h
      refine ⟨0, n * 128 + c.toNat, by simp, by omega, h1.symm, ?_, ?_⟩
      · rcases hin with ⟨_, rfl⟩ | ⟨h1, hs, h7⟩
        · omega
        · apply lt_of_sz8
          rw [sz_ge (by omega), show (n * 128 + c.toNat) / 128 = n by omega, hs]; omega
      · rcases hin with ⟨rfl, rfl⟩ | ⟨h1, hs, h7⟩
        · rw [if_pos rfl, enc_lt (by omega)]; simp; omega
        · have := sz_pos n
          rw [if_neg (by omega), enc_ge (by omega), show (n * 128 + c.toNat) / 128 = n by omega, show (n * 128 + c.toNat) % 128 = c.toNat by omega]
          simp; omega
    · rw [if_neg c3] at h
      have hin' : 1 ≤ n * 128 + (c.toNat - 128) ∧ sz (n * 128 + (c.toNat - 128)) = i + 1 ∧ i + 1 ≤ 7 := by
        have h7' : i ≠ 7 := fun z => c2 ⟨z, by omega⟩
        rcases hin with ⟨rfl, rfl⟩ | ⟨h1, hs, h7⟩
        · have : c ≠ 128 := fun z => c1 ⟨rfl, z⟩
          exact ⟨by omega, sz_lt (by omega), by omega⟩
        · exact ⟨by omega, by rw [sz_ge (by omega), show (n * 128 + (c.toNat - 128)) / 128 = n by omega, hs], by omega⟩
      obtain ⟨t, m, ht, hk, hv, hm, he⟩ := ih (i + 1) _ v k hb.tail (.inr hin') h
      refine ⟨t + 1, m, by simp; omega, by omega, hv, hm, ?_⟩
      rw [he, if_neg (by omega)]
      rcases hin with ⟨rfl, rfl⟩ | ⟨h1, hs, h7⟩
      · rw [if_pos rfl, hi_lt (by omega)]; simp; omega
      · have := sz_pos n
        rw [if_neg (by omega), hi_ge (by omega), show (n * 128 + (c.toNat - 128)) / 128 = n by omega, show (n * 128 + (c.toNat - 128)) % 128 = c.toNat - 128 by omega]
        simp; omega
theorem getOf_back {b : List Int} (hb : Bs b) {v k : Int} (h : getOf b = (v, k, 0)) : ∃ m : Nat, v = (m : Int) ∧ m < 72057594037927936 ∧ k = (sz m : Int) ∧ sz m ≤ b.length ∧ b.take (sz m) = enc m := by
  obtain ⟨t, m, ht, hk, hv, hm, he⟩ := getR_back b 0 0 v k hb (.inl ⟨rfl, rfl⟩) h
  rw [if_pos rfl, List.nil_append] at he
  have hl : sz m = t + 1 := by
    rw [← enc_length, he, List.length_take]; omega
  exact ⟨m, hv, hm, by omega, by omega, by rw [hl, he]⟩
/-- The errors are 2 and 3 alone; with one, all else is nought. -/
theorem getR_err (r : List Int) : ∀ i n, (getR i n r).2.2 = 0 ∨ getR i n r = (0, 0, 2) ∨ getR i n r = (0, 0, 3) := by
  induction r with
  | nil => intro i n; rw [getR]; exact .inr (.inr rfl)
  | cons c r ih =>
    intro i n
    rw [getR]
    split
    · exact .inr (.inl rfl)
    split
    · exact .inr (.inl rfl)
    split
    · exact .inl rfl
    · exact ih _ _
theorem getOf_err (b : List Int) : (getOf b).2.2 = 0 ∨ getOf b = (0, 0, 2) ∨ getOf b = (0, 0, 3) := getR_err b 0 0
theorem getOf_nil : getOf [] = (0, 0, 3) := rfl
end Go.Proofs.Ytoafbpbnlmcklaa.Pure

namespace Go.Proofs.Ytoafbpbnlmcklaa.Pure
open Go.RowKit Go.Proofs.Ytoafbpbnlmcklaa.PAll Go.Proofs.YtoafbpbnlmcklaaW.PrintWords Go.Proofs.YtoafbpbnlmcklaaW.PrintLast Go.Proofs.YtoafbpbnlmcklaaW.PrintMore
theorem getOf_pos {b : List Int} (hb : Bs b) (h : (getOf b).2.2 = 0) : ∃ m : Nat, m < 72057594037927936 ∧ getOf b = ((m : Int), (sz m : Int), 0) ∧ 1 ≤ sz m ∧ sz m ≤ b.length ∧ b.take (sz m) = enc m := by
  have e : getOf b = ((getOf b).1, (getOf b).2.1, 0) := by
    have : getOf b = ((getOf b).1, (getOf b).2.1, (getOf b).2.2) := rfl
    rw [h] at this; exact this
  obtain ⟨m, h1, h2, h3, h4, h5⟩ := getOf_back hb e
  refine ⟨m, h2, ?_, sz_pos m, h4, h5⟩
  rw [h1, h3] at e; exact e
end Go.Proofs.Ytoafbpbnlmcklaa.Pure

/- Plain laws of layer 1: which number bytes begin with, and how that undoes the put. -/
import Derived.Test.YthkipipfdlepnaaPAllx4
import Derived.Test.YthkipipfdlepnaaVlqCore
namespace Go.Proofs.Ythkipipfdlepnaa.Pure
open Go.RowKit Go.Proofs.Ythkipipfdlepnaa.PAll Go.Proofs.YthkipipfdlepnaaW.PrintWords Go.Proofs.YthkipipfdlepnaaW.PrintLast Go.Proofs.YthkipipfdlepnaaW.PrintMore
/-- What Get answers, i bytes having been read as n. -/
def getR : Nat → Nat → List Int → Int × Int × Int
  | _, _, [] => (0, 0, 3)
  | i, n, c :: r => if i = 0 ∧ c = 128 then (0, 0, 2) else if i = 7 ∧ c ≥ 128 then (0, 0, 2) else if c < 128 then (((n * 128 + c.toNat : Nat) : Int), ((i + 1 : Nat) : Int), 0) else getR (i + 1) (n * 128 + (c.toNat - 128)) r
def getOf (b : List Int) : Int × Int × Int := getR 0 0 b

theorem step_or {n : Nat} {c : Int} (hn : n < 562949953421312) (hc : 0 ≤ c ∧ c < 256) :
    Go.bits .or .i64 (wrap64 ((n : Int) * 128)) (wrap64 (Go.bits .and .u8 c 127)) = (n : Int) * 128 + c % 128 := by
  have e := bits_mask .u8 8 (by decide) wraps_u8 7 (by decide) c hc.1 (by omega)
  rw [show ((2 : Int) ^ 7 - 1) = 127 by decide, show ((2 : Int) ^ 7) = 128 by decide] at e
  rw [e, wrap64_id (by omega) (by omega), wrap64_id (by omega) (by omega), bits_join .i64 62 (by decide) wraps62 7 _ _ (by omega) (by omega) (by omega) (by omega) (by omega) (by omega)]
theorem get_one {b : List Int} (hb : Bs b) (hl : b.length < 1099511627776) {i n : Nat} (hlt : i < b.length) (hn : n < 562949953421312) (k : Nat) :
    vlq_Get.l0 (k + 1) b (n : Int) (i : Int) = if (i : Int) = 0 ∧ b.getD i 0 = 128 then some (0, 0, 2) else if (i : Int) = 7 ∧ b.getD i 0 ≥ 128 then some (0, 0, 2) else
      if b.getD i 0 < 128 then some ((n : Int) * 128 + b.getD i 0 % 128, ((i + 1 : Nat) : Int), 0) else vlq_Get.l0 k b ((n : Int) * 128 + b.getD i 0 % 128) ((i + 1 : Nat) : Int) := by
  have hc := hb.get hlt
  have e4 := idx_step (Nat.lt_trans hlt hl)
  have e5 := step_or hn hc
  have hne : ¬ (i : Int) = (b.length : Int) := by omega
  have hlt' : (i : Int) < (b.length : Int) := by omega
  simp only [vlq_Get.l0]
  rw [if_neg hne, if_pos (Int.natCast_nonneg i), if_pos hlt']
  simp only [rd, Int.toNat_natCast]
  rw [e5, e4]
  rfl
theorem get_l (b : List Int) (hb : Bs b) (hl : b.length < 1099511627776) : ∀ (d i n : Nat), b.length - i = d → i ≤ b.length → i ≤ 7 → n < 128 ^ i →
    Ev (fun k => vlq_Get.l0 k b (n : Int) (i : Int)) (getR i n (b.drop i)) := by
  intro d
  induction d with
  | zero =>
    intro i n hd hi h7 hn
    have e : i = b.length := by omega
    subst e
    rw [List.drop_length]
    refine Ev.step (f := fun _ => some (0, 0, 3)) (fun k => ?_) (Ev.now _)
    rw [vlq_Get.l0, if_pos rfl]
  | succ d ih =>
    intro i n hd hi h7 hn
    have hlt : i < b.length := by omega
    have hc := hb.get hlt
    have hp : 128 ^ i ≤ 128 ^ 7 := Nat.pow_le_pow_right (by decide) h7
    have hn7 : n < 562949953421312 := Nat.lt_of_lt_of_le hn hp
    have hone := get_one hb hl hlt hn7
    have hd1 : b.length - (i + 1) = d := by omega
    have hi1 : i + 1 ≤ b.length := by omega
    rw [drop_cons_getD hlt 0]
    unfold getR
    by_cases c1 : i = 0 ∧ b.getD i 0 = 128
    · rw [if_pos c1]
      exact Ev.step (f := fun _ => some _) (fun k => by rw [hone, if_pos ⟨by omega, c1.2⟩]) (Ev.now _)
    rw [if_neg c1]
    have c1' : ¬ ((i : Int) = 0 ∧ b.getD i 0 = 128) := fun z => c1 ⟨by omega, z.2⟩
    by_cases c2 : i = 7 ∧ b.getD i 0 ≥ 128
    · rw [if_pos c2]
      exact Ev.step (f := fun _ => some _) (fun k => by rw [hone, if_neg c1', if_pos ⟨by omega, c2.2⟩]) (Ev.now _)
    rw [if_neg c2]
    have c2' : ¬ ((i : Int) = 7 ∧ b.getD i 0 ≥ 128) := fun z => c2 ⟨by omega, z.2⟩
    by_cases c3 : b.getD i 0 < 128
    · rw [if_pos c3]
      have e : ((n * 128 + (b.getD i 0).toNat : Nat) : Int) = (n : Int) * 128 + b.getD i 0 % 128 := by omega
      rw [e]
      exact Ev.step (f := fun _ => some _) (fun k => by rw [hone, if_neg c1', if_neg c2', if_pos c3]) (Ev.now _)
    rw [if_neg c3]
    have e : (n : Int) * 128 + b.getD i 0 % 128 = ((n * 128 + ((b.getD i 0).toNat - 128) : Nat) : Int) := by omega
    have h6 : i ≤ 6 := by
      have : i ≠ 7 := fun z => c2 ⟨z, by omega⟩
      omega
    refine Ev.step (fun k => by rw [hone, if_neg c1', if_neg c2', if_neg c3, e]) (ih (i + 1) _ hd1 hi1 (by omega) ?_)
    rw [Nat.pow_succ]
    omega
theorem get_ev {b : List Int} (hb : Bs b) (hl : b.length < 1099511627776) : Ev (fun k => vlq_Get.f k b) (getOf b) := by
  have := get_l b hb hl b.length 0 0 (by omega) (by omega) (by omega) (by decide)
  simpa [vlq_Get.f, getOf] using this

theorem getR_hi (m : Nat) : ∀ (r : List Int), 1 ≤ m → sz m ≤ 7 → getR 0 0 (hi m ++ r) = getR (sz m) m r := by
  induction m using Nat.strongRecOn with
  | _ m ih =>
    intro r h1 h7
    by_cases h : m < 128
    · rw [hi_lt h, sz_lt h]
      show getR 0 0 (((m : Int) + 128) :: r) = _
      rw [getR, if_neg (by omega), if_neg (by omega), if_neg (by omega), show 0 * 128 + (((m : Int) + 128).toNat - 128) = m by omega]
    · have hs := sz_ge h
      rw [hi_ge h, List.append_assoc, ih (m / 128) (by omega) _ (by omega) (by omega)]
      have hp := sz_pos (m / 128)
      rw [hs]
      show getR (sz (m / 128)) (m / 128) ((((m % 128 : Nat) : Int) + 128) :: r) = _
      rw [getR, if_neg (by omega), if_neg (by omega), if_neg (by omega), show m / 128 * 128 + ((((m % 128 : Nat) : Int) + 128).toNat - 128) = m by omega]
theorem getOf_enc {n : Nat} (hn : n < 72057594037927936) (r : List Int) : getOf (enc n ++ r) = ((n : Int), (sz n : Int), 0) := by
  have h8 := sz_le8 hn
  unfold getOf
  by_cases h : n < 128
  · rw [enc_lt h, sz_lt h]
    show getR 0 0 ((n : Int) :: r) = _
    rw [getR, if_neg (by omega), if_neg (by omega), if_pos (by omega)]
    simp
  · have hs := sz_ge h
    have hp := sz_pos (n / 128)
    rw [enc_ge h, List.append_assoc, getR_hi _ _ (by omega) (by omega), hs]
    show getR (sz (n / 128)) (n / 128) (((n % 128 : Nat) : Int) :: r) = _
    rw [getR, if_neg (by omega), if_neg (by omega), if_pos (by omega)]
    simp only [Int.toNat_natCast]
    rw [show n / 128 * 128 + n % 128 = n by omega]
theorem getR_hi_cut (m : Nat) : ∀ c, 1 ≤ m → sz m ≤ 7 → getR 0 0 ((hi m).take c) = (0, 0, 3) := by
  induction m using Nat.strongRecOn with
  | _ m ih =>
    intro c h1 h7
    by_cases hc : (hi m).length ≤ c
    · rw [List.take_of_length_le hc]
      have := getR_hi m [] h1 h7
      rw [List.append_nil] at this
      rw [this, getR]
    by_cases h : m < 128
    · rw [hi_lt h] at hc ⊢
      have : c = 0 := by simp at hc; omega
      subst this
      rw [List.take_zero, getR]
    · have hs := sz_ge h
      rw [hi_ge h] at hc ⊢
      rw [List.take_append_of_le_length (by simp at hc; omega)]
      exact ih (m / 128) (by omega) c (by omega) (by omega)
theorem getOf_cut {n : Nat} (hn : n < 72057594037927936) {c : Nat} (hc : c < (enc n).length) : getOf ((enc n).take c) = (0, 0, 3) := by
  have h8 := sz_le8 hn
  unfold getOf
  by_cases h : n < 128
  · rw [enc_lt h] at hc ⊢
    have : c = 0 := by simpa using hc
    subst this
    rw [List.take_zero, getR]
  · have hs := sz_ge h
    rw [enc_ge h] at hc ⊢
    rw [List.take_append_of_le_length (by simp at hc; omega)]
    exact getR_hi_cut _ c (by omega) (by omega)
/-- What the answer is of: so many first bytes are just those of the number. -/
theorem getR_back (r : List Int) : ∀ (i n : Nat) (v k : Int), Bs r → (i = 0 ∧ n = 0 ∨ 1 ≤ n ∧ sz n = i ∧ i ≤ 7) → getR i n r = (v, k, 0) →
    ∃ t m : Nat, t + 1 ≤ r.length ∧ k = ((i + (t + 1) : Nat) : Int) ∧ v = (m : Int) ∧ m < 72057594037927936 ∧ enc m = (if i = 0 then [] else hi n) ++ r.take (t + 1) := by
  induction r with
  | nil => intro i n v k _ _ h; rw [getR] at h; simp at h
  | cons c r ih =>
    intro i n v k hb hin h
    have hc := hb.head
    rw [getR] at h
    by_cases c1 : i = 0 ∧ c = 128
    · rw [if_pos c1] at h; simp at h
    rw [if_neg c1] at h
    by_cases c2 : i = 7 ∧ c ≥ 128
    · rw [if_pos c2] at h; simp at h
    rw [if_neg c2] at h
    by_cases c3 : c < 128
    · rw [if_pos c3] at h
      simp only [Prod.mk.injEq] at h
      obtain ⟨h1, h2, _⟩ := h
      refine ⟨0, n * 128 + c.toNat, by simp, by omega, h1.symm, ?_, ?_⟩
      · rcases hin with ⟨_, rfl⟩ | ⟨h1, hs, h7⟩
        · omega
        · apply lt_of_sz8
          rw [sz_ge (by omega), show (n * 128 + c.toNat) / 128 = n by omega, hs]; omega
      · rcases hin with ⟨rfl, rfl⟩ | ⟨h1, hs, h7⟩
        · rw [if_pos rfl, enc_lt (by omega)]; simp; omega
        · have := sz_pos n
          rw [if_neg (by omega), enc_ge (by omega), show (n * 128 + c.toNat) / 128 = n by omega, show (n * 128 + c.toNat) % 128 = c.toNat by omega]
          simp; omega
    · rw [if_neg c3] at h
      have hin' : 1 ≤ n * 128 + (c.toNat - 128) ∧ sz (n * 128 + (c.toNat - 128)) = i + 1 ∧ i + 1 ≤ 7 := by
        have h7' : i ≠ 7 := fun z => c2 ⟨z, by omega⟩
        rcases hin with ⟨rfl, rfl⟩ | ⟨h1, hs, h7⟩
        · have : c ≠ 128 := fun z => c1 ⟨rfl, z⟩
          exact ⟨by omega, sz_lt (by omega), by omega⟩
        · exact ⟨by omega, by rw [sz_ge (by omega), show (n * 128 + (c.toNat - 128)) / 128 = n by omega, hs], by omega⟩
      obtain ⟨t, m, ht, hk, hv, hm, he⟩ := ih (i + 1) _ v k hb.tail (.inr hin') h
      refine ⟨t + 1, m, by simp; omega, by omega, hv, hm, ?_⟩
      rw [he, if_neg (by omega)]
      rcases hin with ⟨rfl, rfl⟩ | ⟨h1, hs, h7⟩
      · rw [if_pos rfl, hi_lt (by omega)]; simp; omega
      · have := sz_pos n
        rw [if_neg (by omega), hi_ge (by omega), show (n * 128 + (c.toNat - 128)) / 128 = n by omega, show (n * 128 + (c.toNat - 128)) % 128 = c.toNat - 128 by omega]
        simp; omega
theorem getOf_back {b : List Int} (hb : Bs b) {v k : Int} (h : getOf b = (v, k, 0)) : ∃ m : Nat, v = (m : Int) ∧ m < 72057594037927936 ∧ k = (sz m : Int) ∧ sz m ≤ b.length ∧ b.take (sz m) = enc m := by
  obtain ⟨t, m, ht, hk, hv, hm, he⟩ := getR_back b 0 0 v k hb (.inl ⟨rfl, rfl⟩) h
  rw [if_pos rfl, List.nil_append] at he
  have hl : sz m = t + 1 := by
    rw [← enc_length, he, List.length_take]; omega
  exact ⟨m, hv, hm, by omega, by omega, by rw [hl, he]⟩
/-- The errors are 2 and 3 alone; with one, all else is nought. -/
theorem getR_err (r : List Int) : ∀ i n, (getR i n r).2.2 = 0 ∨ getR i n r = (0, 0, 2) ∨ getR i n r = (0, 0, 3) := by
  induction r with
  | nil => intro i n; rw [getR]; exact .inr (.inr rfl)
  | cons c r ih =>
    intro i n
    rw [getR]
    split
    · exact .inr (.inl rfl)
    split
    · exact .inr (.inl rfl)
    split
    · exact .inl rfl
    · exact ih _ _
theorem getOf_err (b : List Int) : (getOf b).2.2 = 0 ∨ getOf b = (0, 0, 2) ∨ getOf b = (0, 0, 3) := getR_err b 0 0
theorem getOf_nil : getOf [] = (0, 0, 3) := rfl
end Go.Proofs.Ythkipipfdlepnaa.Pure

/- Proved: of two numbers the greater one has no fewer bytes; if both have as many its bytes come behind the other one's. No condition. -/
import Derived.Test.YtoanigdnkelhhaaVlqAwake
namespace Go.Proofs.Ytoanigdnkelhhaa.Pure
open Go.RowKit Go.Proofs.Ytoanigdnkelhhaa.PAll Go.Proofs.YtoanigdnkelhhaaW.PrintWords Go.Proofs.YtoanigdnkelhhaaW.PrintLast Go.Proofs.YtoanigdnkelhhaaW.PrintMore
theorem less_front (p a b : List UInt8) : Op.bytesLess (p ++ a) (p ++ b) = Op.bytesLess a b := by
  induction p with
  | nil => rfl
  | cons c p ih => simp [Op.bytesLess, ih]
theorem less_back : ∀ (a b x y : List UInt8), a.length = b.length → Op.bytesLess a b = true → Op.bytesLess (a ++ x) (b ++ y) = true
  | [], [], _, _, _, h => by simp [Op.bytesLess] at h
  | [], _ :: _, _, _, h, _ => by simp at h
  | _ :: _, [], _, _, h, _ => by simp at h
  | c :: a, d :: b, x, y, hl, h => by
    simp only [Op.bytesLess, List.cons_append, Bool.or_eq_true, Bool.and_eq_true] at h ⊢
    rcases h with h | ⟨h1, h2⟩
    · exact .inl h
    · exact .inr ⟨h1, less_back a b x y (by simpa using hl) h2⟩
/-- Bytes, as a text's. -/
def u8s (l : List Int) : List UInt8 := l.map fun n => UInt8.ofNat n.toNat
theorem u8s_app (a b : List Int) : u8s (a ++ b) = u8s a ++ u8s b := by simp [u8s]
theorem str_u8s (l : List Int) : (strOfNums l).toList = u8s l := by rw [ByteArray.toList_eq]; exact strOfNums_data l
theorem less_one {x y : Int} (hx : 0 ≤ x) (h : x < y) (hy : y < 256) : Op.bytesLess (u8s [x]) (u8s [y]) = true := by
  have : UInt8.ofNat x.toNat < UInt8.ofNat y.toNat := by
    rw [UInt8.lt_iff_toNat_lt, UInt8.toNat_ofNat', UInt8.toNat_ofNat']; omega
  simp [u8s, Op.bytesLess, this]
theorem hi_less (a : Nat) : ∀ b, sz a = sz b → a < b → Op.bytesLess (u8s (hi a)) (u8s (hi b)) = true := by
  induction a using Nat.strongRecOn with
  | _ a ih =>
    intro b hs hab
    by_cases h : a < 128
    · have hb : b < 128 := by
        apply Classical.byContradiction
        intro hb
        rw [sz_lt h, sz_ge hb] at hs
        have := sz_pos (b / 128); omega
      rw [hi_lt h, hi_lt hb]
      exact less_one (by omega) (by omega) (by omega)
    · have hb : ¬ b < 128 := by omega
      have hs' : sz (a / 128) = sz (b / 128) := by rw [sz_ge h, sz_ge hb] at hs; omega
      rw [hi_ge h, hi_ge hb, u8s_app, u8s_app]
      by_cases hd : a / 128 = b / 128
      · rw [hd, less_front]
        exact less_one (by omega) (by omega) (by omega)
      · exact less_back _ _ _ _ (by simp [u8s, hi_length, hs']) (ih (a / 128) (by omega) (b / 128) hs' (by omega))
theorem enc_less {a b : Nat} (hs : sz a = sz b) (hab : a < b) : Op.bytesLess (u8s (enc a)) (u8s (enc b)) = true := by
  by_cases h : a < 128
  · have hb : b < 128 := by
      apply Classical.byContradiction
      intro hb
      rw [sz_lt h, sz_ge hb] at hs
      have := sz_pos (b / 128); omega
    rw [enc_lt h, enc_lt hb]
    exact less_one (by omega) (by omega) (by omega)
  · have hb : ¬ b < 128 := by omega
    have hs' : sz (a / 128) = sz (b / 128) := by rw [sz_ge h, sz_ge hb] at hs; omega
    rw [enc_ge h, enc_ge hb, u8s_app, u8s_app]
    by_cases hd : a / 128 = b / 128
    · rw [hd, less_front]
      exact less_one (by omega) (by omega) (by omega)
    · exact less_back _ _ _ _ (by simp [u8s, hi_length, hs']) (hi_less (a / 128) (b / 128) hs' (by omega))
theorem sz_mono (a : Nat) : ∀ b, a ≤ b → sz a ≤ sz b := by
  induction a using Nat.strongRecOn with
  | _ a ih =>
    intro b hab
    by_cases h : a < 128
    · rw [sz_lt h]; exact sz_pos b
    · rw [sz_ge h, sz_ge (n := b) (by omega)]
      have := ih (a / 128) (by omega) (b / 128) (by omega)
      omega
theorem VlqOrder : colloquylaw01_VlqOrder.Pure := by
  intro a b _ _
  refine Ev.rounds (Ev.bind awake_ev (Ev.bind (put_ev a) (Ev.bind (put_ev b) ?_)))
  simp only [if_true]
  by_cases ka : Ok a
  · by_cases kb : Ok b
    · obtain ⟨n, rfl⟩ := Int.eq_ofNat_of_zero_le ka.1
      obtain ⟨m, rfl⟩ := Int.eq_ofNat_of_zero_le kb.1
      rw [putOf_ok ka, putOf_ok kb, Int.toNat_natCast, Int.toNat_natCast]
      simp only [if_true]
      by_cases h : (n : Int) ≥ (m : Int)
      · simp only [if_pos h]; exact Ev.now _
      simp only [if_neg h, enc_length]
      have hm := sz_mono n m (by omega)
      by_cases hl : (sz n : Int) < (sz m : Int)
      · simp only [if_pos hl]; exact Ev.now _
      have he : (sz n : Int) = (sz m : Int) := by omega
      simp only [if_neg hl, if_pos he]
      rw [str_u8s, str_u8s, enc_less (by omega) (by omega)]
      exact Ev.now _
    · rw [putOf_ok ka, putOf_no kb]
      exact Ev.now _
  · rw [putOf_no ka]
    exact Ev.now _
end Go.Proofs.Ytoanigdnkelhhaa.Pure

/- Plain law: what may be a text, byte by byte. Conditions: those that each theorem states. -/
import Derived.Test.YtifdlbdecjlnaaaDoorTxMay
namespace Go.Proofs.YtifdlbdecjlnaaaDoor.PAll
open Go.RowKit
set_option linter.unusedVariables false
set_option linter.unusedSimpArgs false
/-- The byte at a place, as a number. -/
def bt8 (l : List UInt8) (i : Nat) : Nat := (l.getD i 0).toNat
theorem bt8_lt (l : List UInt8) (i : Nat) : bt8 l i < 256 := UInt8.toNat_lt _
def cont (b : Nat) : Prop := 128 ≤ b ∧ b ≤ 191
instance (b : Nat) : Decidable (cont b) := inferInstanceAs (Decidable (_ ∧ _))
/-- How many bytes the rune has that begins with b0, if n bytes are there; 0: it is none. -/
def szN (n b0 b1 b2 b3 : Nat) : Nat :=
  if b0 < 128 then 1
  else if (194 ≤ b0 ∧ b0 ≤ 223) ∧ (1 < n ∧ cont b1) then 2
  else if (224 ≤ b0 ∧ b0 ≤ 239) ∧ (1 < n ∧ cont b1) ∧ (2 < n ∧ cont b2) then (if (b0 = 224 ∧ b1 < 160) ∨ (b0 = 237 ∧ 159 < b1) then 0 else 3)
  else if (240 ≤ b0 ∧ b0 ≤ 244) ∧ (1 < n ∧ cont b1) ∧ (2 < n ∧ cont b2) ∧ (3 < n ∧ cont b3) then (if (b0 = 240 ∧ b1 < 144) ∨ (b0 = 244 ∧ 143 < b1) then 0 else 4)
  else 0
def sz8 (l : List UInt8) (p : Nat) : Nat := szN (l.length - p) (bt8 l p) (bt8 l (p + 1)) (bt8 l (p + 2)) (bt8 l (p + 3))
theorem szN_le (n b0 b1 b2 b3 : Nat) (hn : 0 < n) : szN n b0 b1 b2 b3 ≤ n := by
  unfold szN
  repeat' split
  all_goals omega
theorem szN_zero {n b0 b1 b2 b3 : Nat} (h0 : b0 < 256) (h1 : b1 < 256) (h2 : b2 < 256) (h3 : b3 < 256) (h : szN n b0 b1 b2 b3 = 0) : Lib.decodeN n b0 b1 b2 b3 = (65533, 1) := by
  unfold szN cont at h
  unfold Lib.decodeN
  repeat' split at h
  all_goals first | omega | skip
  all_goals (repeat' split)
  all_goals first | rfl | (exfalso; omega)
theorem szN_some {n b0 b1 b2 b3 : Nat} (h0 : b0 < 256) (h1 : b1 < 256) (h2 : b2 < 256) (h3 : b3 < 256) (h : szN n b0 b1 b2 b3 ≠ 0) :
    ¬ ((Lib.decodeN n b0 b1 b2 b3).1 = 65533 ∧ (Lib.decodeN n b0 b1 b2 b3).2 = 1) ∧ (Lib.decodeN n b0 b1 b2 b3).2 = szN n b0 b1 b2 b3 ∧ (((Lib.decodeN n b0 b1 b2 b3).1 < 32 ∨ (Lib.decodeN n b0 b1 b2 b3).1 = 127) ↔ (b0 < 32 ∨ b0 = 127)) := by
  unfold szN cont at h ⊢
  unfold Lib.decodeN
  repeat' split at h
  all_goals first | omega | skip
  all_goals (repeat' split)
  all_goals first | omega | (exfalso; omega) | skip
theorem get8 (l : List UInt8) (i : Nat) : ((Str l).get! i).toNat = bt8 l i := by
  unfold bt8
  congr 1
  show (Str l).data[i]! = _
  simp [Str, List.getD_eq_getElem?_getD]
  rfl
theorem decode_str (l : List UInt8) (p : Nat) : Utf8.decode (Str l) p = Lib.decodeN (l.length - p) (bt8 l p) (bt8 l (p + 1)) (bt8 l (p + 2)) (bt8 l (p + 3)) := by
  rw [Lib.decode_at, get8, get8, get8, get8, Str_size]
theorem bt8_drop (l : List UInt8) (p i : Nat) : bt8 (l.drop p) i = bt8 l (p + i) := by
  unfold bt8
  simp [List.getD_eq_getElem?_getD]
theorem decodeL_drop (l : List UInt8) (p : Nat) : Lib.decodeL (l.drop p) = Utf8.decode (Str l) p := by
  have h : Lib.decodeL (l.drop p) = Utf8.decode (Str (l.drop p)) 0 := rfl
  rw [h, decode_str, decode_str, bt8_drop, bt8_drop, bt8_drop, bt8_drop, List.length_drop]
  simp
/-- From place p on there are only runes that may be in a text. -/
inductive GoodAt (l : List UInt8) : Nat → Prop
  | done : GoodAt l l.length
  | step (p : Nat) : p < l.length → sz8 l p ≠ 0 → ¬ (bt8 l p < 32 ∨ bt8 l p = 127) → GoodAt l (p + sz8 l p) → GoodAt l p
theorem good_iff (l : List UInt8) : ∀ (n p : Nat), p ≤ l.length → l.length ≤ p + n → ((Lib.validGoD n (l.drop p) && runesAt (Str l) n p) = true ↔ GoodAt l p)
  | 0, p, h1, h2 => by
    obtain rfl : p = l.length := by omega
    simp [Lib.validGoD, runesAt, GoodAt.done]
  | n + 1, p, h1, h2 => by
    by_cases hp : p = l.length
    · subst hp
      simp [Lib.validGoD, runesAt, GoodAt.done, Str_size]
    · have hlt : p < l.length := by omega
      have hne : l.drop p ≠ [] := by
        intro h
        have := congrArg List.length h
        simp at this
        omega
      unfold Lib.validGoD runesAt
      rw [if_neg hne, if_pos (show p < (Str l).size from by rw [Str_size]; exact hlt), decodeL_drop]
      have hd := decode_str l p
      by_cases hz : sz8 l p = 0
      · have := szN_zero (bt8_lt l _) (bt8_lt l _) (bt8_lt l _) (bt8_lt l _) hz
        rw [hd, this]
        simp only [and_self, if_true, Bool.false_and, Bool.false_eq_true, false_iff]
        intro hg
        cases hg with
        | done => omega
        | step _ _ h _ _ => exact h hz
      · obtain ⟨e1, e2, e3⟩ := szN_some (bt8_lt l _) (bt8_lt l _) (bt8_lt l _) (bt8_lt l _) hz
        rw [← hd] at e1 e2 e3
        rw [if_neg e1]
        have hle : sz8 l p ≤ l.length - p := szN_le _ _ _ _ _ (by omega)
        have hw : (Utf8.decode (Str l) p).2 = sz8 l p := e2
        by_cases hb : (Utf8.decode (Str l) p).1 < 32 ∨ (Utf8.decode (Str l) p).1 = 127
        · rw [if_pos hb]
          simp only [Bool.and_false, Bool.false_eq_true, false_iff]
          intro hg
          cases hg with
          | done => omega
          | step _ _ _ h _ => exact h (e3.1 hb)
        · rw [if_neg hb, hw, List.drop_drop]
          have ih := good_iff l n (p + sz8 l p) (by omega) (by omega)
          rw [ih]
          constructor
          · intro h
            exact .step p hlt hz (fun k => hb (e3.2 k)) h
          · intro hg
            cases hg with
            | done => omega
            | step _ _ _ _ h => exact h
theorem may_iff (l : List UInt8) : mayS l = true ↔ 1 ≤ l.length ∧ l.length ≤ 64 ∧ GoodAt l 0 := by
  unfold mayS Lib.validD
  have := good_iff l l.length 0 (Nat.zero_le _) (by omega)
  rw [List.drop_zero] at this
  rw [Bool.and_eq_true, Bool.and_eq_true, decide_eq_true_eq, decide_eq_true_eq, this, and_assoc]
theorem bt8_app_left (a b : List UInt8) (i : Nat) (h : i < a.length) : bt8 (a ++ b) i = bt8 a i := by
  unfold bt8
  simp [List.getD_eq_getElem?_getD, List.getElem?_append_left h]
theorem bt8_app_right (a b : List UInt8) (i : Nat) : bt8 (a ++ b) (a.length + i) = bt8 b i := by
  unfold bt8
  simp [List.getD_eq_getElem?_getD, List.getElem?_append_right]
/-- A rune's size hangs on its own bytes alone. -/
theorem szN_more {n m b0 b1 b2 b3 c1 c2 c3 : Nat} (h : szN n b0 b1 b2 b3 ≠ 0) (hn : 0 < n) (hm : n ≤ m) (h1 : 1 < n → c1 = b1) (h2 : 2 < n → c2 = b2) (h3 : 3 < n → c3 = b3) : szN m b0 c1 c2 c3 = szN n b0 b1 b2 b3 := by
  by_cases k1 : 1 < n
  · obtain rfl := h1 k1
    by_cases k2 : 2 < n
    · obtain rfl := h2 k2
      by_cases k3 : 3 < n
      · obtain rfl := h3 k3
        unfold szN
        have q1 : 1 < m := by omega
        have q2 : 2 < m := by omega
        have q3 : 3 < m := by omega
        simp only [k1, k2, k3, q1, q2, q3]
      · unfold szN at h ⊢
        have q1 : 1 < m := by omega
        have q2 : 2 < m := by omega
        simp only [k1, k2, k3, q1, q2, false_and, and_false, if_false, true_and] at h ⊢
        repeat' split at h
        all_goals (repeat' split)
        all_goals first | rfl | omega | (exfalso; simp_all; done) | (simp_all; omega)
    · unfold szN at h ⊢
      have q1 : 1 < m := by omega
      simp only [k1, k2, q1, false_and, and_false, if_false, true_and] at h ⊢
      repeat' split at h
      all_goals (repeat' split)
      all_goals first | rfl | omega | (exfalso; simp_all; done) | (simp_all; omega)
  · unfold szN at h ⊢
    simp only [k1, false_and, and_false, if_false] at h ⊢
    repeat' split at h
    all_goals first | (exfalso; omega) | skip
    all_goals simp_all
theorem sz8_app (a b : List UInt8) (p : Nat) (hp : p < a.length) (h : sz8 a p ≠ 0) : sz8 (a ++ b) p = sz8 a p := by
  unfold sz8 at h ⊢
  rw [bt8_app_left a b p hp, List.length_append]
  exact szN_more h (by omega) (by omega) (fun k => bt8_app_left a b _ (by omega)) (fun k => bt8_app_left a b _ (by omega)) (fun k => bt8_app_left a b _ (by omega))
theorem good_right (a b : List UInt8) : ∀ p, GoodAt b p → GoodAt (a ++ b) (a.length + p) := by
  intro p h
  induction h with
  | done => rw [← List.length_append]; exact .done
  | step p h1 h2 h3 _ ih =>
    have hs : sz8 (a ++ b) (a.length + p) = sz8 b p := by
      unfold sz8
      rw [Nat.add_assoc, Nat.add_assoc, Nat.add_assoc, bt8_app_right, bt8_app_right, bt8_app_right, bt8_app_right, List.length_append, Nat.add_sub_add_left]
    refine .step _ (by rw [List.length_append]; omega) (by rw [hs]; exact h2) (by rw [bt8_app_right]; exact h3) ?_
    rw [hs, Nat.add_assoc]
    exact ih
theorem good_app (a b : List UInt8) (hb : GoodAt b 0) : ∀ p, GoodAt a p → GoodAt (a ++ b) p := by
  intro p h
  induction h with
  | done => exact good_right a b 0 hb
  | step p h1 h2 h3 _ ih =>
    have hs := sz8_app a b p h1 h2
    refine .step _ (by rw [List.length_append]; omega) (by rw [hs]; exact h2) (by rw [bt8_app_left a b p h1]; exact h3) ?_
    rw [hs]
    exact ih
theorem szN_one {n b0 b1 b2 b3 : Nat} (h : szN n b0 b1 b2 b3 = 1) : b0 < 128 := by
  unfold szN at h
  repeat' split at h
  all_goals first | assumption | omega
/-- A rune that lies whole within fewer bytes is the same there. -/
theorem szN_cut {n m b0 b1 b2 b3 c1 c2 c3 : Nat} (h : szN m b0 c1 c2 c3 ≠ 0) (hw : szN m b0 c1 c2 c3 ≤ n) (hm : n ≤ m) (h1 : 1 < n → c1 = b1) (h2 : 2 < n → c2 = b2) (h3 : 3 < n → c3 = b3) : szN n b0 b1 b2 b3 = szN m b0 c1 c2 c3 := by
  by_cases z : b0 < 128
  · unfold szN
    rw [if_pos z, if_pos z]
  by_cases k1 : 1 < n
  · obtain rfl := h1 k1
    by_cases k2 : 2 < n
    · obtain rfl := h2 k2
      by_cases k3 : 3 < n
      · obtain rfl := h3 k3
        unfold szN
        have q1 : 1 < m := by omega
        have q2 : 2 < m := by omega
        have q3 : 3 < m := by omega
        simp only [k1, k2, k3, q1, q2, q3]
      · unfold szN at h hw ⊢
        have q1 : 1 < m := by omega
        have q2 : 2 < m := by omega
        simp only [z, k1, k2, k3, q1, q2, false_and, and_false, if_false, true_and] at h hw ⊢
        repeat' split at hw
        all_goals (repeat' split)
        all_goals first | rfl | omega | (exfalso; simp_all; done) | (exfalso; simp_all; omega)
    · unfold szN at h hw ⊢
      have q1 : 1 < m := by omega
      simp only [z, k1, k2, q1, false_and, and_false, if_false, true_and] at h hw ⊢
      repeat' split at hw
      all_goals (repeat' split)
      all_goals first | rfl | omega | (exfalso; simp_all; done) | (exfalso; simp_all; omega)
  · have h1' : szN m b0 c1 c2 c3 = 1 := by omega
    exact absurd (szN_one h1') z
theorem szN_short {n m b0 b1 b2 b3 c1 c2 c3 : Nat} (h : n < szN m b0 c1 c2 c3) (hn : 0 < n) : szN n b0 b1 b2 b3 = 0 := by
  unfold szN at h ⊢
  repeat' split at h
  all_goals first | omega | skip
  all_goals (repeat' split)
  all_goals first | rfl | omega
theorem szN_last {n b0 b1 b2 b3 : Nat} (h : 2 ≤ szN n b0 b1 b2 b3) : (szN n b0 b1 b2 b3 = 2 → 128 ≤ b1) ∧ (szN n b0 b1 b2 b3 = 3 → 128 ≤ b2) ∧ (szN n b0 b1 b2 b3 = 4 → 128 ≤ b3) ∧ szN n b0 b1 b2 b3 ≤ 4 := by
  clear h
  refine ⟨fun e => ?_, fun e => ?_, fun e => ?_, ?_⟩
  · unfold szN cont at e
    repeat' split at e
    all_goals omega
  · unfold szN cont at e
    repeat' split at e
    all_goals omega
  · unfold szN cont at e
    repeat' split at e
    all_goals omega
  · unfold szN
    repeat' split
    all_goals omega
theorem good_last (d : List UInt8) (x : UInt8) : ∀ p, GoodAt (d ++ [x]) p → p ≤ d.length → (GoodAt d p ↔ x.toNat < 128) := by
  intro p h
  have hx : bt8 (d ++ [x]) d.length = x.toNat := by
    have := bt8_app_right d [x] 0
    rw [Nat.add_zero] at this
    rw [this]
    rfl
  have hl : (d ++ [x]).length = d.length + 1 := by simp
  induction h with
  | done => intro hp; omega
  | step p h1 h2 h3 _ ih =>
    intro hp
    have hle : sz8 (d ++ [x]) p ≤ (d ++ [x]).length - p := szN_le _ _ _ _ _ (by omega)
    rw [hl] at hle
    by_cases hw : p + sz8 (d ++ [x]) p ≤ d.length
    · have hpd : p < d.length := by omega
      have hs : sz8 d p = sz8 (d ++ [x]) p := by
        unfold sz8 at h2 hw ⊢
        rw [bt8_app_left d [x] p hpd] at h2 hw ⊢
        rw [hl] at h2 hw ⊢
        exact szN_cut h2 (by omega) (by omega) (fun k => bt8_app_left d [x] _ (by omega)) (fun k => bt8_app_left d [x] _ (by omega)) (fun k => bt8_app_left d [x] _ (by omega))
      rw [← ih hw]
      constructor
      · intro hg
        cases hg with
        | done => omega
        | step _ _ _ _ h => rw [hs] at h; exact h
      · intro hg
        refine .step p hpd (by rw [hs]; exact h2) ?_ (by rw [hs]; exact hg)
        rw [← bt8_app_left d [x] p hpd]
        exact h3
    · have he : p + sz8 (d ++ [x]) p = d.length + 1 := by omega
      by_cases h1' : sz8 (d ++ [x]) p = 1
      · obtain rfl : p = d.length := by omega
        have := szN_one h1'
        rw [hx] at this
        exact ⟨fun _ => this, fun _ => .done⟩
      · have h2' : 2 ≤ sz8 (d ++ [x]) p := by omega
        have hpd : p < d.length := by omega
        have hcont : 128 ≤ x.toNat := by
          rw [← hx]
          obtain ⟨k2, k3, k4, k5⟩ := szN_last h2'
          have e : d.length = p + (sz8 (d ++ [x]) p - 1) := by omega
          rw [e]
          by_cases w2 : sz8 (d ++ [x]) p = 2
          · rw [w2]; exact k2 w2
          by_cases w3 : sz8 (d ++ [x]) p = 3
          · rw [w3]; exact k3 w3
          have w4 : sz8 (d ++ [x]) p = 4 := by have : sz8 (d ++ [x]) p ≤ 4 := k5; omega
          rw [w4]; exact k4 w4
        have hz : sz8 d p = 0 := by
          unfold sz8
          rw [← bt8_app_left d [x] p hpd]
          exact szN_short (n := d.length - p) (m := (d ++ [x]).length - p) (c1 := bt8 (d ++ [x]) (p + 1)) (c2 := bt8 (d ++ [x]) (p + 2)) (c3 := bt8 (d ++ [x]) (p + 3)) (show d.length - p < sz8 (d ++ [x]) p by omega) (by omega)
        constructor
        · intro hg
          cases hg with
          | done => omega
          | step _ _ h _ _ => exact absurd hz h
        · intro; omega
theorem may_join (a b : List UInt8) (ha : mayS a = true) (hb : mayS b = true) (h : a.length + b.length ≤ 64) : mayS (a ++ b) = true := by
  obtain ⟨a1, a2, a3⟩ := (may_iff a).1 ha
  obtain ⟨b1, b2, b3⟩ := (may_iff b).1 hb
  exact (may_iff _).2 ⟨by rw [List.length_append]; omega, by rw [List.length_append]; omega, good_app a b b3 0 a3⟩
theorem may_last (d : List UInt8) (x : UInt8) (ha : mayS (d ++ [x]) = true) (hd : 1 ≤ d.length) : mayS d = decide (x.toNat < 128) := by
  obtain ⟨a1, a2, a3⟩ := (may_iff _).1 ha
  have h := good_last d x 0 a3 (Nat.zero_le _)
  rw [List.length_append] at a2
  have e : mayS d = true ↔ x.toNat < 128 := by
    rw [may_iff, ← h]
    constructor
    · exact fun k => k.2.2
    · exact fun k => ⟨hd, by simp at a2; omega, k⟩
  by_cases k : x.toNat < 128
  · rw [decide_eq_true k]; exact e.2 k
  · rw [decide_eq_false k]
    cases hm : mayS d
    · rfl
    · exact absurd (e.1 hm) k
end Go.Proofs.YtifdlbdecjlnaaaDoor.PAll

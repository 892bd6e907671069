/- Plain law: the document's 'Show', by lists of bytes. Conditions: those that each theorem states. -/
import Derived.Test.YtifdlbdecjlnaaaDoorTxRef
import Derived.Test.YtifdlbdecjlnaaaDoorTxLineB
import Derived.Test.YtifdlbdecjlnaaaDoorPAllx7
namespace Go.Proofs.YtifdlbdecjlnaaaDoor.PAll
open Go.RowKit Go.Proofs.YtifdlbdecjlnaaaDoorW.PrintWords Go.Proofs.YtifdlbdecjlnaaaDoorW.PrintLast Go.Proofs.YtifdlbdecjlnaaaDoorW.PrintMore
set_option linter.unusedVariables false
set_option linter.unusedSimpArgs false
theorem str_num (x : Int) : strOfNums [x] = Str [UInt8.ofNat x.toNat] := by
  have h := strOfNums_data [x]
  rw [← Str_of (strOfNums [x]), h]
  rfl
theorem digits_ev : ∀ (b u : Nat) (acc : List UInt8), u ≤ b → acc.length + u < 4000000000 → Ev (fun q => colloquyref14_digits.l0 q (u : Int) (Str acc)) (Str ((if u = 0 then [] else Lib.decDigits u) ++ acc))
  | b, 0, acc, _, _ => Ev.step (f := fun _ => some (Str acc)) (fun q => by rw [colloquyref14_digits.l0, if_neg (by omega)]) (Ev.now _)
  | 0, u + 1, acc, h, _ => by omega
  | b + 1, u + 1, acc, h, hl => by
    obtain ⟨v, hv⟩ : ∃ v, u + 1 = v := ⟨_, rfl⟩
    rw [hv] at h hl ⊢
    have h1 : 1 ≤ v := by omega
    have hm : (v : Int).tmod 10 = ((v % 10 : Nat) : Int) := by rw [Int.tmod_eq_emod_of_nonneg (by omega)]; omega
    have hd : (v : Int).tdiv 10 = ((v / 10 : Nat) : Int) := by rw [Int.tdiv_eq_ediv_of_nonneg (by omega)]; omega
    have hw : wrap64 (48 + ((v % 10 : Nat) : Int)) % 256 = ((48 + v % 10 : Nat) : Int) := by rw [w64 (by omega) (by omega)]; omega
    have hw2 : wrap64 ((v / 10 : Nat) : Int) = ((v / 10 : Nat) : Int) := w64 (by omega) (by omega)
    have ih := digits_ev b (v / 10) (UInt8.ofNat (48 + v % 10) :: acc) (by omega) (by rw [List.length_cons]; omega)
    have e : Str ((if v = 0 then [] else Lib.decDigits v) ++ acc) = Str ((if v / 10 = 0 then [] else Lib.decDigits (v / 10)) ++ UInt8.ofNat (48 + v % 10) :: acc) := by
      rw [if_neg (by omega)]
      by_cases h10 : v < 10
      · rw [Lib.decDigits, dif_pos h10, if_pos (by omega), Nat.mod_eq_of_lt h10]
        rfl
      · rw [Lib.decDigits, dif_neg h10, if_neg (by omega), List.append_assoc]
        rfl
    rw [e]
    refine Ev.step (fun q => ?_) ih
    rw [colloquyref14_digits.l0, if_pos (by omega), hm, hw, Option.bind_some, str_num, Str_size, Str_size, if_pos (by simp only [List.length_cons, List.length_nil]; omega), hd, hw2, Str_append, Int.toNat_natCast]
    rfl
theorem digits_ev' (u : Nat) (h1 : 1 ≤ u) (h2 : u < 2000000000) : Ev (fun q => colloquyref14_digits.f q (u : Int)) (Str (Lib.decDigits u)) := by
  have := digits_ev u u [] (Nat.le_refl _) (by simp; omega)
  rw [if_neg (by omega), List.append_nil] at this
  exact this
theorem refshow_j1 (a0 a1 : Int) (k : Nat) (n m : Int) (tl base : List UInt8) (htl : tl.length < 1000000) (hb : base.length < 1000000) :
    Ev (fun q => colloquyref14_Show.j1 q (Str base) a0 a1 (k : Int) n m (Str tl)) (if ((k : Int) = 4 ∨ (k : Int) = 5) ∧ mayS tl = false then ((⟨#[]⟩ : ByteArray), (1 : Int)) else (Str (base ++ (if (k : Int) = 4 ∨ (k : Int) = 5 then 32 :: tl else [])), 0)) := by
  have hwd : colloquyref14_worded.f (k : Int) = some (decide ((k : Int) = 4 ∨ (k : Int) = 5)) := by
    unfold colloquyref14_worded.f
    by_cases h4 : (k : Int) = 4
    · rw [if_pos h4, decide_eq_true (.inl h4)]
    · rw [if_neg h4]
      by_cases h5 : (k : Int) = 5
      · rw [decide_eq_true (.inr h5), h5]; rfl
      · rw [decide_eq_false (by omega), beq_eq_false_iff_ne.mpr h5]
  refine Ev.step (fun q => by rw [colloquyref14_Show.j1, hwd, Option.bind_some]) ?_
  refine Ev.bind (refmay_ev tl htl) ?_
  have hz2 : (⟨#[32]⟩ : ByteArray) = Str [32] := rfl
  by_cases hw : (k : Int) = 4 ∨ (k : Int) = 5
  · rw [decide_eq_true hw]
    cases hM : mayS tl
    · rw [if_pos ⟨hw, rfl⟩]
      refine Ev.congr (fun q => by rw [if_pos rfl]) ?_
      exact Ev.step (f := fun _ => some _) (fun q => by rw [colloquyref14_Show.j2, if_pos (by rfl)]) (Ev.now _)
    · rw [if_neg (by simp), if_pos hw]
      refine Ev.congr (fun q => by rw [if_pos rfl]) ?_
      exact Ev.step (f := fun _ => some _) (fun q => by rw [colloquyref14_Show.j2, if_neg (by decide), if_pos rfl, hz2, Str_append, Str_append, Str_size, Str_size, Str_size, if_pos (by omega), if_pos (by rw [List.length_append]; simp only [List.length_cons, List.length_nil]; omega), List.append_assoc]; rfl) (Ev.now _)
  · rw [decide_eq_false hw, if_neg (fun h => hw h.1), if_neg hw, List.append_nil]
    refine Ev.congr (fun q => by rw [if_neg (by decide)]) ?_
    exact Ev.step (f := fun _ => some _) (fun q => by rw [colloquyref14_Show.j2, if_neg (by decide), if_neg (by decide)]) (Ev.now _)
theorem refshow_ev (a0 a1 k n m : Int) (tl : List UInt8) (htl : tl.length < 1000000) : Ev (fun q => colloquyref14_Show.f q a0 a1 k n m (Str tl)) (Str (showR k n m tl).1, (showR k n m tl).2) := by
  have bad : Ev (fun q => colloquyref14_Show.j0 q true a0 a1 k n m (Str tl)) ((⟨#[]⟩ : ByteArray), (1 : Int)) := Ev.step (f := fun _ => some _) (fun q => by rw [colloquyref14_Show.j0, if_pos rfl]) (Ev.now _)
  by_cases h : k ≤ 0 ∨ 8 ≤ k ∨ n < 1 ∨ 1048576 < n
  · have e : showR k n m tl = ([], 1) := by unfold showR; rw [if_pos h]
    rw [e]
    by_cases h1 : k < 1
    · exact Ev.congr (fun q => by rw [colloquyref14_Show.f, if_pos h1]) bad
    by_cases h2 : 8 ≤ k
    · exact Ev.congr (fun q => by rw [colloquyref14_Show.f, if_neg h1, if_pos h2]) bad
    by_cases h3 : n < 1
    · exact Ev.congr (fun q => by rw [colloquyref14_Show.f, if_neg h1, if_neg h2, if_pos h3]) bad
    exact Ev.congr (fun q => by rw [colloquyref14_Show.f, if_neg h1, if_neg h2, if_neg h3, decide_eq_true (show n > 1048576 by omega)]) bad
  obtain ⟨kk, rfl⟩ : ∃ kk : Nat, k = (kk : Int) := ⟨k.toNat, by omega⟩
  obtain ⟨nn, rfl⟩ : ∃ nn : Nat, n = (nn : Int) := ⟨n.toNat, by omega⟩
  have hkk : kk < 8 := by omega
  have hget : rdOf ByteArray.empty (kindWords.map Str) (kk : Int) = Str (wordAt kk) := by
    unfold rdOf wordAt
    rw [Int.toNat_natCast, List.getD_eq_getElem?_getD, List.getD_eq_getElem?_getD, List.getElem?_map]
    have : kk < kindWords.length := hkk
    rw [List.getElem?_eq_getElem this]
    rfl
  have hwl := wordAt_len kk hkk
  have hdl := dec_len10 nn (by omega)
  have hz1 : (⟨#[47]⟩ : ByteArray) = Str [47] := rfl
  have hz2 : (⟨#[32]⟩ : ByteArray) = Str [32] := rfl
  refine Ev.congr (fun q => by rw [colloquyref14_Show.f, if_neg (by omega), if_neg (by omega), if_neg (by omega), decide_eq_false (show ¬ (nn : Int) > 1048576 by omega)]) ?_
  refine Ev.step (fun q => by rw [colloquyref14_Show.j0, if_neg (by decide), show colloquyref14_Words.f = some (kindWords.map Str) from rfl, Option.bind_some, if_pos (by omega), if_pos (show (kk : Int) < ((kindWords.map Str).length : Int) from by rw [show (kindWords.map Str).length = 8 from rfl]; omega), hget, hz1, hz2, Str_append, Str_append, Str_size, Str_size, Str_size, if_pos (by omega), if_pos (by rw [List.length_append]; simp only [List.length_cons, List.length_nil]; omega)]) ?_
  refine Ev.bind (digits_ev' nn (by omega) (by omega)) ?_
  have hnb : colloquyref14_numbered.f (kk : Int) = some (decide (5 ≤ (kk : Int))) := by
    unfold colloquyref14_numbered.f
    by_cases h5 : (kk : Int) = 5
    · rw [if_pos h5, decide_eq_true (by omega)]
    · rw [if_neg h5]
      by_cases h6 : (kk : Int) = 6
      · rw [if_pos h6, decide_eq_true (by omega)]
      · rw [if_neg h6]
        by_cases h7 : (kk : Int) = 7
        · rw [decide_eq_true (by omega), h7]; rfl
        · rw [decide_eq_false (by omega), beq_eq_false_iff_ne.mpr h7]
  refine Ev.congr (fun q => by rw [Str_append, Str_size, Str_size, if_pos (by rw [List.length_append, List.length_append]; simp only [List.length_cons, List.length_nil]; omega), hnb, Option.bind_some]) ?_
  have hshow : showR (kk : Int) (nn : Int) m tl = if 5 ≤ (kk : Int) ∧ (m < 1 ∨ 1073741824 < m) then ([], 1)
      else if ((kk : Int) = 4 ∨ (kk : Int) = 5) ∧ mayS tl = false then ([], 1)
      else (Lib.join ([47 :: wordAt kk, Lib.decDigits nn] ++ (if 5 ≤ (kk : Int) then [Lib.decDigits m.toNat] else []) ++ (if (kk : Int) = 4 ∨ (kk : Int) = 5 then [tl] else [])) [32], 0) := by
    unfold showR
    rw [if_neg h]
    rfl
  rw [hshow]
  by_cases h5 : 5 ≤ (kk : Int)
  · rw [decide_eq_true h5]
    by_cases hm1 : m < 1
    · rw [if_pos ⟨h5, .inl hm1⟩]
      exact Ev.congr (f := fun _ => some _) (fun q => by rw [if_pos rfl, if_pos hm1]; rfl) (Ev.now _)
    by_cases hm2 : 1073741824 < m
    · rw [if_pos ⟨h5, .inr hm2⟩]
      exact Ev.congr (f := fun _ => some _) (fun q => by rw [if_pos rfl, if_neg hm1, if_pos hm2]; rfl) (Ev.now _)
    obtain ⟨mm, rfl⟩ : ∃ mm : Nat, m = (mm : Int) := ⟨m.toNat, by omega⟩
    have hml := dec_len10 mm (by omega)
    rw [if_neg (by omega), Int.toNat_natCast, if_pos h5]
    refine Ev.congr (fun q => by rw [if_pos rfl, if_neg hm1, if_neg hm2, if_pos (by simp only [List.length_append, List.length_cons, List.length_nil]; omega), Str_append]) ?_
    refine Ev.bind (digits_ev' mm (by omega) (by omega)) ?_
    refine Ev.congr (fun q => by rw [Str_append, Str_size, Str_size, if_pos (by simp only [List.length_append, List.length_cons, List.length_nil]; omega)]) ?_
    have hJ := refshow_j1 a0 a1 kk (nn : Int) (mm : Int) tl (((([47] ++ wordAt kk) ++ [32]) ++ Lib.decDigits nn) ++ [32] ++ Lib.decDigits mm) htl (by simp only [List.length_append, List.length_cons, List.length_nil]; omega)
    by_cases hbad : ((kk : Int) = 4 ∨ (kk : Int) = 5) ∧ mayS tl = false
    · rw [if_pos hbad] at hJ ⊢
      exact hJ
    · rw [if_neg hbad] at hJ ⊢
      have e : (((([47] ++ wordAt kk) ++ [32]) ++ Lib.decDigits nn) ++ [32] ++ Lib.decDigits mm) ++ (if (kk : Int) = 4 ∨ (kk : Int) = 5 then 32 :: tl else []) = Lib.join ([47 :: wordAt kk, Lib.decDigits nn] ++ [Lib.decDigits mm] ++ (if (kk : Int) = 4 ∨ (kk : Int) = 5 then [tl] else [])) [32] := by
        by_cases hw : (kk : Int) = 4 ∨ (kk : Int) = 5
        · rw [if_pos hw, if_pos hw]; simp [Lib.join, List.intercalate]
        · rw [if_neg hw, if_neg hw]; simp [Lib.join, List.intercalate]
      rw [e] at hJ
      exact hJ
  · rw [decide_eq_false h5, if_neg (fun q => h5 q.1), if_neg h5]
    refine Ev.congr (fun q => by rw [if_neg (by decide)]) ?_
    have hJ := refshow_j1 a0 a1 kk (nn : Int) m tl ((([47] ++ wordAt kk) ++ [32]) ++ Lib.decDigits nn) htl (by simp only [List.length_append, List.length_cons, List.length_nil]; omega)
    by_cases hbad : ((kk : Int) = 4 ∨ (kk : Int) = 5) ∧ mayS tl = false
    · rw [if_pos hbad] at hJ ⊢
      exact hJ
    · rw [if_neg hbad] at hJ ⊢
      have e : ((([47] ++ wordAt kk) ++ [32]) ++ Lib.decDigits nn) ++ (if (kk : Int) = 4 ∨ (kk : Int) = 5 then 32 :: tl else []) = Lib.join ([47 :: wordAt kk, Lib.decDigits nn] ++ [] ++ (if (kk : Int) = 4 ∨ (kk : Int) = 5 then [tl] else [])) [32] := by
        by_cases hw : (kk : Int) = 4 ∨ (kk : Int) = 5
        · rw [if_pos hw, if_pos hw]; simp [Lib.join, List.intercalate]
        · rw [if_neg hw, if_neg hw]; simp [Lib.join, List.intercalate]
      rw [e] at hJ
      exact hJ
end Go.Proofs.YtifdlbdecjlnaaaDoor.PAll

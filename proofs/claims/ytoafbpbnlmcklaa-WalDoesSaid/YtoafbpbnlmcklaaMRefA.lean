/- Texts merged: RefPut RefGet RefSects RefTot RefRec RefOpen. -/
import Derived.Test.YtoafbpbnlmcklaaMVlq
import Derived.Test.YtoafbpbnlmcklaaPAllx2
import Derived.Test.YtoafbpbnlmcklaaPAllx3
import Derived.Test.YtoafbpbnlmcklaaMWalC
namespace Go.Proofs.Ytoafbpbnlmcklaa.Pure
open Go.RowKit Go.Proofs.Ytoafbpbnlmcklaa.PAll Go.Proofs.YtoafbpbnlmcklaaW.PrintWords Go.Proofs.YtoafbpbnlmcklaaW.PrintLast Go.Proofs.YtoafbpbnlmcklaaW.PrintMore
theorem div128 {n : Nat} (hn : n < 72057594037927936) : wrap64 (Int.tdiv (n : Int) 128) = ((n / 128 : Nat) : Int) := by
  rw [Int.tdiv_eq_ediv_of_nonneg (by omega), wrap64_id (by omega) (by omega)]; omega
theorem refsize_l (n : Nat) : ∀ c : Nat, n < 72057594037927936 → c + sz n ≤ 1000 → Ev (fun k => colloquyref01_Size.l0 k (n : Int) (c : Int)) ((c + sz n - 1 : Nat) : Int) := by
  induction n using Nat.strongRecOn with
  | _ n ih =>
    intro c hn hc
    by_cases h : n < 128
    · rw [sz_lt h, show c + 1 - 1 = c by omega]
      exact Ev.step (f := fun _ => some (c : Int)) (fun k => by rw [colloquyref01_Size.l0, if_neg (by omega)]) (Ev.now _)
    · have hs := sz_ge h
      have hp := sz_pos (n / 128)
      have key := ih (n / 128) (by omega) (c + 1) (by omega) (by omega)
      rw [show c + sz n - 1 = c + 1 + sz (n / 128) - 1 by omega]
      have e4 : wrap64 ((c : Int) + 1) = ((c + 1 : Nat) : Int) := idx_step (by omega)
      exact Ev.step (fun k => by rw [colloquyref01_Size.l0, if_pos (by omega), div128 hn, e4]) key
theorem refsize_ev {n : Nat} (hn : n < 72057594037927936) : Ev (fun k => colloquyref01_Size.f k (n : Int)) (sz n : Int) := by
  have h8 := sz_le8 hn
  have key := refsize_l n 1 hn (by omega)
  rw [show 1 + sz n - 1 = sz n by omega] at key
  have e : decide ((n : Int) ≥ 72057594037927936) = false := decide_eq_false (by omega)
  refine Ev.congr (f := fun k => colloquyref01_Size.j0 k (n : Int) false) (fun k => ?_) ?_
  · unfold colloquyref01_Size.f
    rw [if_neg (by omega), e]
  · exact Ev.step (fun k => by rw [colloquyref01_Size.j0, if_neg (by decide)]; rfl) key
theorem refsize_no {a : Int} (h : ¬ Ok a) : Ev (fun k => colloquyref01_Size.f k a) 0 := by
  have out : Ev (fun k => colloquyref01_Size.j0 k a true) 0 := Ev.step (f := fun _ => some 0) (fun k => by rw [colloquyref01_Size.j0, if_pos rfl]) (Ev.now _)
  by_cases h0 : a < 0
  · exact Ev.congr (fun k => by unfold colloquyref01_Size.f; rw [if_pos h0]) out
  · have e : decide (a ≥ 72057594037927936) = true := decide_eq_true (by unfold Ok at h; omega)
    exact Ev.congr (fun k => by unfold colloquyref01_Size.f; rw [if_neg h0, e]) out
theorem set_rep (j : Nat) (suf : List Int) (v : Int) : (List.replicate (j + 1) 0 ++ suf).set j v = List.replicate j 0 ++ v :: suf := by
  induction j with
  | zero => rfl
  | succ j ih =>
    rw [List.replicate_succ, List.cons_append, List.set_cons_succ, ih, List.replicate_succ (n := j), List.cons_append]
theorem set_mid (j : Nat) (suf : List Int) (u v : Int) : (List.replicate j 0 ++ u :: suf).set j v = List.replicate j 0 ++ v :: suf := by
  induction j with
  | zero => rfl
  | succ j ih =>
    rw [List.replicate_succ, List.cons_append, List.set_cons_succ, ih, List.cons_append]
theorem get_mid (j : Nat) (suf : List Int) (u : Int) : (List.replicate j 0 ++ u :: suf).getD j 0 = u := by
  induction j with
  | zero => rfl
  | succ j ih => rw [List.replicate_succ, List.cons_append, List.getD_cons_succ, ih]
theorem low128 {n : Nat} : (Int.tmod (n : Int) 128) % 256 = ((n % 128 : Nat) : Int) := by
  rw [Int.tmod_eq_emod_of_nonneg (by omega)]; omega
/-- One byte of the reference's number: from the end. -/
theorem refput_one {n j i K : Nat} (hn : n < 72057594037927936) (hK : i + (j + 1) = K) (hK8 : K ≤ 8) (suf : List Int) (k : Nat) :
    colloquyref01_Put.l0 (k + 1) (n : Int) (K : Int) (List.replicate (j + 1) 0 ++ suf) (i : Int) =
      colloquyref01_Put.l0 k ((n / 128 : Nat) : Int) (K : Int) (List.replicate j 0 ++ (((n % 128 : Nat) : Int) + if i = 0 then 0 else 128) :: suf) ((i + 1 : Nat) : Int) := by
  have e1 : wrap64 ((K : Int) - 1) = (K : Int) - 1 := wrap64_id (by omega) (by omega)
  have e2 : wrap64 ((K : Int) - 1 - (i : Int)) = (j : Int) := by rw [wrap64_id (by omega) (by omega)]; omega
  have e4 : wrap64 ((i : Int) + 1) = ((i + 1 : Nat) : Int) := idx_step (by omega)
  rw [colloquyref01_Put.l0, if_pos (by omega), e1, e2, if_pos (by omega), if_pos (by simp; omega), low128, div128 hn, e4]
  simp only [Option.bind_some, Int.toNat_natCast, set_rep, rd, get_mid, set_mid]
  by_cases h : i = 0
  · subst h
    rw [if_neg (by decide), if_pos rfl]; simp
  · rw [if_pos (by omega), if_neg h]
    congr 3; omega
theorem refput_end {n i K : Nat} (hK : i = K) (suf : List Int) : Ev (fun k => colloquyref01_Put.l0 k (n : Int) (K : Int) suf (i : Int)) (suf, 0) :=
  Ev.step (f := fun _ => some (suf, 0)) (fun k => by rw [colloquyref01_Put.l0, if_neg (by omega)]) (Ev.now _)
theorem refput_hi (n : Nat) : ∀ (i K : Nat) (suf : List Int), n < 72057594037927936 → 1 ≤ i → i + sz n = K → K ≤ 8 → Ev (fun k => colloquyref01_Put.l0 k (n : Int) (K : Int) (List.replicate (sz n) 0 ++ suf) (i : Int)) (hi n ++ suf, 0) := by
  induction n using Nat.strongRecOn with
  | _ n ih =>
    intro i K suf hn hi1 hK hK8
    by_cases h : n < 128
    · have hs := sz_lt h
      rw [hs] at hK ⊢
      rw [hi_lt h]
      refine Ev.step (fun k => by rw [refput_one (j := 0) hn hK hK8]) ?_
      rw [if_neg (by omega), Nat.mod_eq_of_lt h]
      exact refput_end hK _
    · have hs := sz_ge h
      rw [hs] at hK ⊢
      rw [hi_ge h, List.append_assoc]
      refine Ev.step (fun k => by rw [refput_one hn hK hK8]) ?_
      rw [if_neg (by omega)]
      exact ih (n / 128) (by omega) (i + 1) K _ (by omega) (by omega) (by omega) hK8
theorem refput_ev (a : Int) : Ev (fun k => colloquyref01_Put.f k a) (putOf a) := by
  by_cases h : Ok a
  · rw [putOf_ok h]
    obtain ⟨n, rfl⟩ := Int.eq_ofNat_of_zero_le h.1
    have hn : n < 72057594037927936 := by have := h.2; omega
    have h8 := sz_le8 hn
    have hp := sz_pos n
    refine Ev.bind (refsize_ev hn) ?_
    refine Ev.congr (f := fun k => colloquyref01_Put.l0 k (n : Int) (sz n : Int) (List.replicate (sz n) 0 ++ []) ((0 : Nat) : Int)) (fun k => ?_) ?_
    · rw [if_neg (by omega), if_pos (by omega), if_pos (by omega), Int.toNat_natCast, List.append_nil]
      rfl
    rw [Int.toNat_natCast]
    by_cases h : n < 128
    · have hs := sz_lt h
      rw [hs, enc_lt h]
      refine Ev.step (fun k => by rw [refput_one (j := 0) hn (by omega) (by omega)]) ?_
      rw [if_pos rfl, Nat.mod_eq_of_lt h, Int.add_zero]
      exact refput_end rfl _
    · have hs := sz_ge h
      rw [enc_ge h]
      have hK : 0 + (sz (n / 128) + 1) = sz n := by omega
      generalize hg : sz n = K at *
      rw [hs]
      refine Ev.step (fun k => by rw [refput_one hn (by omega) (by omega)]) ?_
      rw [if_pos rfl, Int.add_zero]
      rw [← hs]
      exact refput_hi (n / 128) 1 K _ (by omega) (by omega) (by omega) (by omega)
  · rw [putOf_no h]
    refine Ev.bind (refsize_no h) ?_
    exact Ev.congr (fun k => if_pos rfl) (Ev.now _)
end Go.Proofs.Ytoafbpbnlmcklaa.Pure

namespace Go.Proofs.Ytoafbpbnlmcklaa.Pure
open Go.RowKit Go.Proofs.Ytoafbpbnlmcklaa.PAll Go.Proofs.YtoafbpbnlmcklaaW.PrintWords Go.Proofs.YtoafbpbnlmcklaaW.PrintLast Go.Proofs.YtoafbpbnlmcklaaW.PrintMore
theorem refget_l (b : List Int) (hb : Bs b) (hl : b.length < 1099511627776) : ∀ (d i n : Nat), b.length - i = d → i ≤ b.length → i ≤ 7 → n < 128 ^ i →
    Ev (fun k => colloquyref01_Get.l0 k b (n : Int) (i : Int)) (getR i n (b.drop i)) := by
  intro d
  induction d with
  | zero =>
    intro i n hd hi h7 hn
    have e : i = b.length := by omega
    subst e
    rw [List.drop_length]
    exact Ev.step (f := fun _ => some (0, 0, 3)) (fun k => by rw [colloquyref01_Get.l0, if_pos (by omega), if_pos (by omega)]) (Ev.now _)
  | succ d ih =>
    intro i n hd hi h7 hn
    have hlt : i < b.length := by omega
    have hlt' : (i : Int) < (b.length : Int) := by omega
    have hc := hb.get hlt
    have hp : 128 ^ i ≤ 128 ^ 7 := Nat.pow_le_pow_right (by decide) h7
    have hn7 : n < 562949953421312 := Nat.lt_of_lt_of_le hn hp
    have ew : wrap64 (b.getD i 0) = b.getD i 0 := wrap64_id (by omega) (by omega)
    have e4 := idx_step (Nat.lt_trans hlt hl)
    have hd1 : b.length - (i + 1) = d := by omega
    have hi1 : i + 1 ≤ b.length := by omega
    have w1 : wrap64 ((n : Int) * 128) = (n : Int) * 128 := wrap64_id (by omega) (by omega)
    have w2 : wrap64 ((n : Int) * 128 + b.getD i 0) = (n : Int) * 128 + b.getD i 0 := wrap64_id (by omega) (by omega)
    have w3 : wrap64 ((n : Int) * 128 + b.getD i 0 - 128) = (n : Int) * 128 + b.getD i 0 - 128 := wrap64_id (by omega) (by omega)
    have yes : Ev (fun k => colloquyref01_Get.j1 k b (n : Int) (i : Int) (b.getD i 0) true) (0, 0, 2) :=
      Ev.step (f := fun _ => some (0, 0, 2)) (fun k => by rw [colloquyref01_Get.j1, if_pos rfl]) (Ev.now _)
    have no : (¬ (i = 7 ∧ b.getD i 0 ≥ 128)) → Ev (fun k => colloquyref01_Get.j1 k b (n : Int) (i : Int) (b.getD i 0) false)
        (if b.getD i 0 < 128 then (((n * 128 + (b.getD i 0).toNat : Nat) : Int), ((i + 1 : Nat) : Int), 0) else getR (i + 1) (n * 128 + ((b.getD i 0).toNat - 128)) (b.drop (i + 1))) := by
      intro c2
      by_cases c3 : b.getD i 0 < 128
      · rw [if_pos c3]
        have e : ((n * 128 + (b.getD i 0).toNat : Nat) : Int) = (n : Int) * 128 + b.getD i 0 := by omega
        rw [e]
        exact Ev.step (f := fun _ => some _) (fun k => by rw [colloquyref01_Get.j1, if_neg (by decide), if_pos c3, w1, w2, e4]) (Ev.now _)
      · rw [if_neg c3]
        have e : (n : Int) * 128 + b.getD i 0 - 128 = ((n * 128 + ((b.getD i 0).toNat - 128) : Nat) : Int) := by omega
        have h6 : i ≤ 6 := by
          have : i ≠ 7 := fun z => c2 ⟨z, by omega⟩
          omega
        refine Ev.step (fun k => by rw [colloquyref01_Get.j1, if_neg (by decide), if_neg c3, w1, w2, w3, e4, e]) (ih (i + 1) _ hd1 hi1 (by omega) ?_)
        rw [Nat.pow_succ]
        omega
    rw [drop_cons_getD hlt 0]
    unfold getR
    have lead : ∀ k, colloquyref01_Get.l0 (k + 1) b (n : Int) (i : Int) = colloquyref01_Get.j1 k b (n : Int) (i : Int) (b.getD i 0) (decide (i = 0 ∧ b.getD i 0 = 128) || decide (i = 7 ∧ b.getD i 0 ≥ 128)) := by
      intro k
      rw [colloquyref01_Get.l0, if_pos (by omega), if_neg (by omega), if_pos (Int.natCast_nonneg i), if_pos hlt']
      simp only [rd, Int.toNat_natCast, ew]
      clear yes no w1 w2 w3 e4 hc ew
      generalize b.getD i 0 = c
      by_cases i0 : i = 0
      · subst i0
        by_cases c1 : c = 128
        · rw [if_pos (by rfl), if_pos c1]; simp [c1]
        · rw [if_pos (by rfl), if_neg c1, if_neg (by omega)]; simp [c1]
      · rw [if_neg (by omega)]
        by_cases i7 : i = 7
        · subst i7
          rw [if_pos (by rfl)]; simp
        · rw [if_neg (by omega)]; simp [i0, i7]
    by_cases c1 : i = 0 ∧ b.getD i 0 = 128
    · rw [if_pos c1]
      refine Ev.step lead ?_
      rw [decide_eq_true c1, Bool.true_or]
      exact yes
    rw [if_neg c1]
    by_cases c2 : i = 7 ∧ b.getD i 0 ≥ 128
    · rw [if_pos c2]
      refine Ev.step lead ?_
      rw [decide_eq_true c2, Bool.or_true]
      exact yes
    rw [if_neg c2]
    refine Ev.step lead ?_
    rw [decide_eq_false c1, decide_eq_false c2, Bool.or_false]
    exact no c2
theorem refget_ev {b : List Int} (hb : Bs b) (hl : b.length < 1099511627776) : Ev (fun k => colloquyref01_Get.f k b) (getOf b) := by
  have := refget_l b hb hl b.length 0 0 (by omega) (by omega) (by omega) (by decide)
  simpa [colloquyref01_Get.f, getOf] using this
end Go.Proofs.Ytoafbpbnlmcklaa.Pure

namespace Go.Proofs.Ytoafbpbnlmcklaa.PAll
open Go.RowKit Go.Proofs.YtoafbpbnlmcklaaW.PrintWords Go.Proofs.YtoafbpbnlmcklaaW.PrintLast Go.Proofs.YtoafbpbnlmcklaaW.PrintMore Go.Proofs.Ytoafbpbnlmcklaa.Pure
set_option linter.unusedVariables false
set_option linter.unusedSimpArgs false
theorem set_copy {x : List Int} {j : Nat} (hj : j < x.length) (hj2 : j < 16) : (x.take j ++ List.replicate (16 - j) 0).set j (rd x (j : Int)) = x.take (j + 1) ++ List.replicate (16 - (j + 1)) 0 := by
  have e1 : List.replicate (16 - j) (0 : Int) = 0 :: List.replicate (16 - (j + 1)) 0 := by
    rw [show 16 - j = (16 - (j + 1)) + 1 by omega, List.replicate_succ]
  have e2 : (x.take j).length = j := by rw [List.length_take]; omega
  have e3 : rd x (j : Int) = x[j] := by unfold rd; rw [Int.toNat_natCast, List.getD_eq_getElem?_getD, List.getElem?_eq_getElem hj, Option.getD_some]
  rw [e1, List.set_append_right _ _ (by omega), e2, Nat.sub_self, List.set_cons_zero, e3, List.take_add_one, List.getElem?_eq_getElem hj, Option.toList_some, List.append_assoc]
  rfl
theorem set_mark {x : List Int} {n : Nat} (hn : n ≤ 15) (hx : n ≤ x.length) (mark : Int) : (x.take n ++ List.replicate (16 - n) 0).set 15 mark = x.take n ++ List.replicate (15 - n) 0 ++ [mark] := by
  have e2 : (x.take n).length = n := by rw [List.length_take]; omega
  have e1 : List.replicate (16 - n) (0 : Int) = List.replicate (15 - n) 0 ++ [0] := by
    rw [show 16 - n = (15 - n) + 1 by omega, List.replicate_succ']
  rw [e1, ← List.append_assoc, List.set_append_right _ _ (by rw [List.length_append, List.length_replicate, e2]; omega), List.length_append, List.length_replicate, e2, show 15 - (n + (15 - n)) = 0 by omega, List.set_cons_zero]
theorem sect_l1 (x3 : List Int) (x5 : List (List Int)) (n : Nat) (mark : Int) (hn : n ≤ 15) (hx : n ≤ x3.length) (hlen : x5.length < 100000) (r : List (List Int)) (hnext : Ev (fun k => colloquyref20_sectors.l0 k (x3.drop n) (x5 ++ [x3.take n ++ List.replicate (15 - n) 0 ++ [mark]])) r) :
    ∀ (d j : Nat), n - j = d → j ≤ n → Ev (fun k => colloquyref20_sectors.l1 k x3 x5 (n : Int) mark (x3.take j ++ List.replicate (16 - j) 0) (j : Int)) r
  | 0, j, hd, hj => by
    obtain rfl : j = n := by omega
    refine Ev.step (fun k => ?_) hnext
    have hl : (x3.take j ++ List.replicate (16 - j) (0 : Int)).length = 16 := by rw [List.length_append, List.length_replicate, List.length_take]; omega
    rw [colloquyref20_sectors.l1, if_neg (by omega), if_pos (by rw [hl]; omega), if_pos (by omega), if_pos (by omega), if_pos (by omega), Int.toNat_natCast, show (15 : Int).toNat = 15 from rfl, set_mark hn hx]
  | d + 1, j, hd, hj => by
    refine Ev.step (fun k => ?_) (sect_l1 x3 x5 n mark hn hx hlen r hnext d (j + 1) (by omega) (by omega))
    have hl : (x3.take j ++ List.replicate (16 - j) (0 : Int)).length = 16 := by rw [List.length_append, List.length_replicate, List.length_take]; omega
    rw [colloquyref20_sectors.l1, if_pos (by omega), if_pos (by omega), if_pos (by omega), if_pos (by rw [hl]; omega), Int.toNat_natCast, set_copy (by omega) (by omega), idx_step (by omega)]
theorem partF_piece (b : List Int) {i : Nat} (hi : i < nParts b) : partF b i = ((enc b.length ++ b).drop (15 * i)).take 15 ++ List.replicate (15 - ((enc b.length ++ b).drop (15 * i)).length) 0 ++ [if i + 1 = nParts b then 2 else 1] := by
  have hP := bodyF_mod b
  have hL : (enc b.length ++ b).length = sz b.length + b.length := by rw [List.length_append, enc_length]
  have hn := nParts_eq b
  unfold partF pieceF
  congr 1
  unfold bodyF padF
  obtain ⟨y, hy⟩ : ∃ y, y = enc b.length ++ b := ⟨_, rfl⟩
  rw [← hy] at hL ⊢
  have hyl : 15 * i ≤ y.length := by omega
  rw [List.drop_append_of_le_length hyl, List.take_append, List.take_replicate]
  congr 2
  rw [List.length_drop]
  omega
theorem sect_l0 (b : List Int) (hb : b.length ≤ 100000) : ∀ (d i : Nat), nParts b - i = d → i ≤ nParts b → Ev (fun k => colloquyref20_sectors.l0 k ((enc b.length ++ b).drop (15 * i)) ((partsF b).take i)) (partsF b)
  | 0, i, hd, hi => by
    obtain rfl : i = nParts b := by omega
    refine Ev.step (f := fun _ => some (partsF b)) (fun k => ?_) (Ev.now _)
    have hn := nParts_eq b
    rw [colloquyref20_sectors.l0, if_neg (by rw [List.length_drop, List.length_append, enc_length]; omega), List.take_of_length_le (by rw [partsF_len]; exact Nat.le_refl _)]
  | d + 1, i, hd, hi => by
    have hn := nParts_eq b
    have hpos := sz_pos b.length
    have hlt : i < nParts b := by omega
    obtain ⟨x, hx⟩ : ∃ x, x = (enc b.length ++ b).drop (15 * i) := ⟨_, rfl⟩
    have hxl : x.length = sz b.length + b.length - 15 * i := by rw [hx, List.length_drop, List.length_append, enc_length]
    have hsz : sz b.length ≤ 9 := by
      have := sz_mono (show b.length ≤ 100000 from hb)
      have : sz 100000 = 3 := by rw [sz_ge (by decide), sz_ge (by decide), sz_lt (by decide)]
      omega
    have hpl : ((partsF b).take i).length = i := by rw [List.length_take, partsF_len]; omega
    have hstep := sect_l0 b hb d (i + 1) (by omega) (by omega)
    have htk : (partsF b).take (i + 1) = (partsF b).take i ++ [partF b i] := by rw [List.take_add_one, partsF_get hlt]; rfl
    rw [htk] at hstep
    have hpp := partF_piece b hlt
    rw [← hx] at hpp ⊢
    by_cases c : i + 1 = nParts b
    · rw [if_pos c, List.take_of_length_le (by omega)] at hpp
      have hdrop : (enc b.length ++ b).drop (15 * (i + 1)) = x.drop x.length := by
        rw [List.drop_of_length_le (Nat.le_refl _), List.drop_of_length_le (by rw [List.length_append, enc_length]; omega)]
      rw [hdrop, hpp] at hstep
      have h1 := sect_l1 x ((partsF b).take i) x.length 2 (by omega) (Nat.le_refl _) (by omega) (partsF b) (by rw [List.take_of_length_le (Nat.le_refl _)]; exact hstep) (x.length - 0) 0 rfl (Nat.zero_le _)
      refine Ev.step (fun k => ?_) (Ev.step (fun k => ?_) h1) (f := fun k => colloquyref20_sectors.j1 k x ((partsF b).take i) (x.length : Int) 2)
      · rw [colloquyref20_sectors.l0, if_pos (by omega), if_pos (by omega)]
      · rw [colloquyref20_sectors.j1, if_pos (by decide)]
        rfl
    · rw [if_neg c] at hpp
      have hdrop : (enc b.length ++ b).drop (15 * (i + 1)) = x.drop 15 := by rw [hx, List.drop_drop]; rfl
      rw [hdrop, hpp] at hstep
      have h1 := sect_l1 x ((partsF b).take i) 15 1 (by omega) (by omega) (by omega) (partsF b) (by rw [show 15 - x.length = 15 - 15 by omega] at hstep; exact hstep) 15 0 rfl (Nat.zero_le _)
      refine Ev.step (fun k => ?_) (Ev.step (fun k => ?_) h1) (f := fun k => colloquyref20_sectors.j1 k x ((partsF b).take i) 15 1)
      · rw [colloquyref20_sectors.l0, if_pos (by omega), if_neg (by omega)]
      · rw [colloquyref20_sectors.j1, if_pos (by decide)]
        rfl
theorem sects_k (b : List Int) (hb : b.length ≤ 100000) : ∃ k, colloquyref20_sectors.f k b = some (partsF b) := by
  obtain ⟨k1, h1⟩ := refput_ev (b.length : Int)
  obtain ⟨k2, h2⟩ := sect_l0 b hb (nParts b) 0 (by omega) (Nat.zero_le _)
  refine ⟨max k1 k2, ?_⟩
  have h1' : colloquyref01_Put.f (max k1 k2) (b.length : Int) = some (putOf (b.length : Int)) := h1 (max k1 k2) (by omega)
  have h2' := h2 (max k1 k2) (by omega)
  have hp : putOf (b.length : Int) = (enc b.length, 0) := by rw [putOf, if_pos ⟨by omega, by omega⟩, Int.toNat_natCast]
  rw [hp] at h1'
  rw [colloquyref20_sectors.f, h1']
  have hsz : sz b.length ≤ 9 := by
    have := sz_mono (show b.length ≤ 100000 from hb)
    have : sz 100000 = 3 := by rw [sz_ge (by decide), sz_ge (by decide), sz_lt (by decide)]
    omega
  show (if (enc b.length).length + b.length < 140737488355328 then _ else _) = _
  rw [if_pos (by rw [enc_length]; omega)]
  exact h2'
end Go.Proofs.Ytoafbpbnlmcklaa.PAll

namespace Go.Proofs.Ytoafbpbnlmcklaa.PAll
open Go.RowKit Go.Proofs.YtoafbpbnlmcklaaW.PrintWords Go.Proofs.YtoafbpbnlmcklaaW.PrintLast Go.Proofs.YtoafbpbnlmcklaaW.PrintMore Go.Proofs.Ytoafbpbnlmcklaa.Pure
set_option linter.unusedVariables false
set_option linter.unusedSimpArgs false
theorem refwrite_tot (base D m j : Nat) (AS : Option Addr) (cS : Nat) (vW : Value) (S : List (List Int)) (W : List (Int × List Int)) (i : Int) (b : List Int) (Ab : Option Addr) (n cb : Nat) (w : World) (h : RefAt base D (.slice AS m cS) vW S W w) (hp : Parts m j S W) (hj : j < 1099511627776) (hC : Kd.C (Kd.int .u8) w Ab n b) :
    Calls Try.prog 19 #[.pointer (some ⟨D, 0, none⟩), .int .i64 i, .slice Ab n cb] w fun x w' => x = .returned (.int .i64 (writeE S i b)) ∧ ∃ vW', RefAt base D (.slice AS m cS) vW' S (writeW S W i b) w' ∧ RTouch D (.slice AS m cS) vW w w' ∧ (∀ k, InR D (.slice AS m cS) vW' k → InR D (.slice AS m cS) vW k ∨ w.heap.size ≤ k) := by
  obtain rfl : b.length = n := hC.1
  obtain rfl : S.length = m := hp.len
  by_cases c : 0 ≤ i ∧ i < (S.length : Int) ∧ b.length = 16
  · obtain ⟨c0, c1, c2⟩ := c
    rw [writeE, if_pos ⟨c0, c1, c2⟩, writeW, if_pos ⟨c0, c1, c2⟩]
    rw [c2] at hC ⊢
    refine (refwrite_yes base D AS cS vW S W i b Ab cb w h hC (decide_eq_false (by omega)) (decide_eq_false (by omega)) (Nat.lt_of_le_of_lt hp.few hj)).mono ?_
    rintro x w' ⟨rfl, vW', h1, h2, h3⟩
    refine ⟨rfl, vW', h1, h2, fun k hk => ?_⟩
    rcases hk with hk | hk | hk
    · exact .inl (.inl hk)
    · exact .inl (.inr (.inl hk))
    · rcases h3 k hk with h4 | h4
      · exact .inl (.inr (.inr h4))
      · exact .inr h4
  · rw [writeE, if_neg c, writeW, if_neg c]
    refine (refwrite_no base D AS cS vW Ab S W i b.length cb w h ?_).mono ?_
    · by_cases c0 : i < 0
      · exact .inl (decide_eq_true c0)
      · by_cases c1 : i < (S.length : Int)
        · exact .inr (.inr ⟨decide_eq_false c0, decide_eq_false (by omega), bne_iff_ne.mpr (fun e => c ⟨by omega, c1, by omega⟩)⟩)
        · exact .inr (.inl ⟨decide_eq_false c0, decide_eq_true (by omega)⟩)
    · rintro x w' ⟨rfl, rfl⟩
      exact ⟨rfl, vW, h, RTouch.refl _ _ _ _, fun k hk => .inl hk⟩
theorem refread_tot (base D m j : Nat) (AS : Option Addr) (cS : Nat) (vW : Value) (S : List (List Int)) (W : List (Int × List Int)) (i : Int) (w : World) (h : RefAt base D (.slice AS m cS) vW S W w) (hp : Parts m j S W) (hj : j < 1099511627776) :
    Calls Try.prog 38 #[.pointer (some ⟨D, 0, none⟩), .int .i64 i] w fun x w' => ∃ v, x = .returned (.tuple #[v, .int .i64 (readE S i)]) ∧ Kd.R (Kd.int .u8) 5 w' w.heap.size (fun _ => True) v (readL S W i) ∧ Below w.heap.size w w' := by
  obtain rfl : S.length = m := hp.len
  exact refread_walk base D S.length j AS cS vW S W i w h hp hj
/-- Where its own blocks, and those of bytes, are kept. -/
theorem RefAt.moveF {base D : Nat} {vS vW : Value} {S : List (List Int)} {W : List (Int × List Int)} {w w' : World} (h : RefAt base D vS vW S W w) (hm : ∀ k, InR D vS vW k → w'.heap[k]? = w.heap[k]?) (h5 : ∀ (k : Nat) (cells : Array Value), w.heap[k]? = some (Obj.cells cells 5 (0, 0)) → w'.heap[k]? = w.heap[k]?) : RefAt base D vS vW S W w' :=
  ⟨(hm D (.inl rfl)).trans h.blk, h.le, R_moveE h.rs (fun k hk => hm k (.inr (.inl hk))) (fun k cells q hq hc => by
    rcases List.mem_cons.1 hq with e | hq
    · subst e; exact h5 k cells hc
    · cases hq), R_moveE h.rw (fun k hk => hm k (.inr (.inr hk))) (fun k cells q hq hc => by
    rcases List.mem_cons.1 hq with e | hq
    · subst e; exact h5 k cells hc
    · cases hq)⟩
/-- The record that sectors begin with, and how many it has. -/
def recS : List (List Int) → List Int → Nat → Option (List Int × Nat)
  | [], _, _ => none
  | s :: T, x, n => if markF s = 1 then recS T (x ++ s.take 15) (n + 1) else if markF s = 2 then (recordF (x ++ s.take 15)).map fun b => (b, n + 1) else none
def recN : Option (List Int × Nat) → Nat
  | none => 0
  | some p => p.2
theorem recS_lt : ∀ (T : List (List Int)) (x : List Int) (n : Nat) (b : List Int) (m : Nat), recS T x n = some (b, m) → n < m ∧ m - n ≤ T.length
  | [], _, _, _, _, h => by cases h
  | s :: T, x, n, b, m, h => by
    rw [recS] at h
    split at h
    · obtain ⟨h1, h2⟩ := recS_lt T _ _ b m h
      rw [List.length_cons]; omega
    · split at h
      · cases hr : recordF (x ++ s.take 15) with
        | none => rw [hr] at h; cases h
        | some b' => rw [hr] at h; cases h; rw [List.length_cons]; omega
      · cases h
theorem scan_recS : ∀ (T : List (List Int)) (i : Nat) (x : List Int) (l : List (List Int)) (u n : Nat), scanF T i x l u = match recS T x n with | none => (l, u) | some (b, m) => scanF (T.drop (m - n)) (i + (m - n)) [] (l ++ [b]) (i + (m - n))
  | [], _, _, _, _, _ => rfl
  | s :: T, i, x, l, u, n => by
    rw [scanF, recS]
    by_cases c1 : markF s = 1
    · rw [if_pos c1, if_pos c1, scan_recS T (i + 1) _ l u (n + 1)]
      cases hr : recS T (x ++ s.take 15) (n + 1) with
      | none => rfl
      | some p =>
        obtain ⟨b, m⟩ := p
        have := (recS_lt T _ _ b m hr).1
        show scanF (T.drop (m - (n + 1))) (i + 1 + (m - (n + 1))) [] (l ++ [b]) (i + 1 + (m - (n + 1))) = scanF ((s :: T).drop (m - n)) (i + (m - n)) [] (l ++ [b]) (i + (m - n))
        rw [show m - n = (m - (n + 1)) + 1 by omega, List.drop_succ_cons, show i + 1 + (m - (n + 1)) = i + ((m - (n + 1)) + 1) by omega]
    · rw [if_neg c1, if_neg c1]
      by_cases c2 : markF s = 2
      · rw [if_pos c2, if_pos c2]
        cases hr : recordF (x ++ s.take 15) with
        | none => rfl
        | some b =>
          show scanF T (i + 1) [] (l ++ [b]) (i + 1) = scanF ((s :: T).drop (n + 1 - n)) (i + (n + 1 - n)) [] (l ++ [b]) (i + (n + 1 - n))
          rw [show n + 1 - n = 1 by omega]
          rfl
      · rw [if_neg c2, if_neg c2]
theorem recS_at {T : List (List Int)} {j : Nat} {s : List Int} (hs : T[j]? = some s) (x : List Int) (n : Nat) : recS (T.drop j) x n = if markF s = 1 then recS (T.drop (j + 1)) (x ++ s.take 15) (n + 1) else if markF s = 2 then (recordF (x ++ s.take 15)).map fun b => (b, n + 1) else none := by
  have hlt : j < T.length := (List.getElem?_eq_some_iff.1 hs).1
  have e : T[j] = s := (List.getElem?_eq_some_iff.1 hs).2
  rw [List.drop_eq_getElem_cons hlt, e, recS]
end Go.Proofs.Ytoafbpbnlmcklaa.PAll

namespace Go.Proofs.Ytoafbpbnlmcklaa.PAll
open Go.RowKit Go.Proofs.YtoafbpbnlmcklaaW.PrintWords Go.Proofs.YtoafbpbnlmcklaaW.PrintLast Go.Proofs.YtoafbpbnlmcklaaW.PrintMore Go.Proofs.Ytoafbpbnlmcklaa.Pure
set_option linter.unusedVariables false
set_option linter.unusedSimpArgs false
set_option maxHeartbeats 16000000 in
set_option maxRecDepth 100000 in
theorem refrec_walk (base D m q fr : Nat) (AS : Option Addr) (cS : Nat) (vW : Value) (S : List (List Int)) (W : List (Int × List Int)) (w : World) (h : RefAt base D (.slice AS m cS) vW S W w) (hp : Parts m q S W) (hm : m ≤ 512) (hq : q ≤ 1000000) (hbs : ∀ s ∈ applyW S W, Bs s) (hf : fr ≤ m) :
    Calls Try.prog 37 #[.pointer (some ⟨D, 0, none⟩), .int .i64 (fr : Int)] w fun e w' => ∃ v, e = .returned (.tuple #[v, .int .i64 ((recN (recS ((applyW S W).drop fr) [] 0) : Nat) : Int)]) ∧ (∀ b n, recS ((applyW S W).drop fr) [] 0 = some (b, n) → Kd.R (Kd.int .u8) 5 w' w.heap.size (fun _ => True) v b) ∧ Below w.heap.size w w' := by
  obtain ⟨T, hT⟩ : ∃ T, T = applyW S W := ⟨_, rfl⟩
  have hTl : T.length = m := by rw [hT, applyW_len]; exact hp.len
  rw [← hT] at hbs ⊢
  obtain ⟨r, hr⟩ : ∃ r, r = recS (T.drop fr) [] 0 := ⟨_, rfl⟩
  rw [← hr]
  obtain ⟨N, hN⟩ : ∃ N : Nat, N = recN r := ⟨_, rfl⟩
  rw [← hN]
  have HTe := Aside0.mk hT
  have HTl := Aside0.mk hTl
  have HBS := Aside0.mk hbs
  have HRe := Aside0.mk hr
  have HNe := Aside0.mk hN
  have HR := Aside0.mk h
  have HP := Aside0.mk hp
  have HM := Aside0.mk hm
  have HQ := Aside0.mk hq
  have HF := Aside0.mk hf
  obtain ⟨i5, hi5, hz5⟩ := info5w
  have HI5 := Aside0.mk hi5
  clear hT hTl hbs hr hN h hp hm hq hf
  go_enter Try.func37, Try.ntmps37
  go_wp2_with fail
  go_loopg [6, 7] (m + 1 - fr) (fun kq v6 v7 w' => ∃ (j nx : Nat) (x : List Int) (Ax : Option Addr) (cx : Nat), v6 = .slice Ax nx cx ∧ v7 = .int .i64 ((fr + j : Nat) : Int) ∧ Aside0 (j + kq = m + 1 - fr) ∧ Aside0 (Kd.R (Kd.int .u8) 5 w' w.heap.size (fun _ => True) (.slice Ax nx cx) x) ∧ Aside0 (recS (T.drop (fr + j)) x j = r) ∧ Aside0 (Bs x ∧ nx = x.length) ∧ Aside0 (nx = 15 * j ∧ fr + j ≤ m) ∧ Aside0 (Below w.heap.size w w'))
  case atStart => exact ⟨0, 0, [], none, 0, rfl, rfl, ⟨by omega⟩, ⟨Kd.R_nil _ _ _ _ _⟩, ⟨HRe.out.symm⟩, ⟨Bs.nil, rfl⟩, ⟨rfl, HF.out⟩, ⟨Below.refl _ _⟩⟩
  case round =>
    obtain ⟨j, nx, x, Ax, cx, rfl, rfl, HJ, HX, HRC, HXX, HN15, HB⟩ := hrel
    obtain ⟨k1, rfl⟩ : ∃ k1, gk = k1 + 1 := ⟨gk - 1, by have := HJ.out; have := HN15.out; have := HF.out; omega⟩
    by_cases hlt : fr + j < m
    · have HLT := Aside0.mk hlt
      obtain ⟨hre, hrg, hrl⟩ := readL_get HP.out hlt
      rw [← HTe.out] at hrg
      obtain ⟨s, hs⟩ : ∃ s, s = readL S W ((fr + j : Nat) : Int) := ⟨_, rfl⟩
      rw [← hs] at hrg hrl
      have HS := Aside0.mk hs
      have HSG := Aside0.mk hrg
      have HSL := Aside0.mk hrl
      have HSB := Aside0.mk (HBS.out s (List.mem_of_getElem? hrg))
      have HRE := Aside0.mk hre
      clear hlt hre hrg hrl hs
      go_wp2_with fail
      refine (refread_tot base D m q AS cS vW S W ((fr + j : Nat) : Int) wr (HR.out.below HB.out) HP.out (by have := HQ.out; omega)).mono ?_
      rintro e w2 ⟨v2, rfl, ho2, hb2⟩
      rw [← HS.out] at ho2
      rw [HRE.out]
      obtain ⟨gs, cs, curS, e2, hgs, hbs, hls⟩ := own5 ho2 (by rw [HSL.out]; decide)
      rw [HSL.out] at e2
      subst e2
      have HO2 := Aside0.mk ho2
      have HGS := Aside0.mk hgs
      have HX2 := Aside0.mk (Kd.R_below HX.out hb2)
      have HB2 := Aside0.mk (below_then HB.out HB.out.size hb2)
      have HC15 := Aside0.mk (show Kd.C (Kd.int .u8) w2 (some ⟨gs, 0, none⟩) 15 (s.take 15) from by
        have h1 : Kd.C (Kd.int .u8) w2 (some ⟨gs, 0, none⟩) s.length s := (Kd.R_reads' HO2.out).2.2
        have h2 := Kd.C_take h1 (m := 15) (by rw [HSL.out]; decide)
        rwa [List.length_take, HSL.out] at h2)
      have hcut := cut_to (P := Try.prog) 28 5 .i64 Try.underlying28 HI5.out (some ⟨gs, 0, none⟩) 16 cs 15 (by decide) (by decide) (Kd.R_reads' HO2.out).2.1
      rw [show (15 : Int).toNat = 15 from rfl] at hcut
      have HXW := Aside0.mk (show ∀ k, (Value.slice Ax nx cx).ownBlock = some k → k < wr.heap.size from Kd.R_lt HX.out)
      have HM15 := Aside0.mk (show w2.cell? ⟨gs, 15, none⟩ = some (.int .u8 (markF s)) from by
        obtain ⟨ad, ea, hc⟩ := Kd.at_int (Kd.R_reads' HO2.out).2.2 15 (by decide) (by rw [HSL.out]; decide)
        cases ea
        rw [add_plain] at hc
        exact hc)
      clear ho2 hb2 hgs hbs hls
      have qm2 := HM15.out
      have HNX := Aside0.mk (show nx + 15 ≤ 1000000 by have := HN15.out; have := HLT.out; have := HM.out; omega)
      by_cases c1 : markF s = 1
      · have HC1 := Aside0.mk c1
        have cb1 : (markF s == 1) = true := beq_iff_eq.mpr c1
        have cn1 : (markF s != 1) = false := by rw [c1]; rfl
        have cn2 : (markF s != 2) = true := by rw [c1]; rfl
        have cb2 : (markF s == 2) = false := by rw [c1]; rfl
        clear c1
        go_wp2_with ((with_reducible refine gate_builtin (b := .append) (xs := #[.tmp 40, .tmp 42]) rfl ?_); at_builtin; refine Kd.R_append_rows (Kd.int .u8) (w0 := w) w.heap.size rfl (.tmp 40) (.tmp 42) 28 5 (.int .u8 0) 1 rfl Try.underlying28 info5 rfl (by decide) (by omega) (.slice Ax nx cx) x (s.take 15) (some ⟨gs, 0, none⟩) 15 cs (fun _ => True) (fun _ => False) rfl rfl HX2.out HC15.out (fun _ _ h => h) (fun _ h => h.elim) (fun _ _ => trivial) HB2.out HB2.out.size (by have := HXX.out; have := HNX.out; omega) ?_; intro v3 w3 ho3 hb3 hg3 hat3; have HX3 := Aside0.mk ho3; have HB3 := Aside0.mk hb3; have HM3 := Aside0.mk (cell_grown hg3 HM15.out (fun e => by have := HXW.out gs e.symm; have := HGS.out; omega)); clear ho3 hb3 hg3 hat3 hcut; obtain ⟨Ax3, cx3, e3⟩ := Kd.R_slice HX3.out; rw [List.length_append, ← HXX.out.2, List.length_take, HSL.out, show min 15 16 = 15 from rfl] at e3; subst e3; have qm := HM3.out; have HX15 := Aside0.mk (show Bs (x ++ s.take 15) ∧ (x ++ s.take 15).length = nx + 15 from ⟨HXX.out.1.append (HSB.out.take 15), by rw [List.length_append, List.length_take, HSL.out, ← HXX.out.2]; rfl⟩))
        clear qm
        go_roundg k1
        case measure => omega
        case rel =>
          refine ⟨j + 1, nx + 15, x ++ s.take 15, Ax3, cx3, rfl, congrArg (Value.int .i64) (widx (by have := HLT.out; have := HM.out; omega)), ⟨by have := HJ.out; omega⟩, HX3, ⟨?_⟩, ⟨HX15.out.1, HX15.out.2.symm⟩, ⟨by have := HN15.out; omega, by have := HLT.out; omega⟩, HB3⟩
          rw [← HRC.out, recS_at HSG.out, if_pos HC1.out]
          rfl
      have HC1 := Aside0.mk c1
      have cn1 : (markF s != 1) = true := bne_iff_ne.mpr c1
      clear c1
      by_cases c2 : markF s = 2
      · have HC2 := Aside0.mk c2
        have cn2 : (markF s != 2) = false := by rw [c2]; rfl
        have cb2 : (markF s == 2) = true := beq_iff_eq.mpr c2
        clear c2
        have HRr := Aside0.mk (show r = (recordF (x ++ s.take 15)).map (fun b => (b, j + 1)) by rw [← HRC.out, recS_at HSG.out, if_neg HC1.out, if_pos HC2.out])
        go_wp2_with ((with_reducible refine gate_builtin (b := .append) (xs := #[.tmp 40, .tmp 42]) rfl ?_); at_builtin; refine Kd.R_append_rows (Kd.int .u8) (w0 := w) w.heap.size rfl (.tmp 40) (.tmp 42) 28 5 (.int .u8 0) 1 rfl Try.underlying28 info5 rfl (by decide) (by omega) (.slice Ax nx cx) x (s.take 15) (some ⟨gs, 0, none⟩) 15 cs (fun _ => True) (fun _ => False) rfl rfl HX2.out HC15.out (fun _ _ h => h) (fun _ h => h.elim) (fun _ _ => trivial) HB2.out HB2.out.size (by have := HXX.out; have := HNX.out; omega) ?_; intro v3 w3 ho3 hb3 hg3 hat3; have HX3 := Aside0.mk ho3; have HB3 := Aside0.mk hb3; have HM3 := Aside0.mk (cell_grown hg3 HM15.out (fun e => by have := HXW.out gs e.symm; have := HGS.out; omega)); clear ho3 hb3 hg3 hat3 hcut; obtain ⟨Ax3, cx3, e3⟩ := Kd.R_slice HX3.out; rw [List.length_append, ← HXX.out.2, List.length_take, HSL.out, show min 15 16 = 15 from rfl] at e3; subst e3; have qm := HM3.out; have HX15 := Aside0.mk (show Bs (x ++ s.take 15) ∧ (x ++ s.take 15).length = nx + 15 from ⟨HXX.out.1.append (HSB.out.take 15), by rw [List.length_append, List.length_take, HSL.out, ← HXX.out.2]; rfl⟩))
        clear qm
        obtain ⟨x', hx'⟩ : ∃ x', x' = x ++ s.take 15 := ⟨_, rfl⟩
        rw [← hx'] at HX3 HX15 HRr
        clear hx'
        obtain ⟨ny, hny⟩ : ∃ ny, ny = nx + 15 := ⟨_, rfl⟩
        have HNY := Aside0.mk (show ny ≤ 1000000 by rw [hny]; exact HNX.out)
        rw [← hny] at HX3 HX15 ⊢
        clear hny
        obtain ⟨kg, hkg⟩ := (refget_ev HX15.out.1 (by rw [HX15.out.2]; have := HNY.out; omega)).rounds
        go_wp2_with fail
        refine (calls_of_args (by rw [HX15.out.2]) (colloquyref01_Get.calls kg Ax3 cx3 x' (getOf x').1 (getOf x').2.1 (getOf x').2.2 w3 (by rw [HX15.out.2]; have h := (Kd.R_reads' HX3.out).2.2; rw [HX15.out.2] at h; exact h) (by rw [HX15.out.2]; exact (Kd.R_reads' HX3.out).2.1) hkg)).mono ?_
        rintro e w4 ⟨rfl, ⟨q4, hw4⟩⟩
        have HX4 := Aside0.mk (show Kd.R (Kd.int .u8) 5 w4 w.heap.size (fun _ => True) (.slice Ax3 ny cx3) x' by rw [hw4]; exact Kd.R_drewN HX3.out _)
        have HB4 := Aside0.mk (show Below w.heap.size w w4 by rw [hw4]; exact pw_below_drewN HB3.out _)
        clear hw4 hkg
        by_cases h0 : (getOf x').2.2 = 0
        · obtain ⟨mb, hmb, hg, hs1, hs2, _⟩ := getOf_pos HX15.out.1 h0
          have HG := Aside0.mk hg
          have HS1 := Aside0.mk (show sz mb ≤ 8 from sz_le8 hmb)
          have HMB := Aside0.mk hmb
          rw [hg]
          obtain ⟨kk, hkk⟩ : ∃ kk, kk = sz mb := ⟨_, rfl⟩
          rw [← hkk] at HG HS1 ⊢
          clear hg h0 hs1 hs2 hmb hkk
          by_cases h1 : mb ≤ 1024
          · by_cases h2 : kk + mb ≤ ny
            · have l1 : decide ((mb : Int) > 1024) = false := decide_eq_false (by omega)
              have l2 : wrap64 ((kk : Int) + (mb : Int)) = (kk : Int) + (mb : Int) := by unfold wrap64; have := HS1.out; omega
              have l3 : decide ((kk : Int) + (mb : Int) > (ny : Int)) = false := decide_eq_false (by omega)
              have l4 : decide (kk + mb > ny) = false := decide_eq_false (by omega)
              have l6 : (kk : Int) + (mb : Int) ≤ 9223372036854775807 := by have := HS1.out; omega
              have hcut2 := cut_mid (P := Try.prog) 28 5 .i64 .i64 Try.underlying28 HI5.out 1 hz5 Ax3 ny cx3 (kk : Int) ((kk : Int) + (mb : Int)) (by omega) (by omega) (by omega) (Kd.R_reads' HX3.out).2.1
              have e1 : ((kk : Int) + (mb : Int)).toNat - (kk : Int).toNat = mb := by omega
              rw [e1, Int.toNat_natCast] at hcut2
              obtain ⟨A1, hA1⟩ : ∃ A1, A1 = (if cx3 = kk then Ax3 else Ax3.map (·.add (kk * 1))) := ⟨_, rfl⟩
              rw [← hA1] at hcut2
              obtain ⟨b, hb⟩ : ∃ b, b = (x'.drop kk).take mb := ⟨_, rfl⟩
              have HBL := Aside0.mk (show b.length = mb by rw [hb, List.length_take, List.length_drop, HX15.out.2]; omega)
              have HBb := Aside0.mk hb
              have HCB := Aside0.mk (show Kd.C (Kd.int .u8) w4 A1 mb b from by
                have h1 := Kd.C_drop (show Kd.C (Kd.int .u8) w4 Ax3 x'.length x' by rw [HX15.out.2]; have h := (Kd.R_reads' HX4.out).2.2; rw [HX15.out.2] at h; exact h) (m := kk) (c := cx3) (by rw [HX15.out.2]; omega) (by rw [HX15.out.2]; exact (Kd.R_reads' HX3.out).2.1)
                have h2 := Kd.C_take h1 (m := mb) (by rw [List.length_drop, HX15.out.2]; omega)
                rw [← HBb.out, HBL.out] at h2
                rw [hA1]
                exact h2)
              have HRb := Aside0.mk (show recordF x' = if bodyF b = x' then some b else none by
                unfold recordF
                rw [HG.out]
                simp only [Int.toNat_natCast]
                rw [← HBb.out]
                by_cases h3 : bodyF b = x'
                · rw [if_pos h3, if_pos ⟨trivial, by omega, by rw [HX15.out.2]; omega, h3⟩]
                · rw [if_neg h3, if_neg (fun h => h3 h.2.2.2)])
              have HBB := Aside0.mk (show Bs b by rw [hb]; exact (HX15.out.1.drop _).take _)
              have l5 : decide (1024 < mb) = false := decide_eq_false (by omega)
              have H1 := Aside0.mk h1
              have H2 := Aside0.mk h2
              clear h1 h2 hA1 hb e1
              go_wp2_with ((with_reducible refine gate_builtin (b := .append) (xs := #[.const (.slice none 0 0), .tmp 73]) rfl ?_); at_builtin; refine Kd.R_append_rows (Kd.int .u8) (w0 := w) w.heap.size rfl (.const (.slice none 0 0)) (.tmp 73) 28 5 (.int .u8 0) 1 rfl Try.underlying28 info5 rfl (by decide) (by omega) (.slice none 0 0) [] b A1 mb (cx3 - kk) (fun _ => True) (fun _ => False) rfl rfl (Kd.R_nil _ _ _ _ _) HCB.out (fun _ _ h => h) (fun _ h => h.elim) (fun _ _ => trivial) HB4.out HB4.out.size ?aL ?_; (case aL => have := H1.out; simp; omega); intro v5 w5 ho5 hb5 hg5 hat5; have HO5 := Aside0.mk (show Kd.R (Kd.int .u8) 5 w5 w.heap.size (fun _ => True) v5 b from ho5); have HB5 := Aside0.mk hb5; have HX5 := Aside0.mk (Kd.R_grown HX4.out hg5 (fun k hk e => by cases e)); clear ho5 hb5 hg5 hat5; obtain ⟨A5, c5, e5⟩ := Kd.R_slice HO5.out; rw [HBL.out] at e5; subst e5)
              obtain ⟨ks, hks⟩ := sects_k b (by rw [HBL.out]; have := H1.out; omega)
              refine (calls_of_args (by rw [HBL.out]) (colloquyref20_sectors.calls ks A5 c5 b (partsF b) w5 (by rw [HBL.out]; have h := (Kd.R_reads' HO5.out).2.2; rw [HBL.out] at h; exact h) (by rw [HBL.out]; exact (Kd.R_reads' HO5.out).2.1) hks)).mono ?_
              rintro e w6 ⟨v6, rfl, hs6, hb6⟩
              have ho6 := Kd.S_R hs6
              obtain ⟨A6, c6, e6⟩ := Kd.R_slice ho6
              obtain ⟨qb, hqb⟩ : ∃ qb, qb = nParts b := ⟨_, rfl⟩
              rw [partsF_len, ← hqb] at e6
              subst e6
              have HQB := Aside0.mk hqb
              have HQ1 := Aside0.mk (show qb ≤ 1024 by rw [hqb, nParts_eq, HBL.out]; have := sz_small H1.out; have := H1.out; omega)
              have HXL := Aside0.mk (show (bodyF b).length = 15 * qb by rw [hqb]; exact bodyF_mod b)
              have HPF := Aside0.mk (Kd.F_mono (Kd.F_bound (Kd.R_F ho6)) (fun k hk => hk.2))
              have HX6 := Aside0.mk (Kd.R_below HX5.out hb6)
              have HO6 := Aside0.mk (Kd.R_below HO5.out hb6)
              have HB6 := Aside0.mk (below_then HB5.out HB5.out.size hb6)
              clear ho6 hs6 hb6 hqb hks hcut2
              go_wp2_with fail
              go_loopg [15, 16] qb (fun kq v15 v16 w' => ∃ (jj : Nat) (Aa : Option Addr) (ca : Nat), v15 = .slice Aa (15 * jj) ca ∧ v16 = .int .i64 (jj : Int) ∧ Aside0 (jj + kq = qb) ∧ Aside0 (Kd.F (Kd.slice 5 (Kd.int .u8)) w' (fun k => k < w6.heap.size) A6 qb (partsF b)) ∧ Aside0 (Kd.R (Kd.int .u8) 5 w' w6.heap.size (fun _ => True) (.slice Aa (15 * jj) ca) ((bodyF b).take (15 * jj))) ∧ Aside0 (Below w6.heap.size w6 w'))
              case atStart => exact ⟨0, none, 0, rfl, rfl, ⟨by omega⟩, HPF, ⟨Kd.R_nil _ _ _ _ _⟩, ⟨Below.refl _ _⟩⟩
              case round =>
                obtain ⟨jj, Aa, ca, rfl, rfl, HJJ, HFw, HRw, HBw⟩ := hrel
                by_cases hlt : jj < qb
                · obtain ⟨ad, Aj, cj, e0, hx0, hlj, hCj⟩ := at_L1 (Kd.F_now HFw.out) (jj : Int) (by omega) (by omega)
                  subst e0
                  rw [Int.toNat_natCast] at hx0
                  have hp : rd_L1 (partsF b) (jj : Int) = partF b jj := by
                    unfold rd_L1
                    rw [Int.toNat_natCast, List.getD_eq_getElem?_getD, partsF_get (by rw [← HQB.out]; exact hlt), Option.getD_some]
                  have hpl : (partF b jj).length = 16 := partF_len (by rw [← HQB.out]; exact hlt)
                  rw [hp, hpl] at hx0 hlj hCj
                  have HCJ := Aside0.mk (show Kd.C (Kd.int .u8) wr Aj 15 (pieceF (bodyF b) jj) from by
                    have h1 : Kd.C (Kd.int .u8) wr Aj (partF b jj).length (partF b jj) := by rw [hpl]; exact hCj
                    have h2 := Kd.C_take h1 (m := 15) (by omega)
                    have h3 : (partF b jj).take 15 = pieceF (bodyF b) jj := by
                      unfold partF
                      rw [List.take_append_of_le_length (by rw [pieceF_len HXL.out hlt]; exact Nat.le_refl _), List.take_of_length_le (by rw [pieceF_len HXL.out hlt]; exact Nat.le_refl _)]
                    rw [h3, pieceF_len HXL.out hlt] at h2
                    exact h2)
                  have hcutj := cut_to (P := Try.prog) 28 5 .i64 Try.underlying28 HI5.out Aj 16 cj 15 (by decide) (by decide) hlj
                  rw [show (15 : Int).toNat = 15 from rfl] at hcutj
                  have HLTJ := Aside0.mk hlt
                  have p1 : decide (jj < qb) = true := decide_eq_true hlt
                  have p2 := eq_true (show 0 ≤ (jj : Int) by omega)
                  have p3 := eq_true (show (jj : Int) < (qb : Int) by omega)
                  have p4 : decide ((jj : Int) < (qb : Int)) = true := decide_eq_true (by omega)
                  obtain ⟨k3, rfl⟩ : ∃ k3, gk = k3 + 1 := ⟨gk - 1, by have := HJJ.out; omega⟩
                  clear hlt hp hpl hlj hCj
                  go_wp2_with ((with_reducible refine gate_builtin (b := .append) (xs := #[.tmp 83, .tmp 88]) rfl ?_); at_builtin; refine Kd.R_append_rows (Kd.int .u8) (w0 := w6) w6.heap.size rfl (.tmp 83) (.tmp 88) 28 5 (.int .u8 0) 1 rfl Try.underlying28 info5 rfl (by decide) (by omega) (.slice Aa (15 * jj) ca) ((bodyF b).take (15 * jj)) (pieceF (bodyF b) jj) Aj 15 cj (fun _ => True) (fun _ => False) rfl rfl HRw.out HCJ.out (fun _ _ h => h) (fun _ h => h.elim) (fun _ _ => trivial) HBw.out HBw.out.size (by rw [List.length_take]; have := HJJ.out; have := HQ1.out; omega) ?_; intro v7 w7 ho hb7 hg hat; have HO7 := Aside0.mk ho; have HB7 := Aside0.mk hb7; have HF7 := Aside0.mk (Kd.F_grown HFw.out hg (fun k hk e => by have := Kd.R_base HRw.out k e.symm; omega)); clear ho hb7 hg hat)
                  rw [pieces_take _ _ _ HXL.out HLTJ.out] at HO7
                  obtain ⟨A7, c7, e7⟩ := Kd.R_slice HO7.out
                  rw [List.length_take, HXL.out, Nat.min_eq_left (by have := HLTJ.out; omega)] at e7
                  subst e7
                  go_roundg k3
                  case measure => omega
                  case rel => exact ⟨jj + 1, A7, c7, rfl, congrArg (Value.int .i64) (widx (by have := HLTJ.out; have := HQ1.out; omega)), ⟨by have := HJJ.out; omega⟩, HF7, HO7, HB7⟩
                · obtain rfl : qb = jj := by have := HJJ.out; omega
                  have p1 : decide (qb < qb) = false := decide_eq_false (by omega)
                  have p4 : decide ((qb : Int) < (qb : Int)) = false := decide_eq_false (by omega)
                  rw [List.take_of_length_le (by rw [HXL.out]; exact Nat.le_refl _)] at HRw
                  clear hlt
                  have HBz := Aside0.mk (below_then HB6.out HB6.out.size HBw.out)
                  have hcvA := own_string (P := Try.prog) Try.underlying28 Try.underlying5 Try.underlying9 (Kd.own_of_R HRw.out)
                  have hcvB := own_string (P := Try.prog) Try.underlying28 Try.underlying5 Try.underlying9 (Kd.own_of_R (Kd.R_below HX6.out HBw.out))
                  by_cases ceq : bodyF b = x'
                  · rw [ceq] at hcvA
                    have HRY := Aside0.mk (show r = some (b, j + 1) by rw [HRr.out, HRb.out, if_pos ceq]; rfl)
                    have hNj : N = j + 1 := by rw [HNe.out, HRY.out]; rfl
                    have s1 : wrap64 ((fr : Int) + (j : Int) - (fr : Int)) = (j : Int) := by unfold wrap64; have := HLT.out; have := HM.out; omega
                    have s2 : wrap64 ((j : Int) + 1) = (N : Int) := by unfold wrap64; have := HLT.out; have := HM.out; omega
                    have HOZ := Aside0.mk (Kd.R_below HO6.out HBw.out)
                    clear ceq hNj
                    go_wp2
                    go_ret2
                    refine ⟨.slice A5 mb c5, (by rw [← s2]; rfl), fun b2 n2 hbn => ?_, HBz.out⟩
                    rw [HRY.out] at hbn
                    cases hbn
                    exact HOZ.out
                  have HNo := Aside0.mk (show r = none by rw [HRr.out, HRb.out, if_neg ceq]; rfl)
                  have eqn : (strOfNums (bodyF b)).toList ≠ (strOfNums x').toList := fun e => ceq (bytes_inj (bodyF_bs HBB.out) HX15.out.1 e)
                  have eqc : ((strOfNums (bodyF b)).toList == (strOfNums x').toList) = false := beq_eq_false_iff_ne.mpr eqn
                  clear ceq eqn
                  go_wp2
                  go_ret2
                  refine ⟨.slice none 0 0, ?_, fun b n hbn => (by rw [HNo.out] at hbn; cases hbn), HBz.out⟩
                  rw [HNe.out, HNo.out]; rfl
            have HNo := Aside0.mk (show r = none by
              rw [HRr.out]
              have : recordF x' = none := by
                unfold recordF
                rw [HG.out, if_neg]
                rintro ⟨_, _, h3, _⟩
                simp only at h3
                have := HX15.out.2
                omega
              rw [this]; rfl)
            have l1 : decide ((mb : Int) > 1024) = false := decide_eq_false (by omega)
            have l2 : wrap64 ((kk : Int) + (mb : Int)) = (kk : Int) + (mb : Int) := by unfold wrap64; have := HS1.out; omega
            have l3 : decide ((kk : Int) + (mb : Int) > (ny : Int)) = true := decide_eq_true (by omega)
            have l4 : decide (kk + mb > ny) = true := decide_eq_true (by omega)
            have l5 : decide (1024 < mb) = false := decide_eq_false (by omega)
            clear h1 h2
            go_wp2
            go_ret2
            refine ⟨.slice none 0 0, ?_, fun b n hbn => (by rw [HNo.out] at hbn; cases hbn), HB4.out⟩
            rw [HNe.out, HNo.out]; rfl
          have HNo := Aside0.mk (show r = none by
            rw [HRr.out]
            have : recordF x' = none := by
              unfold recordF
              rw [HG.out, if_neg]
              rintro ⟨_, h3, _⟩
              simp only at h3
              omega
            rw [this]; rfl)
          have l1 : decide ((mb : Int) > 1024) = true := decide_eq_true (by omega)
          have l5 : decide (1024 < mb) = true := decide_eq_true (by omega)
          clear h1
          go_wp2
          go_ret2
          refine ⟨.slice none 0 0, ?_, fun b n hbn => (by rw [HNo.out] at hbn; cases hbn), HB4.out⟩
          rw [HNe.out, HNo.out]; rfl
        have HNo := Aside0.mk (show r = none by
          rw [HRr.out]
          have : recordF x' = none := by
            unfold recordF
            rw [if_neg (fun h => h0 h.1)]
          rw [this]; rfl)
        have l0 : ((getOf x').2.2 != 0) = true := bne_iff_ne.mpr h0
        clear h0
        go_wp2
        go_ret2
        refine ⟨.slice none 0 0, ?_, fun b n hbn => (by rw [HNo.out] at hbn; cases hbn), HB4.out⟩
        rw [HNe.out, HNo.out]; rfl
      have cn2 : (markF s != 2) = true := bne_iff_ne.mpr c2
      have HRr := Aside0.mk (show r = none by rw [← HRC.out, recS_at HSG.out, if_neg HC1.out, if_neg c2])
      clear c2
      go_wp2
      go_ret2
      refine ⟨.slice none 0 0, ?_, fun b n hbn => (by rw [HRr.out] at hbn; cases hbn), HB2.out⟩
      rw [HNe.out, HRr.out]; rfl
    have HJm := Aside0.mk (show fr + j = m by have := HN15.out; omega)
    have HRr := Aside0.mk (show r = none by rw [← HRC.out, HJm.out, List.drop_of_length_le (by rw [HTl.out]; exact Nat.le_refl _)]; rfl)
    have hre : readE S ((fr + j : Nat) : Int) = 1 := by rw [readE, if_neg (by rw [HP.out.len]; omega)]
    have HRE := Aside0.mk hre
    clear hlt hre
    go_wp2_with fail
    refine (refread_tot base D m q AS cS vW S W ((fr + j : Nat) : Int) wr (HR.out.below HB.out) HP.out (by have := HQ.out; omega)).mono ?_
    rintro e w2 ⟨v2, rfl, ho2, hb2⟩
    rw [HRE.out]
    have HB2 := Aside0.mk (below_then HB.out HB.out.size hb2)
    clear ho2 hb2
    go_wp2
    go_ret2
    refine ⟨.slice none 0 0, ?_, fun b n hbn => (by rw [HRr.out] at hbn; cases hbn), HB2.out⟩
    rw [HNe.out, HRr.out]; rfl
end Go.Proofs.Ytoafbpbnlmcklaa.PAll

namespace Go.Proofs.Ytoafbpbnlmcklaa.PAll
open Go.RowKit Go.Proofs.YtoafbpbnlmcklaaW.PrintWords Go.Proofs.YtoafbpbnlmcklaaW.PrintLast Go.Proofs.YtoafbpbnlmcklaaW.PrintMore Go.Proofs.Ytoafbpbnlmcklaa.Pure
set_option linter.unusedVariables false
set_option linter.unusedSimpArgs false
/-- The reference's disk's blocks, and the reference's log's, do not meet. -/
theorem inW_inR {base base2 Wb D0 D u : Nat} {vL vS vW : Value} {L S : List (List Int)} {W : List (Int × List Int)} {w : World} (hw : WalAt 46 base Wb D0 vL L u w) (hr : RefAt base2 D vS vW S W w) (hap : ∀ k, vL.ownBlock = some k → vS.ownBlock ≠ some k) {k : Nat} (h1 : InW Wb vL k) (h2 : InR D vS vW k) : False := by
  obtain ⟨_, cs, t, ht, hh⟩ := hw.inW h1
  rcases h1 with rfl | h1
  · obtain ⟨_, cs2, t2, ht2, hh2⟩ := hr.inR h2
    have e1 := blk_type hw.blk hh2
    rcases ht2 with rfl | rfl | rfl <;> exact absurd e1 (by decide)
  · rcases h2 with rfl | h2 | h2
    · obtain ⟨inner, ho⟩ := Kd.R_own hw.rs
      obtain ⟨cs3, hc⟩ := own_typed ho _ h1
      exact absurd (blk_type hc hr.blk) (by decide)
    · exact hap k h1 h2
    · obtain ⟨inner, ho⟩ := Kd.R_own hw.rs
      obtain ⟨cs3, hc⟩ := own_typed ho _ h1
      obtain ⟨inner2, ho2⟩ := Kd.R_own hr.rw
      obtain ⟨cs4, hc2⟩ := own_typed ho2 _ h2
      exact absurd (blk_type hc hc2) (by decide)
theorem inR_5 {base D : Nat} {vS vW : Value} {S : List (List Int)} {W : List (Int × List Int)} {w : World} (hr : RefAt base D vS vW S W w) (k : Nat) (cells : Array Value) (h1 : InR D vS vW k) (h2 : w.heap[k]? = some (Obj.cells cells 5 (0, 0))) : False := by
  obtain ⟨_, cs2, t2, ht2, hh2⟩ := hr.inR h1
  have e1 := blk_type h2 hh2
  rcases ht2 with rfl | rfl | rfl <;> exact absurd e1 (by decide)
theorem inW_5 {T base Wb D u : Nat} {vL : Value} {L : List (List Int)} {w : World} (hw : WalAt T base Wb D vL L u w) (hT : T ≠ 5) (k : Nat) (cells : Array Value) (h1 : InW Wb vL k) (h2 : w.heap[k]? = some (Obj.cells cells 5 (0, 0))) : False := by
  obtain ⟨_, cs2, t2, ht2, hh2⟩ := hw.inW h1
  have e1 := blk_type h2 hh2
  rcases ht2 with rfl | rfl
  · exact hT e1.symm
  · exact absurd e1 (by decide)
theorem WalAt.rtouch {base base2 Wb D0 D u : Nat} {vL vS vW : Value} {L S : List (List Int)} {W : List (Int × List Int)} {w w' : World} (hw : WalAt 46 base Wb D0 vL L u w) (hr : RefAt base2 D vS vW S W w) (hap : ∀ k, vL.ownBlock = some k → vS.ownBlock ≠ some k) (ht : RTouch D vS vW w w') : WalAt 46 base Wb D0 vL L u w' :=
  hw.touch ht.toP (fun k h1 h2 => inW_inR hw hr hap h1 h2) (fun k cells h1 h2 => inR_5 hr k cells h1 h2)
theorem RefAt.wtouch {base base2 Wb D0 D u : Nat} {vL vS vW : Value} {L S : List (List Int)} {W : List (Int × List Int)} {w w' : World} (hr : RefAt base2 D vS vW S W w) (hw : WalAt 46 base Wb D0 vL L u w) (hap : ∀ k, vL.ownBlock = some k → vS.ownBlock ≠ some k) (ht : TouchP (InW Wb vL) w w') : RefAt base2 D vS vW S W w' :=
  hr.moveF (fun k h1 => ht.block k (hr.lt h1) (fun h2 => inW_inR hw hr hap h2 h1)) (fun k cells hc => ht.block k (blk_lt hc) (fun h2 => inW_5 hw (by decide) k cells h2 hc))
/-- Bytes of one's own stay. -/
theorem row5_rtouch {base D : Nat} {vS vW : Value} {S : List (List Int)} {W : List (Int × List Int)} {w w' : World} (hr : RefAt base D vS vW S W w) (ht : RTouch D vS vW w w') {base2 : Nat} {ok : Nat → Prop} {v : Value} {xs : List Int} (hk : Kd.R (Kd.int .u8) 5 w base2 ok v xs) : Kd.R (Kd.int .u8) 5 w' base2 ok v xs := by
  refine R_moveE hk (fun k hb => ?_) (fun k cells q hq hc => by cases hq)
  obtain ⟨inner, ho⟩ := Kd.R_own hk
  obtain ⟨cells, hc⟩ := own_typed ho k hb
  exact ht.block k (blk_lt hc) (fun hi => inR_5 hr k cells hi hc)
set_option maxHeartbeats 16000000 in
set_option maxRecDepth 100000 in
theorem refopen_walk (base D m q : Nat) (AS : Option Addr) (cS : Nat) (vW : Value) (S : List (List Int)) (W : List (Int × List Int)) (w : World) (h : RefAt base D (.slice AS m cS) vW S W w) (hp : Parts m q S W) (hm : m ≤ 512) (hq : q ≤ 900000) (hbs : ∀ s ∈ applyW S W, Bs s) :
    Calls Try.prog 20 #[.pointer (some ⟨D, 0, none⟩)] w fun e w' => ∃ (Wb : Nat) (vL : Value), e = .returned (.pointer (some ⟨Wb, 0, none⟩)) ∧ RefAt base D (.slice AS m cS) (.slice none 0 0) (cleanF (applyW S W) (openF (applyW S W)).2) [] w' ∧ WalAt 46 w.heap.size Wb D vL (openF (applyW S W)).1 (openF (applyW S W)).2 w' ∧ TouchP (InR D (.slice AS m cS) vW) w w' := by
  obtain ⟨T, hT⟩ : ∃ T, T = applyW S W := ⟨_, rfl⟩
  have hTl : T.length = m := by rw [hT, applyW_len]; exact hp.len
  rw [← hT]
  have HTe := Aside0.mk hT
  have HTL := Aside0.mk hTl
  have HBS := Aside0.mk hbs
  have HR := Aside0.mk h
  have HP := Aside0.mk hp
  have HM := Aside0.mk hm
  have HQ := Aside0.mk hq
  clear hT hTl hbs h hp hm hq
  go_enter Try.func20, Try.ntmps20
  go_wp2_with fail
  have HB0 := Aside0.mk (below_alloc (Below.refl w.heap.size w) (.cells #[.pointer (some ⟨D, 0, none⟩), .slice none 0 0, .int .i64 0] 46))
  have HW0 := Aside0.mk (show WalAt 46 w.heap.size w.heap.size D (.slice none 0 0) [] 0 (w.alloc (.cells #[.pointer (some ⟨D, 0, none⟩), .slice none 0 0, .int .i64 0] 46)) from ⟨blk_new w _, Nat.le_refl _, Kd.R_nil _ _ _ _ _⟩)
  go_loopg [5] m (fun kq v5 w' => ∃ (u : Nat) (L : List (List Int)) (AL : Option Addr) (nL cL : Nat), Aside0 (u + kq = m) ∧ Aside0 (WalAt 46 w.heap.size w.heap.size D (.slice AL nL cL) L u w') ∧ Aside0 (scanF (T.drop u) u [] L u = openF T) ∧ Aside0 (nL = L.length ∧ nL ≤ u) ∧ Aside0 (Below w.heap.size w w'))
  case atStart => exact ⟨0, [], none, 0, 0, ⟨by omega⟩, HW0, ⟨rfl⟩, ⟨rfl, Nat.le_refl _⟩, HB0⟩
  case round =>
    obtain ⟨u, L, AL, nL, cL, HU, HW, HSC, HNL, HB⟩ := hrel
    have q1 := blk_cell HW.out.blk 1
    have q2 := blk_cell HW.out.blk 2
    go_wp2_with fail
    refine (refrec_walk base D m q u AS cS vW S W wr (HR.out.below HB.out) HP.out HM.out (by have := HQ.out; omega) HBS.out (by have := HU.out; omega)).mono ?_
    rintro e w1 ⟨v1, rfl, hr1, hb1⟩
    rw [← HTe.out] at hr1 ⊢
    obtain ⟨r, hr⟩ : ∃ r, r = recS (T.drop u) [] 0 := ⟨_, rfl⟩
    rw [← hr] at hr1 ⊢
    have HB1 := Aside0.mk (below_then HB.out HB.out.size hb1)
    have HW1 := Aside0.mk (HW.out.below hb1)
    have HRr := Aside0.mk hr
    cases hrc : r with
    | none =>
      rw [hrc] at hr
      have HE := Aside0.mk (show openF T = (L, u) by rw [← HSC.out, scan_recS _ _ _ _ _ 0, ← hr])
      clear hr hr1 hrc hb1 q1 q2 HRr
      have qu := blk_cell HW1.out.blk 2
      have HUL := Aside0.mk (show u ≤ m by have := HU.out; omega)
      have HNLx := Aside0.mk (show recN none = 0 from rfl)
      rw [HNLx.out]
      go_wp2_with ((with_reducible refine gate_dst (N := 43) rfl ?_); refine Kd.R_make (Kd.int .u8) (w0 := w1) w1.heap.size 5 rfl (N := 43) rfl 28 _ _ rfl 16 rfl rfl Try.underlying28 (.int .u8 0) 1 info5 rfl (by decide) (by omega) 0 (ok := fun _ => True) (okp := fun _ => True) rfl (fun _ hk => hk) trivial (by omega) (by omega) (Below.refl _ _) (Nat.le_refl _) ?_; intro vz wz hoz hbz hgz hnz; have HWz := Aside0.mk (HW1.out.below hbz); have HBz := Aside0.mk (below_then HB1.out HB1.out.size hbz); have HZ := Aside0.mk (show Kd.R (Kd.int .u8) 5 wz w.heap.size (fun _ => True) vz zeroS from Kd.R_lower hoz HB1.out.size); clear hoz hbz hgz hnz; obtain ⟨Az, cz, ez⟩ := Kd.R_slice HZ.out; rw [show zeroS.length = 16 from rfl] at ez; subst ez; have qw := blk_cell HWz.out.blk 2)
      clear qu qw
      have HAP := Aside0.mk (show ∀ k, (Value.slice AL nL cL).ownBlock = some k → (Value.slice AS m cS).ownBlock ≠ some k from fun k h1 h2 => by
        have g1 := Kd.R_base HWz.out.rs k h1
        have g2 := Kd.R_lt HR.out.rs k h2
        omega)
      go_loopg [7] (m - u) (fun kq v7 w' => ∃ (n : Nat) (vW' : Value), v7 = .int .i64 ((u + n : Nat) : Int) ∧ Aside0 (u + n + kq = m) ∧ Aside0 (RefAt base D (.slice AS m cS) vW' S (W ++ zerosW T u n) w') ∧ Aside0 (WalAt 46 w.heap.size w.heap.size D (.slice AL nL cL) L u w') ∧ Aside0 (Kd.R (Kd.int .u8) 5 w' w.heap.size (fun _ => True) (.slice Az 16 cz) zeroS) ∧ Aside0 (TouchP (InR D (.slice AS m cS) vW) w w') ∧ Aside0 (∀ k, InR D (.slice AS m cS) vW' k → InR D (.slice AS m cS) vW k ∨ w.heap.size ≤ k))
      case atStart => exact ⟨0, vW, rfl, ⟨by have := HUL.out; omega⟩, ⟨by show RefAt base D (.slice AS m cS) vW S (W ++ []) wz; rw [List.append_nil]; exact HR.out.below HBz.out⟩, HWz, HZ, ⟨TouchP.of_below HBz.out⟩, ⟨fun k hk => .inl hk⟩⟩
      case round =>
        obtain ⟨n, vW', rfl, HN, HDr, HWr, HZr, HTr, HGr⟩ := hrel
        have HPr := Aside0.mk (HP.out.zeros T u n (by have := HN.out; omega))
        have q0 : wr.cell? ⟨D, 0, none⟩ = some (.slice AS m cS) := (blk_cell HDr.out.blk 0).trans rfl
        by_cases hlt : u + n < m
        · have HLT := Aside0.mk hlt
          have p1 : decide (u + n < m) = true := decide_eq_true hlt
          have p2 : decide (((u + n : Nat) : Int) < (m : Int)) = true := decide_eq_true (by omega)
          obtain ⟨k1, rfl⟩ : ∃ k1, gk = k1 + 1 := ⟨gk - 1, by have := HN.out; omega⟩
          obtain ⟨hre, hrg, hrl⟩ := readL_get HP.out hlt
          have HRG := Aside0.mk hrg
          have HRL := Aside0.mk hrl
          have hrz := readL_zeros HP.out T u n hlt
          have HRZ := Aside0.mk hrz
          have HRE := Aside0.mk hre
          clear hlt hre hrg hrl hrz
          obtain ⟨iN, hiN⟩ : ∃ iN, iN = u + n := ⟨_, rfl⟩
          have HiN := Aside0.mk hiN
          rw [← hiN] at HRG HRL HRZ HRE p1 p2 ⊢
          clear hiN
          go_wp2_with fail
          refine (refread_tot base D m (q + n) AS cS vW' S (W ++ zerosW T u n) (iN : Int) wr HDr.out HPr.out (by have := HQ.out; have := HN.out; have := HM.out; omega)).mono ?_
          rintro e w2 ⟨v2, rfl, ho2, hb2⟩
          rw [HRZ.out] at ho2
          have HD2 := Aside0.mk (HDr.out.below hb2)
          have HW2 := Aside0.mk (HWr.out.below hb2)
          have HZ2 := Aside0.mk (Kd.R_below HZr.out hb2)
          have HT2 := Aside0.mk (HTr.out.below hb2)
          have hcvA := own_string (P := Try.prog) Try.underlying28 Try.underlying5 Try.underlying9 (Kd.own_of_R ho2)
          have hcvB := own_string (P := Try.prog) Try.underlying28 Try.underlying5 Try.underlying9 (Kd.own_of_R HZ2.out)
          clear ho2 hb2 q0
          have HTi := Aside0.mk (show T.getD iN [] = readL S W (iN : Int) by rw [HTe.out, List.getD_eq_getElem?_getD, HRG.out, Option.getD_some])
          have HSb := Aside0.mk (show Bs (readL S W (iN : Int)) from HBS.out _ (List.mem_of_getElem? HRG.out))
          by_cases cz0 : readL S W (iN : Int) = zeroS
          · have HCZ := Aside0.mk cz0
            rw [cz0] at hcvA
            clear cz0
            go_wp2_with fail
            go_roundg k1
            case measure => omega
            case rel =>
              refine ⟨n + 1, vW', ?_, ⟨by have := HN.out; omega⟩, ⟨?_⟩, HW2, HZ2, HT2, HGr⟩
              · exact congrArg (Value.int .i64) (by rw [widx (by have := HiN.out; have := HM.out; have := HLT.out; omega), HiN.out]; rfl)
              · rw [zerosW, ← HiN.out, HTi.out, if_pos HCZ.out, List.append_nil]
                exact HD2.out
          have HCZ := Aside0.mk cz0
          have eqc : ((strOfNums (readL S W (iN : Int))).toList == (strOfNums zeroS).toList) = false := beq_eq_false_iff_ne.mpr (fun e => cz0 (bytes_inj HSb.out zeroS_bs e))
          clear cz0
          go_wp2_with fail
          refine (refwrite_tot base D m (q + n) AS cS vW' S (W ++ zerosW T u n) (iN : Int) zeroS Az 16 cz w2 HD2.out HPr.out (by have := HQ.out; have := HN.out; have := HM.out; omega) (Kd.R_reads' HZ2.out).2.2).mono ?_
          rintro e w4 ⟨rfl, vW4, hd4, ht4, hg4⟩
          have HD4 := Aside0.mk (show RefAt base D (.slice AS m cS) vW4 S (W ++ zerosW T u (n + 1)) w4 by
            rw [zerosW, ← HiN.out, HTi.out, if_neg HCZ.out, ← List.append_assoc]
            have h1 : writeW S (W ++ zerosW T u n) (iN : Int) zeroS = W ++ zerosW T u n ++ [((iN : Int), zeroS)] := by
              rw [writeW, if_pos ⟨by omega, by rw [HP.out.len]; have := HLT.out; have := HiN.out; omega, rfl⟩]
            rw [← h1]; exact hd4)
          have HW4 := Aside0.mk (HW2.out.rtouch HD2.out HAP.out ht4)
          have HZ4 := Aside0.mk (row5_rtouch HD2.out ht4 HZ2.out)
          have HT4 := Aside0.mk (HT2.out.trans ht4.toP HGr.out)
          have HG4 := Aside0.mk (show ∀ k, InR D (.slice AS m cS) vW4 k → InR D (.slice AS m cS) vW k ∨ w.heap.size ≤ k from fun k hk => by
            rcases hg4 k hk with h1 | h1
            · exact HGr.out k h1
            · exact .inr (Nat.le_trans HT2.out.size h1))
          clear hd4 ht4 hg4 hcvA hcvB eqc
          go_wp2_with fail
          go_roundg k1
          case measure => omega
          case rel =>
            refine ⟨n + 1, vW4, ?_, ⟨by have := HN.out; omega⟩, HD4, HW4, HZ4, HT4, HG4⟩
            exact congrArg (Value.int .i64) (by rw [widx (by have := HiN.out; have := HM.out; have := HLT.out; omega), HiN.out]; rfl)
        · have hnm : n = m - u := by have := HN.out; omega
          subst hnm
          have hum : u + (m - u) = m := by have := HUL.out; omega
          rw [hum]
          have p1 : decide (m < m) = false := decide_eq_false (by omega)
          have p2 : decide ((m : Int) < (m : Int)) = false := decide_eq_false (by omega)
          clear hlt hum
          go_wp2_with fail
          refine (refsync_walk base D m (q + (m - u)) (.slice AS m cS) vW' S (W ++ zerosW T u (m - u)) wr HDr.out HPr.out (by have := HQ.out; have := HM.out; omega)).mono ?_
          rintro e w5 ⟨rfl, hd5, ht5⟩
          rw [applyW_append, ← HTe.out, show m - u = T.length - u by rw [HTL.out], cleanF_eq (by rw [HTL.out]; exact HUL.out)] at hd5
          have HD5 := Aside0.mk hd5
          have HW5 := Aside0.mk (HWr.out.rtouch HDr.out HAP.out ht5)
          have HT5 := Aside0.mk (HTr.out.trans ht5.toP HGr.out)
          clear hd5 ht5
          go_wp2
          go_ret
          rw [HE.out]
          exact ⟨_, _, rfl, HD5.out, HW5.out, HT5.out⟩
    | some p =>
      obtain ⟨b, n⟩ := p
      rw [hrc] at hr
      have hlt := recS_lt _ _ _ b n hr.symm
      have hbW := hr1 b n hrc
      have HSC1 := Aside0.mk (show scanF (T.drop (u + n)) (u + n) [] (L ++ [b]) (u + n) = openF T by
        rw [← HSC.out, scan_recS (T.drop u) u [] L u 0, ← hr]
        show _ = scanF ((T.drop u).drop (n - 0)) (u + (n - 0)) [] (L ++ [b]) (u + (n - 0))
        rw [Nat.sub_zero, List.drop_drop])
      have HNU := Aside0.mk (show 1 ≤ n ∧ u + n ≤ m by
        rw [List.length_drop, HTL.out] at hlt
        have := HU.out
        omega)
      have HOb := Aside0.mk (Kd.R_lower hbW HB.out.size)
      obtain ⟨Ab, cb, eb⟩ := Kd.R_slice HOb.out
      subst eb
      clear hr hr1 hrc hbW hlt hb1 q1 q2 HRr
      rw [show recN (some (b, n)) = n from rfl]
      have q1 := blk_cell HW1.out.blk 1
      have nz : ((n : Int) == 0) = false := beq_eq_false_iff_ne.mpr (by have := HNU.out; omega)
      have nz2 : (n == 0) = false := beq_eq_false_iff_ne.mpr (by have := HNU.out; omega)
      have sU : wrap64 ((u : Int) + (n : Int)) = ((u + n : Nat) : Int) := by unfold wrap64; have := HNU.out; have := HM.out; omega
      obtain ⟨k1, hk1⟩ : ∃ k1, k1 = gk - n := ⟨_, rfl⟩
      have HK1 := Aside0.mk (show k1 < gk ∧ u + n + k1 = m by have := HNU.out; have := HU.out; omega)
      clear hk1
      go_wp2_with ((with_reducible refine gate_builtin (b := .append) (xs := #[.tmp 28, .tmp 30]) rfl ?_); at_builtin; refine Kd.R_append (Kd.slice 5 (Kd.int .u8)) (w0 := w) w.heap.size rfl (.tmp 28) (.tmp 30) 22 28 (.slice none 0 0) 24 rfl Try.underlying22 info28' rfl (by decide) (by omega) (.slice AL nL cL) L b [.slice Ab b.length cb] (fun _ => True) (fun k => True ∧ some k ≠ (Value.slice AL nL cL).ownBlock) rfl rfl ?aP (fun _ hk => hk) (fun _ _ => trivial) HW1.out.rs HB1.out HB1.out.size (by have := HNL.out; have := HNU.out; have := HM.out; omega) ?_; (case aP => exact ⟨_, rfl, R_types' HOb.out (fun k hk => by obtain ⟨inner, hown⟩ := Kd.R_own HW1.out.rs; exact own_typed hown k hk) (by decide)⟩); intro v5 w5 ho5 hb5 hg5 hat5; have HO5 := Aside0.mk ho5; have HB5 := Aside0.mk hb5; have HBl5 := Aside0.mk (blk_grown HW1.out.blk hg5 (Kd.R_ne HW1.out.rs HW1.out.blk (by decide))); clear ho5 hb5 hg5 hat5; obtain ⟨A5, c5, e5⟩ := Kd.R_slice HO5.out; rw [List.length_append, List.length_singleton, ← HNL.out.1] at e5; subst e5; have q1 := blk_cell HBl5.out 1; have q2 := blk_cell HBl5.out 2; have f1 := blk_frozen HBl5.out 1; have f2 := blk_frozen HBl5.out 2; have f3 := blk_frozen (blk_set HBl5.out 1 (.slice A5 (nL + 1) c5)) 2; have q3 := blk_cell (blk_set HBl5.out 1 (.slice A5 (nL + 1) c5)) 2)
      rw [← Int.natCast_add]
      clear q1 q2 q3 f1 f2 f3 sU nz nz2
      have HBl6 := Aside0.mk (blk_put (blk_put HBl5.out 1 (.slice A5 (nL + 1) c5) rfl) 2 (.int .i64 ((u + n : Nat) : Int)) rfl)
      have HW6 := Aside0.mk (show WalAt 46 w.heap.size w.heap.size D (.slice A5 (nL + 1) c5) (L ++ [b]) (u + n) ((w5.setCell ⟨w.heap.size, 1, none⟩ (.slice A5 (nL + 1) c5)).setCell ⟨w.heap.size, 2, none⟩ (.int .i64 ((u + n : Nat) : Int))) from ⟨HBl6.out, Nat.le_refl _, Kd.R_set (Kd.R_set HO5.out HBl5.out (by decide) 1 _) (blk_set HBl5.out 1 _) (by decide) 2 _⟩)
      have HB6 := Aside0.mk (show Below w.heap.size w ((w5.setCell ⟨w.heap.size, 1, none⟩ (.slice A5 (nL + 1) c5)).setCell ⟨w.heap.size, 2, none⟩ (.int .i64 ((u + n : Nat) : Int))) from (HB5.out.setCell (Nat.le_refl _) _).setCell (Nat.le_refl _) _)
      go_roundg k1
      case measure => exact HK1.out.1
      case rel => exact ⟨u + n, L ++ [b], A5, nL + 1, c5, ⟨HK1.out.2⟩, HW6, HSC1, ⟨by rw [List.length_append, List.length_singleton, ← HNL.out.1], by have := HNL.out; have := HNU.out; omega⟩, HB6⟩
end Go.Proofs.Ytoafbpbnlmcklaa.PAll

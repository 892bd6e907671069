/- Plain laws of layer 3 (record): which record bytes begin with: Get, and the reference's Get. -/
import Derived.Test.YtdkdgghonfoccaaPAllx5
import Derived.Test.YtdkdgghonfoccaaRecCore
import Derived.Test.YtdkdgghonfoccaaGetPos
namespace Go.Proofs.Ytdkdgghonfoccaa.Pure
open Go.RowKit Go.Proofs.Ytdkdgghonfoccaa.PAll Go.Proofs.YtdkdgghonfoccaaW.PrintWords Go.Proofs.YtdkdgghonfoccaaW.PrintLast Go.Proofs.YtdkdgghonfoccaaW.PrintMore
/-- The number that four bytes are. -/
def num4 (d : List Int) : Int := d.getD 0 0 * 16777216 + d.getD 1 0 * 65536 + d.getD 2 0 * 256 + d.getD 3 0
def tailOf (kind at_ : Int) (n : Nat) (d : List Int) : Int × List Int × Int × Int :=
  if d.length < 4 + n then (0, [], 0, 3) else if sumOf ((d.drop 4).take n) = num4 d then (kind, (d.drop 4).take n, at_ + 4 + n, 0) else (0, [], 0, 4)
def restOf (kind k : Int) (c : List Int) : Int × List Int × Int × Int :=
  if (getOf c).2.2 = 0 then (if (getOf c).1 > 1024 then (0, [], 0, 7) else tailOf kind (k + (getOf c).2.1) (getOf c).1.toNat (c.drop (getOf c).2.1.toNat)) else (0, [], 0, (getOf c).2.2)
/-- What Get answers. -/
def rgetOf (b : List Int) : Int × List Int × Int × Int :=
  if (getOf b).2.2 = 0 then (if (getOf b).1 > 1048576 then (0, [], 0, 2) else restOf (getOf b).1 (getOf b).2.1 (b.drop (getOf b).2.1.toNat)) else (0, [], 0, (getOf b).2.2)
theorem be_four {a b c d : Int} (ha : 0 ≤ a ∧ a < 256) (hb : 0 ≤ b ∧ b < 256) (hc : 0 ≤ c ∧ c < 256) (hd : 0 ≤ d ∧ d < 256) : be [a, b, c, d] = a * 16777216 + b * 65536 + c * 256 + d := by
  have j : ∀ x y : Int, 0 ≤ x → x < 16777216 → 0 ≤ y → y < 256 → Go.bits .or .u32 (x * 256 % 4294967296) (y % 4294967296) = x * 256 + y := by
    intro x y h0 h1 h2 h3
    rw [Int.emod_eq_of_lt (a := x * 256) (by omega) (by omega), Int.emod_eq_of_lt (a := y) (by omega) (by omega)]
    exact bits_join .u32 32 (by decide) wraps32 8 _ _ (by omega) (by omega) (by omega) (by omega) (by omega) (by omega)
  simp only [be, List.foldl_cons, List.foldl_nil]
  rw [j 0 a (by omega) (by omega) ha.1 ha.2, j _ b (by omega) (by omega) hb.1 hb.2, j _ c (by omega) (by omega) hc.1 hc.2, j _ d (by omega) (by omega) hd.1 hd.2]
  omega
theorem four_of {d : List Int} (h : 4 ≤ d.length) : d.take 4 = [d.getD 0 0, d.getD 1 0, d.getD 2 0, d.getD 3 0] := by
  match d, h with
  | a :: b :: c :: e :: r, _ => rfl
theorem be_num4 {d : List Int} (hd : Bs d) (h : 4 ≤ d.length) : be (d.take 4) = num4 d := by
  rw [four_of h, be_four (hd.get (by omega)) (hd.get (by omega)) (hd.get (by omega)) (hd.get (by omega))]
  rfl
theorem num4_be4L {s : Int} (h0 : 0 ≤ s) (h1 : s < 4294967296) (r : List Int) : num4 (be4L s ++ r) = s := by
  show s / 16777216 % 256 * 16777216 + s / 65536 % 256 * 65536 + s / 256 % 256 * 256 + s % 256 = s
  omega
theorem be4L_num4 {d : List Int} (hd : Bs d) (h : 4 ≤ d.length) : be4L (num4 d) = d.take 4 := by
  have h0 := hd.get (i := 0) (by omega)
  have h1 := hd.get (i := 1) (by omega)
  have h2 := hd.get (i := 2) (by omega)
  have h3 := hd.get (i := 3) (by omega)
  rw [four_of h]
  unfold be4L num4
  generalize d.getD 0 0 = a at *
  generalize d.getD 1 0 = b at *
  generalize d.getD 2 0 = c at *
  generalize d.getD 3 0 = e at *
  rw [show (a * 16777216 + b * 65536 + c * 256 + e) / 16777216 % 256 = a by omega, show (a * 16777216 + b * 65536 + c * 256 + e) / 65536 % 256 = b by omega, show (a * 16777216 + b * 65536 + c * 256 + e) / 256 % 256 = c by omega, show (a * 16777216 + b * 65536 + c * 256 + e) % 256 = e by omega]
theorem mid_of (b : List Int) (i n : Nat) : (b.take (i + 4 + n)).drop (i + 4) = ((b.drop i).drop 4).take n := by
  rw [List.drop_take, List.drop_drop]; congr 1; omega
theorem mid4_of (b : List Int) (i : Nat) : (b.take (i + 4)).drop i = (b.drop i).take 4 := by
  rw [List.drop_take]; congr 1; omega
theorem rest_ev {b : List Int} (hb : Bs b) (hl : b.length < 1099511627776) (kind : Int) {m : Nat} (hm : m ≤ b.length) :
    Ev (fun k => ((vlq_Get.f k (b.drop m)).bind fun h => if h.2.2 = 0 then (if h.1 > 1024 then some (0, [], 0, 7) else
      (if 0 ≤ h.1 ∧ 0 ≤ h.2.1 ∧ (m : Int) + h.2.1 ≤ (b.length : Int) then
        (if (b.length : Int) - ((m : Int) + h.2.1) < 4 then some (0, [], 0, 3) else (if (b.length : Int) - ((m : Int) + h.2.1 + 4) < h.1 then some (0, [], 0, 3) else
          ((adler_Sum.f k ((b.take (((m : Int) + h.2.1).toNat + 4 + h.1.toNat)).drop (((m : Int) + h.2.1).toNat + 4))).bind fun t =>
            if t = be ((b.take (((m : Int) + h.2.1).toNat + 4)).drop ((m : Int) + h.2.1).toNat) then some (kind, (b.take (((m : Int) + h.2.1).toNat + 4 + h.1.toNat)).drop (((m : Int) + h.2.1).toNat + 4), (m : Int) + h.2.1 + 4 + h.1, 0) else some (0, [], 0, 4))))
      else none)) else some (0, [], 0, h.2.2))) (restOf kind m (b.drop m)) := by
  refine Ev.bind (get_ev (hb.drop m) (by simp; omega)) ?_
  unfold restOf
  by_cases c : (getOf (b.drop m)).2.2 = 0
  · rw [if_pos c]
    refine Ev.congr (fun k => if_pos c) ?_
    obtain ⟨n, hn, hg, hs1, hs2, he⟩ := getOf_pos (hb.drop m) c
    rw [hg]
    simp only
    by_cases c2 : (n : Int) > 1024
    · rw [if_pos c2]
      exact Ev.congr (fun k => if_pos c2) (Ev.now _)
    rw [if_neg c2]
    refine Ev.congr (fun k => if_neg c2) ?_
    have hml : (b.drop m).length = b.length - m := List.length_drop
    refine Ev.congr (fun k => if_pos ⟨by omega, by omega, by omega⟩) ?_
    have e : ((m : Int) + (sz n : Int)).toNat = m + sz n := by omega
    rw [e]
    simp only [Int.toNat_natCast]
    rw [mid_of, mid4_of, show (b.drop m).drop (sz n) = b.drop (m + sz n) from List.drop_drop]
    have hd : (b.drop (m + sz n)).length = b.length - (m + sz n) := List.length_drop
    unfold tailOf
    by_cases c3 : (b.length : Int) - ((m : Int) + (sz n : Int)) < 4
    · rw [if_pos (by omega)]
      exact Ev.congr (fun k => if_pos c3) (Ev.now _)
    refine Ev.congr (fun k => if_neg c3) ?_
    by_cases c4 : (b.length : Int) - ((m : Int) + (sz n : Int) + 4) < (n : Int)
    · rw [if_pos (by omega)]
      exact Ev.congr (fun k => if_pos c4) (Ev.now _)
    refine Ev.congr (fun k => if_neg c4) ?_
    rw [if_neg (by omega), be_num4 (hb.drop _) (by omega)]
    refine Ev.bind (sum_ev _ (by simp; omega) (((hb.drop _).drop _).take _)) ?_
    by_cases c5 : sumOf (((b.drop (m + sz n)).drop 4).take n) = num4 (b.drop (m + sz n))
    · rw [if_pos c5, if_pos c5]
      exact Ev.now _
    · rw [if_neg c5, if_neg c5]
      exact Ev.now _
  · rw [if_neg c]
    exact Ev.congr (fun k => if_neg c) (Ev.now _)
theorem rget_ev {b : List Int} (hb : Bs b) (hl : b.length < 1099511627776) : Ev (fun k => record_Get.f k b) (rgetOf b) := by
  refine Ev.bind (get_ev hb hl) ?_
  unfold rgetOf
  by_cases c : (getOf b).2.2 = 0
  · rw [if_pos c]
    refine Ev.congr (fun k => if_pos c) ?_
    obtain ⟨m, hm, hg, hs1, hs2, he⟩ := getOf_pos hb c
    rw [hg]
    simp only
    by_cases c2 : (m : Int) > 1048576
    · rw [if_pos c2]
      exact Ev.congr (fun k => if_pos c2) (Ev.now _)
    rw [if_neg c2]
    refine Ev.congr (fun k => if_neg c2) ?_
    refine Ev.congr (fun k => if_pos ⟨by omega, by omega⟩) ?_
    simp only [Int.toNat_natCast]
    exact rest_ev hb hl _ hs2
  · rw [if_neg c]
    exact Ev.congr (fun k => if_neg c) (Ev.now _)
/-! What Get answers about what was put. -/
theorem rgetOf_enc {a : Nat} (ha : a ≤ 1048576) (r : List Int) : rgetOf (enc a ++ r) = restOf a (sz a) r := by
  rw [rgetOf, getOf_enc (by omega), if_pos rfl, if_neg (by simp; omega)]
  simp only [Int.toNat_natCast]
  rw [show sz a = (enc a).length from (enc_length a).symm, List.drop_left]
theorem restOf_enc {n : Nat} (hn : n ≤ 1024) (kind k : Int) (r : List Int) : restOf kind k (enc n ++ r) = tailOf kind (k + sz n) n r := by
  rw [restOf, getOf_enc (by omega), if_pos rfl, if_neg (by simp; omega)]
  simp only [Int.toNat_natCast]
  rw [List.drop_left' (enc_length n)]
theorem rgetOf_frame {a n : Nat} (ha : a ≤ 1048576) (hn : n ≤ 1024) (r : List Int) : rgetOf (enc a ++ (enc n ++ r)) = tailOf a ((sz a : Int) + sz n) n r := by
  rw [rgetOf_enc ha, restOf_enc hn]
theorem rgetOf_rec {a : Nat} {body : List Int} (ha : a ≤ 1048576) (hn : body.length ≤ 1024) (more : List Int) : rgetOf (frame a body ++ more) = ((a : Int), body, ((frame a body).length : Int), 0) := by
  rw [frame_len, frame, List.append_assoc, List.append_assoc, rgetOf_frame ha hn, tailOf, List.append_assoc, if_neg (by simp [be4L_len])]
  have e : ((be4L (sumOf body) ++ (body ++ more)).drop 4).take body.length = body := by
    rw [List.drop_left' (be4L_len _), List.take_left]
  rw [e, num4_be4L (sumOf_bd body).1 (sumOf_bd body).2, if_pos rfl]
  simp only [Prod.mk.injEq, true_and, and_true]
  omega
theorem rgetOf_sum {a : Nat} {s : Int} {body : List Int} (h0 : 0 ≤ s) (h1 : s < 4294967296) (ha : a ≤ 1048576) (hn : body.length ≤ 1024) (hs : ¬ sumOf body = s) : rgetOf (enc a ++ (enc body.length ++ (be4L s ++ body))) = (0, [], 0, 4) := by
  rw [rgetOf_frame ha hn, tailOf, if_neg (by simp [be4L_len])]
  have e : ((be4L s ++ body).drop 4).take body.length = body := by
    rw [List.drop_left' (be4L_len _), List.take_length]
  rw [e, num4_be4L h0 h1, if_neg hs]
theorem rgetOf_cut {a : Nat} {body : List Int} (ha : a ≤ 1048576) (hn : body.length ≤ 1024) {c : Nat} (hc : c < (frame a body).length) : rgetOf ((frame a body).take c) = (0, [], 0, 3) := by
  rw [frame_len] at hc
  unfold frame
  by_cases h1 : c < sz a
  · rw [List.take_append_of_le_length (by rw [enc_length]; omega), rgetOf, getOf_cut (by omega) (by rw [enc_length]; exact h1), if_neg (by decide)]
  rw [List.take_append, enc_length, List.take_of_length_le (by rw [enc_length]; omega), rgetOf_enc ha]
  by_cases h2 : c - sz a < sz body.length
  · rw [List.take_append_of_le_length (by rw [enc_length]; omega), restOf, getOf_cut (by omega) (by rw [enc_length]; exact h2), if_neg (by decide)]
  rw [List.take_append, enc_length, List.take_of_length_le (by rw [enc_length]; omega), restOf_enc hn, tailOf, if_pos]
  rw [List.length_take]; omega
theorem restOf_err (kind k : Int) (c : List Int) : (restOf kind k c).2.2.2 = 0 ∨ ∃ e, restOf kind k c = (0, [], 0, e) := by
  unfold restOf tailOf
  split
  · split
    · exact .inr ⟨_, rfl⟩
    · split
      · exact .inr ⟨_, rfl⟩
      · split
        · exact .inl rfl
        · exact .inr ⟨_, rfl⟩
  · exact .inr ⟨_, rfl⟩
theorem rgetOf_err {b : List Int} (h : ¬ (rgetOf b).2.2.2 = 0) : rgetOf b = (0, [], 0, (rgetOf b).2.2.2) := by
  have : (rgetOf b).2.2.2 = 0 ∨ ∃ e, rgetOf b = (0, [], 0, e) := by
    unfold rgetOf
    split
    · split
      · exact .inr ⟨_, rfl⟩
      · exact restOf_err _ _ _
    · exact .inr ⟨_, rfl⟩
  rcases this with h' | ⟨e, he⟩
  · exact absurd h' h
  · rw [he]
/-- What is got was a record's bytes. -/
theorem rgetOf_back {b : List Int} (hb : Bs b) (h : (rgetOf b).2.2.2 = 0) : ∃ (a : Nat) (body more : List Int), a ≤ 1048576 ∧ body.length ≤ 1024 ∧ b = frame a body ++ more ∧ rgetOf b = ((a : Int), body, ((frame a body).length : Int), 0) := by
  have h' := h
  unfold rgetOf at h'
  by_cases c : (getOf b).2.2 = 0
  · rw [if_pos c] at h'
    obtain ⟨a, ha, hg, hs1, hs2, he⟩ := getOf_pos hb c
    rw [hg] at h'
    simp only at h'
    by_cases c2 : (a : Int) > 1048576
    · rw [if_pos c2] at h'; simp at h'
    rw [if_neg c2] at h'
    simp only [Int.toNat_natCast] at h'
    have hb1 : b = enc a ++ b.drop (sz a) := by rw [← he, List.take_append_drop]
    have hr := hb.drop (sz a)
    generalize b.drop (sz a) = r at *
    unfold restOf at h'
    by_cases c3 : (getOf r).2.2 = 0
    · rw [if_pos c3] at h'
      obtain ⟨n, hn, hg2, ht1, ht2, he2⟩ := getOf_pos hr c3
      rw [hg2] at h'
      simp only at h'
      by_cases c4 : (n : Int) > 1024
      · rw [if_pos c4] at h'; simp at h'
      rw [if_neg c4] at h'
      simp only [Int.toNat_natCast] at h'
      have hr1 : r = enc n ++ r.drop (sz n) := by rw [← he2, List.take_append_drop]
      have hd := hr.drop (sz n)
      generalize r.drop (sz n) = d at *
      unfold tailOf at h'
      by_cases c5 : d.length < 4 + n
      · rw [if_pos c5] at h'; simp at h'
      rw [if_neg c5] at h'
      by_cases c6 : sumOf ((d.drop 4).take n) = num4 d
      · refine ⟨a, (d.drop 4).take n, d.drop (4 + n), by omega, by simp; omega, ?_, ?_⟩
        · have hl : ((d.drop 4).take n).length = n := by simp; omega
          rw [hb1, hr1, frame, hl, c6, be4L_num4 hd (by omega)]
          simp only [List.append_assoc]
          rw [← List.drop_drop, List.take_append_drop, List.take_append_drop]
        · have hl : ((d.drop 4).take n).length = n := by simp; omega
          have hb2 : b = frame a ((d.drop 4).take n) ++ d.drop (4 + n) := by
            rw [hb1, hr1, frame, hl, c6, be4L_num4 hd (by omega)]
            simp only [List.append_assoc]
            rw [← List.drop_drop, List.take_append_drop, List.take_append_drop]
          conv => lhs; rw [hb2]
          exact rgetOf_rec (by omega) (by omega) _
      · rw [if_neg c6] at h'; simp at h'
    · rw [if_neg c3] at h'; exact absurd h' c3
  · rw [if_neg c] at h'; exact absurd h' c
end Go.Proofs.Ytdkdgghonfoccaa.Pure

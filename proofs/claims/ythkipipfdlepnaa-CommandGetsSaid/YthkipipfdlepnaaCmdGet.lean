/- Plain laws of layer 4 (command): which command bytes are, by Get. -/
import Derived.Test.YthkipipfdlepnaaPAllx5
import Derived.Test.YthkipipfdlepnaaCmdCore
import Derived.Test.YthkipipfdlepnaaGetPos
namespace Go.Proofs.Ythkipipfdlepnaa.Pure
open Go.RowKit Go.Proofs.Ythkipipfdlepnaa.PAll Go.Proofs.YthkipipfdlepnaaW.PrintWords Go.Proofs.YthkipipfdlepnaaW.PrintLast Go.Proofs.YthkipipfdlepnaaW.PrintMore
set_option linter.unusedSimpArgs false
/-- A number off the front, if it is needed and nothing went wrong. -/
def numS (y : List Int) (e : Int) (nd : Bool) : Int × List Int × Int := if nd = true ∧ e = 0 then ((getOf y).1, y.drop (getOf y).2.1.toNat, (getOf y).2.2) else (0, y, e)
def txtS (y : List Int) (e : Int) (nd : Bool) : ByteArray × List Int × Int :=
  if (numS y e nd).2.2 = 0 then (if ((numS y e nd).2.1.length : Int) < (numS y e nd).1 then (⟨#[]⟩, (numS y e nd).2.1, 3) else (strOfNums ((numS y e nd).2.1.take (numS y e nd).1.toNat), (numS y e nd).2.1.drop (numS y e nd).1.toNat, 0)) else (⟨#[]⟩, (numS y e nd).2.1, (numS y e nd).2.2)
theorem getOf_pos_ {b : List Int} (hb : Bs b) : 0 ≤ (getOf b).1 ∧ 0 ≤ (getOf b).2.1 ∧ (getOf b).2.1 ≤ (b.length : Int) := by
  rcases getOf_err b with h | h | h
  · obtain ⟨m, _, h2, h3, h4, _⟩ := getOf_pos hb h
    rw [h2]; simp only; omega
  · rw [h]; simp only; omega
  · rw [h]; simp only; omega
theorem numS_bytes {y : List Int} (hb : Bs y) (e : Int) (nd : Bool) : Bs (numS y e nd).2.1 ∧ (numS y e nd).2.1.length ≤ y.length ∧ 0 ≤ (numS y e nd).1 := by
  unfold numS
  split
  · exact ⟨hb.drop _, by simp only [List.length_drop]; omega, (getOf_pos_ hb).1⟩
  · exact ⟨hb, Nat.le_refl _, Int.le_refl _⟩
theorem num_ev {y : List Int} (hb : Bs y) (hl : y.length < 1099511627776) (e : Int) (nd : Bool) : Ev (fun k => command_Get.num k y e nd) (numS y e nd) := by
  unfold command_Get.num numS
  by_cases c : nd = true ∧ e = 0
  · simp only [if_pos c]
    refine Ev.bind (get_ev hb hl) ?_
    exact Ev.congr (fun k => if_pos (getOf_pos_ hb).2) (Ev.now _)
  · simp only [if_neg c]
    exact Ev.now _
theorem txt_ev {y : List Int} (hb : Bs y) (hl : y.length < 1099511627776) (e : Int) (nd : Bool) : Ev (fun k => command_Get.txt k y e nd) (txtS y e nd) := by
  unfold command_Get.txt txtS
  refine Ev.bind (num_ev hb hl e nd) ?_
  by_cases c : (numS y e nd).2.2 = 0
  · simp only [if_pos c]
    by_cases c2 : ((numS y e nd).2.1.length : Int) < (numS y e nd).1
    · simp only [if_pos c2]; exact Ev.now _
    · simp only [if_neg c2]
      exact Ev.congr (fun k => if_pos (numS_bytes hb e nd).2.2) (Ev.now _)
  · simp only [if_neg c]; exact Ev.now _
abbrev Got := Int × Int × Int × Int × Int × ByteArray × Int
def zeroG (e : Int) : Got := (0, 0, 0, 0, 0, ⟨#[]⟩, e)
/-- The end of Get: what is left, and whether it may be. -/
def endS (u q d h n : Int) (t : ByteArray) (y : List Int) (e : Int) : Got :=
  if e = 0 then (if 0 < y.length then zeroG 2 else if mayB u q d h n t = true then (u, q, d, h, n, t, 0) else zeroG 2) else zeroG e
def getT (d u q h n : Int) (y : List Int) (e : Int) : Got := endS u q d h n (txtS y e (nt d)).1 (txtS y e (nt d)).2.1 (txtS y e (nt d)).2.2
def getN (d u q h : Int) (y : List Int) (e : Int) : Got := getT d u q h (numS y e (nn d)).1 (numS y e (nn d)).2.1 (numS y e (nn d)).2.2
def getH (d u q : Int) (y : List Int) (e : Int) : Got := getN d u q (numS y e (nu d)).1 (numS y e (nu d)).2.1 (numS y e (nu d)).2.2
def getQ (d u : Int) (y : List Int) (e : Int) : Got := getH d u (numS y e (nu d)).1 (numS y e (nu d)).2.1 (numS y e (nu d)).2.2
def getU (d : Int) (y : List Int) (e : Int) : Got := getQ d (numS y e (nu d)).1 (numS y e (nu d)).2.1 (numS y e (nu d)).2.2
def kindE (d e : Int) : Int := if e = 0 then (if isK d = true then 0 else 2) else e
def getC (b : List Int) : Got := getU (numS b 0 true).1 (numS b 0 true).2.1 (kindE (numS b 0 true).1 (numS b 0 true).2.2)
theorem cget_ev {b : List Int} (hb : Bs b) (hl : b.length < 1099511627776) : Ev (fun k => command_Get.f k b) (getC b) := by
  unfold command_Get.f getC
  have h0 := numS_bytes hb 0 true
  refine Ev.bind (num_ev hb hl 0 true) ?_
  generalize numS b 0 true = p0 at *
  simp only [of_eq, Option.bind_some]
  have e0 : (if p0.2.2 = 0 then (if isK p0.1 = true then (0 : Int) else 2) else p0.2.2) = kindE p0.1 p0.2.2 := rfl
  rw [e0]
  generalize kindE p0.1 p0.2.2 = e0'
  unfold getU
  have h1 := numS_bytes h0.1 e0' (nu p0.1)
  refine Ev.bind (num_ev h0.1 (by omega) e0' (nu p0.1)) ?_
  generalize numS p0.2.1 e0' (nu p0.1) = p1 at *
  unfold getQ
  have h2 := numS_bytes h1.1 p1.2.2 (nu p0.1)
  refine Ev.bind (num_ev h1.1 (by omega) p1.2.2 (nu p0.1)) ?_
  generalize numS p1.2.1 p1.2.2 (nu p0.1) = p2 at *
  unfold getH
  have h3 := numS_bytes h2.1 p2.2.2 (nu p0.1)
  refine Ev.bind (num_ev h2.1 (by omega) p2.2.2 (nu p0.1)) ?_
  generalize numS p2.2.1 p2.2.2 (nu p0.1) = p3 at *
  unfold getN
  have h4 := numS_bytes h3.1 p3.2.2 (nn p0.1)
  refine Ev.bind (num_ev h3.1 (by omega) p3.2.2 (nn p0.1)) ?_
  generalize numS p3.2.1 p3.2.2 (nn p0.1) = p4 at *
  unfold getT
  refine Ev.bind (txt_ev h4.1 (by omega) p4.2.2 (nt p0.1)) ?_
  generalize txtS p4.2.1 p4.2.2 (nt p0.1) = p5 at *
  unfold endS
  by_cases c : p5.2.2 = 0
  · simp only [if_pos c]
    by_cases c2 : 0 < p5.2.1.length
    · simp only [if_pos c2]; exact Ev.now _
    · simp only [if_neg c2, may_eq, Option.bind_some]
      by_cases c3 : mayB p1.1 p2.1 p0.1 p3.1 p4.1 p5.1 = true
      · simp only [if_pos c3]; exact Ev.now _
      · simp only [if_neg c3]; exact Ev.now _
  · simp only [if_neg c]; exact Ev.now _
/-- A number's bytes, if it is needed. -/
def piece (a : Int) (nd : Bool) : List Int := if nd = true then enc a.toNat else []
theorem piece_bytes (a : Int) (nd : Bool) : Bs (piece a nd) := by
  unfold piece; split
  · exact enc_bytes _
  · exact Bs.nil
theorem numS_piece {a : Int} {nd : Bool} (ha : Ok a) (h0 : nd = false → a = 0) (r : List Int) : numS (piece a nd ++ r) 0 nd = (a, r, 0) := by
  unfold numS piece
  cases nd with
  | true =>
    obtain ⟨m, rfl⟩ := Int.eq_ofNat_of_zero_le ha.1
    have hm : m < 72057594037927936 := by have := ha.2; omega
    rw [if_pos ⟨rfl, rfl⟩, if_pos rfl, Int.toNat_natCast, getOf_enc hm]
    simp only [Int.toNat_natCast]
    rw [← enc_length, List.drop_left]
  | false => rw [if_neg (by simp), if_neg (by decide), h0 rfl]; rfl
theorem numS_cut {a : Int} {nd : Bool} (ha : Ok a) (h0 : nd = false → a = 0) (r : List Int) (c : Nat) :
    (c < (piece a nd).length ∧ (numS ((piece a nd ++ r).take c) 0 nd).2.2 = 3) ∨ ((piece a nd).length ≤ c ∧ numS ((piece a nd ++ r).take c) 0 nd = (a, r.take (c - (piece a nd).length), 0)) := by
  rcases Nat.lt_or_ge c (piece a nd).length with h | h
  · refine .inl ⟨h, ?_⟩
    cases nd with
    | true =>
      obtain ⟨m, rfl⟩ := Int.eq_ofNat_of_zero_le ha.1
      have hm : m < 72057594037927936 := by have := ha.2; omega
      rw [List.take_append_of_le_length (Nat.le_of_lt h)]
      have e : piece (m : Int) true = enc m := by unfold piece; rw [if_pos rfl, Int.toNat_natCast]
      rw [e] at h ⊢
      unfold numS
      rw [if_pos ⟨rfl, rfl⟩, getOf_cut hm h]
    | false => simp [piece] at h
  · refine .inr ⟨h, ?_⟩
    rw [List.take_append, List.take_of_length_le h]
    exact numS_piece ha h0 _
theorem numS_err {y : List Int} {e : Int} {nd : Bool} (he : ¬ e = 0) : numS y e nd = (0, y, e) := by unfold numS; rw [if_neg (fun x => he x.2)]
theorem txtS_err {y : List Int} {e : Int} {nd : Bool} (he : ¬ e = 0) : txtS y e nd = (⟨#[]⟩, y, e) := by unfold txtS; rw [numS_err he]; simp only [if_neg he]
theorem getT_err {d u q h n : Int} {y : List Int} {e : Int} (he : ¬ e = 0) : getT d u q h n y e = zeroG e := by unfold getT endS; rw [txtS_err he]; simp only [if_neg he]
theorem getN_err {d u q h : Int} {y : List Int} {e : Int} (he : ¬ e = 0) : getN d u q h y e = zeroG e := by unfold getN; rw [numS_err he]; exact getT_err he
theorem getH_err {d u q : Int} {y : List Int} {e : Int} (he : ¬ e = 0) : getH d u q y e = zeroG e := by unfold getH; rw [numS_err he]; exact getN_err he
theorem getQ_err {d u : Int} {y : List Int} {e : Int} (he : ¬ e = 0) : getQ d u y e = zeroG e := by unfold getQ; rw [numS_err he]; exact getH_err he
theorem getU_err {d : Int} {y : List Int} {e : Int} (he : ¬ e = 0) : getU d y e = zeroG e := by unfold getU; rw [numS_err he]; exact getQ_err he
/-- A number came off, or there is an error and all is over. -/
theorem numS_back {y : List Int} (hb : Bs y) {nd : Bool} (h : (numS y 0 nd).2.2 = 0) : Ok (numS y 0 nd).1 ∧ y = piece (numS y 0 nd).1 nd ++ (numS y 0 nd).2.1 ∧ (nd = false → (numS y 0 nd).1 = 0) := by
  unfold numS at h ⊢
  cases nd with
  | true =>
    rw [if_pos ⟨rfl, rfl⟩] at h ⊢
    obtain ⟨m, hm, h2, h3, h4, h5⟩ := getOf_pos hb h
    rw [h2]
    simp only [piece, if_true, Int.toNat_natCast]
    refine ⟨⟨by omega, by omega⟩, ?_, fun x => by cases x⟩
    rw [← h5, List.take_append_drop]
  | false =>
    rw [if_neg (by simp)]
    exact ⟨⟨Int.le_refl 0, show (0 : Int) < 72057594037927936 by decide⟩, by simp [piece], fun _ => rfl⟩
theorem bytesOf_bytes (t : ByteArray) : Bs (bytesOf t) := by
  intro c hc
  obtain ⟨x, -, rfl⟩ := List.mem_map.1 hc
  have := x.toNat_lt
  omega
theorem str_bytesOf (t : ByteArray) : strOfNums (bytesOf t) = t := by
  apply ByteArray.ext
  apply Array.toList_inj.1
  rw [strOfNums_data, bytesOf, List.map_map]
  have e : ((fun n : Int => UInt8.ofNat n.toNat) ∘ fun b : UInt8 => (b.toNat : Int)) = id := by
    funext b
    simp
  rw [e, List.map_id]
theorem bytesOf_str {l : List Int} (hb : Bs l) : bytesOf (strOfNums l) = l := by
  rw [bytesOf, strOfNums_data, List.map_map]
  induction l with
  | nil => rfl
  | cons x l ih =>
    have hx := hb.head
    rw [List.map_cons, ih hb.tail]
    congr 1
    show ((UInt8.ofNat x.toNat).toNat : Int) = x
    rw [UInt8.toNat_ofNat']
    omega
/-- The bytes of a command. -/
def bytesC (u q d h n : Int) (t : ByteArray) : List Int := piece d true ++ (piece u (nu d) ++ (piece q (nu d) ++ (piece h (nu d) ++ (piece n (nn d) ++ (piece (t.size : Int) (nt d) ++ bytesOf t)))))
theorem bytesC_eq (u q d h n : Int) (t : ByteArray) : encAll (numsOf u q d h n t) ++ bytesOf t = bytesC u q d h n t := by
  unfold numsOf bytesC piece
  cases nu d <;> cases nn d <;> cases nt d <;> simp [encAll]
theorem bytesC_bytes (u q d h n : Int) (t : ByteArray) : Bs (bytesC u q d h n t) :=
  Bs.append (piece_bytes _ _) (Bs.append (piece_bytes _ _) (Bs.append (piece_bytes _ _) (Bs.append (piece_bytes _ _) (Bs.append (piece_bytes _ _) (Bs.append (piece_bytes _ _) (bytesOf_bytes _))))))
theorem fit_ok {a most : Int} {nd : Bool} (hm : most ≤ 1073741824) (h : fitB a most nd = true) : Ok a ∧ (nd = false → a = 0) := by
  cases nd with
  | true => rw [fitB_true] at h; exact ⟨⟨by omega, by omega⟩, fun x => by cases x⟩
  | false => rw [fitB_false] at h; exact ⟨⟨by omega, by omega⟩, fun _ => h⟩
theorem kind_ok {d : Int} (h : isK d = true) : Ok d := by
  have := decide_eq_true_iff.1 h
  exact ⟨by omega, by omega⟩
theorem txtS_piece {t : ByteArray} {nd : Bool} (hf : fitB (t.size : Int) 64 nd = true) (r : List Int) : txtS (piece (t.size : Int) nd ++ (bytesOf t ++ r)) 0 nd = (t, r, 0) := by
  have ho := fit_ok (by decide) hf
  unfold txtS
  rw [numS_piece ho.1 ho.2]
  have hl := bytesOf_length t
  simp only [if_true, Int.toNat_natCast]
  rw [if_neg (by rw [List.length_append]; omega), ← hl, List.take_left, List.drop_left, str_bytesOf]
/-- What was put is got, and what follows is left. -/
theorem getC_back {u q d h n : Int} {t : ByteArray} (hm : mayB u q d h n t = true) (r : List Int) : getC (bytesC u q d h n t ++ r) = if 0 < r.length then zeroG 2 else (u, q, d, h, n, t, 0) := by
  obtain ⟨h1, h2, h3, h4, h5, h6⟩ := may_iff.1 hm
  have f2 := fit_ok (by decide) h2
  have f3 := fit_ok (by decide) h3
  have f4 := fit_ok (by decide) h4
  have f5 := fit_ok (by decide) h5
  unfold getC bytesC
  simp only [List.append_assoc]
  rw [numS_piece (nd := true) (kind_ok h1) (fun x => by cases x)]
  simp only [kindE, if_true, if_pos h1]
  unfold getU
  rw [numS_piece f2.1 f2.2]
  unfold getQ
  simp only
  rw [numS_piece f3.1 f3.2]
  unfold getH
  simp only
  rw [numS_piece f4.1 f4.2]
  unfold getN
  simp only
  rw [numS_piece f5.1 f5.2]
  unfold getT
  simp only
  rw [txtS_piece h6]
  unfold endS
  simp only [if_true, if_pos hm]
/-- Without its last bytes: some are lacking. -/
theorem getC_cut {u q d h n : Int} {t : ByteArray} (hm : mayB u q d h n t = true) {c : Nat} (hc : c < (bytesC u q d h n t).length) : getC ((bytesC u q d h n t).take c) = zeroG 3 := by
  obtain ⟨h1, h2, h3, h4, h5, h6⟩ := may_iff.1 hm
  have f2 := fit_ok (by decide) h2
  have f3 := fit_ok (by decide) h3
  have f4 := fit_ok (by decide) h4
  have f5 := fit_ok (by decide) h5
  have f6 := fit_ok (by decide) h6
  have e3 : ¬ (3 : Int) = 0 := by decide
  unfold bytesC at hc ⊢
  unfold getC
  rcases numS_cut (nd := true) (kind_ok h1) (fun x => by cases x) _ c with ⟨_, e⟩ | ⟨hl, e⟩
  · rw [e, show kindE (numS _ 0 true).1 3 = 3 by unfold kindE; rw [if_neg e3]]
    exact getU_err e3
  rw [e]
  simp only [kindE, if_true, if_pos h1]
  rw [List.length_append] at hc
  obtain ⟨c1, hc1⟩ : ∃ c1, c1 = c - (piece d true).length := ⟨_, rfl⟩
  rw [← hc1]
  replace hc : c1 < (piece u (nu d) ++ (piece q (nu d) ++ (piece h (nu d) ++ (piece n (nn d) ++ (piece (t.size : Int) (nt d) ++ bytesOf t))))).length := by omega
  clear hl e hc1
  unfold getU
  rcases numS_cut f2.1 f2.2 _ c1 with ⟨_, e⟩ | ⟨hl, e⟩
  · rw [e]; exact getQ_err e3
  rw [e]
  simp only
  rw [List.length_append] at hc
  obtain ⟨c2, hc2⟩ : ∃ c2, c2 = c1 - (piece u (nu d)).length := ⟨_, rfl⟩
  rw [← hc2]
  replace hc : c2 < (piece q (nu d) ++ (piece h (nu d) ++ (piece n (nn d) ++ (piece (t.size : Int) (nt d) ++ bytesOf t)))).length := by omega
  clear hl e hc2
  unfold getQ
  rcases numS_cut f3.1 f3.2 _ c2 with ⟨_, e⟩ | ⟨hl, e⟩
  · rw [e]; exact getH_err e3
  rw [e]
  simp only
  rw [List.length_append] at hc
  obtain ⟨c3, hc3⟩ : ∃ c3, c3 = c2 - (piece q (nu d)).length := ⟨_, rfl⟩
  rw [← hc3]
  replace hc : c3 < (piece h (nu d) ++ (piece n (nn d) ++ (piece (t.size : Int) (nt d) ++ bytesOf t))).length := by omega
  clear hl e hc3
  unfold getH
  rcases numS_cut f4.1 f4.2 _ c3 with ⟨_, e⟩ | ⟨hl, e⟩
  · rw [e]; exact getN_err e3
  rw [e]
  simp only
  rw [List.length_append] at hc
  obtain ⟨c4, hc4⟩ : ∃ c4, c4 = c3 - (piece h (nu d)).length := ⟨_, rfl⟩
  rw [← hc4]
  replace hc : c4 < (piece n (nn d) ++ (piece (t.size : Int) (nt d) ++ bytesOf t)).length := by omega
  clear hl e hc4
  unfold getN
  rcases numS_cut f5.1 f5.2 _ c4 with ⟨_, e⟩ | ⟨hl, e⟩
  · rw [e]; exact getT_err e3
  rw [e]
  simp only
  rw [List.length_append] at hc
  obtain ⟨c5, hc5⟩ : ∃ c5, c5 = c4 - (piece n (nn d)).length := ⟨_, rfl⟩
  rw [← hc5]
  replace hc : c5 < (piece (t.size : Int) (nt d) ++ bytesOf t).length := by omega
  clear hl e hc5
  have ht : (txtS ((piece (t.size : Int) (nt d) ++ bytesOf t).take c5) 0 (nt d)).2.2 = 3 := by
    unfold txtS
    rcases numS_cut f6.1 f6.2 (bytesOf t) c5 with ⟨_, e⟩ | ⟨hl, e⟩
    · rw [e, if_neg e3]
    · rw [e]
      rw [List.length_append, bytesOf_length] at hc
      simp only [if_true]
      rw [if_pos (by rw [List.length_take, bytesOf_length]; omega)]
  unfold getT endS
  rw [ht, if_neg e3]
/-- What is got may be, and its bytes are these; or there is an error. -/
theorem getC_all {b : List Int} (hb : Bs b) : (∃ e, ¬ e = 0 ∧ getC b = zeroG e) ∨ ∃ u q d h n t, mayB u q d h n t = true ∧ b = bytesC u q d h n t ∧ getC b = (u, q, d, h, n, t, 0) := by
  have two : ¬ (2 : Int) = 0 := by decide
  unfold getC
  by_cases e0 : ¬ ((numS b 0 true).2.2 = 0)
  · refine .inl ⟨_, e0, ?_⟩
    rw [show kindE (numS b 0 true).1 (numS b 0 true).2.2 = (numS b 0 true).2.2 by unfold kindE; rw [if_neg e0]]
    exact getU_err e0
  replace e0 := Classical.not_not.1 e0
  have b0 := numS_back hb e0
  have s0 := numS_bytes hb 0 true
  rw [e0]
  generalize numS b 0 true = p0 at *
  by_cases ck : ¬ (isK p0.1 = true)
  · refine .inl ⟨2, two, ?_⟩
    rw [show kindE p0.1 0 = 2 by unfold kindE; rw [if_pos rfl, if_neg ck]]
    exact getU_err two
  replace ck := Classical.not_not.1 ck
  rw [show kindE p0.1 0 = 0 by unfold kindE; rw [if_pos rfl, if_pos ck]]
  unfold getU
  by_cases e1 : ¬ ((numS p0.2.1 0 (nu p0.1)).2.2 = 0)
  · exact .inl ⟨_, e1, getQ_err e1⟩
  replace e1 := Classical.not_not.1 e1
  have b1 := numS_back s0.1 e1
  have s1 := numS_bytes s0.1 0 (nu p0.1)
  rw [e1]
  generalize numS p0.2.1 0 (nu p0.1) = p1 at *
  unfold getQ
  by_cases e2 : ¬ ((numS p1.2.1 0 (nu p0.1)).2.2 = 0)
  · exact .inl ⟨_, e2, getH_err e2⟩
  replace e2 := Classical.not_not.1 e2
  have b2 := numS_back s1.1 e2
  have s2 := numS_bytes s1.1 0 (nu p0.1)
  rw [e2]
  generalize numS p1.2.1 0 (nu p0.1) = p2 at *
  unfold getH
  by_cases e3 : ¬ ((numS p2.2.1 0 (nu p0.1)).2.2 = 0)
  · exact .inl ⟨_, e3, getN_err e3⟩
  replace e3 := Classical.not_not.1 e3
  have b3 := numS_back s2.1 e3
  have s3 := numS_bytes s2.1 0 (nu p0.1)
  rw [e3]
  generalize numS p2.2.1 0 (nu p0.1) = p3 at *
  unfold getN
  by_cases e4 : ¬ ((numS p3.2.1 0 (nn p0.1)).2.2 = 0)
  · exact .inl ⟨_, e4, getT_err e4⟩
  replace e4 := Classical.not_not.1 e4
  have b4 := numS_back s3.1 e4
  have s4 := numS_bytes s3.1 0 (nn p0.1)
  rw [e4]
  generalize numS p3.2.1 0 (nn p0.1) = p4 at *
  unfold getT
  by_cases e5 : ¬ ((txtS p4.2.1 0 (nt p0.1)).2.2 = 0)
  · exact .inl ⟨_, e5, by unfold endS; rw [if_neg e5]⟩
  replace e5 := Classical.not_not.1 e5
  have b5 : p4.2.1 = piece ((txtS p4.2.1 0 (nt p0.1)).1.size : Int) (nt p0.1) ++ (bytesOf (txtS p4.2.1 0 (nt p0.1)).1 ++ (txtS p4.2.1 0 (nt p0.1)).2.1) := by
    unfold txtS at e5 ⊢
    by_cases c : (numS p4.2.1 0 (nt p0.1)).2.2 = 0
    · rw [if_pos c] at e5 ⊢
      have b6 := numS_back s4.1 c
      have s6 := numS_bytes s4.1 0 (nt p0.1)
      generalize numS p4.2.1 0 (nt p0.1) = p6 at *
      by_cases c2 : (p6.2.1.length : Int) < p6.1
      · rw [if_pos c2] at e5; exact absurd e5 (show ¬ (3 : Int) = 0 by decide)
      · rw [if_neg c2]
        have hbt : Bs (p6.2.1.take p6.1.toNat) := s6.1.take _
        have hl : ((strOfNums (p6.2.1.take p6.1.toNat)).size : Int) = p6.1 := by
          rw [← bytesOf_length, bytesOf_str hbt, List.length_take]
          have := s6.2.2
          omega
        simp only [bytesOf_str hbt, List.take_append_drop]
        rw [hl]
        exact b6.2.1
    · rw [if_neg c] at e5; exact absurd e5 c
  rw [e5]
  generalize txtS p4.2.1 0 (nt p0.1) = p5 at *
  unfold endS
  rw [if_pos rfl]
  by_cases cl : 0 < p5.2.1.length
  · exact .inl ⟨2, two, if_pos cl⟩
  rw [if_neg cl]
  by_cases cm : mayB p1.1 p2.1 p0.1 p3.1 p4.1 p5.1 = true
  · refine .inr ⟨p1.1, p2.1, p0.1, p3.1, p4.1, p5.1, cm, ?_, if_pos cm⟩
    have el : p5.2.1 = [] := List.eq_nil_of_length_eq_zero (by omega)
    rw [el, List.append_nil] at b5
    rw [b0.2.1, b1.2.1, b2.2.1, b3.2.1, b4.2.1, b5]
    rfl
  · exact .inl ⟨2, two, if_neg cm⟩
end Go.Proofs.Ythkipipfdlepnaa.Pure

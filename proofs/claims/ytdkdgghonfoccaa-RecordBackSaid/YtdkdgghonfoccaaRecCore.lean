/- Plain laws of layer 3 (record): what a record's bytes are, and what Put, and the reference's Put, come to. -/
import Derived.Test.YtdkdgghonfoccaaPAllx2
import Derived.Test.YtdkdgghonfoccaaPAllx3
import Derived.Test.YtdkdgghonfoccaaAdlerSum
import Derived.Test.YtdkdgghonfoccaaRefSum
import Derived.Test.YtdkdgghonfoccaaVlqPutAll
import Derived.Test.YtdkdgghonfoccaaRefPut
namespace Go.Proofs.Ytdkdgghonfoccaa.Pure
open Go.RowKit Go.Proofs.Ytdkdgghonfoccaa.PAll Go.Proofs.YtdkdgghonfoccaaW.PrintWords Go.Proofs.YtdkdgghonfoccaaW.PrintLast Go.Proofs.YtdkdgghonfoccaaW.PrintMore
/-- Four bytes of a number, the high one first. -/
def be4L (s : Int) : List Int := [s / 16777216 % 256, s / 65536 % 256, s / 256 % 256, s % 256]
theorem be4L_len (s : Int) : (be4L s).length = 4 := rfl
theorem be4L_bytes (s : Int) : Bs (be4L s) := by
  intro c hc
  simp only [be4L, List.mem_cons, List.not_mem_nil, or_false] at hc
  omega
/-- The bytes of a record. -/
def frame (m : Nat) (body : List Int) : List Int := enc m ++ (enc body.length ++ (be4L (sumOf body) ++ body))
def recOf (kind : Int) (body : List Int) : List Int × Int :=
  if kind < 0 ∨ kind > 1048576 then ([], 1) else if (body.length : Int) > 1024 then ([], 7) else (frame kind.toNat body, 0)
theorem frame_len (m : Nat) (body : List Int) : (frame m body).length = sz m + sz body.length + 4 + body.length := by
  simp only [frame, List.length_append, enc_length, be4L_len]; omega
theorem frame_bytes (m : Nat) {body : List Int} (hb : Bs body) : Bs (frame m body) :=
  Bs.append (enc_bytes _) (Bs.append (enc_bytes _) (Bs.append (be4L_bytes _) hb))
theorem sz_kind {m : Nat} (h : m ≤ 1048576) : sz m ≤ 3 := (sz_le_iff (by decide)).2 (by rw [show 2 ^ (7 * 3) = 2097152 by decide]; omega)
theorem sz_body {m : Nat} (h : m ≤ 1024) : sz m ≤ 2 := (sz_le_iff (by decide)).2 (by rw [show 2 ^ (7 * 2) = 16384 by decide]; omega)
theorem recOf_bytes (kind : Int) {body : List Int} (hb : Bs body) : Bs (recOf kind body).1 := by
  unfold recOf
  split
  · exact Bs.nil
  · split
    · exact Bs.nil
    · exact frame_bytes _ hb
theorem recOf_len (kind : Int) (body : List Int) : (recOf kind body).1.length ≤ 1033 := by
  unfold recOf
  split
  · simp
  · split
    · simp
    · rename_i h1 h2
      have := sz_kind (m := kind.toNat) (by omega)
      have := sz_body (m := body.length) (by omega)
      simp only [frame_len]; omega
theorem recOf_zero {kind : Int} {body : List Int} (h : (recOf kind body).2 = 0) : 0 ≤ kind ∧ kind ≤ 1048576 ∧ body.length ≤ 1024 ∧ recOf kind body = (frame kind.toNat body, 0) := by
  unfold recOf at h ⊢
  by_cases h1 : kind < 0 ∨ kind > 1048576
  · rw [if_pos h1] at h; simp at h
  rw [if_neg h1] at h ⊢
  by_cases h2 : (body.length : Int) > 1024
  · rw [if_pos h2] at h; simp at h
  rw [if_neg h2]
  exact ⟨by omega, by omega, by omega, rfl⟩
theorem recOf_err {kind : Int} {body : List Int} (h : ¬ (recOf kind body).2 = 0) : (recOf kind body).1 = [] := by
  unfold recOf at h ⊢
  by_cases h1 : kind < 0 ∨ kind > 1048576
  · rw [if_pos h1]
  rw [if_neg h1] at h ⊢
  by_cases h2 : (body.length : Int) > 1024
  · rw [if_pos h2]
  rw [if_neg h2] at h
  exact absurd rfl h
theorem pair_all {m n : Nat} (hm : m ≤ 1048576) (hn : n ≤ 1024) : putAllOf [(m : Int), (n : Int)] = (enc m ++ enc n, 0) := by
  rw [putAllOf_ok]
  · simp [encAll]
  · intro a ha
    simp only [List.mem_cons, List.not_mem_nil, or_false] at ha
    unfold Ok; omega
theorem put_bytes {s : Int} (e1 e2 : List Int) (b : List Int) (he : e1.length + e2.length < 1000000) (hbl : b.length < 1000000) (kind : Int) : Ev (fun k => record_Put.l0 k (e1 ++ e2) s 0 kind b) (e1 ++ (e2 ++ (be4L s ++ b)), 0) := by
  have y0 : wrap64 (8 * wrap64 (3 - 0)) = 24 := by unfold wrap64; omega
  have y1 : wrap64 (8 * wrap64 (3 - 1)) = 16 := by unfold wrap64; omega
  have y2 : wrap64 (8 * wrap64 (3 - 2)) = 8 := by unfold wrap64; omega
  have y3 : wrap64 (8 * wrap64 (3 - 3)) = 0 := by unfold wrap64; omega
  have v0 : shr .u32 s 24 = s / 16777216 := rfl
  have v1 : shr .u32 s 16 = s / 65536 := rfl
  have v2 : shr .u32 s 8 = s / 256 := rfl
  have v3 : shr .u32 s 0 = s := Int.ediv_one s
  refine Ev.step (fun k => by rw [record_Put.l0, if_pos (by decide), y0, if_pos (by decide), if_pos (by simp; omega), v0, show wrap64 (0 + 1) = 1 by unfold wrap64; omega]) ?_
  refine Ev.step (fun k => by rw [record_Put.l0, if_pos (by decide), y1, if_pos (by decide), if_pos (by simp; omega), v1, show wrap64 (1 + 1) = 2 by unfold wrap64; omega]) ?_
  refine Ev.step (fun k => by rw [record_Put.l0, if_pos (by decide), y2, if_pos (by decide), if_pos (by simp; omega), v2, show wrap64 (2 + 1) = 3 by unfold wrap64; omega]) ?_
  refine Ev.step (fun k => by rw [record_Put.l0, if_pos (by decide), y3, if_pos (by decide), if_pos (by simp; omega), v3, show wrap64 (3 + 1) = 4 by unfold wrap64; omega]) ?_
  refine Ev.step (fun k => by rw [record_Put.l0, if_neg (by decide), if_pos (by simp; omega)]) (Ev.congr (fun k => ?_) (Ev.now _))
  simp only [be4L, List.append_assoc, List.cons_append, List.nil_append]
theorem rput_j0 {kind : Int} {body : List Int} (hb : Bs body) (h0 : ¬ kind < 0) : Ev (fun k => record_Put.j0 k (decide (kind > 1048576)) kind body) (recOf kind body) := by
  unfold recOf
  by_cases h1 : kind > 1048576
  · rw [decide_eq_true h1, if_pos (.inr h1)]
    exact Ev.step (f := fun _ => some ([], 1)) (fun k => by rw [record_Put.j0, if_pos rfl]) (Ev.now _)
  rw [decide_eq_false h1, if_neg (by omega)]
  by_cases h2 : (body.length : Int) > 1024
  · rw [if_pos h2]
    exact Ev.step (f := fun _ => some ([], 7)) (fun k => by rw [record_Put.j0, if_neg (by decide), if_pos h2]) (Ev.now _)
  rw [if_neg h2]
  obtain ⟨m, rfl⟩ := Int.eq_ofNat_of_zero_le (show 0 ≤ kind by omega)
  refine Ev.step (fun k => by rw [record_Put.j0, if_neg (by decide), if_neg h2]) ?_
  refine Ev.bind (putAll_ev (by simp)) (Ev.bind (sum_ev body (by omega) hb) ?_)
  rw [pair_all (by omega) (by omega)]
  have := sz_kind (m := m) (by omega)
  have := sz_body (m := body.length) (by omega)
  exact put_bytes _ _ _ (by simp only [enc_length]; omega) (by omega) _
theorem rput_ev {kind : Int} {body : List Int} (hb : Bs body) : Ev (fun k => record_Put.f k kind body) (recOf kind body) := by
  by_cases h0 : kind < 0
  · refine Ev.congr (fun k => if_pos h0) ?_
    rw [recOf, if_pos (.inl h0)]
    exact Ev.step (f := fun _ => some ([], 1)) (fun k => by rw [record_Put.j0, if_pos rfl]) (Ev.now _)
  · exact Ev.congr (fun k => if_neg h0) (rput_j0 hb h0)
theorem refrput_j0 {kind : Int} {body : List Int} (hb : Bs body) (h0 : ¬ kind < 0) : Ev (fun k => colloquyref03_Put.j0 k (decide (kind > 1048576)) kind body) (recOf kind body) := by
  unfold recOf
  by_cases h1 : kind > 1048576
  · rw [decide_eq_true h1, if_pos (.inr h1)]
    exact Ev.step (f := fun _ => some ([], 1)) (fun k => by rw [colloquyref03_Put.j0, if_pos rfl]) (Ev.now _)
  rw [decide_eq_false h1, if_neg (by omega)]
  by_cases h2 : (body.length : Int) > 1024
  · rw [if_pos h2]
    exact Ev.step (f := fun _ => some ([], 7)) (fun k => by rw [colloquyref03_Put.j0, if_neg (by decide), if_pos h2]) (Ev.now _)
  rw [if_neg h2]
  obtain ⟨m, rfl⟩ := Int.eq_ofNat_of_zero_le (show 0 ≤ kind by omega)
  refine Ev.step (fun k => by rw [colloquyref03_Put.j0, if_neg (by decide), if_neg h2]) ?_
  refine Ev.bind (refputAll_ev (by simp)) (Ev.bind (refsum_ev body (by omega) hb) ?_)
  rw [pair_all (by omega) (by omega)]
  have := sz_kind (m := m) (by omega)
  have := sz_body (m := body.length) (by omega)
  have hs := sumOf_bd body
  have e : [Int.tdiv (sumOf body) 16777216 % 4294967296 % 256, Int.tdiv (sumOf body) 65536 % 4294967296 % 256, Int.tdiv (sumOf body) 256 % 4294967296 % 256, Int.tmod (sumOf body) 256 % 256] = be4L (sumOf body) := by
    generalize sumOf body = s at hs
    rw [Int.tdiv_eq_ediv_of_nonneg hs.1, Int.tdiv_eq_ediv_of_nonneg hs.1, Int.tdiv_eq_ediv_of_nonneg hs.1, Int.tmod_eq_emod_of_nonneg hs.1]
    unfold be4L
    congr 1
    · omega
    · congr 1
      · omega
      · congr 1
        · omega
        · congr 1; omega
  rw [e]
  simp only [Option.bind_some]
  refine Ev.congr (fun k => if_pos (by simp only [List.length_append, enc_length, be4L_len]; omega)) ?_
  refine Ev.congr (fun k => if_pos (by simp only [List.length_append, enc_length, be4L_len]; omega)) ?_
  rw [frame, List.append_assoc, List.append_assoc]
  exact Ev.now _
theorem refrput_ev {kind : Int} {body : List Int} (hb : Bs body) : Ev (fun k => colloquyref03_Put.f k kind body) (recOf kind body) := by
  by_cases h0 : kind < 0
  · refine Ev.congr (fun k => if_pos h0) ?_
    rw [recOf, if_pos (.inl h0)]
    exact Ev.step (f := fun _ => some ([], 1)) (fun k => by rw [colloquyref03_Put.j0, if_pos rfl]) (Ev.now _)
  · exact Ev.congr (fun k => if_neg h0) (refrput_j0 hb h0)
theorem awake_ev : Ev (fun k => colloquylaw03_awake.f k) true := by
  refine Ev.bind (rput_ev (kind := 5) Bs.nil) ?_
  have e1 : recOf 5 [] = ([5, 0, 0, 0, 0, 1], 0) := by
    rw [recOf, if_neg (by decide), if_neg (by decide), frame, show (5 : Int).toNat = 5 by decide, enc_lt (by decide), List.length_nil, enc_lt (by decide)]
    rfl
  rw [e1]
  have e : (strOfNums [5, 0, 0, 0, 0, 1]).toList = ([5, 0, 0, 0, 0, 1] : List UInt8) := by
    rw [ByteArray.toList_eq]; rfl
  simp only [if_true, e, BEq.rfl]
  exact Ev.now _
end Go.Proofs.Ytdkdgghonfoccaa.Pure

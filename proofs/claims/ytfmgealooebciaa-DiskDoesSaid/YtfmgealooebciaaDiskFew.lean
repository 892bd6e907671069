/- What few tells, and facts for the laws over many ops. -/
import Derived.Test.YtfmgealooebciaaDiskSmall
import Derived.Test.YtfmgealooebciaaPAllx1
namespace Go.Proofs.Ytfmgealooebciaa.PAll
open Go.RowKit Go.Proofs.YtfmgealooebciaaW.PrintWords Go.Proofs.YtfmgealooebciaaW.PrintLast Go.Proofs.YtfmgealooebciaaW.PrintMore
set_option linter.unusedVariables false
theorem few_l0 (l : List S33) (hl : l.length ≤ 60) : ∀ k j : Nat, j ≤ l.length → l.length < j + k → ∃ b, colloquylaw19_few.l0 k l (j : Int) = some b ∧ (b = true → ∀ i : Nat, j ≤ i → i < l.length → (rd_T33 l (i : Int)).f2.length ≤ 40 ∧ (rd_T33 l (i : Int)).f3.length ≤ 60)
  | 0, j, h1, h2 => by omega
  | k + 1, j, h1, h2 => by
    unfold colloquylaw19_few.l0
    by_cases c : j < l.length
    · rw [if_pos (by omega), if_pos (by omega)]
      by_cases c1 : ((rd_T33 l (j : Int)).f2.length : Int) > 40
      · rw [if_pos c1]; exact ⟨false, rfl, fun h => by cases h⟩
      · rw [if_neg c1]
        by_cases c2 : ((rd_T33 l (j : Int)).f3.length : Int) > 60
        · rw [if_pos c2]; exact ⟨false, rfl, fun h => by cases h⟩
        · rw [if_neg c2, widx (by omega)]
          obtain ⟨b, hb, hh⟩ := few_l0 l hl k (j + 1) (by omega) (by omega)
          refine ⟨b, hb, fun hbt i hi1 hi2 => ?_⟩
          by_cases c3 : i = j
          · subst c3; omega
          · exact hh hbt i (by omega) hi2
    · rw [if_neg (by omega)]
      exact ⟨true, rfl, fun _ i hi1 hi2 => by omega⟩
theorem few_total (l : List S33) : ∃ b, colloquylaw19_few.f 61 l = some b ∧ (b = true → l.length ≤ 60 ∧ ∀ i : Nat, i < l.length → (rd_T33 l (i : Int)).f2.length ≤ 40 ∧ (rd_T33 l (i : Int)).f3.length ≤ 60) := by
  unfold colloquylaw19_few.f
  by_cases c : (l.length : Int) > 60
  · rw [if_pos c]; exact ⟨false, rfl, fun h => by cases h⟩
  · rw [if_neg c]
    obtain ⟨b, hb, hh⟩ := few_l0 l (by omega) 61 0 (by omega) (by omega)
    exact ⟨b, hb, fun hbt => ⟨by omega, fun i hi => hh hbt i (by omega) hi⟩⟩
theorem C_blk {w w' : World} {g n : Nat} {cur : Array Value} {e : TypeId} {l : List Int} (h : Kd.C (Kd.int .u8) w (some ⟨g, 0, none⟩) n l) (h1 : w.heap[g]? = some (.cells cur e (0, 0))) (h2 : w'.heap[g]? = some (.cells cur e (0, 0))) : Kd.C (Kd.int .u8) w' (some ⟨g, 0, none⟩) n l := by
  refine ⟨h.1, h.2.1, fun hn => ?_⟩
  obtain ⟨ad, he, hh⟩ := h.2.2 hn
  obtain rfl := Option.some.inj he
  refine ⟨_, rfl, fun j p hp => ?_⟩
  obtain ⟨c, hl, hK, hc⟩ := hh j p hp
  refine ⟨c, hl, hK, fun i u hu => ?_⟩
  have := hc i u hu
  rw [add_zero_at, cell_of_row w g _ _ _ _ h1] at this
  rw [add_zero_at, cell_of_row w' g _ _ _ _ h2]
  exact this
theorem zero_f : colloquylaw19_ones.f 30 0 = some zeroS := by kernel_rfl
theorem mm (n : Int) : ∃ (m1 : Int) (m : Nat), (if n < 1 then (1 : Int) else n) = m1 ∧ (if 512 < m1 then (512 : Int) else m1) = (m : Int) ∧ m ≤ 512 ∧ 1 ≤ m := by
  by_cases c : n < 1
  · exact ⟨1, 1, by rw [if_pos c], by decide, by decide, by decide⟩
  · by_cases d : 512 < n
    · exact ⟨n, 512, by rw [if_neg c], by rw [if_pos d]; rfl, by decide, by decide⟩
    · exact ⟨n, n.toNat, by rw [if_neg c], by rw [if_neg d]; omega, by omega, by omega⟩
/-- A sector behind writes is what is read of it. -/
theorem applyW_get (i : Int) (h0 : 0 ≤ i) : ∀ (W : List (Int × List Int)) (S : List (List Int)) (s : List Int), (∀ p ∈ W, 0 ≤ p.1 ∧ p.1 < (S.length : Int)) → S[i.toNat]? = some s → (applyW S W)[i.toNat]? = some (readW i W s)
  | [], S, s, _, hs => hs
  | p :: W, S, s, hv, hs => by
    have hp := hv p (by simp)
    show (applyW (S.set p.1.toNat p.2) W)[i.toNat]? = some (readW i W (if p.1 = i then p.2 else s))
    refine applyW_get i h0 W _ _ (fun q hq => by rw [List.length_set]; exact hv q (by simp [hq])) ?_
    have hi : i.toNat < S.length := (List.getElem?_eq_some_iff.1 hs).1
    by_cases c : p.1 = i
    · rw [if_pos c, c, List.getElem?_set_self hi]
    · rw [if_neg c, List.getElem?_set_ne (by omega)]
      exact hs
theorem applyW_16 : ∀ (W : List (Int × List Int)) (S : List (List Int)), (∀ p ∈ W, p.2.length = 16) → (∀ s ∈ S, s.length = 16) → ∀ s ∈ applyW S W, s.length = 16
  | [], S, _, hS => hS
  | p :: W, S, hW, hS => by
    refine applyW_16 W (S.set p.1.toNat p.2) (fun q hq => hW q (by simp [hq])) (fun s hs => ?_)
    rcases List.mem_or_eq_of_mem_set hs with h | h
    · exact hS s h
    · rw [h]; exact hW p (by simp)
theorem len_walk (base D gS cW : Nat) (A : Option Addr) (S : List (List Int)) (W : List (Int × List Int)) (w : World) (h : DiskAt base D gS A cW S W w) :
    Calls Try.prog 22 #[.pointer (some ⟨D, 0, none⟩)] w fun x w' => x = .returned (.int .i64 (S.length : Int)) ∧ w' = w := by
  have q0 : w.cell? ⟨D, 0, none⟩ = some (.slice (some ⟨gS, 0, none⟩) S.length S.length) := (blk_cell h.1 0).trans rfl
  clear h
  go_enter Try.func22, Try.ntmps22
  go_wp2
  go_ret
  exact ⟨rfl, rfl⟩
theorem waiting_walk (base D gS cW : Nat) (A : Option Addr) (S : List (List Int)) (W : List (Int × List Int)) (w : World) (h : DiskAt base D gS A cW S W w) :
    Calls Try.prog 21 #[.pointer (some ⟨D, 0, none⟩)] w fun x w' => x = .returned (.int .i64 (W.length : Int)) ∧ w' = w := by
  have q1 : w.cell? ⟨D, 1, none⟩ = some (.slice A W.length cW) := (blk_cell h.1 1).trans rfl
  clear h
  go_enter Try.func21, Try.ntmps21
  go_wp2
  go_ret
  exact ⟨rfl, rfl⟩
/-- What is known of a disk's parts. -/
structure Parts (m j : Nat) (S : List (List Int)) (W : List (Int × List Int)) : Prop where
  len : S.length = m
  s16 : ∀ s ∈ S, s.length = 16
  val : ∀ p ∈ W, 0 ≤ p.1 ∧ p.1 < (S.length : Int) ∧ p.2.length = 16
  few : W.length ≤ j
theorem Parts.new (m : Nat) : Parts m 0 (List.replicate m zeroS) [] :=
  ⟨List.length_replicate, fun s hs => by rw [List.eq_of_mem_replicate hs]; rfl, by simp, Nat.le_refl _⟩
theorem Parts.mono {m j j' : Nat} {S : List (List Int)} {W : List (Int × List Int)} (h : Parts m j S W) (hj : j ≤ j') : Parts m j' S W := ⟨h.len, h.s16, h.val, Nat.le_trans h.few hj⟩
theorem Parts.sync {m j : Nat} {S : List (List Int)} {W : List (Int × List Int)} (h : Parts m j S W) : Parts m (j + 1) (applyW S W) [] :=
  ⟨(applyW_len W S).trans h.len, applyW_16 W S (fun p hp => (h.val p hp).2.2) h.s16, by simp, by simp⟩
theorem Parts.write {m j : Nat} {S : List (List Int)} {W : List (Int × List Int)} (h : Parts m j S W) (i : Int) (b : List Int) (h0 : 0 ≤ i) (h1 : i < (S.length : Int)) (hb : b.length = 16) : Parts m (j + 1) S (W ++ [(i, b)]) :=
  ⟨h.len, h.s16, fun p hp => by rcases List.mem_append.1 hp with hp | hp; exact h.val p hp; rw [List.mem_singleton] at hp; subst hp; exact ⟨h0, h1, hb⟩, by rw [List.length_append]; have := h.few; simp; omega⟩
end Go.Proofs.Ytfmgealooebciaa.PAll

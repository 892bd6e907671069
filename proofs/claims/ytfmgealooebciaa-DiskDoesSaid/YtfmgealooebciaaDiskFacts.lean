/- Facts on the disk's parts behind a crash. -/
import Derived.Test.YtfmgealooebciaaDiskFew
namespace Go.Proofs.Ytfmgealooebciaa.PAll
open Go.RowKit Go.Proofs.YtfmgealooebciaaW.PrintWords Go.Proofs.YtfmgealooebciaaW.PrintLast Go.Proofs.YtfmgealooebciaaW.PrintMore
set_option linter.unusedVariables false
theorem bytes_few (bytes : Int) : ∃ (m1 : Int) (n : Nat), (if bytes < 0 then (0 : Int) else bytes) = m1 ∧ (if 16 < m1 then (16 : Int) else m1) = (n : Int) ∧ n ≤ 16 := by
  by_cases c : bytes < 0
  · exact ⟨0, 0, by rw [if_pos c], by decide, by decide⟩
  · by_cases d : 16 < bytes
    · exact ⟨bytes, 16, by rw [if_neg c], by rw [if_pos d]; rfl, by decide⟩
    · exact ⟨bytes, bytes.toNat, by rw [if_neg c], by rw [if_neg d]; omega, by omega⟩
theorem crashS_16 {keep : List Bool} {torn : Int} {n j : Nat} {S : List (List Int)} {p : Int × List Int} (hn : n ≤ 16) (hS : ∀ s ∈ S, s.length = 16) (hp : 0 ≤ p.1 ∧ p.1 < (S.length : Int) ∧ p.2.length = 16) : ∀ s ∈ crashS keep torn n S j p, s.length = 16 := by
  intro s hs
  unfold crashS at hs
  split at hs
  · rcases List.mem_or_eq_of_mem_set hs with h | h
    · exact hS s h
    · rw [h]; exact hp.2.2
  · split at hs
    · rcases List.mem_or_eq_of_mem_set hs with h | h
      · exact hS s h
      · have hlt : p.1.toNat < S.length := by omega
        have h16 : (S.getD p.1.toNat []).length = 16 := by
          rw [List.getD_eq_getElem?_getD, List.getElem?_eq_getElem hlt, Option.getD_some]
          exact hS _ (List.getElem_mem hlt)
        rw [h, List.length_append, List.length_take, List.length_drop, h16, hp.2.2]
        omega
    · exact hS s hs
theorem crashW_16 {keep : List Bool} {torn : Int} {n : Nat} {S : List (List Int)} {W : List (Int × List Int)} (hn : n ≤ 16) (hS : ∀ s ∈ S, s.length = 16) (hW : ∀ p ∈ W, 0 ≤ p.1 ∧ p.1 < (S.length : Int) ∧ p.2.length = 16) : ∀ j, ∀ s ∈ crashW keep torn n S W j, s.length = 16
  | 0 => hS
  | j + 1 => by
    rw [crashW]
    split
    · rename_i p hp
      exact crashS_16 hn (crashW_16 hn hS hW j) (by rw [crashW_len]; exact hW p (List.mem_of_getElem? hp))
    · exact crashW_16 hn hS hW j
theorem Parts.crash {m j : Nat} {S : List (List Int)} {W : List (Int × List Int)} (h : Parts m j S W) (keep : List Bool) (torn : Int) {n : Nat} (hn : n ≤ 16) : Parts m (j + 1) (crashW keep torn n S W W.length) [] :=
  ⟨(crashW_len keep torn n S W _).trans h.len, crashW_16 hn h.s16 h.val _, by simp, by simp⟩
/-- A sector that no write was for is what it was. -/
theorem crashW_ne {keep : List Bool} {torn : Int} {n : Nat} {S : List (List Int)} {W : List (Int × List Int)} {i : Int} (h0 : 0 ≤ i) (hW : ∀ p ∈ W, 0 ≤ p.1 ∧ p.1 ≠ i) : ∀ j, (crashW keep torn n S W j)[i.toNat]? = S[i.toNat]?
  | 0 => rfl
  | j + 1 => by
    rw [crashW]
    split
    · rename_i p hp
      have hp' := hW p (List.mem_of_getElem? hp)
      have ne : p.1.toNat ≠ i.toNat := by omega
      refine Eq.trans ?_ (crashW_ne (keep := keep) (torn := torn) (n := n) h0 hW j)
      unfold crashS
      split
      · exact List.getElem?_set_ne ne
      · split
        · exact List.getElem?_set_ne ne
        · rfl
    · exact crashW_ne h0 hW j
theorem readW_ne (i : Int) : ∀ (W : List (Int × List Int)) (s : List Int), (∀ p ∈ W, p.1 ≠ i) → readW i W s = s
  | [], s, _ => rfl
  | p :: W, s, h => by
    rw [readW, if_neg (h p (by simp))]
    exact readW_ne i W s (fun q hq => h q (by simp [hq]))
end Go.Proofs.Ytfmgealooebciaa.PAll

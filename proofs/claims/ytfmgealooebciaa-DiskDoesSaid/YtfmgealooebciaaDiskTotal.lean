/- Total contracts of the disk's methods; a disk beside others. -/
import Derived.Test.YtfmgealooebciaaDiskFacts
namespace Go.Proofs.Ytfmgealooebciaa.PAll
open Go.RowKit Go.Proofs.YtfmgealooebciaaW.PrintWords Go.Proofs.YtfmgealooebciaaW.PrintLast Go.Proofs.YtfmgealooebciaaW.PrintMore
set_option linter.unusedVariables false
/-- A disk's own blocks. -/
def InD (D gS : Nat) (A : Option Addr) (k : Nat) : Prop := k = D ∨ k = gS ∨ ∃ a, A = some a ∧ k = a.block
theorem DiskAt.inD {base D gS cW : Nat} {A : Option Addr} {S : List (List Int)} {W : List (Int × List Int)} {w : World} (h : DiskAt base D gS A cW S W w) {k : Nat} (hk : InD D gS A k) : base ≤ k ∧ ∃ cs t, (t = 51 ∨ t = 54 ∨ t = 56) ∧ w.heap[k]? = some (.cells cs t (0, 0)) := by
  obtain ⟨hD, hb, hbS, ⟨cS, hcS, h1, h2⟩, hO⟩ := h
  rcases hk with rfl | rfl | ⟨a, ha, rfl⟩
  · exact ⟨hb, _, _, .inl rfl, hD⟩
  · exact ⟨hbS, _, _, .inr (.inl rfl), hcS⟩
  · rcases hO.2 with ⟨he, _⟩ | ⟨g, cap, cur, he, hg, hh, _⟩
    · injection he with hA
      rw [hA] at ha; cases ha
    · injection he with hA
      rw [hA] at ha
      obtain rfl := Option.some.inj ha
      exact ⟨hg, _, _, .inr (.inr rfl), hh⟩
theorem DiskAt.move {base D gS cW : Nat} {A : Option Addr} {S : List (List Int)} {W : List (Int × List Int)} {w w' : World} (h : DiskAt base D gS A cW S W w) (hm : ∀ k, InD D gS A k → w'.heap[k]? = w.heap[k]?) : DiskAt base D gS A cW S W w' := by
  obtain ⟨hD, hb, hbS, ⟨cS, hcS, h1, h2⟩, hO⟩ := h
  refine ⟨(hm D (.inl rfl)).trans hD, hb, hbS, ⟨cS, (hm gS (.inr (.inl rfl))).trans hcS, h1, h2⟩, own_move hO (fun k hk => hm k (.inr (.inr ?_)))⟩
  obtain ⟨hA, _⟩ := own_block hO k hk
  exact ⟨_, hA, rfl⟩
theorem Touch.keep {D gS : Nat} {A : Option Addr} {w w' : World} (h : Touch D gS A w w') {k : Nat} (hk : k < w.heap.size) (hn : ¬ InD D gS A k) : w'.heap[k]? = w.heap[k]? :=
  h.block k hk (fun e => hn (.inl e)) (fun e => hn (.inr (.inl e))) (fun a ha e => hn (.inr (.inr ⟨a, ha, e⟩)))
theorem DiskAt.touch {D gS base2 D2 gS2 cW2 : Nat} {A A2 : Option Addr} {S2 : List (List Int)} {W2 : List (Int × List Int)} {w w' : World} (h2 : DiskAt base2 D2 gS2 A2 cW2 S2 W2 w) (ht : Touch D gS A w w') (ha : ∀ k, InD D2 gS2 A2 k → ¬ InD D gS A k) : DiskAt base2 D2 gS2 A2 cW2 S2 W2 w' :=
  h2.move (fun k hk => ht.keep (by obtain ⟨_, cs, t, _, hh⟩ := h2.inD hk; exact blk_lt hh) (ha k hk))
theorem DiskAt.lt {base D gS cW : Nat} {A : Option Addr} {S : List (List Int)} {W : List (Int × List Int)} {w : World} (h : DiskAt base D gS A cW S W w) {k : Nat} (hk : InD D gS A k) : k < w.heap.size := by
  obtain ⟨_, cs, t, _, hh⟩ := h.inD hk
  exact blk_lt hh
/-- What a write answers, and what waits behind it. -/
def writeE (S : List (List Int)) (i : Int) (b : List Int) : Int := if 0 ≤ i ∧ i < (S.length : Int) ∧ b.length = 16 then 0 else 1
def writeW (S : List (List Int)) (W : List (Int × List Int)) (i : Int) (b : List Int) : List (Int × List Int) := if 0 ≤ i ∧ i < (S.length : Int) ∧ b.length = 16 then W ++ [(i, b)] else W
theorem write_walk (base D gS cW : Nat) (A Ab : Option Addr) (S : List (List Int)) (W : List (Int × List Int)) (i : Int) (b : List Int) (n cb : Nat) (w : World) (h : DiskAt base D gS A cW S W w) (hn : W.length < 1099511627776) (hC : Kd.C (Kd.int .u8) w Ab n b) (hcb : n ≤ cb) :
    Calls Try.prog 13 #[.pointer (some ⟨D, 0, none⟩), .int .i64 i, .slice Ab n cb] w fun x w' => x = .returned (.int .i64 (writeE S i b)) ∧ ∃ A' cW', DiskAt base D gS A' cW' S (writeW S W i b) w' ∧ Touch D gS A w w' ∧ (∀ k, InD D gS A' k → InD D gS A k ∨ w.heap.size ≤ k) := by
  obtain rfl : b.length = n := hC.1
  by_cases c : 0 ≤ i ∧ i < (S.length : Int) ∧ b.length = 16
  · obtain ⟨c0, c1, c2⟩ := c
    obtain ⟨x0, x1, x2, x3, x4, x5, x6, x7, x8, x9, x10, x11, x12, x13, x14, x15, rfl⟩ := len16 c2
    obtain ⟨ad, eA, _⟩ := hC.2.2 (by simp)
    subst eA
    rw [writeE, if_pos ⟨c0, c1, c2⟩, writeW, if_pos ⟨c0, c1, c2⟩]
    refine (write_yes base D gS cW A S W i x0 x1 x2 x3 x4 x5 x6 x7 x8 x9 x10 x11 x12 x13 x14 x15 ad cb w h (decide_eq_true c0) (decide_eq_true c1) hn hcb (C_cells hC)).mono ?_
    rintro x w' ⟨rfl, A', cW', hd, ht, ha⟩
    refine ⟨rfl, A', cW', hd, ht, fun k hk => ?_⟩
    rcases hk with rfl | rfl | ⟨a, hA, rfl⟩
    · exact .inl (.inl rfl)
    · exact .inl (.inr (.inl rfl))
    · rcases ha a hA with e | e
      · exact .inl (.inr (.inr ⟨a, by rw [e]; exact hA, rfl⟩))
      · exact .inr e
  · rw [writeE, if_neg c, writeW, if_neg c]
    refine (write_no base D gS cW A Ab S W i b.length cb w h ?_).mono ?_
    · by_cases c0 : 0 ≤ i
      · by_cases c1 : i < (S.length : Int)
        · exact .inr (.inr ⟨decide_eq_true c0, decide_eq_true c1, bne_iff_ne.mpr (fun e => c ⟨c0, c1, by omega⟩)⟩)
        · exact .inr (.inl ⟨decide_eq_true c0, decide_eq_false c1⟩)
      · exact .inl (decide_eq_false c0)
    · rintro x w' ⟨rfl, rfl⟩
      exact ⟨rfl, A, cW, h, Touch.refl _ _ _ _, fun k hk => .inl hk⟩
/-- What a read answers. -/
def readE (S : List (List Int)) (i : Int) : Int := if 0 ≤ i ∧ i < (S.length : Int) then 0 else 1
def readL (S : List (List Int)) (W : List (Int × List Int)) (i : Int) : List Int := if 0 ≤ i ∧ i < (S.length : Int) then readW i W (S.getD i.toNat []) else []
theorem read_walk (base D gS cW m j : Nat) (A : Option Addr) (S : List (List Int)) (W : List (Int × List Int)) (i : Int) (w : World) (h : DiskAt base D gS A cW S W w) (hp : Parts m j S W) (hj : j < 1099511627776) :
    Calls Try.prog 19 #[.pointer (some ⟨D, 0, none⟩), .int .i64 i] w fun x w' => ∃ v, x = .returned (.tuple #[v, .int .i64 (readE S i)]) ∧ Kd.R (Kd.int .u8) 5 w' w.heap.size (fun _ => True) v (readL S W i) ∧ Below w.heap.size w w' := by
  by_cases c : 0 ≤ i ∧ i < (S.length : Int)
  · obtain ⟨c0, c1⟩ := c
    rw [readE, if_pos ⟨c0, c1⟩, readL, if_pos ⟨c0, c1⟩]
    have hlt : i.toNat < S.length := by omega
    have hs : S[i.toNat]? = some (S.getD i.toNat []) := by rw [List.getD_eq_getElem?_getD, List.getElem?_eq_getElem hlt, Option.getD_some]
    exact read_yes base D gS cW A S W i _ w h (decide_eq_true c0) (decide_eq_true c1) hs (hp.s16 _ (List.mem_of_getElem? hs)) (Nat.lt_of_le_of_lt hp.few hj) (fun p hq => (hp.val p hq).2.2)
  · rw [readE, if_neg c, readL, if_neg c]
    refine (read_no base D gS cW A S W i w h ?_).mono ?_
    · by_cases c0 : 0 ≤ i
      · exact .inr ⟨decide_eq_true c0, decide_eq_false (fun c1 => c ⟨c0, c1⟩)⟩
      · exact .inl (decide_eq_false c0)
    · rintro x w' ⟨rfl, rfl⟩
      exact ⟨_, rfl, Kd.R_nil _ _ _ _ _, Below.refl _ _⟩
theorem Parts.writeW {m j : Nat} {S : List (List Int)} {W : List (Int × List Int)} (h : Parts m j S W) (i : Int) (b : List Int) : Parts m (j + 1) S (writeW S W i b) := by
  unfold PAll.writeW
  split
  · rename_i c
    exact h.write i b c.1 c.2.1 c.2.2
  · exact h.mono (Nat.le_succ _)
/-- Two disks apart. -/
def Apart (D gS : Nat) (A : Option Addr) (D2 gS2 : Nat) (A2 : Option Addr) : Prop := ∀ k, InD D gS A k → ¬ InD D2 gS2 A2 k
theorem Apart.symm {D gS D2 gS2 : Nat} {A A2 : Option Addr} (h : Apart D gS A D2 gS2 A2) : Apart D2 gS2 A2 D gS A := fun k hk h2 => h k h2 hk
theorem Apart.grow {base2 D gS D2 gS2 cW2 : Nat} {A A' A2 : Option Addr} {S2 : List (List Int)} {W2 : List (Int × List Int)} {w : World} (h : Apart D gS A D2 gS2 A2) (h2 : DiskAt base2 D2 gS2 A2 cW2 S2 W2 w) (hg : ∀ k, InD D gS A' k → InD D gS A k ∨ w.heap.size ≤ k) : Apart D gS A' D2 gS2 A2 := fun k hk h2k => by
  rcases hg k hk with h1 | h1
  · exact h k h1 h2k
  · have := h2.lt h2k; omega
theorem Apart.of_base {base D gS cW base2 D2 gS2 cW2 : Nat} {A A2 : Option Addr} {S S2 : List (List Int)} {W W2 : List (Int × List Int)} {w w2 : World} (h : DiskAt base D gS A cW S W w) (h2 : DiskAt base2 D2 gS2 A2 cW2 S2 W2 w2) (hle : w.heap.size ≤ base2) : Apart D gS A D2 gS2 A2 := fun k hk h2k => by
  have h3 := h.lt hk
  have h4 := (h2.inD h2k).1
  omega
theorem Touch.bel' {B base D gS cW : Nat} {A : Option Addr} {S : List (List Int)} {W : List (Int × List Int)} {w0 w w' : World} (h : Touch D gS A w w') (hb : Below B w0 w) (hd : DiskAt base D gS A cW S W w) (hB : B ≤ base) : Below B w0 w' :=
  h.bel hb (Nat.le_trans hB hd.base.2.2.2) (Nat.le_trans hB hd.base.1) (Nat.le_trans hB hd.base.2.1) (fun a ha => Nat.le_trans hB (hd.base.2.2.1 a ha))
theorem DiskAt.lower {base base' D gS cW : Nat} {A : Option Addr} {S : List (List Int)} {W : List (Int × List Int)} {w : World} (h : DiskAt base D gS A cW S W w) (hb : base' ≤ base) : DiskAt base' D gS A cW S W w :=
  ⟨h.1, Nat.le_trans hb h.2.1, Nat.le_trans hb h.2.2.1, h.2.2.2.1, own_weaken h.2.2.2.2 hb⟩
def clampN (n : Int) : Nat := (if n < 1 then 1 else if 512 < n then 512 else n).toNat
def clampB (n : Int) : Nat := (if n < 0 then 0 else if 16 < n then 16 else n).toNat
theorem clampN_le (n : Int) : clampN n ≤ 512 ∧ 1 ≤ clampN n := by unfold clampN; split <;> (try split) <;> omega
theorem clampB_le (n : Int) : clampB n ≤ 16 := by unfold clampB; split <;> (try split) <;> omega
theorem new_tot (n : Int) (w : World) : Calls Try.prog 11 #[.int .i64 n] w fun x w' => ∃ D gS, x = .returned (.pointer (some ⟨D, 0, none⟩)) ∧ DiskAt w.heap.size D gS none 0 (List.replicate (clampN n) zeroS) [] w' ∧ Below w.heap.size w w' := by
  refine new_walk n (if n < 1 then 1 else n) (clampN n) w rfl ?_ (clampN_le n).1
  unfold clampN
  by_cases c : n < 1
  · rw [if_pos c, if_neg (by omega), if_pos c]; rfl
  · rw [if_neg c, if_neg c]
    split <;> omega
theorem crash_tot (base D gS cW m j : Nat) (A Ak : Option Addr) (ck : Nat) (S : List (List Int)) (W : List (Int × List Int)) (keep : List Bool) (torn bytes : Int) (w : World) (h : DiskAt base D gS A cW S W w) (hp : Parts m j S W) (hj : j < 1099511627776)
    (hk : Kd.F Kd.bool w (fun k => k ≠ gS) Ak keep.length keep) :
    Calls Try.prog 17 #[.pointer (some ⟨D, 0, none⟩), .slice Ak keep.length ck, .int .i64 torn, .int .i64 bytes] w fun x w' => x = .returned (.tuple #[]) ∧ DiskAt base D gS A cW (crashW keep torn (clampB bytes) S W W.length) [] w' ∧ Touch D gS A w w' := by
  refine crash_walkK base D gS cW (clampB bytes) A Ak ck S W keep torn bytes (if bytes < 0 then 0 else bytes) w h (fun p hq => hp.val p hq) (Nat.lt_of_le_of_lt hp.few hj) hk rfl ?_ (clampB_le bytes)
  unfold clampB
  by_cases c : bytes < 0
  · rw [if_pos c, if_neg (by omega), if_pos c]; rfl
  · rw [if_neg c, if_neg c]
    split <;> omega
theorem sync_tot (base D gS cW m j : Nat) (A : Option Addr) (S : List (List Int)) (W : List (Int × List Int)) (w : World) (h : DiskAt base D gS A cW S W w) (hp : Parts m j S W) (hj : j < 1099511627776) :
    Calls Try.prog 15 #[.pointer (some ⟨D, 0, none⟩)] w fun x w' => x = .returned (.tuple #[]) ∧ DiskAt base D gS A cW (applyW S W) [] w' ∧ Touch D gS A w w' :=
  sync_walk base D gS cW A S W w h (fun p hq => hp.val p hq) (Nat.lt_of_le_of_lt hp.few hj)
/-- A crash that keeps all is a sync; one that keeps nothing, and tears nothing, leaves what there was. -/
theorem crashW_all {keep : List Bool} {torn : Int} {n : Nat} {S : List (List Int)} {W : List (Int × List Int)} (hk : ∀ j, j < W.length → keep.getD j false = true) : ∀ j, j ≤ W.length → crashW keep torn n S W j = applyW S (W.take j)
  | 0, _ => rfl
  | j + 1, hj => by
    have hp : W[j]? = some W[j] := List.getElem?_eq_getElem (by omega)
    rw [crashW_step hp, applyW_step hp, crashW_all hk j (by omega), crashS, if_pos (hk j (by omega))]
theorem crashW_none {torn : Int} {n : Nat} {S : List (List Int)} {W : List (Int × List Int)} (ht : torn < 0) : ∀ j, crashW [] torn n S W j = S
  | 0 => rfl
  | j + 1 => by
    rw [crashW]
    split
    · rw [crashS, if_neg (by simp), if_neg (by omega)]
      exact crashW_none ht j
    · exact crashW_none ht j
end Go.Proofs.Ytfmgealooebciaa.PAll

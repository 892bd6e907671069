/- Texts merged: WalSpec WalParts WalRecord WalAt. -/
import Derived.Test.YtoafbpbnlmcklaaMVlq
import Derived.Test.YtoafbpbnlmcklaaMDiskB
import Derived.Test.YtoafbpbnlmcklaaHeldOrd
import Derived.ArgAppend
import Derived.Test.YtoafbpbnlmcklaaMRef
import Derived.Test.YtoafbpbnlmcklaaPAllx1
import Derived.Test.YtoafbpbnlmcklaaPAllx2
namespace Go.Proofs.Ytoafbpbnlmcklaa.PAll
open Go.RowKit Go.Proofs.YtoafbpbnlmcklaaW.PrintWords Go.Proofs.Ytoafbpbnlmcklaa.Pure
/-- Bytes, with noughts behind, to a multiple of 15. -/
def padF (y : List Int) : List Int := y ++ List.replicate ((15 - y.length % 15) % 15) 0
/-- A record's bytes with its length ahead. -/
def bodyF (b : List Int) : List Int := padF (enc b.length ++ b)
def nParts (b : List Int) : Nat := (bodyF b).length / 15
def pieceF (x : List Int) (i : Nat) : List Int := (x.drop (15 * i)).take 15
def partF (b : List Int) (i : Nat) : List Int := pieceF (bodyF b) i ++ [if i + 1 = nParts b then 2 else 1]
def partsF (b : List Int) : List (List Int) := (List.range (nParts b)).map (partF b)
theorem padF_mod (y : List Int) : (padF y).length % 15 = 0 := by
  unfold padF
  rw [List.length_append, List.length_replicate]
  omega
theorem bodyF_mod (b : List Int) : (bodyF b).length = 15 * nParts b := by
  have := padF_mod (enc b.length ++ b)
  unfold nParts bodyF
  omega
theorem padF_len (y : List Int) : y.length ≤ (padF y).length ∧ (padF y).length ≤ y.length + 14 := by
  unfold padF
  rw [List.length_append, List.length_replicate]
  omega
theorem bodyF_len (b : List Int) : (bodyF b).length = ((sz b.length + b.length + 14) / 15) * 15 := by
  unfold bodyF padF
  rw [List.length_append, List.length_append, List.length_replicate, enc_length]
  omega
theorem nParts_eq (b : List Int) : nParts b = (sz b.length + b.length + 14) / 15 := by
  unfold nParts
  rw [bodyF_len]
  omega
theorem nParts_pos (b : List Int) : 1 ≤ nParts b := by
  rw [nParts_eq]
  have := sz_pos b.length
  omega
theorem partsF_len (b : List Int) : (partsF b).length = nParts b := by rw [partsF, List.length_map, List.length_range]
theorem pieceF_len {x : List Int} {i q : Nat} (hx : x.length = 15 * q) (hi : i < q) : (pieceF x i).length = 15 := by
  rw [pieceF, List.length_take, List.length_drop]
  omega
theorem partF_len {b : List Int} {i : Nat} (hi : i < nParts b) : (partF b i).length = 16 := by
  rw [partF, List.length_append, pieceF_len (bodyF_mod b) hi]; rfl
theorem partsF_get {b : List Int} {i : Nat} (hi : i < nParts b) : (partsF b)[i]? = some (partF b i) := by
  rw [partsF, List.getElem?_map, List.getElem?_range hi]; rfl
theorem Bs.replicate {n : Nat} {c : Int} (hc : 0 ≤ c ∧ c < 256) : Bs (List.replicate n c) := fun x hx => by rw [List.eq_of_mem_replicate hx]; exact hc
theorem bodyF_bs {b : List Int} (hb : Bs b) : Bs (bodyF b) := ((enc_bytes b.length).append hb).append (Bs.replicate ⟨by omega, by omega⟩)
theorem partF_bs {b : List Int} (hb : Bs b) (i : Nat) : Bs (partF b i) := by
  unfold partF pieceF
  refine (((bodyF_bs hb).drop _).take _).append ?_
  intro c hc
  rw [List.mem_singleton] at hc
  subst hc
  split <;> omega
/-- The record that bytes are. -/
def recordF (x : List Int) : Option (List Int) :=
  if (getOf x).2.2 = 0 ∧ (getOf x).1 ≤ 1024 ∧ (getOf x).2.1 + (getOf x).1 ≤ (x.length : Int) ∧ bodyF ((x.drop (getOf x).2.1.toNat).take (getOf x).1.toNat) = x then some ((x.drop (getOf x).2.1.toNat).take (getOf x).1.toNat) else none
theorem body_get {b : List Int} (hb : b.length < 72057594037927936) : getOf (bodyF b) = ((b.length : Int), (sz b.length : Int), 0) := by
  unfold bodyF padF
  rw [List.append_assoc]
  exact getOf_enc hb _
theorem body_cut (b : List Int) : ((bodyF b).drop (sz b.length)).take b.length = b := by
  unfold bodyF padF
  rw [List.append_assoc, List.drop_append_of_le_length (by rw [enc_length]; exact Nat.le_refl _), List.drop_of_length_le (by rw [enc_length]; exact Nat.le_refl _), List.nil_append, List.take_left]
theorem body_inj {b c : List Int} (hb : b.length < 72057594037927936) (hc : c.length < 72057594037927936) (h : bodyF b = bodyF c) : b = c := by
  have h1 := body_get hb
  rw [h, body_get hc] at h1
  have h2 : c.length = b.length := by
    have := congrArg Prod.fst h1
    simp only at this
    omega
  have h3 := body_cut b
  rw [h, ← h2, body_cut c] at h3
  exact h3.symm
theorem recordF_some {x b : List Int} (h : recordF x = some b) : b.length ≤ 1024 ∧ bodyF b = x := by
  unfold recordF at h
  split at h
  · rename_i c
    obtain rfl := Option.some.inj h
    refine ⟨?_, c.2.2.2⟩
    rw [List.length_take, List.length_drop]
    have := c.2.1
    omega
  · cases h
theorem recordF_body {b : List Int} (h : b.length ≤ 1024) : recordF (bodyF b) = some b := by
  have hg := body_get (b := b) (by omega)
  have hl := (padF_len (enc b.length ++ b)).1
  rw [List.length_append, enc_length] at hl
  unfold recordF
  rw [hg]
  simp only [Int.toNat_natCast]
  rw [body_cut, if_pos ⟨trivial, by omega, by have : (bodyF b).length = (padF (enc b.length ++ b)).length := rfl; omega, rfl⟩]
theorem recordF_iff {x b : List Int} : recordF x = some b ↔ b.length ≤ 1024 ∧ bodyF b = x :=
  ⟨recordF_some, fun ⟨h1, h2⟩ => by rw [← h2]; exact recordF_body h1⟩
/-- The last byte of a sector. -/
def markF (s : List Int) : Int := s.getD 15 0
/-- The records of sectors, and how many sectors they have. -/
def scanF : List (List Int) → Nat → List Int → List (List Int) → Nat → List (List Int) × Nat
  | [], _, _, l, used => (l, used)
  | s :: T, i, x, l, used =>
    if markF s = 1 then scanF T (i + 1) (x ++ s.take 15) l used
    else if markF s = 2 then
      match recordF (x ++ s.take 15) with
      | some b => scanF T (i + 1) [] (l ++ [b]) (i + 1)
      | none => (l, used)
    else (l, used)
def openF (T : List (List Int)) : List (List Int) × Nat := scanF T 0 [] [] 0
end Go.Proofs.Ytoafbpbnlmcklaa.PAll

namespace Go.Proofs.Ytoafbpbnlmcklaa.PAll
open Go.RowKit Go.Proofs.YtoafbpbnlmcklaaW.PrintWords Go.Proofs.YtoafbpbnlmcklaaW.PrintLast Go.Proofs.YtoafbpbnlmcklaaW.PrintMore Go.Proofs.Ytoafbpbnlmcklaa.Pure
set_option linter.unusedVariables false
set_option linter.unusedSimpArgs false
theorem put_k (n : Nat) (h : n < 72057594037927936) : ∃ k, vlq_Put.f k (n : Int) = some (enc n, 0) := by
  have h1 := (put_ev (n : Int)).rounds
  rw [putOf_ok ⟨by omega, by omega⟩, Int.toNat_natCast] at h1
  exact h1
theorem info5w : ∃ i, Try.prog.info? 5 = some i ∧ i.size = 1 := ⟨(Try.prog.info? 5).get (by kernel_rfl), (Option.some_get _).symm, by kernel_rfl⟩
theorem info28' : (Try.prog.info? 28).map (fun i => (i.zero, i.size, i.bytes)) = some (some (.slice none 0 0), 1, 24) := by kernel_rfl
theorem row5 {w : World} {base n c : Nat} {ok : Nat → Prop} {A : Option Addr} {X : List Int} (h : Kd.R (Kd.int .u8) 5 w base ok (.slice A n c) X) (hn : 0 < X.length) : ∃ g cur, A = some ⟨g, 0, none⟩ ∧ base ≤ g ∧ w.heap[g]? = some (.cells cur 5 (0, 0)) ∧ n = X.length ∧ n ≤ c ∧ ∀ (k : Nat) (x : Int), X[k]? = some x → cur[k]? = some (Value.int .u8 x) := by
  have ho := Kd.own_of_R h
  have hl := (Kd.R_reads' h).1
  rcases ho.2 with ⟨_, h0⟩ | ⟨g, cap, cur, he, hg, hh, hc, _, hs, ht⟩
  · omega
  · injection he with hA h2 h3
    subst hA
    refine ⟨g, cur, rfl, hg, hh, hl, by omega, fun k x hx => ?_⟩
    have hk : k < X.length := (List.getElem?_eq_some_iff.1 hx).1
    have h4 : (cur.toList.take (X.length * 1))[k]? = some (.int .u8 x) := by
      rw [ht, encs, List.getElem?_map, hx]; rfl
    rw [Nat.mul_one, List.getElem?_take, if_pos hk, Array.getElem?_toList] at h4
    exact h4
theorem piece_cells {w : World} {g : Nat} {cur : Array Value} {X : List Int} (hb : w.heap[g]? = some (.cells cur 5 (0, 0))) (hX : ∀ (k : Nat) (x : Int), X[k]? = some x → cur[k]? = some (Value.int .u8 x)) (j : Nat) : ∀ k u, (nums .u8 (pieceF X j))[k]? = some u → w.cell? ((⟨g, 15 * j, none⟩ : Addr).add k) = some u := by
  intro k u hu
  rw [nums, List.getElem?_map] at hu
  obtain ⟨x, hx, rfl⟩ := Option.map_eq_some_iff.1 hu
  rw [pieceF, List.getElem?_take] at hx
  split at hx
  · rw [List.getElem?_drop] at hx
    have hadd : (⟨g, 15 * j, none⟩ : Addr).add k = ⟨g, 15 * j + k, none⟩ := by unfold Addr.add; split <;> simp_all
    rw [hadd, cell_of_row w g _ _ _ _ hb]
    exact hX _ _ hx
  · cases hx
theorem nums_one (k : IntKind) (xs : List Int) : ∀ u ∈ nums k xs, u.oneCell' = true := by
  intro u hu
  rw [nums, List.mem_map] at hu
  obtain ⟨y, -, rfl⟩ := hu
  rfl
theorem lit1_cells (w : World) (v : Value) (e : TypeId) : ∀ j u, [v][j]? = some u → (w.alloc (.cells #[v] e)).cell? ((⟨w.heap.size, 0, none⟩ : Addr).add j) = some u := by
  intro j u hu
  rw [add_plain, cell_of_row _ _ _ _ _ _ (blk_new w _), List.getElem?_toArray]
  exact hu
/-- The parts that were made so far. -/
def soFar (X : List Int) (j : Nat) : List (List Int) := (List.range j).map fun i => pieceF X i ++ [1]
theorem R_alloc_ {α : Type} {d : Kd α} {e : Nat} {w : World} {base : Nat} {ok : Nat → Prop} {v : Value} {xs : List α} (h : d.R e w base ok v xs) (o : Obj) : d.R e (w.alloc o) base ok v xs := Kd.R_below h (below_alloc (Below.refl _ _) o)
theorem soFar_len (X : List Int) (j : Nat) : (soFar X j).length = j := by rw [soFar, List.length_map, List.length_range]
theorem soFar_succ (X : List Int) (j : Nat) : soFar X (j + 1) = soFar X j ++ [pieceF X j ++ [1]] := by
  rw [soFar, List.range_succ, List.map_append]; rfl
theorem soFar_last {b : List Int} {j : Nat} (h : j + 1 = nParts b) : soFar (bodyF b) j ++ [pieceF (bodyF b) j ++ [2]] = partsF b := by
  rw [partsF, ← h, List.range_succ, List.map_append, soFar]
  congr 1
  · refine List.map_congr_left (fun i hi => ?_)
    rw [List.mem_range] at hi
    rw [partF, if_neg (by omega)]
  · rw [List.map_cons, List.map_nil, partF, if_pos h]
set_option maxHeartbeats 4000000 in
set_option maxRecDepth 100000 in
theorem parts_walk (b : List Int) (A : Option Addr) (n c : Nat) (w : World) (hb : Kd.C (Kd.int .u8) w A n b) (hc : n ≤ c) (hn : n < 1099511627776) :
    Calls Try.prog 34 #[.slice A n c] w fun e w' => ∃ v, e = .returned v ∧ Kd.R (Kd.slice 5 (Kd.int .u8)) 28 w' w.heap.size (fun _ => True) v (partsF b) ∧ Below w.heap.size w w' := by
  obtain rfl : b.length = n := hb.1
  have HB := Aside0.mk hb
  have HN := Aside0.mk hn
  obtain ⟨kp, hkp⟩ := put_k b.length (by omega)
  have HKP := Aside0.mk hkp
  clear hb hkp hn
  go_enter Try.func34, Try.ntmps34
  go_wp2_with fail
  refine (vlq_Put.calls kp (b.length : Int) (enc b.length) 0 w HKP.out).mono ?_
  rintro e w1 ⟨v1, rfl, ho1, hb1⟩
  have HO1 := Aside0.mk ho1
  have HB1 := Aside0.mk hb1
  clear ho1 hb1
  have HSZ := Aside0.mk (show (enc b.length).length = sz b.length ∧ sz b.length ≤ 8 from ⟨enc_length _, sz_le8 (by have := HN.out; omega)⟩)
  obtain ⟨y, hy⟩ : ∃ y, y = enc b.length ++ b := ⟨_, rfl⟩
  have HY := Aside0.mk hy
  have HYL := Aside0.mk (show 1 ≤ y.length ∧ y.length ≤ 1099511627784 by rw [hy, List.length_append]; have := HSZ.out; have := HN.out; have := sz_pos b.length; omega)
  clear hy
  have HYB := Aside0.mk (show bodyF b = padF y by rw [HY.out]; rfl)
  have HP0 := Aside0.mk (show (0 : Int) ≤ (15 - (y.length : Int) % 15) % 15 ∧ (15 - (y.length : Int) % 15) % 15 < 15 by omega)
  have HPe := Aside0.mk (show ((15 - (y.length : Int) % 15) % 15).toNat = (15 - y.length % 15) % 15 by omega)
  obtain ⟨X, hX⟩ : ∃ X, X = bodyF b := ⟨_, rfl⟩
  obtain ⟨q, hq⟩ : ∃ q, q = nParts b := ⟨_, rfl⟩
  have HX := Aside0.mk hX
  have HQ := Aside0.mk hq
  have HXL := Aside0.mk (show X.length = 15 * q by rw [hX, hq]; exact bodyF_mod b)
  have HQ1 := Aside0.mk (show 1 ≤ q ∧ q ≤ 1099511627776 by
    have h1 := nParts_pos b
    have h2 := nParts_eq b
    have := HSZ.out; have := HN.out
    omega)
  clear hX hq
  go_wp2_with (first | ((with_reducible refine gate_builtin (b := .append) (xs := #[.tmp 12, .tmp 13]) rfl ?_); at_builtin; refine Kd.R_append_rows (Kd.int .u8) (w0 := w) w.heap.size rfl (.tmp 12) (.tmp 13) 28 5 (.int .u8 0) 1 rfl Try.underlying28 info5 rfl (by decide) (by omega) v1 (enc b.length) b A b.length c (fun _ => True) (fun _ => False) rfl rfl HO1.out (Kd.C_below HB.out HB1.out) (fun _ _ h => h) (fun _ h => h.elim) (fun _ _ => trivial) HB1.out HB1.out.size (by have := HN.out; have := HSZ.out; omega) ?_; intro v2 w2 ho hb2 hg hat; have HO2 := Aside0.mk ho; have HB2 := Aside0.mk hb2; clear ho hb2 hg hat; rw [← HY.out] at HO2; obtain ⟨A2, c2, e2⟩ := Kd.R_slice HO2.out; subst e2) | ((with_reducible refine gate_builtin (b := .append) (xs := #[.tmp 15, .tmp 20]) rfl ?_); at_builtin; refine Kd.R_append_zeros (Kd.int .u8) (w0 := w) w.heap.size rfl (.tmp 15) (.tmp 20) 28 3 5 (.int .u8 0) 1 rfl Try.underlying28 Try.underlying3 info5 rfl (by decide) (by omega) (.slice A2 y.length c2) y 0 ((15 - (y.length : Int) % 15) % 15) (fun _ => True) rfl rfl rfl (fun _ _ => trivial) HO2.out HP0.out.1 HB2.out HB2.out.size (by have := HP0.out; have := HYL.out; omega) ?_; intro v3 w3 ho hb3 hg hat; have HO3 := Aside0.mk ho; have HB3 := Aside0.mk hb3; clear ho hb3 hg hat; have HO4 := Aside0.mk (show Kd.R (Kd.int .u8) 5 w3 w.heap.size (fun _ => True) v3 X by rw [HX.out, HYB.out]; unfold padF; rw [← HPe.out]; exact HO3.out); clear HO3; obtain ⟨A3, c3, e3⟩ := Kd.R_slice HO4.out; rw [HXL.out] at e3; subst e3))
  obtain ⟨g3, cur3, e3, hg3, hb3, hn3, hc3, hX3⟩ := row5 HO4.out (by have := HXL.out; have := HQ1.out; omega)
  cases e3
  have HC3 := Aside0.mk hb3
  have HX3 := Aside0.mk hX3
  have HCC := Aside0.mk hc3
  have HG3 := Aside0.mk hg3
  obtain ⟨i5, hi5, hz5, hs5, hy5⟩ := info_parts info5
  have HI5 := Aside0.mk hi5
  have HZ5 := Aside0.mk (And.intro hz5 (And.intro hs5 hy5))
  clear hb3 hX3 hc3 hg3 hn3 hi5 hz5 hs5 hy5
  go_loopg [3, 5] q (fun kq v3 v5 w' => ∃ (j L cx : Nat) (Ao : Option Addr) (co : Nat), v3 = .slice (some ⟨g3, 15 * j, none⟩) L cx ∧ v5 = .slice Ao j co ∧ Aside0 (L = 15 * (q - j) ∧ L ≤ cx) ∧ Aside0 (j + kq = q ∧ j < q) ∧ Aside0 (w'.heap[g3]? = some (.cells cur3 5 (0, 0))) ∧ Aside0 (Kd.R (Kd.slice 5 (Kd.int .u8)) 28 w' w.heap.size (fun _ => True) (.slice Ao j co) (soFar X j)) ∧ Aside0 (Below w.heap.size w w'))
  case atStart => exact ⟨0, 15 * q, c3, none, 0, rfl, rfl, ⟨by omega, HCC.out⟩, ⟨by have := HQ1.out; omega⟩, HC3, ⟨Kd.R_nil _ _ _ _ _⟩, HB3⟩
  case round =>
    obtain ⟨j, L, cx, Ao, co, rfl, rfl, HLL, HJ, HCw, HR, HBw⟩ := hrel
    have l1 : (15 : Int) ≤ (cx : Int) := by have := HLL.out; have := HJ.out; omega
    have HPL := Aside0.mk (pieceF_len HXL.out HJ.out.2)
    by_cases hlt : j + 1 < q
    · have l2 : decide (15 < L) = true := decide_eq_true (by have := HLL.out; omega)
      have l3 : decide ((L : Int) > 15) = true := decide_eq_true (by have := HLL.out; omega)
      have l4 : (15 : Int) ≤ (L : Int) := by have := HLL.out; omega
      have l5 : (cx = 15) = False := eq_false (by have := HLL.out; omega)
      obtain ⟨k1, rfl⟩ : ∃ k1, gk = k1 + 1 := ⟨gk - 1, by have := HJ.out; omega⟩
      have HLT := Aside0.mk hlt
      clear hlt
      go_wp2_with (first | ((with_reducible refine gate_builtin (b := .append) (xs := #[.tmp 29, .tmp 30]) rfl ?_); at_builtin; refine wpList_append_grows _ rfl (.tmp 29) (.tmp 30) 28 rfl 5 i5 (.int .u8 0) 1 1 Try.underlying28 HI5.out HZ5.out.1 HZ5.out.2.1 HZ5.out.2.2 rfl (by decide) (some ⟨g3, 15 * j, none⟩) 15 15 (nums .u8 (pieceF X j)) rfl (fun h => by cases h) (by rw [nums_length, HPL.out]) (fun b hb => by cases hb; exact piece_cells (blk_alloc HCw.out _) HX3.out j) ⟨wr.heap.size, 0, none⟩ 1 1 [.int .u8 1] rfl rfl (lit1_cells wr _ _) (by intro u hu; rw [List.mem_singleton] at hu; subst hu; rfl) (by decide) (by decide) (by decide) ?_; intro v1 w1 ho hg; have HP1 := Aside0.mk (show Kd.R (Kd.int .u8) 5 w1 w.heap.size (fun _ => True) v1 (pieceF X j ++ [1]) from Kd.R_lower (Kd.R_of_own (enc := Value.int .u8) (by have h := ho; rw [← HPL.out] at h; rw [List.length_append, List.length_singleton, encs_append]; exact h) (fun _ _ => trivial)) (Nat.le_trans HBw.out.size (by simp))); have HB1 := Aside0.mk (pw_below_grown (below_alloc HBw.out _) _ (Nat.le_trans HBw.out.size (by simp)) hg (fun _ h => by cases h)); have HC1 := Aside0.mk (blk_grown (blk_alloc HCw.out (.cells #[.int .u8 1] 5)) hg (by simp)); have HR1 := Aside0.mk (Kd.R_grown (R_alloc_ HR.out (.cells #[.int .u8 1] 5)) hg (fun _ _ h => by cases h)); clear ho hg; obtain ⟨Av, cv, ev⟩ := Kd.R_slice HP1.out; rw [List.length_append, HPL.out] at ev; subst ev) | ((with_reducible refine gate_builtin (b := .append) (xs := #[.tmp 27, .tmp 32]) rfl ?_); at_builtin; refine Kd.R_append (Kd.slice 5 (Kd.int .u8)) (w0 := w) w.heap.size rfl (.tmp 27) (.tmp 32) 22 28 (.slice none 0 0) 24 rfl Try.underlying22 info28' rfl (by decide) (by omega) (.slice Ao j co) (soFar X j) (pieceF X j ++ [1]) [.slice Av 16 cv] (fun _ => True) (fun k => True ∧ some k ≠ (Value.slice Ao j co).ownBlock) rfl rfl ?aP (fun _ hk => hk) (fun _ _ => trivial) HR1.out HB1.out HB1.out.size (by rw [soFar_len]; have := HJ.out; have := HQ1.out; omega) ?_; (case aP => exact ⟨_, rfl, R_types' HP1.out (fun k hk => by obtain ⟨inner, hown⟩ := Kd.R_own HR1.out; exact own_typed hown k hk) (by decide)⟩); intro v2 w2 ho hb2 hg hat; have HO2 := Aside0.mk ho; have HB2 := Aside0.mk hb2; have HC2 := Aside0.mk (blk_grown HC1.out hg (Kd.R_ne HR1.out HC1.out (by decide))); clear ho hb2 hg hat))
      obtain ⟨A4, c4, e4⟩ := Kd.R_slice HO2.out
      rw [← soFar_succ, soFar_len] at e4
      subst e4
      go_roundg k1
      case measure => omega
      case rel => exact ⟨j + 1, L - 15, cx - 15, A4, c4, rfl, rfl, ⟨by have := HLL.out; omega⟩, ⟨by have := HJ.out; have := HLT.out; omega⟩, HC2, ⟨by rw [soFar_succ]; exact HO2.out⟩, HB2⟩
    · have l2 : decide (15 < L) = false := decide_eq_false (by have := HLL.out; have := HJ.out; omega)
      have l3 : decide ((L : Int) > 15) = false := decide_eq_false (by have := HLL.out; have := HJ.out; omega)
      have HE := Aside0.mk (show j + 1 = nParts b by rw [← HQ.out]; have := HJ.out; omega)
      clear hlt
      go_wp2_with (first | ((with_reducible refine gate_builtin (b := .append) (xs := #[.tmp 36, .tmp 37]) rfl ?_); at_builtin; refine wpList_append_grows _ rfl (.tmp 36) (.tmp 37) 28 rfl 5 i5 (.int .u8 0) 1 1 Try.underlying28 HI5.out HZ5.out.1 HZ5.out.2.1 HZ5.out.2.2 rfl (by decide) (some ⟨g3, 15 * j, none⟩) 15 15 (nums .u8 (pieceF X j)) rfl (fun h => by cases h) (by rw [nums_length, HPL.out]) (fun b hb => by cases hb; exact piece_cells (blk_alloc HCw.out _) HX3.out j) ⟨wr.heap.size, 0, none⟩ 1 1 [.int .u8 2] rfl rfl (lit1_cells wr _ _) (by intro u hu; rw [List.mem_singleton] at hu; subst hu; rfl) (by decide) (by decide) (by decide) ?_; intro v1 w1 ho hg; have HP1 := Aside0.mk (show Kd.R (Kd.int .u8) 5 w1 w.heap.size (fun _ => True) v1 (pieceF X j ++ [2]) from Kd.R_lower (Kd.R_of_own (enc := Value.int .u8) (by have h := ho; rw [← HPL.out] at h; rw [List.length_append, List.length_singleton, encs_append]; exact h) (fun _ _ => trivial)) (Nat.le_trans HBw.out.size (by simp))); have HB1 := Aside0.mk (pw_below_grown (below_alloc HBw.out _) _ (Nat.le_trans HBw.out.size (by simp)) hg (fun _ h => by cases h)); have HC1 := Aside0.mk (blk_grown (blk_alloc HCw.out (.cells #[.int .u8 2] 5)) hg (by simp)); have HR1 := Aside0.mk (Kd.R_grown (R_alloc_ HR.out (.cells #[.int .u8 2] 5)) hg (fun _ _ h => by cases h)); clear ho hg; obtain ⟨Av, cv, ev⟩ := Kd.R_slice HP1.out; rw [List.length_append, HPL.out] at ev; subst ev) | ((with_reducible refine gate_builtin (b := .append) (xs := #[.tmp 34, .tmp 39]) rfl ?_); at_builtin; refine Kd.R_append (Kd.slice 5 (Kd.int .u8)) (w0 := w) w.heap.size rfl (.tmp 34) (.tmp 39) 22 28 (.slice none 0 0) 24 rfl Try.underlying22 info28' rfl (by decide) (by omega) (.slice Ao j co) (soFar X j) (pieceF X j ++ [2]) [.slice Av 16 cv] (fun _ => True) (fun k => True ∧ some k ≠ (Value.slice Ao j co).ownBlock) rfl rfl ?aP (fun _ hk => hk) (fun _ _ => trivial) HR1.out HB1.out HB1.out.size (by rw [soFar_len]; have := HJ.out; have := HQ1.out; omega) ?_; (case aP => exact ⟨_, rfl, R_types' HP1.out (fun k hk => by obtain ⟨inner, hown⟩ := Kd.R_own HR1.out; exact own_typed hown k hk) (by decide)⟩); intro v2 w2 ho hb2 hg hat; have HO2 := Aside0.mk ho; have HB2 := Aside0.mk hb2; have HC2 := Aside0.mk (blk_grown HC1.out hg (Kd.R_ne HR1.out HC1.out (by decide))); clear ho hb2 hg hat))
      go_ret
      refine ⟨_, rfl, ?_, HB2.out⟩
      rw [← soFar_last HE.out, ← HX.out]
      exact HO2.out
end Go.Proofs.Ytoafbpbnlmcklaa.PAll

namespace Go.Proofs.Ytoafbpbnlmcklaa.PAll
open Go.RowKit Go.Proofs.YtoafbpbnlmcklaaW.PrintWords Go.Proofs.YtoafbpbnlmcklaaW.PrintLast Go.Proofs.YtoafbpbnlmcklaaW.PrintMore Go.Proofs.Ytoafbpbnlmcklaa.Pure
set_option linter.unusedVariables false
set_option linter.unusedSimpArgs false
theorem equal_l (l0 l1 : List Int) (hl : l0.length = l1.length) (hb : l0.length < 1099511627776) : ∀ (d j : Nat), l0.length - j = d → j ≤ l0.length → l0.take j = l1.take j → Ev (fun k => slices_Equal_byte_byte.l0 k l0 l1 (l0.length : Int) (j : Int)) (decide (l0 = l1))
  | 0, j, hd, hj, he => by
    have hjl : j = l0.length := by omega
    subst hjl
    rw [List.take_length, hl, List.take_length] at he
    refine Ev.step (f := fun _ => some (decide (l0 = l1))) (fun k => ?_) (Ev.now _)
    unfold slices_Equal_byte_byte.l0
    rw [if_neg (by omega), decide_eq_true he]
  | d + 1, j, hd, hj, he => by
    have hlt : j < l0.length := by omega
    have e0 : rd l0 (j : Int) = l0[j] := by unfold rd; rw [Int.toNat_natCast, List.getD_eq_getElem?_getD, List.getElem?_eq_getElem hlt]; rfl
    have e1 : rd l1 (j : Int) = l1[j]'(by omega) := by unfold rd; rw [Int.toNat_natCast, List.getD_eq_getElem?_getD, List.getElem?_eq_getElem (by omega)]; rfl
    by_cases c : l0[j] = l1[j]'(by omega)
    · have he' : l0.take (j + 1) = l1.take (j + 1) := by
        rw [List.take_succ_eq_append_getElem hlt, List.take_succ_eq_append_getElem (by omega), he, c]
      refine Ev.step (fun k => ?_) (equal_l l0 l1 hl hb d (j + 1) (by omega) (by omega) he')
      rw [slices_Equal_byte_byte.l0, if_pos (by omega), if_pos (by omega), if_pos (by omega), if_pos (by omega), e0, e1, if_pos c, idx_step (by omega)]
    · refine Ev.step (f := fun _ => some (decide (l0 = l1))) (fun k => ?_) (Ev.now _)
      rw [slices_Equal_byte_byte.l0, if_pos (by omega), if_pos (by omega), if_pos (by omega), if_pos (by omega), e0, e1, if_neg c, decide_eq_false (fun e => c (by simp [e]))]
theorem equal_k (l0 l1 : List Int) (hb : l0.length < 1099511627776) : ∃ k, slices_Equal_byte_byte.f k l0 l1 = some (decide (l0 = l1)) := by
  by_cases c : l0.length = l1.length
  · have h := equal_l l0 l1 c hb (l0.length - 0) 0 rfl (Nat.zero_le _) rfl
    obtain ⟨k, hk⟩ := h.rounds
    exact ⟨k, by unfold slices_Equal_byte_byte.f; rw [if_pos (by omega)]; exact hk⟩
  · exact ⟨0, by unfold slices_Equal_byte_byte.f; rw [if_neg (by omega), decide_eq_false (fun e => c (by rw [e]))]⟩
theorem get_k {x : List Int} (hb : Bs x) (hl : x.length < 1099511627776) : ∃ k, vlq_Get.f k x = some ((getOf x).1, (getOf x).2.1, (getOf x).2.2) := (get_ev hb hl).rounds
/-- The parts' first bytes, one behind the other. -/
theorem pieces_take (X : List Int) (j q : Nat) (hX : X.length = 15 * q) (hj : j < q) : X.take (15 * j) ++ pieceF X j = X.take (15 * (j + 1)) := by
  rw [pieceF, ← List.take_add, Nat.mul_succ]
set_option maxHeartbeats 1000000 in
set_option maxRecDepth 100000 in
theorem record_no (x : List Int) (A : Option Addr) (n c : Nat) (w : World) (hx : Kd.C (Kd.int .u8) w A n x) (hc : n ≤ c) (hn : n < 1099511627776) (hbs : Bs x)
    (hi : ((getOf x).2.2 != 0) = true ∨ ((getOf x).2.2 != 0) = false ∧ (decide ((getOf x).1 > 1024) = true ∨ decide ((getOf x).1 > 1024) = false ∧ ∃ m k : Nat, getOf x = ((m : Int), (k : Int), 0) ∧ m ≤ 1024 ∧ k ≤ 1024 ∧ decide ((k : Int) + (m : Int) > (n : Int)) = true)) :
    Calls Try.prog 32 #[.slice A n c] w fun e w' => e = .returned (.tuple #[.slice none 0 0, .bool false]) ∧ Below w.heap.size w w' := by
  obtain rfl : x.length = n := hx.1
  obtain ⟨kg, hkg⟩ := get_k hbs hn
  have HX := Aside0.mk hx
  have HKG := Aside0.mk hkg
  clear hx hkg
  rcases hi with hi | ⟨hi, hj | ⟨hj, m, k, hg, hm, hk, hk2⟩⟩
  · go_enter Try.func32, Try.ntmps32
    go_wp2_with fail
    refine (vlq_Get.calls kg A c x _ _ _ w HX.out hc HKG.out).mono ?_
    rintro e w1 ⟨rfl, hb1⟩
    have HB1 := Aside0.mk hb1
    clear hb1
    go_wp2
    go_ret2
    exact ⟨rfl, HB1.out⟩
  · go_enter Try.func32, Try.ntmps32
    go_wp2_with fail
    refine (vlq_Get.calls kg A c x _ _ _ w HX.out hc HKG.out).mono ?_
    rintro e w1 ⟨rfl, hb1⟩
    have HB1 := Aside0.mk hb1
    clear hb1
    go_wp2
    go_ret2
    exact ⟨rfl, HB1.out⟩
  · rw [hg] at hi hj HKG
    simp only at hi hj HKG
    clear hg
    go_enter Try.func32, Try.ntmps32
    go_wp2_with fail
    refine (vlq_Get.calls kg A c x _ _ _ w HX.out hc HKG.out).mono ?_
    rintro e w1 ⟨rfl, hb1⟩
    have HB1 := Aside0.mk hb1
    have l1 : (k : Int) + (m : Int) ≤ 9223372036854775807 := by omega
    have l2 : decide (k + m > x.length) = true := decide_eq_true (by have := of_decide_eq_true hk2; omega)
    have l3 : decide (m > 1024) = false := decide_eq_false (by omega)
    clear hb1
    go_wp2
    go_ret2
    exact ⟨rfl, HB1.out⟩
set_option maxHeartbeats 2000000 in
set_option maxRecDepth 100000 in
theorem record_ok (x : List Int) (A : Option Addr) (n c m k : Nat) (w : World) (hx : Kd.C (Kd.int .u8) w A n x) (hc : n ≤ c) (hn : n < 1099511627776) (hbs : Bs x) (hg : getOf x = ((m : Int), (k : Int), 0)) (hm : m ≤ 1024) (hk : k ≤ 1024) (hkm : k + m ≤ n) :
    Calls Try.prog 32 #[.slice A n c] w fun e w' => ∃ v, e = .returned (.tuple #[v, .bool (decide (bodyF ((x.drop k).take m) = x))]) ∧ Kd.R (Kd.int .u8) 5 w' w.heap.size (fun _ => True) v ((x.drop k).take m) ∧ Below w.heap.size w w' := by
  obtain rfl : x.length = n := hx.1
  obtain ⟨kg, hkg⟩ := get_k hbs hn
  rw [hg] at hkg
  have HX := Aside0.mk hx
  have HKG := Aside0.mk hkg
  have HC := Aside0.mk hc
  have HN := Aside0.mk hn
  have HKM := Aside0.mk hkm
  have HM := Aside0.mk hm
  obtain ⟨i5, hi5, hz5⟩ := info5w
  have hcut := cut_mid (P := Try.prog) 28 5 .i64 .i64 Try.underlying28 hi5 1 hz5 A x.length c (k : Int) ((k : Int) + (m : Int)) (by omega) (by omega) (by omega) hc
  have e1 : ((k : Int) + (m : Int)).toNat - (k : Int).toNat = m := by omega
  rw [e1, Int.toNat_natCast] at hcut
  obtain ⟨A1, hA1⟩ : ∃ A1, A1 = (if c = k then A else A.map (·.add (k * 1))) := ⟨_, rfl⟩
  rw [← hA1] at hcut
  obtain ⟨b, hb⟩ : ∃ b, b = (x.drop k).take m := ⟨_, rfl⟩
  rw [← hb]
  have HBL := Aside0.mk (show b.length = m by rw [hb, List.length_take, List.length_drop]; omega)
  have HBb := Aside0.mk hb
  have HA1 := Aside0.mk hA1
  have HCB := Aside0.mk (show ∀ W, Kd.C (Kd.int .u8) W A x.length x → Kd.C (Kd.int .u8) W A1 m b from fun W hW => by
    have h1 := Kd.C_drop hW (m := k) (c := c) (by have := HKM.out; omega) HC.out
    have h2 := Kd.C_take h1 (m := m) (by rw [List.length_drop]; have := HKM.out; omega)
    rw [← HBb.out, HBL.out] at h2
    rw [HA1.out]
    exact h2)
  obtain ⟨ke, hke⟩ := equal_k (bodyF b) x (by rw [bodyF_len, HBL.out]; have := sz_le8 (n := m) (by have := HM.out; omega); omega)
  have HKE := Aside0.mk hke
  have HI5 := Aside0.mk hi5
  have l1 : (k : Int) + (m : Int) ≤ 9223372036854775807 := by omega
  have l2 : decide ((k : Int) + (m : Int) > (x.length : Int)) = false := decide_eq_false (by omega)
  have l3 : decide ((m : Int) > 1024) = false := decide_eq_false (by omega)
  have l4 : decide (k + m > x.length) = false := decide_eq_false (by omega)
  have l5 : decide (m > 1024) = false := decide_eq_false (by omega)
  clear hx hg hkg hc hn hkm hm hi5 hz5 hA1 hb hke e1
  go_enter Try.func32, Try.ntmps32
  go_wp2_with fail
  refine (vlq_Get.calls kg A c x _ _ _ w HX.out HC.out HKG.out).mono ?_
  rintro e w1 ⟨rfl, hb1⟩
  have HB1 := Aside0.mk hb1
  clear hb1
  go_wp2_with fail
  refine (calls_of_args (by rw [HBL.out]) (slices_Clone_byte_byte.calls A1 (c - k) b b w1 (by rw [HBL.out]; exact HCB.out w1 (Kd.C_below HX.out HB1.out)) (by rw [HBL.out]; have := HC.out; have := HKM.out; omega) (by unfold slices_Clone_byte_byte.f; rw [if_pos (by have := HM.out; have := HBL.out; omega)]))).mono ?_
  rintro e w2 ⟨v2, rfl, ho2, hb2⟩
  obtain ⟨A2, c2, e2⟩ := Kd.R_slice ho2
  rw [HBL.out] at e2
  subst e2
  have HO2 := Aside0.mk ho2
  have HB2 := Aside0.mk (below_then HB1.out HB1.out.size hb2)
  have HC2 := Aside0.mk (Kd.R_reads' ho2)
  clear ho2 hb2 hcut l1
  go_wp2_with fail
  refine (parts_walk b A2 m c2 w2 (by have := HC2.out.2.2; rwa [HBL.out] at this) HC2.out.2.1 (by have := HM.out; omega)).mono ?_
  rintro e w3 ⟨v3, rfl, ho3, hb3⟩
  obtain ⟨A3, c3, e3⟩ := Kd.R_slice ho3
  obtain ⟨q, hq⟩ : ∃ q, q = nParts b := ⟨_, rfl⟩
  rw [partsF_len, ← hq] at e3
  subst e3
  have HQ := Aside0.mk hq
  have HQL := Aside0.mk (show (partsF b).length = q by rw [partsF_len, hq])
  have HQ1 := Aside0.mk (show q ≤ 1024 by rw [hq, nParts_eq, HBL.out]; have := sz_le8 (n := m) (by have := HM.out; omega); have := HM.out; omega)
  have HXL := Aside0.mk (show (bodyF b).length = 15 * q by rw [hq]; exact bodyF_mod b)
  have HPF := Aside0.mk (Kd.F_mono (Kd.F_bound (Kd.R_F ho3)) (fun k hk => hk.2))
  have HO3 := Aside0.mk (Kd.R_below HO2.out hb3)
  have HB3 := Aside0.mk (below_then HB2.out HB2.out.size hb3)
  clear ho3 hb3 hq
  go_wp2_with fail
  go_loopg [8, 41] q (fun kq v8 v41 w' => ∃ (j : Nat) (Aa : Option Addr) (ca : Nat), v8 = .slice Aa (15 * j) ca ∧ v41 = .int .i64 (j : Int) ∧ Aside0 (j + kq = q) ∧ Aside0 (Kd.F (Kd.slice 5 (Kd.int .u8)) w' (fun k => k < w3.heap.size) A3 q (partsF b)) ∧ Aside0 (Kd.R (Kd.int .u8) 5 w' w3.heap.size (fun _ => True) (.slice Aa (15 * j) ca) ((bodyF b).take (15 * j))) ∧ Aside0 (Below w3.heap.size w3 w'))
  case atStart => exact ⟨0, none, 0, rfl, rfl, ⟨by omega⟩, HPF, ⟨Kd.R_nil _ _ _ _ _⟩, ⟨Below.refl _ _⟩⟩
  case round =>
    obtain ⟨j, Aa, ca, rfl, rfl, HJ, HFw, HRw, HBw⟩ := hrel
    by_cases hlt : j < q
    · obtain ⟨ad, Aj, cj, e0, hx0, hlj, hCj⟩ := at_L1 (Kd.F_now HFw.out) (j : Int) (by omega) (by omega)
      subst e0
      rw [Int.toNat_natCast] at hx0
      have hp : rd_L1 (partsF b) (j : Int) = partF b j := by
        unfold rd_L1
        rw [Int.toNat_natCast, List.getD_eq_getElem?_getD, partsF_get (by rw [← HQ.out]; exact hlt), Option.getD_some]
      have hpl : (partF b j).length = 16 := partF_len (by rw [← HQ.out]; exact hlt)
      rw [hp, hpl] at hx0 hlj hCj
      have HCJ := Aside0.mk (show Kd.C (Kd.int .u8) wr Aj 15 (pieceF (bodyF b) j) from by
        have h1 : Kd.C (Kd.int .u8) wr Aj (partF b j).length (partF b j) := by rw [hpl]; exact hCj
        have h2 := Kd.C_take h1 (m := 15) (by omega)
        have h3 : (partF b j).take 15 = pieceF (bodyF b) j := by
          unfold partF
          rw [List.take_append_of_le_length (by rw [pieceF_len HXL.out hlt]; exact Nat.le_refl _), List.take_of_length_le (by rw [pieceF_len HXL.out hlt]; exact Nat.le_refl _)]
        rw [h3, pieceF_len HXL.out hlt] at h2
        exact h2)
      have hcutj := cut_to (P := Try.prog) 28 5 .i64 Try.underlying28 HI5.out Aj 16 cj 15 (by decide) (by decide) hlj
      rw [show (15 : Int).toNat = 15 from rfl] at hcutj
      have HLT := Aside0.mk hlt
      have p1 : decide (j < q) = true := decide_eq_true hlt
      have p2 := eq_true (show 0 ≤ (j : Int) by omega)
      have p3 := eq_true (show (j : Int) < (q : Int) by omega)
      have p4 : decide ((j : Int) < (q : Int)) = true := decide_eq_true (by omega)
      obtain ⟨k1, rfl⟩ : ∃ k1, gk = k1 + 1 := ⟨gk - 1, by have := HJ.out; omega⟩
      clear hlt hp hpl hlj hCj
      go_wp2_with ((with_reducible refine gate_builtin (b := .append) (xs := #[.tmp 45, .tmp 47]) rfl ?_); at_builtin; refine Kd.R_append_rows (Kd.int .u8) (w0 := w3) w3.heap.size rfl (.tmp 45) (.tmp 47) 28 5 (.int .u8 0) 1 rfl Try.underlying28 info5 rfl (by decide) (by omega) (.slice Aa (15 * j) ca) ((bodyF b).take (15 * j)) (pieceF (bodyF b) j) Aj 15 cj (fun _ => True) (fun _ => False) rfl rfl HRw.out HCJ.out (fun _ _ h => h) (fun _ h => h.elim) (fun _ _ => trivial) HBw.out HBw.out.size (by rw [List.length_take]; have := HJ.out; have := HQ1.out; omega) ?_; intro v4 w4 ho hb4 hg hat; have HO4 := Aside0.mk ho; have HB4 := Aside0.mk hb4; have HF4 := Aside0.mk (Kd.F_grown HFw.out hg (fun k hk e => by have := Kd.R_base HRw.out k e.symm; omega)); clear ho hb4 hg hat)
      rw [pieces_take _ _ _ HXL.out HLT.out] at HO4
      obtain ⟨A4, c4, e4⟩ := Kd.R_slice HO4.out
      rw [List.length_take, HXL.out, Nat.min_eq_left (by have := HLT.out; omega)] at e4
      subst e4
      go_roundg k1
      case measure => omega
      case rel => exact ⟨j + 1, A4, c4, rfl, congrArg (Value.int .i64) (widx (by have := HLT.out; have := HQ1.out; omega)), ⟨by have := HJ.out; omega⟩, HF4, HO4, HB4⟩
    · obtain rfl : q = j := by have := HJ.out; omega
      have p1 : decide (q < q) = false := decide_eq_false (by omega)
      have p4 : decide ((q : Int) < (q : Int)) = false := decide_eq_false (by omega)
      rw [List.take_of_length_le (by rw [HXL.out]; exact Nat.le_refl _)] at HRw
      clear hlt
      go_wp2_with fail
      refine (calls_of_args (by rw [HXL.out]) (slices_Equal_byte_byte.calls ke Aa ca (bodyF b) A c x _ wr (Kd.R_reads' HRw.out).2.2 (by rw [HXL.out]; exact (Kd.R_reads' HRw.out).2.1) (Kd.C_below HX.out (below_then HB3.out HB3.out.size HBw.out)) HC.out HKE.out)).mono ?_
      rintro e w5 ⟨rfl, hd5⟩
      have HD5 := Aside0.mk (below_then HB3.out HB3.out.size (below_then HBw.out HBw.out.size hd5.below))
      have HO5 := Aside0.mk (Kd.R_lower (Kd.R_below (Kd.R_below HO3.out HBw.out) hd5.below) HB1.out.size)
      clear hd5
      go_wp2
      go_ret2
      exact ⟨_, rfl, HO5.out, HD5.out⟩
theorem record_walk (x : List Int) (A : Option Addr) (n c : Nat) (w : World) (hx : Kd.C (Kd.int .u8) w A n x) (hc : n ≤ c) (hn : n < 1099511627776) (hbs : Bs x) :
    Calls Try.prog 32 #[.slice A n c] w fun e w' => ∃ v, e = .returned (.tuple #[v, .bool (recordF x).isSome]) ∧ (∀ b, recordF x = some b → Kd.R (Kd.int .u8) 5 w' w.heap.size (fun _ => True) v b) ∧ Below w.heap.size w w' := by
  have hl : x.length = n := hx.1
  by_cases h0 : (getOf x).2.2 = 0
  · obtain ⟨m, hm, hg, hs1, hs2, _⟩ := getOf_pos hbs h0
    have hsz := sz_le8 hm
    have no : ((getOf x).2.2 != 0) = false := by rw [h0]; rfl
    by_cases h1 : m ≤ 1024
    · by_cases h2 : sz m + m ≤ n
      · refine (record_ok x A n c m (sz m) w hx hc hn hbs hg h1 (by omega) h2).mono ?_
        rintro e w' ⟨v, rfl, ho, hb⟩
        have hr : recordF x = if bodyF ((x.drop (sz m)).take m) = x then some ((x.drop (sz m)).take m) else none := by
          unfold recordF
          rw [hg]
          simp only [Int.toNat_natCast]
          by_cases h3 : bodyF ((x.drop (sz m)).take m) = x
          · rw [if_pos h3, if_pos ⟨trivial, by omega, by omega, h3⟩]
          · rw [if_neg h3, if_neg (fun h => h3 h.2.2.2)]
        refine ⟨v, ?_, fun b hb' => ?_, hb⟩
        · rw [hr]
          by_cases h3 : bodyF ((x.drop (sz m)).take m) = x
          · rw [if_pos h3, decide_eq_true h3]; rfl
          · rw [if_neg h3, decide_eq_false h3]; rfl
        · rw [hr] at hb'
          split at hb'
          · rw [← Option.some.inj hb']; exact ho
          · cases hb'
      · have hr : recordF x = none := by
          unfold recordF
          rw [hg, if_neg]
          rintro ⟨_, _, h3, _⟩
          simp only at h3
          omega
        rw [hr]
        refine (record_no x A n c w hx hc hn hbs (.inr ⟨no, .inr ⟨?_, m, sz m, hg, h1, by omega, ?_⟩⟩)).mono ?_
        · rw [hg]; exact decide_eq_false (by simp only; omega)
        · exact decide_eq_true (by omega)
        · rintro e w' ⟨rfl, hb⟩
          exact ⟨_, rfl, fun b hb' => (by cases hb'), hb⟩
    · have hr : recordF x = none := by
        unfold recordF
        rw [hg, if_neg]
        rintro ⟨_, h3, _⟩
        simp only at h3
        omega
      rw [hr]
      refine (record_no x A n c w hx hc hn hbs (.inr ⟨no, .inl ?_⟩)).mono ?_
      · rw [hg]; exact decide_eq_true (by simp only; omega)
      · rintro e w' ⟨rfl, hb⟩
        exact ⟨_, rfl, fun b hb' => (by cases hb'), hb⟩
  · have hr : recordF x = none := by
      unfold recordF
      rw [if_neg (fun h => h0 h.1)]
    rw [hr]
    refine (record_no x A n c w hx hc hn hbs (.inl (bne_iff_ne.mpr h0))).mono ?_
    rintro e w' ⟨rfl, hb⟩
    exact ⟨_, rfl, fun b hb' => (by cases hb'), hb⟩
end Go.Proofs.Ytoafbpbnlmcklaa.PAll

namespace Go.Proofs.Ytoafbpbnlmcklaa.PAll
open Go.RowKit Go.Proofs.YtoafbpbnlmcklaaW.PrintWords Go.Proofs.YtoafbpbnlmcklaaW.PrintLast Go.Proofs.YtoafbpbnlmcklaaW.PrintMore Go.Proofs.Ytoafbpbnlmcklaa.Pure
set_option linter.unusedVariables false
/-- Only blocks of P, and new ones, are other ones. -/
structure TouchP (P : Nat → Prop) (w w' : World) : Prop where
  os : w'.os = w.os
  tape : w'.tape = w.tape
  output : w'.output = w.output
  size : w.heap.size ≤ w'.heap.size
  block : ∀ k, k < w.heap.size → ¬ P k → w'.heap[k]? = w.heap[k]?
theorem TouchP.refl (P : Nat → Prop) (w : World) : TouchP P w w := ⟨rfl, rfl, rfl, Nat.le_refl _, fun _ _ _ => rfl⟩
theorem TouchP.mono {P P' : Nat → Prop} {w w' : World} (h : TouchP P w w') (hi : ∀ k, k < w.heap.size → P k → P' k) : TouchP P' w w' := ⟨h.os, h.tape, h.output, h.size, fun k hk hn => h.block k hk (fun h2 => hn (hi k hk h2))⟩
theorem TouchP.trans {P P' : Nat → Prop} {w w' w'' : World} (h : TouchP P w w') (h' : TouchP P' w' w'') (hi : ∀ k, P' k → P k ∨ w.heap.size ≤ k) : TouchP P w w'' :=
  ⟨h'.os.trans h.os, h'.tape.trans h.tape, h'.output.trans h.output, Nat.le_trans h.size h'.size, fun k hk hn => (h'.block k (Nat.lt_of_lt_of_le hk h.size) (fun h2 => by rcases hi k h2 with h3 | h3; exact hn h3; omega)).trans (h.block k hk hn)⟩
theorem TouchP.below {P : Nat → Prop} {w w' w'' : World} (h : TouchP P w w') (hb : Below w'.heap.size w' w'') : TouchP P w w'' :=
  ⟨hb.os.trans h.os, hb.tape.trans h.tape, hb.output.trans h.output, Nat.le_trans h.size hb.size, fun k hk hn => (hb.block k (Nat.lt_of_lt_of_le hk h.size)).trans (h.block k hk hn)⟩
theorem TouchP.of_below {P : Nat → Prop} {w w' : World} (hb : Below w.heap.size w w') : TouchP P w w' := (TouchP.refl P w).below hb
theorem TouchP.grown {P : Nat → Prop} {w w' w'' : World} (h : TouchP P w w') {row : Option Nat} (hg : w'.grownBy w'' row) (hr : ∀ k, row = some k → P k ∨ w.heap.size ≤ k) : TouchP P w w'' :=
  ⟨hg.os.trans h.os, hg.tape.trans h.tape, hg.output.trans h.output, Nat.le_trans h.size hg.size, fun k hk hn => (hg.block k (Nat.lt_of_lt_of_le hk h.size) (fun e => by rcases hr k e.symm with h3 | h3; exact hn h3; omega)).trans (h.block k hk hn)⟩
theorem TouchP.setCell {P : Nat → Prop} {w w' : World} (h : TouchP P w w') {g : Nat} (hg : P g ∨ w.heap.size ≤ g) (i : Nat) (v : Value) : TouchP P w (w'.setCell ⟨g, i, none⟩ v) :=
  ⟨h.os, h.tape, h.output, Nat.le_trans h.size (Nat.le_of_eq (by simp)), fun k hk hn => (Below.heap_setCell w' ⟨g, i, none⟩ v k (fun e => by rcases hg with h3 | h3; exact hn (by rw [e]; exact h3); exact absurd h3 (by have e' : k = g := e; omega))).trans (h.block k hk hn)⟩
theorem TouchP.bel {B : Nat} {P : Nat → Prop} {w0 w w' : World} (h : TouchP P w w') (hb : Below B w0 w) (hB : B ≤ w.heap.size) (hP : ∀ k, P k → B ≤ k) : Below B w0 w' :=
  ⟨h.os.trans hb.os, h.tape.trans hb.tape, h.output.trans hb.output, Nat.le_trans hb.size h.size, fun k hk => (h.block k (by omega) (fun h2 => by have := hP k h2; omega)).trans (hb.block k hk)⟩
theorem Touch.toP {D gS : Nat} {A : Option Addr} {w w' : World} (h : Touch D gS A w w') : TouchP (InD D gS A) w w' := ⟨h.os, h.tape, h.output, h.size, fun k hk hn => h.keep hk hn⟩
theorem RTouch.toP {D : Nat} {vS vW : Value} {w w' : World} (h : RTouch D vS vW w w') : TouchP (InR D vS vW) w w' := ⟨h.os, h.tape, h.output, h.size, h.block⟩
/-- Rows of rows of bytes: moved where the row's block, and all bytes, are kept. -/
theorem R_moveE {α : Type} {d : Kd α} {e base : Nat} {ok : Nat → Prop} {w w' : World} {v : Value} {xs : List α} (h : d.R e w base ok v xs) (hv : ∀ k, v.ownBlock = some k → w'.heap[k]? = w.heap[k]?) (hE : ∀ (k : Nat) (cells : Array Value) (q : TypeId), q ∈ d.E → w.heap[k]? = some (Obj.cells cells q (0, 0)) → w'.heap[k]? = w.heap[k]?) : d.R e w' base ok v xs := by
  obtain ⟨h0, inner, ho, hr⟩ := h
  refine ⟨h0, inner, own_move ho hv, hr.imp_ (fun p c hp => ?_)⟩
  refine d.M_mono (fun k hk => hk.1) (d.M_move (fun k hk => ?_) (d.M_bound hp))
  obtain ⟨_, _, _, q, hq, cells, hc⟩ := hk
  exact hE k cells q hq hc
/-- The log at Wb, over the disk at D: its records in vL, used sectors. T: the struct's type. -/
structure WalAt (T base Wb D : Nat) (vL : Value) (L : List (List Int)) (used : Nat) (w : World) : Prop where
  blk : w.heap[Wb]? = some (.cells #[.pointer (some ⟨D, 0, none⟩), vL, .int .i64 (used : Int)] T (0, 0))
  le : base ≤ Wb
  rs : Kd.R (Kd.slice 5 (Kd.int .u8)) 28 w base (fun _ => True) vL L
def InW (Wb : Nat) (vL : Value) (k : Nat) : Prop := k = Wb ∨ vL.ownBlock = some k
theorem WalAt.inW {T base Wb D used : Nat} {vL : Value} {L : List (List Int)} {w : World} (h : WalAt T base Wb D vL L used w) {k : Nat} (hk : InW Wb vL k) : base ≤ k ∧ ∃ cs t, (t = T ∨ t = 28) ∧ w.heap[k]? = some (.cells cs t (0, 0)) := by
  rcases hk with rfl | hk
  · exact ⟨h.le, _, _, .inl rfl, h.blk⟩
  · obtain ⟨inner, ho⟩ := Kd.R_own h.rs
    obtain ⟨cs, hc⟩ := own_typed ho k hk
    exact ⟨own_base ho k hk, cs, 28, .inr rfl, hc⟩
theorem WalAt.lt {T base Wb D used : Nat} {vL : Value} {L : List (List Int)} {w : World} (h : WalAt T base Wb D vL L used w) {k : Nat} (hk : InW Wb vL k) : k < w.heap.size := by
  obtain ⟨_, cs, t, _, hh⟩ := h.inW hk
  exact blk_lt hh
theorem WalAt.move {T base Wb D used : Nat} {vL : Value} {L : List (List Int)} {w w' : World} (h : WalAt T base Wb D vL L used w) (hm : ∀ k, InW Wb vL k → w'.heap[k]? = w.heap[k]?) (h5 : ∀ (k : Nat) (cells : Array Value), w.heap[k]? = some (Obj.cells cells 5 (0, 0)) → w'.heap[k]? = w.heap[k]?) : WalAt T base Wb D vL L used w' :=
  ⟨(hm Wb (.inl rfl)).trans h.blk, h.le, R_moveE h.rs (fun k hk => hm k (.inr hk)) (fun k cells q hq hc => by
    rcases List.mem_cons.1 hq with e | hq
    · subst e; exact h5 k cells hc
    · cases hq)⟩
theorem WalAt.below {T base Wb D used : Nat} {vL : Value} {L : List (List Int)} {w w' : World} (h : WalAt T base Wb D vL L used w) (hb : Below w.heap.size w w') : WalAt T base Wb D vL L used w' :=
  h.move (fun k hk => hb.block k (h.lt hk)) (fun k cells hc => hb.block k (blk_lt hc))
theorem WalAt.touch {T base Wb D used : Nat} {P : Nat → Prop} {vL : Value} {L : List (List Int)} {w w' : World} (h : WalAt T base Wb D vL L used w) (ht : TouchP P w w') (hP : ∀ k, InW Wb vL k → ¬ P k) (h5 : ∀ (k : Nat) (cells : Array Value), P k → w.heap[k]? = some (Obj.cells cells 5 (0, 0)) → False) : WalAt T base Wb D vL L used w' :=
  h.move (fun k hk => ht.block k (h.lt hk) (hP k hk)) (fun k cells hc => ht.block k (blk_lt hc) (fun hp => h5 k cells hp hc))
theorem WalAt.lower {T base base' Wb D used : Nat} {vL : Value} {L : List (List Int)} {w : World} (h : WalAt T base Wb D vL L used w) (hb : base' ≤ base) : WalAt T base' Wb D vL L used w := ⟨h.blk, Nat.le_trans hb h.le, Kd.R_lower h.rs hb⟩
/-- The disk's blocks are none of bytes, and none of a log's. -/
theorem DiskAt.no5 {base D gS cW : Nat} {A : Option Addr} {S : List (List Int)} {W : List (Int × List Int)} {w : World} (h : DiskAt base D gS A cW S W w) {t : TypeId} (ht : t ≠ 64 ∧ t ≠ 74 ∧ t ≠ 76) (k : Nat) (cells : Array Value) (hk : InD D gS A k) (hc : w.heap[k]? = some (Obj.cells cells t (0, 0))) : False := by
  obtain ⟨_, cs, t', ht', hh⟩ := h.inD hk
  have := blk_type hh hc
  rcases ht' with rfl | rfl | rfl
  · exact ht.1 this.symm
  · exact ht.2.1 this.symm
  · exact ht.2.2 this.symm
theorem WalAt.disk {T base Wb D0 used : Nat} {vL : Value} {L : List (List Int)} {w w' : World} (hw : WalAt T base Wb D0 vL L used w) (hT : T ≠ 64 ∧ T ≠ 74 ∧ T ≠ 76) {base2 D gS cW : Nat} {A : Option Addr} {S : List (List Int)} {W : List (Int × List Int)} (h : DiskAt base2 D gS A cW S W w) (ht : TouchP (InD D gS A) w w') : WalAt T base Wb D0 vL L used w' :=
  hw.touch ht (fun k hk hd => by
    obtain ⟨_, cs, t, ht', hh⟩ := hw.inW hk
    rcases ht' with rfl | rfl
    · exact h.no5 hT k cs hd hh
    · exact h.no5 (by decide) k cs hd hh) (fun k cells hp hc => h.no5 (by decide) k cells hp hc)
theorem DiskAt.wal {base D gS cW : Nat} {A : Option Addr} {S : List (List Int)} {W : List (Int × List Int)} {w w' : World} (h : DiskAt base D gS A cW S W w) {T base2 Wb D0 used : Nat} {vL : Value} {L : List (List Int)} (hw : WalAt T base2 Wb D0 vL L used w) (hT : T ≠ 64 ∧ T ≠ 74 ∧ T ≠ 76) (ht : TouchP (InW Wb vL) w w') : DiskAt base D gS A cW S W w' :=
  h.move (fun k hk => ht.block k (h.lt hk) (fun hi => by
    obtain ⟨_, cs, t, ht', hh⟩ := hw.inW hi
    rcases ht' with rfl | rfl
    · exact h.no5 hT k cs hk hh
    · exact h.no5 (by decide) k cs hk hh))
/-- Noughts written where there are others. -/
def zerosW (T : List (List Int)) (u : Nat) : Nat → List (Int × List Int)
  | 0 => []
  | n + 1 => zerosW T u n ++ (if T.getD (u + n) [] = zeroS then [] else [(((u + n : Nat) : Int), zeroS)])
theorem applyW_append (S : List (List Int)) (W Z : List (Int × List Int)) : applyW S (W ++ Z) = applyW (applyW S W) Z := by
  unfold applyW
  rw [List.foldl_append]
theorem zerosW_apply (T : List (List Int)) (u : Nat) : ∀ n, u + n ≤ T.length → applyW T (zerosW T u n) = T.take u ++ List.replicate n zeroS ++ T.drop (u + n)
  | 0, h => by simp [zerosW, applyW]
  | n + 1, h => by
    have hd : T.drop (u + n) = T[u + n] :: T.drop (u + n + 1) := List.drop_eq_getElem_cons (by omega)
    have hl : (T.take u ++ List.replicate n zeroS).length = u + n := by rw [List.length_append, List.length_take, List.length_replicate]; omega
    have hg : T.getD (u + n) [] = T[u + n] := by rw [List.getD_eq_getElem?_getD, List.getElem?_eq_getElem (by omega)]; rfl
    have hrep : List.replicate (n + 1) zeroS = List.replicate n zeroS ++ [zeroS] := List.replicate_succ'
    rw [zerosW, applyW_append, zerosW_apply T u n (by omega), hd, hg]
    by_cases c : T[u + n] = zeroS
    · rw [if_pos c, c, hrep]
      show _ = _
      simp [applyW, Nat.add_assoc]
    · rw [if_neg c, hrep]
      show ((T.take u ++ List.replicate n zeroS ++ T[u + n] :: T.drop (u + n + 1)).set (((u + n : Nat) : Int)).toNat zeroS) = _
      rw [Int.toNat_natCast, List.set_append_right _ _ (by rw [hl]; exact Nat.le_refl _), hl, Nat.sub_self, List.set_cons_zero]
      simp [Nat.add_assoc]
theorem zerosW_val (T : List (List Int)) (u m : Nat) : ∀ n, u + n ≤ m → ∀ p ∈ zerosW T u n, (0 ≤ p.1 ∧ p.1 < (m : Int) ∧ p.2.length = 16) ∧ p.1 < ((u + n : Nat) : Int)
  | 0, _, p, hp => by simp [zerosW] at hp
  | n + 1, h, p, hp => by
    rw [zerosW] at hp
    rcases List.mem_append.1 hp with hp | hp
    · have := zerosW_val T u m n (by omega) p hp
      exact ⟨this.1, by have := this.2; omega⟩
    · split at hp
      · cases hp
      · rw [List.mem_singleton] at hp
        subst hp
        exact ⟨⟨by simp only; omega, by simp only; omega, rfl⟩, by simp only; omega⟩
theorem zerosW_len (T : List (List Int)) (u : Nat) : ∀ n, (zerosW T u n).length ≤ n
  | 0 => Nat.le_refl _
  | n + 1 => by
    rw [zerosW, List.length_append]
    have := zerosW_len T u n
    split <;> simp <;> omega
/-- The sectors behind an opening. -/
def cleanF (T : List (List Int)) (u : Nat) : List (List Int) := T.take u ++ List.replicate (T.length - u) zeroS
theorem cleanF_eq {T : List (List Int)} {u : Nat} (h : u ≤ T.length) : applyW T (zerosW T u (T.length - u)) = cleanF T u := by
  rw [zerosW_apply T u _ (by omega), cleanF, List.drop_of_length_le (by omega), List.append_nil]
theorem Parts.zeros {m j : Nat} {S : List (List Int)} {W : List (Int × List Int)} (h : Parts m j S W) (T : List (List Int)) (u n : Nat) (hn : u + n ≤ m) : Parts m (j + n) S (W ++ zerosW T u n) := by
  refine ⟨h.len, h.s16, fun p hp => ?_, ?_⟩
  · rcases List.mem_append.1 hp with hp | hp
    · exact h.val p hp
    · rw [h.len]; exact (zerosW_val T u m n hn p hp).1
  · rw [List.length_append]
    have := h.few
    have := zerosW_len T u n
    omega
/-- What is read of a sector. -/
theorem readL_get {m j : Nat} {S : List (List Int)} {W : List (Int × List Int)} (h : Parts m j S W) {i : Nat} (hi : i < m) : readE S (i : Int) = 0 ∧ (applyW S W)[i]? = some (readL S W (i : Int)) ∧ (readL S W (i : Int)).length = 16 := by
  have hlt : i < S.length := by rw [h.len]; exact hi
  have hs : S[((i : Int)).toNat]? = some (S.getD i []) := by rw [Int.toNat_natCast, List.getD_eq_getElem?_getD, List.getElem?_eq_getElem hlt, Option.getD_some]
  have hg := applyW_get (i : Int) (by omega) W S _ (fun p hp => ⟨(h.val p hp).1, (h.val p hp).2.1⟩) hs
  have e : readL S W (i : Int) = readW (i : Int) W (S.getD i []) := by rw [readL, if_pos ⟨by omega, by omega⟩, Int.toNat_natCast]
  rw [← e, Int.toNat_natCast] at hg
  refine ⟨by rw [readE, if_pos ⟨by omega, by omega⟩], hg, ?_⟩
  exact applyW_16 W S (fun p hp => (h.val p hp).2.2) h.s16 _ (List.mem_of_getElem? hg)
theorem readL_zeros {m j : Nat} {S : List (List Int)} {W : List (Int × List Int)} (h : Parts m j S W) (T : List (List Int)) (u n : Nat) (hn : u + n < m) : readL S (W ++ zerosW T u n) ((u + n : Nat) : Int) = readL S W ((u + n : Nat) : Int) := by
  have hlt : u + n < S.length := by rw [h.len]; exact hn
  rw [readL, if_pos ⟨by omega, by omega⟩, readL, if_pos ⟨by omega, by omega⟩]
  generalize S.getD (((u + n : Nat) : Int)).toNat [] = s
  have key : ∀ (Z : List (Int × List Int)) (W : List (Int × List Int)) (s : List Int), (∀ p ∈ Z, p.1 ≠ ((u + n : Nat) : Int)) → readW ((u + n : Nat) : Int) (W ++ Z) s = readW ((u + n : Nat) : Int) W s := by
    intro Z W
    induction W with
    | nil => intro s hz; rw [List.nil_append, readW_ne _ _ _ hz]; rfl
    | cons p W ih => intro s hz; rw [List.cons_append, readW, readW, ih _ hz]
  exact key _ W s (fun p hp => by have := (zerosW_val T u m n (by omega) p hp).2; omega)
end Go.Proofs.Ytoafbpbnlmcklaa.PAll

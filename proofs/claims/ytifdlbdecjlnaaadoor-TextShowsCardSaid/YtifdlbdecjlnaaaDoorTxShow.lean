/- 'Show': what it answers for any command. Conditions: those that each theorem states. -/
import Derived.Test.YtifdlbdecjlnaaaDoorTxAwake
import Derived.Test.YtifdlbdecjlnaaaDoorTxHeld
import Derived.Test.YtifdlbdecjlnaaaDoorTxMem
import Derived.Lib.AppendIntMem
namespace Go.Proofs.YtifdlbdecjlnaaaDoor.PAll
open Go.RowKit Go.Proofs.YtifdlbdecjlnaaaDoorW.PrintWords Go.Proofs.YtifdlbdecjlnaaaDoorW.PrintLast Go.Proofs.YtifdlbdecjlnaaaDoorW.PrintMore
set_option linter.unusedVariables false
set_option linter.unusedSimpArgs false
/-- The table of powers of ten lies as it was laid. -/
def Pow (w : World) : Prop := Lib.TabIs Tryd.prog w "internal/strconv.uint64pow10" .u64 Lib.pow10Tab
theorem Pow.below {w w' : World} (h : Pow w) (hb : Below w.heap.size w w') : Pow w' := by
  unfold Pow Lib.TabIs World.var? at h ⊢
  cases hg : Tryd.prog.globalNamed "internal/strconv.uint64pow10" with
  | none => rw [hg] at h; cases h
  | some g =>
    rw [hg] at h
    rw [Option.bind_some] at h ⊢
    have hlt : g < w.heap.size := by
      by_cases k : g < w.heap.size
      · exact k
      · rw [Array.getElem?_eq_none (by omega)] at h; cases h
    rw [hb.block g hlt]
    exact h
theorem itoa_l (n : Nat) (hn : n < 2000000000) (w : World) (hP : Pow w) : Calls Tryd.prog 32 #[.int .i64 (n : Int)] w fun e w' => e = .returned (.string (Str (Lib.decDigits n))) ∧ Below w.heap.size w w' := by
  refine (Tryd.strconv_Itoa (n : Int) (by omega) (by omega) w hP).mono fun e w' ⟨h1, k, os, h2⟩ => ⟨h1.trans ?_, ?_⟩
  · unfold Lib.itoa
    rw [if_neg (by omega), Int.toNat_natCast]
    rfl
  · rw [h2]
    exact Lib.below_grow _ _ (Nat.le_refl _) _ _
def wordAt (k : Nat) : List UInt8 := kindWords.getD k []
theorem words_cell {w : World} {g : Nat} (h : wordsBlk w g) (k : Nat) (hk : k < 8) : w.cell? ⟨g, k, none⟩ = some (.string (Str (wordAt k))) := by
  rw [cell_of_row w g k _ _ _ h]
  have : (kindWords.map fun x => Value.string (Str x)).length = 8 := rfl
  match k, hk with
  | 0, _ => rfl
  | 1, _ => rfl
  | 2, _ => rfl
  | 3, _ => rfl
  | 4, _ => rfl
  | 5, _ => rfl
  | 6, _ => rfl
  | 7, _ => rfl
theorem own_below9 {w w' : World} {base e size n : Nat} {v : Value} {xs : List Value} (h : w.ownsRow base e size v n xs) (hb : Below w.heap.size w w') : w'.ownsRow base e size v n xs := by
  obtain ⟨h1, h2⟩ := h
  refine ⟨h1, ?_⟩
  rcases h2 with h2 | ⟨g, cap, cur, hv, hg, hh, r⟩
  · exact .inl h2
  · exact .inr ⟨g, cap, cur, hv, hg, (hb.block g (blk_lt hh)).trans hh, r⟩
theorem own_base9 {w : World} {base e size n c g : Nat} {xs : List Value} (h : w.ownsRow base e size (.slice (some ⟨g, 0, none⟩) n c) n xs) : base ≤ g := by
  obtain ⟨h1, h2⟩ := h
  rcases h2 with ⟨h2, _⟩ | ⟨g', cap, cur, hv, hg, r⟩
  · cases h2
  · cases hv; exact hg
theorem new_cell9 (w : World) (x : Value) : ∀ j u, [x][j]? = some u → (w.alloc (.cells #[x] 9)).cell? ((⟨w.heap.size, 0, none⟩ : Addr).add j) = some u := by
  intro j u h
  have hg : (w.alloc (.cells #[x] 9)).heap[w.heap.size]? = some (.cells #[x] 9 (0, 0)) := Array.getElem?_push_size (xs := w.heap)
  cases j with
  | zero =>
    have ha : (⟨w.heap.size, 0, none⟩ : Addr).add 0 = ⟨w.heap.size, 0, none⟩ := rfl
    rw [ha, cell_of_row _ _ 0 _ _ _ hg]
    simpa using h
  | succ j => simp at h
theorem join_l (base g cap n : Nat) (xs : List ByteArray) (hn : n = xs.length) (hn2 : n ≤ 1000) (w : World) (hO : w.ownsRow base 9 1 (.slice (some ⟨g, 0, none⟩) n cap) n (xs.map Value.string)) (hl : (Lib.join (xs.map (·.data.toList)) [32]).length ≤ 140737488355328) :
    Calls Tryd.prog 33 #[.slice (some ⟨g, 0, none⟩) n cap, .string ⟨#[32]⟩] w fun e w' => e = .returned (.string (Str (Lib.join (xs.map (·.data.toList)) [32]))) ∧ Below w.heap.size w w' := by
  subst hn
  obtain ⟨h1, h2⟩ := hO
  rcases h2 with ⟨h2, _⟩ | ⟨g', cap', cur, hv, hg, hh, hc, _, hs, hx⟩
  · cases h2
  · cases hv
    exact Tryd.strings_Join g 0 cap xs ⟨#[32]⟩ w (fun j x hj => by
      rw [cell_of_row w g (0 + j) _ _ _ hh, Nat.zero_add]
      have : (xs.map Value.string)[j]? = some (.string x) := by rw [List.getElem?_map, hj]; rfl
      rw [← hx, List.getElem?_take] at this
      split at this
      · simpa using this
      · cases this) (blk_lt hh) (by omega) hc hl
theorem wordAt_len (k : Nat) (hk : k < 8) : (wordAt k).length < 100 := by
  have h : ∀ j : Fin 8, (wordAt j.val).length < 100 := by decide
  exact h ⟨k, hk⟩
theorem decDigits_len : ∀ (n u : Nat), u ≤ n → (Lib.decDigits u).length ≤ u + 1
  | 0, u, h => by
    obtain rfl : u = 0 := by omega
    unfold Lib.decDigits
    simp
  | n + 1, u, h => by
    unfold Lib.decDigits
    split
    · simp
    · rw [List.length_append]
      have := decDigits_len n (u / 10) (by omega)
      simp only [List.length_cons, List.length_nil]
      omega
/-- What 'Show' answers. -/
def showR (k n m : Int) (t : List UInt8) : List UInt8 × Int :=
  if k ≤ 0 ∨ 8 ≤ k ∨ n < 1 ∨ 1048576 < n then ([], 1)
  else if 5 ≤ k ∧ (m < 1 ∨ 1073741824 < m) then ([], 1)
  else if (k = 4 ∨ k = 5) ∧ mayS t = false then ([], 1)
  else (Lib.join ([47 :: wordAt k.toNat, Lib.decDigits n.toNat] ++ (if 5 ≤ k then [Lib.decDigits m.toNat] else []) ++ (if k = 4 ∨ k = 5 then [t] else [])) [32], 0)
theorem numbered_b (k : Int) (b : Bool) (h : decide (5 ≤ k) = b) (w : World) : Calls Tryd.prog 22 #[.int .i64 k] w fun e w' => e = .returned (.bool b) ∧ w' = w := h ▸ numbered_l k w
theorem worded_b (k : Int) (b : Bool) (h : decide (k = 4 ∨ k = 5) = b) (w : World) : Calls Tryd.prog 23 #[.int .i64 k] w fun e w' => e = .returned (.bool b) ∧ w' = w := h ▸ worded_l k w
theorem own_new2 (w : World) (base : Nat) (hb : base ≤ w.heap.size) (x y : Value) : (w.alloc (.cells #[x, y] 9)).ownsRow base 9 1 (.slice (some ⟨w.heap.size, 0, none⟩) 2 2) 2 [x, y] :=
  ⟨rfl, .inr ⟨w.heap.size, 2, #[x, y], rfl, hb, Array.getElem?_push_size (xs := w.heap), Nat.le_refl _, by decide, rfl, rfl⟩⟩
theorem cmd_at {w0 w : World} {g : Nat} {a0 a1 k n m : Int} {t : ByteArray} (G : Aside0 (w0.heap[g]? = some (.cells #[.int .i64 a0, .int .i64 a1, .int .i64 k, .int .i64 n, .int .i64 m, .string t] 24 (0, 0)))) (hb : Below w0.heap.size w0 w) :
    w.cell? ⟨g, 2, none⟩ = some (.int .i64 k) ∧ w.cell? ⟨g, 4, none⟩ = some (.int .i64 m) ∧ w.cell? ⟨g, 5, none⟩ = some (.string t) := by
  have h := (hb.block g (blk_lt G.out)).trans G.out
  exact ⟨by rw [cell_of_row _ g _ _ _ _ h]; rfl, by rw [cell_of_row _ g _ _ _ _ h]; rfl, by rw [cell_of_row _ g _ _ _ _ h]; rfl⟩
theorem cmd_atA {w0 w : World} {g : Nat} {a0 a1 k n m : Int} {t : ByteArray} (G : Aside0 (w0.heap[g]? = some (.cells #[.int .i64 a0, .int .i64 a1, .int .i64 k, .int .i64 n, .int .i64 m, .string t] 24 (0, 0)))) (hb : Below w0.heap.size w0 w) :
    (∀ o, (w.alloc o).cell? ⟨g, 2, none⟩ = some (.int .i64 k)) ∧ (∀ o, (w.alloc o).cell? ⟨g, 5, none⟩ = some (.string t)) := 
  ⟨fun o => (cmd_at G (hb.alloc hb.size o)).1, fun o => (cmd_at G (hb.alloc hb.size o)).2.2⟩
set_option maxHeartbeats 1000000 in
set_option maxRecDepth 100000 in
theorem show_ok (a0 a1 : Int) (k n : Nat) (m : Int) (tl : List UInt8) (hk : 1 ≤ k ∧ k ≤ 7) (hn : 1 ≤ n ∧ n ≤ 1048576) (htl : tl.length < 1000000) (w : World) (hT : Tabs w) (hP : Pow w) :
    Calls Tryd.prog 14 #[.agg #[.int .i64 a0, .int .i64 a1, .int .i64 (k : Int), .int .i64 (n : Int), .int .i64 m, .string (Str tl)]] w fun e w' => e = .returned (.tuple #[.string (Str (showR k n m tl).1), .int .i64 (showR k n m tl).2]) ∧ Below w.heap.size w w' := by
  obtain ⟨V, hV⟩ : ∃ V, showR k n m tl = V := ⟨_, rfl⟩
  rw [hV]
  have hV := Aside0.mk hV
  have cM := fun w hT => may_w tl htl w hT
  obtain ⟨t, ht⟩ : ∃ t, Str tl = t := ⟨_, rfl⟩
  rw [ht] at cM
  rw [ht]
  have ht := Aside0.mk ht
  obtain ⟨M, hM⟩ : ∃ M, mayS tl = M := ⟨_, rfl⟩
  rw [hM] at cM
  have hM := Aside0.mk hM
  have k1 : decide ((k : Int) ≤ 0) = false := decide_eq_false (by omega)
  have k2 : decide ((k : Int) ≥ 8) = false := decide_eq_false (by omega)
  have n1 : decide ((n : Int) < 1) = false := decide_eq_false (by omega)
  have n2 : decide ((n : Int) > 1048576) = false := decide_eq_false (by omega)
  have b1 : (0 : Int) ≤ (k : Int) := by omega
  have b2 : (k : Int) < 8 := by omega
  have b3 : k < 8 := by omega
  go_enter Tryd.func14, Tryd.ntmps14
  go_upto_region 3 with fail
  obtain ⟨w0, hw0⟩ : ∃ w0, w.alloc (.cells #[.int .i64 a0, .int .i64 a1, .int .i64 (k : Int), .int .i64 (n : Int), .int .i64 m, .string t] 24) = w0 := ⟨_, rfl⟩
  obtain ⟨g, hg⟩ : ∃ g, w.heap.size = g := ⟨_, rfl⟩
  have G0 : Aside0 (w0.heap[g]? = some (.cells #[.int .i64 a0, .int .i64 a1, .int .i64 (k : Int), .int .i64 (n : Int), .int .i64 m, .string t] 24 (0, 0))) := ⟨by rw [← hw0, ← hg]; exact Array.getElem?_push_size (xs := w.heap)⟩
  have hB0 : Aside0 (Below g w w0) := ⟨by rw [← hw0, ← hg]; exact (Below.refl _ _).alloc (Nat.le_refl _) _⟩
  have hT0 : Aside0 (Tabs w0) := ⟨hT.below (by rw [hg]; exact hB0.out)⟩
  have hP0 : Aside0 (Pow w0) := ⟨hP.below (by rw [hg]; exact hB0.out)⟩
  rw [hw0, hg]
  clear hw0 hT hP
  have hc2 : w0.cell? ⟨g, 2, none⟩ = some (.int .i64 (k : Int)) := by rw [cell_of_row _ g _ _ _ _ G0.out]; rfl
  have hc3 : w0.cell? ⟨g, 3, none⟩ = some (.int .i64 (n : Int)) := by rw [cell_of_row _ g _ _ _ _ G0.out]; rfl
  have hgl : g < w0.heap.size := blk_lt G0.out
  have cW : Calls Tryd.prog 16 #[] w0.drew fun e w' => e = .returned (.slice (some ⟨w0.heap.size, 0, none⟩) 8 8) ∧ w0.heap.size < w'.heap.size ∧ w'.cell? ⟨w0.heap.size, k, none⟩ = some (.string (Str (wordAt k))) ∧ Below w0.heap.size w0 w' := (words_l w0.drew).mono fun e w' ⟨h1, h2, h3⟩ => ⟨h1, blk_lt h2, words_cell h2 k b3, ⟨h3.os, h3.tape, h3.output, h3.size, h3.block⟩⟩
  have cI : ∀ w, Below w0.heap.size w0 w → Calls Tryd.prog 32 #[.int .i64 (n : Int)] w fun e w' => e = .returned (.string (Str (Lib.decDigits n))) ∧ Below w.heap.size w w' := fun w hb => itoa_l n (by omega) w (hP0.out.below hb)
  have cI2 : ∀ (mm : Nat) w, mm < 2000000000 → Below w0.heap.size w0 w → Calls Tryd.prog 32 #[.int .i64 (mm : Int)] w fun e w' => e = .returned (.string (Str (Lib.decDigits mm))) ∧ Below w.heap.size w w' := fun mm w hm hb => itoa_l mm hm w (hP0.out.below hb)
  have hdn : Aside0 ((Lib.decDigits n).length ≤ n + 1 ∧ Lib.decDigits n = Lib.decDigits n) := ⟨decDigits_len n n (Nat.le_refl _), rfl⟩
  obtain ⟨sn, hsn⟩ : ∃ s, Str (Lib.decDigits n) = s := ⟨_, rfl⟩
  rw [hsn] at cI
  have hsn := Aside0.mk hsn
  have hws : (wordAt k).length < 100 := wordAt_len k b3
  have hws' := Aside0.mk hws
  have hap : (⟨#[47]⟩ : ByteArray) ++ Str (wordAt k) = Str (47 :: wordAt k) := Str_append [47] _
  have hwz : (Str (wordAt k)).size = (wordAt k).length := Str_size _
  generalize (wordAt k).length = wl at hws hwz
  obtain ⟨sw, hsw⟩ : ∃ s, Str (47 :: wordAt k) = s := ⟨_, rfl⟩
  rw [hsw] at hap
  have hsw := Aside0.mk hsw
  generalize Str (wordAt k) = wB at hap hwz cW
  go_cut [4] from 23 to 32 (fun v w' => ∃ gp, v = .slice (some ⟨gp, 0, none⟩) 2 2 ∧ Aside0 (w'.ownsRow w0.heap.size 9 1 (.slice (some ⟨gp, 0, none⟩) 2 2) 2 [.string sw, .string sn]) ∧ Aside0 (Below w0.heap.size w0 w'))
  case first =>
    refine wp_region_held2 (S := fun U => Below w0.heap.size w0 U) (S2 := fun U => Below w0.heap.size w0 U ∧ U.cell? ⟨w0.heap.size, k, none⟩ = some (.string wB) ∧ w0.heap.size < U.heap.size) (fun _ h => h.1) [0, 8, 9] [3, 4, 5, 8, 9, 10] [1, 2, 6, 7, 0] (by kernel_rfl) rfl (by kernel_rfl) (by kernel_rfl) (below_drew (Below.refl _ _)) (fun hHeld => ?_)
    refine held2_read (i := 1) (N := (some 24)) (v := ?_) (a' := ?_) rfl rfl rfl (fun _ _ _ h => h) (Or.inl ⟨by rfl, ?_⟩) ?_ ?_
    rotate_left
    · intro w' hS
      clear hS
      go_simp
      with_reducible rfl
    rotate_left
    · simp only [Act.put, List.setIfInBounds_toArray, List.set_cons_zero, List.set_cons_succ, Go.Proofs.YtifdlbdecjlnaaaDoorW.PrintLast.i64_w, Go.Proofs.YtifdlbdecjlnaaaDoorW.PrintLast.i32_w]
      rfl
    refine held2_read (i := 2) (N := (some 25)) (v := ?_) (a' := ?_) rfl rfl rfl (fun _ _ _ h => h) (Or.inl ⟨by rfl, ?_⟩) ?_ ?_
    rotate_left
    · intro w' hS
      have z2 := (hS.cell (p := ⟨g, 2, none⟩) hgl).trans hc2
      clear hS
      go_simp
      with_reducible rfl
    rotate_left
    · simp only [Act.put, List.setIfInBounds_toArray, List.set_cons_zero, List.set_cons_succ, Go.Proofs.YtifdlbdecjlnaaaDoorW.PrintLast.i64_w, Go.Proofs.YtifdlbdecjlnaaaDoorW.PrintLast.i32_w]
      rfl
    refine held2_read (i := 6) (N := (some 29)) (v := ?_) (a' := ?_) rfl rfl rfl (fun _ _ _ h => h) (Or.inl ⟨by rfl, ?_⟩) ?_ ?_
    rotate_left
    · intro w' hS
      clear hS
      go_simp
      with_reducible rfl
    rotate_left
    · simp only [Act.put, List.setIfInBounds_toArray, List.set_cons_zero, List.set_cons_succ, Go.Proofs.YtifdlbdecjlnaaaDoorW.PrintLast.i64_w, Go.Proofs.YtifdlbdecjlnaaaDoorW.PrintLast.i32_w]
      rfl
    refine held2_read (i := 7) (N := (some 30)) (v := ?_) (a' := ?_) rfl rfl rfl (fun _ _ _ h => h) (Or.inl ⟨by rfl, ?_⟩) ?_ ?_
    rotate_left
    · intro w' hS
      have z3 := (hS.cell (p := ⟨g, 3, none⟩) hgl).trans hc3
      clear hS
      go_simp
      with_reducible rfl
    rotate_left
    · simp only [Act.put, List.setIfInBounds_toArray, List.set_cons_zero, List.set_cons_succ, Go.Proofs.YtifdlbdecjlnaaaDoorW.PrintLast.i64_w, Go.Proofs.YtifdlbdecjlnaaaDoorW.PrintLast.i32_w]
      rfl
    refine held2_run (i := 0) (N := (some 23)) rfl rfl rfl (fun K hK => ?_)
    refine Go.Proofs.YtifdlbdecjlnaaaDoorW.PrintLast.goes_ Tryd.func16 (by kernel_rfl) rfl #[] (by rfl) rfl rfl (by first | done | rfl | (simp only [List.map_toArray, List.map_cons, List.map_nil]; first | done | rfl)) ?_
    refine (cW).mono ?_
    rintro e w1 ⟨rfl, hgw, hcw, hB1⟩
    refine ⟨_, rfl, ?_⟩
    refine hK.out _ _ hB1 ?_
    clear hK K
    refine held2_switch (a' := ?_) ?_ ⟨hB1, hcw, hgw⟩ ?_
    rotate_left
    · simp only [Act.put, List.setIfInBounds_toArray, List.set_cons_zero, List.set_cons_succ, Go.Proofs.YtifdlbdecjlnaaaDoorW.PrintLast.i64_w, Go.Proofs.YtifdlbdecjlnaaaDoorW.PrintLast.i32_w]
      rfl
    refine held_read (i := 3) (N := (some 26)) (v := ?_) (a' := ?_) rfl rfl rfl (fun _ _ _ h => h) (Or.inl ⟨by rfl, ?_⟩) ?_ ?_
    rotate_left
    · intro w' hS
      clear hS
      go_simp
      with_reducible rfl
    rotate_left
    · simp only [Act.put, List.setIfInBounds_toArray, List.set_cons_zero, List.set_cons_succ, Go.Proofs.YtifdlbdecjlnaaaDoorW.PrintLast.i64_w, Go.Proofs.YtifdlbdecjlnaaaDoorW.PrintLast.i32_w]
      rfl
    refine held_read (i := 4) (N := (some 27)) (v := ?_) (a' := ?_) rfl rfl rfl (fun _ _ _ h => h) (Or.inl ⟨by rfl, ?_⟩) ?_ ?_
    rotate_left
    · intro w' hS
      have zw := hS.2.1
      clear hS
      go_simp
      with_reducible rfl
    rotate_left
    · simp only [Act.put, List.setIfInBounds_toArray, List.set_cons_zero, List.set_cons_succ, Go.Proofs.YtifdlbdecjlnaaaDoorW.PrintLast.i64_w, Go.Proofs.YtifdlbdecjlnaaaDoorW.PrintLast.i32_w]
      rfl
    refine held_read (i := 5) (N := (some 28)) (v := ?_) (a' := ?_) rfl rfl rfl (fun _ _ _ h => h) (Or.inl ⟨by rfl, ?_⟩) ?_ ?_
    rotate_left
    · intro w' hS
      have hno : ¬ (9223372036854775807 < 1 + wl) := by omega
      clear hS
      go_simp
      with_reducible rfl
    rotate_left
    · simp only [Act.put, List.setIfInBounds_toArray, List.set_cons_zero, List.set_cons_succ, Go.Proofs.YtifdlbdecjlnaaaDoorW.PrintLast.i64_w, Go.Proofs.YtifdlbdecjlnaaaDoorW.PrintLast.i32_w]
      rfl
    refine held_run (i := 8) (N := (some 31)) rfl rfl rfl (fun K hK => ?_)
    refine Go.Proofs.YtifdlbdecjlnaaaDoorW.PrintLast.goes_ Tryd.func32 (by kernel_rfl) rfl #[.int .i64 (n : Int)] (by rfl) rfl rfl (by first | done | rfl | (simp only [List.map_toArray, List.map_cons, List.map_nil]; first | done | rfl)) ?_
    refine (cI _ hB1).mono ?_
    rintro e w2 ⟨rfl, hB⟩
    refine ⟨_, rfl, ?_⟩
    refine hK.out _ _ ⟨hB1.trans (hB.mono hB1.size), (hB.cell (p := ⟨w0.heap.size, k, none⟩) hgw).trans hcw, Nat.lt_of_lt_of_le hgw hB.size⟩ ?_
    clear hK K
    refine held_norm (a' := ?_) ?_ ?_
    rotate_left
    · simp only [Act.put, List.setIfInBounds_toArray, List.set_cons_zero, List.set_cons_succ, Go.Proofs.YtifdlbdecjlnaaaDoorW.PrintLast.i64_w, Go.Proofs.YtifdlbdecjlnaaaDoorW.PrintLast.i32_w]
      rfl
    have hB2 : Below w0.heap.size w0 w2 := hB1.trans (hB.mono hB1.size)
    have hcw2 := (hB.cell (p := ⟨w0.heap.size, k, none⟩) hgw).trans hcw
    have hgw2 : w0.heap.size < w2.heap.size := Nat.lt_of_lt_of_le hgw hB.size
    refine held_run (i := 9) (N := (some 32)) rfl rfl rfl (fun K hK => ?_)
    go_simp
    refine hK.out _ _ ⟨hB2.alloc hB2.size _, (Below.cell ((Below.refl w2.heap.size w2).alloc (Nat.le_refl _) _) (p := ⟨w0.heap.size, k, none⟩) hgw2).trans hcw2, Nat.lt_of_lt_of_le hgw2 ((Below.refl w2.heap.size w2).alloc (Nat.le_refl _) _).size⟩ ?_
    clear hK K
    refine held_read (i := 10) (N := (some 4)) (v := ?_) (a' := ?_) rfl rfl rfl (fun _ _ _ h => h) (Or.inl ⟨by rfl, ?_⟩) ?_ ?_
    rotate_left
    · intro w' hS
      clear hS
      go_simp
      with_reducible rfl
    rotate_left
    · simp only [Act.put, List.setIfInBounds_toArray, List.set_cons_zero, List.set_cons_succ, Go.Proofs.YtifdlbdecjlnaaaDoorW.PrintLast.i64_w, Go.Proofs.YtifdlbdecjlnaaaDoorW.PrintLast.i32_w]
      rfl
    refine held_done ?_
    go_wp2
    go_meet
    exact ⟨_, rfl, ⟨own_new2 w2 _ hB2.size _ _⟩, ⟨hB2.alloc hB2.size _⟩⟩
  obtain ⟨gp, rfl, HO, HB⟩ := hcut
  have hgp := Aside0.mk (own_base9 HO.out)
  obtain ⟨z2, z4, z5⟩ := cmd_at G0 HB.out
  have hB0' : Aside0 (Below w.heap.size w w0) := ⟨by rw [hg]; exact hB0.out⟩
  have hgl' : Aside0 (w.heap.size ≤ w0.heap.size) := ⟨by rw [hg]; omega⟩
  obtain ⟨i9, hi9⟩ : ∃ i9, Aside0 (Tryd.prog.info? 9 = some i9 ∧ i9.zero = some (.string ⟨#[]⟩) ∧ i9.size = 1 ∧ i9.bytes = 16) := by
    obtain ⟨i9, h1, h2⟩ := Option.map_eq_some_iff.1 info9
    simp only [Prod.mk.injEq] at h2
    exact ⟨i9, ⟨h1, h2.1, h2.2.1, h2.2.2⟩⟩
  clear hc2 hc3 hgl cW cI hap hwz hws k1 k2 n1 n2 b1 b2
  by_cases h5 : 5 ≤ k
  · have e5 : decide ((5 : Int) ≤ (k : Int)) = true := decide_eq_true (by omega)
    by_cases hm1 : m < 1
    · have d1 : decide (m < 1) = true := decide_eq_true hm1
      have hV2 : V = ([], 1) := by
        rw [← hV.out]
        unfold showR
        rw [if_neg (by omega), if_pos (by omega)]
      go_wp2_with (first | (go_at_call 22; refine (numbered_b _ true e5 _).mono ?_; rintro e w' ⟨rfl, hw_⟩; obtain rfl := hw_.symm))
      go_ret2
      exact ⟨by rw [hV2]; rfl, hB0'.out.trans (HB.out.mono hgl'.out)⟩
    by_cases hm2 : 1073741824 < m
    · have d1 : decide (m < 1) = false := decide_eq_false hm1
      have d2 : decide (m > 1073741824) = true := decide_eq_true hm2
      have hV2 : V = ([], 1) := by
        rw [← hV.out]
        unfold showR
        rw [if_neg (by omega), if_pos (by omega)]
      go_wp2_with (first | (go_at_call 22; refine (numbered_b _ true e5 _).mono ?_; rintro e w' ⟨rfl, hw_⟩; obtain rfl := hw_.symm))
      go_ret2
      exact ⟨by rw [hV2]; rfl, hB0'.out.trans (HB.out.mono hgl'.out)⟩
    obtain ⟨mm, rfl⟩ : ∃ mm : Nat, m = (mm : Int) := ⟨m.toNat, by omega⟩
    have d1 : decide ((mm : Int) < 1) = false := decide_eq_false hm1
    have d2 : decide ((mm : Int) > 1073741824) = false := decide_eq_false hm2
    have cI3 := fun w hb => cI2 mm w (by omega) hb
    have hdm := Aside0.mk (decDigits_len mm mm (Nat.le_refl _))
    obtain ⟨sm, hsm⟩ : ∃ s, Str (Lib.decDigits mm) = s := ⟨_, rfl⟩
    rw [hsm] at cI3
    have hsm := Aside0.mk hsm
    have hml := Aside0.mk (show mm ≤ 1073741824 by omega)
    clear cI2
    by_cases h55 : k = 5
    · have ew : decide ((k : Int) = 4 ∨ (k : Int) = 5) = true := decide_eq_true (by omega)
      cases M
      · have hV2 : V = ([], 1) := by
          rw [← hV.out]
          unfold showR
          rw [if_neg (by omega), if_neg (by omega), if_pos ⟨by omega, hM.out⟩]
        clear hm1 hm2 h55
        go_wp2_with (first | (go_at_call 22; refine (numbered_b _ true e5 _).mono ?_; rintro e w' ⟨rfl, hw_⟩; obtain rfl := hw_.symm) | (go_at_call 32; refine (cI3 _ HB.out).mono ?_; rintro e w3 ⟨rfl, hb⟩; have HB3 := Aside0.mk (HB.out.trans (hb.mono HB.out.size)); have HO3 := Aside0.mk (own_below9 HO.out hb); obtain ⟨x2, x4, x5⟩ := cmd_at G0 HB3.out; clear hb) | ((with_reducible refine gate_dst (N := 49) rfl ?_); refine wpList_append_lies _ rfl (.tmp 44) (.tmp 48) 32 rfl w0.heap.size 9 i9 _ 1 16 Tryd.underlying32 hi9.out.1 hi9.out.2.1 hi9.out.2.2.1 hi9.out.2.2.2 (by rfl) (by decide) (.slice (some ⟨gp, 0, none⟩) 2 2) 2 _ rfl (own_below9 HO3.out ((Below.refl w3.heap.size w3).alloc (Nat.le_refl _) _)) ⟨w3.heap.size, 0, none⟩ 1 1 [.string sm] rfl rfl (new_cell9 w3 _) (by intro u hu; simp at hu; subst hu; rfl) (by decide) (by decide) (by decide) (Nat.le_trans HB3.out.size ((Below.refl w3.heap.size w3).alloc (Nat.le_refl _) _).size) _ rfl ?_; intro g4 c4 w5 ho4 hg4 ha4 hl4; have HO5 := Aside0.mk ho4; have hgp4 := Aside0.mk (own_base9 ho4); have HB5 := Aside0.mk ((HB3.out.alloc HB3.out.size (.cells #[.string sm] 9)).grown hg4 (Nat.le_trans HB3.out.size ((Below.refl w3.heap.size w3).alloc (Nat.le_refl _) _).size) (by intro q hq; cases hq; exact hgp.out)); obtain ⟨y2, y4, y5⟩ := cmd_at G0 HB5.out; clear ho4 hg4 ha4 hl4) | (go_at_call 23; refine (worded_b _ true ew _).mono ?_; rintro e w' ⟨rfl, hw_⟩; obtain rfl := hw_.symm) | (go_at_call 12; refine (cM _ (hT0.out.below HB5.out)).mono ?_; rintro e w6 ⟨rfl, hb⟩; have HB6 := Aside0.mk (HB5.out.trans (hb.mono HB5.out.size)); have HO6 := Aside0.mk (own_below9 HO5.out hb); obtain ⟨x2, x4, x5⟩ := cmd_at G0 HB6.out; clear hb))
        go_ret2
        exact ⟨by rw [hV2]; rfl, hB0'.out.trans (HB6.out.mono hgl'.out)⟩
      · have JL := Aside0.mk (show (Lib.join ([sw, sn, sm, t].map (·.data.toList)) [32]).length ≤ 140737488355328 by
          rw [← hsw.out, ← hsn.out, ← hsm.out, ← ht.out]
          have q1 := hdn.out.1
          have q2 := hws'.out
          have q3 := hdm.out
          simp [Lib.join, List.intercalate, Str_data]
          omega)
        have hV2 : V = (Lib.join ([sw, sn, sm, t].map (·.data.toList)) [32], 0) := by
          rw [← hV.out, ← hsw.out, ← hsn.out, ← hsm.out, ← ht.out]
          unfold showR
          rw [if_neg (by omega), if_neg (by omega), if_neg (by rw [hM.out]; simp), if_pos (by omega), if_pos (by omega)]
          simp [Str_data]
        clear hm1 hm2 h55
        go_wp2_with (first | (go_at_call 22; refine (numbered_b _ true e5 _).mono ?_; rintro e w' ⟨rfl, hw_⟩; obtain rfl := hw_.symm) | (go_at_call 32; refine (cI3 _ HB.out).mono ?_; rintro e w3 ⟨rfl, hb⟩; have HB3 := Aside0.mk (HB.out.trans (hb.mono HB.out.size)); have HO3 := Aside0.mk (own_below9 HO.out hb); obtain ⟨x2, x4, x5⟩ := cmd_at G0 HB3.out; clear hb) | ((with_reducible refine gate_dst (N := 49) rfl ?_); refine wpList_append_lies _ rfl (.tmp 44) (.tmp 48) 32 rfl w0.heap.size 9 i9 _ 1 16 Tryd.underlying32 hi9.out.1 hi9.out.2.1 hi9.out.2.2.1 hi9.out.2.2.2 (by rfl) (by decide) (.slice (some ⟨gp, 0, none⟩) 2 2) 2 _ rfl (own_below9 HO3.out ((Below.refl w3.heap.size w3).alloc (Nat.le_refl _) _)) ⟨w3.heap.size, 0, none⟩ 1 1 [.string sm] rfl rfl (new_cell9 w3 _) (by intro u hu; simp at hu; subst hu; rfl) (by decide) (by decide) (by decide) (Nat.le_trans HB3.out.size ((Below.refl w3.heap.size w3).alloc (Nat.le_refl _) _).size) _ rfl ?_; intro g4 c4 w5 ho4 hg4 ha4 hl4; have HO5 := Aside0.mk ho4; have hgp4 := Aside0.mk (own_base9 ho4); have HB5 := Aside0.mk ((HB3.out.alloc HB3.out.size (.cells #[.string sm] 9)).grown hg4 (Nat.le_trans HB3.out.size ((Below.refl w3.heap.size w3).alloc (Nat.le_refl _) _).size) (by intro q hq; cases hq; exact hgp.out)); obtain ⟨y2, y4, y5⟩ := cmd_at G0 HB5.out; clear ho4 hg4 ha4 hl4) | (go_at_call 23; refine (worded_b _ true ew _).mono ?_; rintro e w' ⟨rfl, hw_⟩; obtain rfl := hw_.symm) | (go_at_call 12; refine (cM _ (hT0.out.below HB5.out)).mono ?_; rintro e w6 ⟨rfl, hb⟩; have HB6 := Aside0.mk (HB5.out.trans (hb.mono HB5.out.size)); have HO6 := Aside0.mk (own_below9 HO5.out hb); obtain ⟨x2, x4, x5⟩ := cmd_at G0 HB6.out; clear hb) | ((with_reducible refine gate_dst (N := 61) rfl ?_); refine wpList_append_lies _ rfl (.tmp 57) (.tmp 60) 32 rfl w0.heap.size 9 i9 _ 1 16 Tryd.underlying32 hi9.out.1 hi9.out.2.1 hi9.out.2.2.1 hi9.out.2.2.2 (by rfl) (by decide) (.slice (some ⟨g4, 0, none⟩) 3 c4) 3 _ rfl (own_below9 HO6.out ((Below.refl w6.heap.size w6).alloc (Nat.le_refl _) _)) ⟨w6.heap.size, 0, none⟩ 1 1 [.string t] rfl rfl (new_cell9 w6 _) (by intro u hu; simp at hu; subst hu; rfl) (by decide) (by decide) (by decide) (Nat.le_trans HB6.out.size ((Below.refl w6.heap.size w6).alloc (Nat.le_refl _) _).size) _ rfl ?_; intro g7 c7 w7 ho4 hg4 ha4 hl4; have HO7 := Aside0.mk ho4; have hgp7 := Aside0.mk (own_base9 ho4); have HB7 := Aside0.mk ((HB6.out.alloc HB6.out.size (.cells #[.string t] 9)).grown hg4 (Nat.le_trans HB6.out.size ((Below.refl w6.heap.size w6).alloc (Nat.le_refl _) _).size) (by intro q hq; cases hq; exact hgp4.out)); obtain ⟨y2, y4, y5⟩ := cmd_at G0 HB7.out; clear ho4 hg4 ha4 hl4) | (go_at_call 33; refine (join_l w0.heap.size _ _ 4 [sw, sn, sm, t] rfl (by decide) _ HO7.out ?hj_).mono ?_; (case hj_ => exact JL.out); rintro e w9 ⟨rfl, hb⟩; have HB9 := Aside0.mk (HB7.out.trans (hb.mono HB7.out.size)); clear hb))
        go_ret2
        exact ⟨by rw [hV2]; rfl, hB0'.out.trans (HB9.out.mono hgl'.out)⟩
    · have ew : decide ((k : Int) = 4 ∨ (k : Int) = 5) = false := decide_eq_false (by omega)
      have JL := Aside0.mk (show (Lib.join ([sw, sn, sm].map (·.data.toList)) [32]).length ≤ 140737488355328 by
        rw [← hsw.out, ← hsn.out, ← hsm.out]
        have q1 := hdn.out.1
        have q2 := hws'.out
        have q3 := hdm.out
        simp [Lib.join, List.intercalate, Str_data]
        omega)
      have hV2 : V = (Lib.join ([sw, sn, sm].map (·.data.toList)) [32], 0) := by
        rw [← hV.out, ← hsw.out, ← hsn.out, ← hsm.out]
        unfold showR
        rw [if_neg (by omega), if_neg (by omega), if_neg (by omega), if_pos (by omega), if_neg (by omega)]
        simp [Str_data]
      clear hm1 hm2
      go_wp2_with (first | (go_at_call 22; refine (numbered_b _ true e5 _).mono ?_; rintro e w' ⟨rfl, hw_⟩; obtain rfl := hw_.symm) | (go_at_call 32; refine (cI3 _ HB.out).mono ?_; rintro e w3 ⟨rfl, hb⟩; have HB3 := Aside0.mk (HB.out.trans (hb.mono HB.out.size)); have HO3 := Aside0.mk (own_below9 HO.out hb); obtain ⟨x2, x4, x5⟩ := cmd_at G0 HB3.out; clear hb) | ((with_reducible refine gate_dst (N := 49) rfl ?_); refine wpList_append_lies _ rfl (.tmp 44) (.tmp 48) 32 rfl w0.heap.size 9 i9 _ 1 16 Tryd.underlying32 hi9.out.1 hi9.out.2.1 hi9.out.2.2.1 hi9.out.2.2.2 (by rfl) (by decide) (.slice (some ⟨gp, 0, none⟩) 2 2) 2 _ rfl (own_below9 HO3.out ((Below.refl w3.heap.size w3).alloc (Nat.le_refl _) _)) ⟨w3.heap.size, 0, none⟩ 1 1 [.string sm] rfl rfl (new_cell9 w3 _) (by intro u hu; simp at hu; subst hu; rfl) (by decide) (by decide) (by decide) (Nat.le_trans HB3.out.size ((Below.refl w3.heap.size w3).alloc (Nat.le_refl _) _).size) _ rfl ?_; intro g4 c4 w5 ho4 hg4 ha4 hl4; have HO5 := Aside0.mk ho4; have hgp4 := Aside0.mk (own_base9 ho4); have HB5 := Aside0.mk ((HB3.out.alloc HB3.out.size (.cells #[.string sm] 9)).grown hg4 (Nat.le_trans HB3.out.size ((Below.refl w3.heap.size w3).alloc (Nat.le_refl _) _).size) (by intro q hq; cases hq; exact hgp.out)); obtain ⟨y2, y4, y5⟩ := cmd_at G0 HB5.out; clear ho4 hg4 ha4 hl4) | (go_at_call 23; refine (worded_b _ false ew _).mono ?_; rintro e w' ⟨rfl, hw_⟩; obtain rfl := hw_.symm) | (go_at_call 33; refine (join_l w0.heap.size _ _ 3 [sw, sn, sm] rfl (by decide) _ HO5.out ?hj_).mono ?_; (case hj_ => exact JL.out); rintro e w9 ⟨rfl, hb⟩; have HB9 := Aside0.mk (HB5.out.trans (hb.mono HB5.out.size)); clear hb))
      go_ret2
      exact ⟨by rw [hV2]; rfl, hB0'.out.trans (HB9.out.mono hgl'.out)⟩
  · have e5 : decide ((5 : Int) ≤ (k : Int)) = false := decide_eq_false (by omega)
    by_cases h4 : k = 4
    · have ew : decide ((k : Int) = 4 ∨ (k : Int) = 5) = true := decide_eq_true (by omega)
      cases M
      · have hV2 : V = ([], 1) := by
          rw [← hV.out]
          unfold showR
          rw [if_neg (by omega), if_neg (by omega), if_pos ⟨by omega, hM.out⟩]
        clear h4
        go_wp2_with (first | (go_at_call 22; refine (numbered_b _ false e5 _).mono ?_; rintro e w' ⟨rfl, hw_⟩; obtain rfl := hw_.symm) | (go_at_call 23; refine (worded_b _ true ew _).mono ?_; rintro e w' ⟨rfl, hw_⟩; obtain rfl := hw_.symm) | (go_at_call 12; refine (cM _ (hT0.out.below HB.out)).mono ?_; rintro e w3 ⟨rfl, hb⟩; have HB3 := Aside0.mk (HB.out.trans (hb.mono HB.out.size)); have HO3 := Aside0.mk (own_below9 HO.out hb); obtain ⟨x2, x4, x5⟩ := cmd_at G0 HB3.out; clear hb))
        go_ret2
        exact ⟨by rw [hV2]; rfl, hB0'.out.trans (HB3.out.mono hgl'.out)⟩
      · have JL := Aside0.mk (show (Lib.join ([sw, sn, t].map (·.data.toList)) [32]).length ≤ 140737488355328 by
          rw [← hsw.out, ← hsn.out, ← ht.out]
          have q1 := hdn.out.1
          have q2 := hws'.out
          simp [Lib.join, List.intercalate, Str_data]
          omega)
        have hV2 : V = (Lib.join ([sw, sn, t].map (·.data.toList)) [32], 0) := by
          rw [← hV.out, ← hsw.out, ← hsn.out, ← ht.out]
          unfold showR
          rw [if_neg (by omega), if_neg (by omega), if_neg (by rw [hM.out]; simp), if_neg (by omega), if_pos (by omega)]
          simp [Str_data]
        clear h4
        go_wp2_with (first | (go_at_call 22; refine (numbered_b _ false e5 _).mono ?_; rintro e w' ⟨rfl, hw_⟩; obtain rfl := hw_.symm) | (go_at_call 23; refine (worded_b _ true ew _).mono ?_; rintro e w' ⟨rfl, hw_⟩; obtain rfl := hw_.symm) | (go_at_call 12; refine (cM _ (hT0.out.below HB.out)).mono ?_; rintro e w3 ⟨rfl, hb⟩; have HB3 := Aside0.mk (HB.out.trans (hb.mono HB.out.size)); have HO3 := Aside0.mk (own_below9 HO.out hb); obtain ⟨x2, x4, x5⟩ := cmd_at G0 HB3.out; clear hb) | ((with_reducible refine gate_dst (N := 61) rfl ?_); refine wpList_append_lies _ rfl (.tmp 57) (.tmp 60) 32 rfl w0.heap.size 9 i9 _ 1 16 Tryd.underlying32 hi9.out.1 hi9.out.2.1 hi9.out.2.2.1 hi9.out.2.2.2 (by rfl) (by decide) (.slice (some ⟨gp, 0, none⟩) 2 2) 2 _ rfl (own_below9 HO3.out ((Below.refl w3.heap.size w3).alloc (Nat.le_refl _) _)) ⟨w3.heap.size, 0, none⟩ 1 1 [.string t] rfl rfl (new_cell9 w3 _) (by intro u hu; simp at hu; subst hu; rfl) (by decide) (by decide) (by decide) (Nat.le_trans HB3.out.size ((Below.refl w3.heap.size w3).alloc (Nat.le_refl _) _).size) _ rfl ?_; intro g4 c4 w5 ho4 hg4 ha4 hl4; have HO5 := Aside0.mk ho4; have hgp4 := Aside0.mk (own_base9 ho4); have HB5 := Aside0.mk ((HB3.out.alloc HB3.out.size (.cells #[.string t] 9)).grown hg4 (Nat.le_trans HB3.out.size ((Below.refl w3.heap.size w3).alloc (Nat.le_refl _) _).size) (by intro q hq; cases hq; exact hgp.out)); obtain ⟨y2, y4, y5⟩ := cmd_at G0 HB5.out; clear ho4 hg4 ha4 hl4) | (go_at_call 33; refine (join_l w0.heap.size _ _ 3 [sw, sn, t] rfl (by decide) _ HO5.out ?hj_).mono ?_; (case hj_ => exact JL.out); rintro e w9 ⟨rfl, hb⟩; have HB9 := Aside0.mk (HB5.out.trans (hb.mono HB5.out.size)); clear hb))
        go_ret2
        exact ⟨by rw [hV2]; rfl, hB0'.out.trans (HB9.out.mono hgl'.out)⟩
    · have ew : decide ((k : Int) = 4 ∨ (k : Int) = 5) = false := decide_eq_false (by omega)
      have JL : (Lib.join ([sw, sn].map (·.data.toList)) [32]).length ≤ 140737488355328 := by
        rw [← hsw.out, ← hsn.out]
        have q1 := hdn.out.1
        have q2 := hws'.out
        simp [Lib.join, List.intercalate, Str_data]
        omega
      have hV2 : V = (Lib.join ([sw, sn].map (·.data.toList)) [32], 0) := by
        rw [← hV.out, ← hsw.out, ← hsn.out]
        unfold showR
        rw [if_neg (by omega), if_neg (by omega), if_neg (by omega), if_neg (by omega), if_neg (by omega)]
        simp [Str_data]
      have JL' := Aside0.mk JL
      clear JL
      go_wp2_with (first | (go_at_call 22; refine (numbered_b _ false e5 _).mono ?_; rintro e w' ⟨rfl, hw_⟩; obtain rfl := hw_.symm) | (go_at_call 23; refine (worded_b _ false ew _).mono ?_; rintro e w' ⟨rfl, hw_⟩; obtain rfl := hw_.symm) | (go_at_call 33; refine (join_l w0.heap.size _ _ 2 [sw, sn] rfl (by decide) _ HO.out ?hj_).mono ?_; (case hj_ => exact JL'.out); rintro e w9 ⟨rfl, hb⟩; have HB9 := Aside0.mk (HB.out.trans (hb.mono HB.out.size)); clear hb))
      go_ret2
      exact ⟨by rw [hV2]; rfl, hB0'.out.trans (HB9.out.mono hgl'.out)⟩
theorem show_bad (a0 a1 k n m : Int) (t : ByteArray) (h : k ≤ 0 ∨ 8 ≤ k ∨ n < 1 ∨ 1048576 < n) (w : World) :
    Calls Tryd.prog 14 #[.agg #[.int .i64 a0, .int .i64 a1, .int .i64 k, .int .i64 n, .int .i64 m, .string t]] w fun e w' => e = .returned (.tuple #[.string ⟨#[]⟩, .int .i64 1]) ∧ Go.RowKit.Below w.heap.size w w' := by
  by_cases k1 : k ≤ 0
  · have d1 : decide (k ≤ 0) = true := decide_eq_true k1
    go_enter Tryd.func14, Tryd.ntmps14
    go_wp2
    go_ret2
    exact ⟨rfl, (Go.RowKit.Below.refl _ _).alloc (Nat.le_refl _) _⟩
  have d1 : decide (k ≤ 0) = false := decide_eq_false k1
  by_cases k2 : 8 ≤ k
  · have d2 : decide (k ≥ 8) = true := decide_eq_true k2
    go_enter Tryd.func14, Tryd.ntmps14
    go_wp2
    go_ret2
    exact ⟨rfl, (Go.RowKit.Below.refl _ _).alloc (Nat.le_refl _) _⟩
  have d2 : decide (k ≥ 8) = false := decide_eq_false k2
  by_cases k3 : n < 1
  · have d3 : decide (n < 1) = true := decide_eq_true k3
    go_enter Tryd.func14, Tryd.ntmps14
    go_wp2
    go_ret2
    exact ⟨rfl, (Go.RowKit.Below.refl _ _).alloc (Nat.le_refl _) _⟩
  have d3 : decide (n < 1) = false := decide_eq_false k3
  have k4 : 1048576 < n := by omega
  have d4 : decide (n > 1048576) = true := decide_eq_true k4
  go_enter Tryd.func14, Tryd.ntmps14
  go_wp2
  go_ret2
  exact ⟨rfl, (Go.RowKit.Below.refl _ _).alloc (Nat.le_refl _) _⟩
theorem show_w (a0 a1 k n m : Int) (tl : List UInt8) (htl : tl.length < 1000000) (w : World) (hT : Tabs w) (hP : Pow w) (V : List UInt8 × Int) (hV : showR k n m tl = V) :
    Calls Tryd.prog 14 #[.agg #[.int .i64 a0, .int .i64 a1, .int .i64 k, .int .i64 n, .int .i64 m, .string (Str tl)]] w fun e w' => e = .returned (.tuple #[.string (Str V.1), .int .i64 V.2]) ∧ Below w.heap.size w w' := by
  subst hV
  by_cases h : k ≤ 0 ∨ 8 ≤ k ∨ n < 1 ∨ 1048576 < n
  · have e : showR k n m tl = ([], 1) := by unfold showR; rw [if_pos h]
    rw [e]
    exact show_bad a0 a1 k n m _ h w
  · obtain ⟨kk, rfl⟩ : ∃ kk : Nat, k = (kk : Int) := ⟨k.toNat, by omega⟩
    obtain ⟨nn, rfl⟩ : ∃ nn : Nat, n = (nn : Int) := ⟨n.toNat, by omega⟩
    exact show_ok a0 a1 kk nn m tl (by omega) (by omega) htl w hT hP
end Go.Proofs.YtifdlbdecjlnaaaDoor.PAll

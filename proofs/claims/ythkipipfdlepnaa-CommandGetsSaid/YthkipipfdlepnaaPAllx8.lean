/- The machine's side of this claim, written by a program of this session out of the translation: for each Go function a Lean function of its answers, and the proof that the code comes to just these. Conditions: those that each theorem states. -/
import Derived.Test.YthkipipfdlepnaaPAllx0
import Derived.Test.YthkipipfdlepnaaPAllx6
import Derived.Test.YthkipipfdlepnaaPAllx7
namespace Go.Proofs.Ythkipipfdlepnaa.PAll
open Go.RowKit Go.Proofs.YthkipipfdlepnaaW.PrintWords Go.Proofs.YthkipipfdlepnaaW.PrintLast Go.Proofs.YthkipipfdlepnaaW.PrintMore
attribute [local go_sem] max2_int min2_int max_two min_two max_three min_three max_four min_four   -- for this text's walks alone
set_option linter.unusedVariables false
set_option linter.unusedSimpArgs false

/-! ### colloquyref04_Get: function 17 -/
/-- The world with the result's variable and the empty command's. -/
def refW (w : World) : World := (w.alloc (.cells #[.int .i64 0, .int .i64 0, .int .i64 0, .int .i64 0, .int .i64 0, .string ⟨#[]⟩] 23)).alloc (.cells #[.int .i64 0, .int .i64 0, .int .i64 0, .int .i64 0, .int .i64 0, .string ⟨#[]⟩] 23)
theorem refW_below (w : World) : Below w.heap.size w (refW w) := below_alloc (below_alloc (Below.refl _ _) _) _
theorem refW_size (w : World) : (refW w).heap.size = w.heap.size + 2 := by simp [refW]
theorem ref_below {w w' : World} (h : Below (refW w).heap.size (refW w) w') : Below w.heap.size w w' := below_then (w1 := refW w) (refW_below w) (refW_below w).size h
theorem ref_res {w w' : World} (h : Below (refW w).heap.size (refW w) w') : w'.heap[w.heap.size]? = some (.cells #[.int .i64 0, .int .i64 0, .int .i64 0, .int .i64 0, .int .i64 0, .string ⟨#[]⟩] 23 (0, 0)) := blk_below (blk_below (blk_new w _) (below_alloc (Below.refl _ _) _)) h
theorem ref_non {w w' : World} (h : Below (refW w).heap.size (refW w) w') : w'.heap[w.heap.size + 1]? = some (.cells #[.int .i64 0, .int .i64 0, .int .i64 0, .int .i64 0, .int .i64 0, .string ⟨#[]⟩] 23 (0, 0)) := by
  refine blk_below ?_ h
  have := blk_new (w.alloc (.cells #[.int .i64 0, .int .i64 0, .int .i64 0, .int .i64 0, .int .i64 0, .string ⟨#[]⟩] 23)) (.cells #[.int .i64 0, .int .i64 0, .int .i64 0, .int .i64 0, .int .i64 0, .string ⟨#[]⟩] 23)
  rwa [show (w.alloc (.cells #[.int .i64 0, .int .i64 0, .int .i64 0, .int .i64 0, .int .i64 0, .string ⟨#[]⟩] 23)).heap.size = w.heap.size + 1 by simp] at this
theorem ref_facts {w w' : World} (h : Below (refW w).heap.size (refW w) w') : w'.cell? ⟨w.heap.size + 1, 0, none⟩ = some (.int .i64 0) ∧ w'.cell? ⟨w.heap.size, 0, none⟩ = some (.int .i64 0) ∧ w'.frozen? ⟨w.heap.size, 0, none⟩ = false ∧ w'.cell? ⟨w.heap.size + 1, 1, none⟩ = some (.int .i64 0) ∧ w'.cell? ⟨w.heap.size, 1, none⟩ = some (.int .i64 0) ∧ w'.frozen? ⟨w.heap.size, 1, none⟩ = false ∧ w'.cell? ⟨w.heap.size + 1, 2, none⟩ = some (.int .i64 0) ∧ w'.cell? ⟨w.heap.size, 2, none⟩ = some (.int .i64 0) ∧ w'.frozen? ⟨w.heap.size, 2, none⟩ = false ∧ w'.cell? ⟨w.heap.size + 1, 3, none⟩ = some (.int .i64 0) ∧ w'.cell? ⟨w.heap.size, 3, none⟩ = some (.int .i64 0) ∧ w'.frozen? ⟨w.heap.size, 3, none⟩ = false ∧ w'.cell? ⟨w.heap.size + 1, 4, none⟩ = some (.int .i64 0) ∧ w'.cell? ⟨w.heap.size, 4, none⟩ = some (.int .i64 0) ∧ w'.frozen? ⟨w.heap.size, 4, none⟩ = false ∧ w'.cell? ⟨w.heap.size + 1, 5, none⟩ = some (.string ⟨#[]⟩) ∧ w'.cell? ⟨w.heap.size, 5, none⟩ = some (.string ⟨#[]⟩) ∧ w'.frozen? ⟨w.heap.size, 5, none⟩ = false :=
  ⟨(blk_cell (ref_non h) 0).trans rfl, (blk_cell (ref_res h) 0).trans rfl, blk_frozen (ref_res h) 0, (blk_cell (ref_non h) 1).trans rfl, (blk_cell (ref_res h) 1).trans rfl, blk_frozen (ref_res h) 1, (blk_cell (ref_non h) 2).trans rfl, (blk_cell (ref_res h) 2).trans rfl, blk_frozen (ref_res h) 2, (blk_cell (ref_non h) 3).trans rfl, (blk_cell (ref_res h) 3).trans rfl, blk_frozen (ref_res h) 3, (blk_cell (ref_non h) 4).trans rfl, (blk_cell (ref_res h) 4).trans rfl, blk_frozen (ref_res h) 4, (blk_cell (ref_non h) 5).trans rfl, (blk_cell (ref_res h) 5).trans rfl, blk_frozen (ref_res h) 5⟩
theorem ref_put6 {w : World} {g : Nat} {cs : Array Value} (h : w.heap[g]? = some (.cells cs 23 (0, 0))) (h6 : cs.size = 6) (a0 a1 a2 a3 a4 : Int) (a5 : ByteArray) :
    ((((((w.setCell ⟨g, 0, none⟩ (.int .i64 a0)).setCell ⟨g, 1, none⟩ (.int .i64 a1)).setCell ⟨g, 2, none⟩ (.int .i64 a2)).setCell ⟨g, 3, none⟩ (.int .i64 a3)).setCell ⟨g, 4, none⟩ (.int .i64 a4)).setCell ⟨g, 5, none⟩ (.string a5)).heap[g]? = some (.cells #[.int .i64 a0, .int .i64 a1, .int .i64 a2, .int .i64 a3, .int .i64 a4, .string a5] 23 (0, 0)) := by
  obtain ⟨l⟩ := cs
  rcases l with _ | ⟨x0, _ | ⟨x1, _ | ⟨x2, _ | ⟨x3, _ | ⟨x4, _ | ⟨x5, _ | ⟨x6, l⟩⟩⟩⟩⟩⟩⟩ <;> simp at h6
  exact blk_put (blk_put (blk_put (blk_put (blk_put (blk_put h 0 _ rfl) 1 _ rfl) 2 _ rfl) 3 _ rfl) 4 _ rfl) 5 _ rfl
theorem ref_set6 {w0 w : World} {B : Nat} (h : Below B w0 w) (u0 u1 u2 u3 u4 u5 : Value) : Below B w0 ((((((w.setCell ⟨B, 0, none⟩ u0).setCell ⟨B, 1, none⟩ u1).setCell ⟨B, 2, none⟩ u2).setCell ⟨B, 3, none⟩ u3).setCell ⟨B, 4, none⟩ u4).setCell ⟨B, 5, none⟩ u5) :=
  have e {w : World} (h : Below B w0 w) (i : Nat) (u : Value) : Below B w0 (w.setCell ⟨B, i, none⟩ u) := ⟨h.os, h.tape, h.output, Nat.le_trans h.size (Nat.le_of_eq (by simp)), fun k hk => (Below.heap_setCell w ⟨B, i, none⟩ u k (Nat.ne_of_lt hk)).trans (h.block k hk)⟩
  e (e (e (e (e (e h 0 _) 1 _) 2 _) 3 _) 4 _) 5 _
def RGTold (w : World) (c0 c1 c2 c3 c4 : Int) (c5 : ByteArray) (e : Int) (x : Ending) (w' : World) : Prop :=
  x = .returned (.tuple #[.agg #[.int .i64 c0, .int .i64 c1, .int .i64 c2, .int .i64 c3, .int .i64 c4, .string c5], .int .i64 e]) ∧ Below w.heap.size w w'
/-- What numbers answers, as the walk takes it: the numbers lie in a block of their own, what is left shares the bytes. -/
def NumTold (P : Nat → Prop) (W : World) (r1 r2 : List Int) (e : Int) (x : Ending) (w' : World) : Prop :=
  ∃ g c0 A1 c1, x = .returned (.tuple #[.slice (some ⟨g, 0, none⟩) r1.length c0, .slice A1 r2.length c1, .int .i64 e]) ∧ (∀ j u, r1[j]? = some u → w'.cell? ⟨g, j, none⟩ = some (.int .i64 u)) ∧ W.heap.size ≤ g ∧ r2.length ≤ c1 ∧
    Kd.F (Kd.int .u8) w' (fun k_ => P k_ ∨ W.heap.size ≤ k_) A1 r2.length r2 ∧ Below W.heap.size W w'
theorem num_told {k : Nat} {P : Nat → Prop} {W : World} {A : Option Addr} {c : Nat} {y : List Int} {a e : Int} {r1 r2 : List Int} (hv : Kd.F (Kd.int .u8) W P A y.length y) (hc : y.length ≤ c) (h : colloquyref04_numbers.f k y a = some (r1, r2, e)) (hl : 0 < r1.length) :
    Calls Try.prog 27 #[.slice A y.length c, .int .i64 a] W (NumTold P W r1 r2 e) := by
  refine (colloquyref04_numbers.calls k P A c y a r1 r2 e W (Kd.V_mk hc hv) h).mono ?_
  rintro x w' ⟨v0, v1, rfl, h0, h1, hb⟩
  obtain ⟨A1, c1, rfl⟩ := Kd.V_slice h1
  have hv1 := Kd.V_at h1
  rcases (Kd.own_of_R h0).2 with ⟨_, hn⟩ | ⟨g, cap, cur, rfl, hg, hh, hr⟩
  · omega
  · refine ⟨g, cap, A1, c1, rfl, ?_, hg, hv1.2.1, Kd.F_mono hv1.2.2 (fun k_ hk => hk.1), hb⟩
    intro j u hj
    have hjl : j < r1.length := (List.getElem?_eq_some_iff.1 hj).1
    obtain ⟨ad, ea, hx⟩ := Kd.at_int (Kd.R_reads' h0).2.2 (j : Int) (by omega) (by omega)
    cases ea
    have e1 : rd r1 (j : Int) = u := by unfold rd; rw [Int.toNat_natCast, List.getD_eq_getElem?_getD, hj]; rfl
    rw [e1] at hx
    rcases Nat.eq_zero_or_pos j with rfl | hj0
    · simpa [Addr.add] using hx
    · simpa [Addr.add, Nat.pos_iff_ne_zero.1 hj0] using hx
theorem num_err {k : Nat} {P : Nat → Prop} {W : World} {A : Option Addr} {c : Nat} {y : List Int} {a e : Int} {r1 r2 : List Int} (hv : Kd.F (Kd.int .u8) W P A y.length y) (hc : y.length ≤ c) (h : colloquyref04_numbers.f k y a = some (r1, r2, e)) :
    Calls Try.prog 27 #[.slice A y.length c, .int .i64 a] W fun x w' => ∃ v0 v1, x = .returned (.tuple #[v0, v1, .int .i64 e]) ∧ Below W.heap.size W w' := by
  refine (colloquyref04_numbers.calls k P A c y a r1 r2 e W (Kd.V_mk hc hv) h).mono ?_
  rintro x w' ⟨v0, v1, rfl, h0, h1, hb⟩
  exact ⟨v0, v1, rfl, hb⟩
theorem cell_at {w : World} {g j : Nat} {v u : Value} (h : w.cell? ⟨g, j, none⟩ = some v) {Cb i : Nat} (hne : g ≠ Cb) : (w.setCell ⟨Cb, i, none⟩ u).cell? ⟨g, j, none⟩ = some v := by
  have := Below.heap_setCell w ⟨Cb, i, none⟩ u g hne
  simpa [World.cell?, this] using h
set_option maxHeartbeats 4000000 in
set_option maxRecDepth 100000 in
theorem rg_e0 (k : Nat) (w : World) (A0 : Option Addr) (c0 : Nat) (b : List Int) (hV0 : Kd.F (Kd.int .u8) (refW w) (fun k_ => k_ < w.heap.size) A0 b.length b) (hc0 : b.length ≤ c0) (r1 r2 : List Int) (e : Int) (h0 : colloquyref04_numbers.f k b 1 = some (r1, r2, e)) (he : (e != 0) = true) :
    Calls Try.prog 17 #[.slice A0 b.length c0] w (RGTold w 0 0 0 0 0 ⟨#[]⟩ e) := by
  have HV0 := Aside0.mk hV0
  have HC0 := Aside0.mk hc0
  clear hV0 hc0
  have H0 := Aside0.mk h0
  clear h0
  go_enter Try.func17, Try.ntmps17
  go_wp2_with fail
  refine (num_err (P := fun k_ => k_ < w.heap.size) (W := refW w) HV0.out HC0.out H0.out).mono ?_
  rintro x w1 ⟨v0, v1, rfl, hb1⟩
  have HW1 := Aside0.mk hb1
  clear hb1 HV0 HC0 H0
  obtain ⟨nc0, rc0, rf0, nc1, rc1, rf1, nc2, rc2, rf2, nc3, rc3, rf3, nc4, rc4, rf4, nc5, rc5, rf5⟩ := ref_facts HW1.out
  have nrn : w.heap.size ≠ w.heap.size + 1 := by omega
  go_wp2
  refine bodyPost_ret (results_ct rfl _ _ w.heap.size 23 #[.int .i64 0, .int .i64 0, .int .i64 0, .int .i64 0, .int .i64 0, .string ⟨#[]⟩] (0, 0) _ rfl (ref_put6 (ref_res HW1.out) rfl _ _ _ _ _ _) Try.underlying23 rfl (by kernel_rfl)) rfl ?_
  exact ⟨rfl, ref_set6 (ref_below HW1.out) _ _ _ _ _ _⟩
set_option maxHeartbeats 4000000 in
set_option maxRecDepth 100000 in
theorem rg_k8 (k : Nat) (w : World) (A0 : Option Addr) (c0 : Nat) (b : List Int) (hV0 : Kd.F (Kd.int .u8) (refW w) (fun k_ => k_ < w.heap.size) A0 b.length b) (hc0 : b.length ≤ c0) (d : Int) (y1 : List Int) (h0 : colloquyref04_numbers.f k b 1 = some ([d], y1, 0)) (p1 : decide (d ≥ 8) = true) :
    Calls Try.prog 17 #[.slice A0 b.length c0] w (RGTold w 0 0 0 0 0 ⟨#[]⟩ 2) := by
  have HV0 := Aside0.mk hV0
  have HC0 := Aside0.mk hc0
  clear hV0 hc0
  have H0 := Aside0.mk h0
  clear h0
  go_enter Try.func17, Try.ntmps17
  go_wp2_with fail
  refine (num_told (P := fun k_ => k_ < w.heap.size) (W := refW w) HV0.out HC0.out H0.out (by simp)).mono ?_
  rintro x w1 ⟨g1, cc1, A1, c1, rfl, hx1, hg1, hl1, hF1, hb1⟩
  have x10 := hx1 0 _ rfl
  have HW1 := Aside0.mk hb1
  have HL1 := Aside0.mk hl1
  have HF1 := Aside0.mk (Kd.F_bound hF1)
  clear hx1 hg1 hl1 hF1 hb1 HV0 HC0 H0
  simp only [List.length_cons, List.length_nil, Nat.zero_add]
  obtain ⟨nc0, rc0, rf0, nc1, rc1, rf1, nc2, rc2, rf2, nc3, rc3, rf3, nc4, rc4, rf4, nc5, rc5, rf5⟩ := ref_facts HW1.out
  have nrn : w.heap.size ≠ w.heap.size + 1 := by omega
  go_wp2
  refine bodyPost_ret (results_ct rfl _ _ w.heap.size 23 #[.int .i64 0, .int .i64 0, .int .i64 0, .int .i64 0, .int .i64 0, .string ⟨#[]⟩] (0, 0) _ rfl (ref_put6 (ref_res HW1.out) rfl _ _ _ _ _ _) Try.underlying23 rfl (by kernel_rfl)) rfl ?_
  exact ⟨rfl, ref_set6 (ref_below HW1.out) _ _ _ _ _ _⟩
set_option maxHeartbeats 4000000 in
set_option maxRecDepth 100000 in
theorem rg_N_n0_t0_l (k : Nat) (w : World) (A0 : Option Addr) (c0 : Nat) (b : List Int) (hV0 : Kd.F (Kd.int .u8) (refW w) (fun k_ => k_ < w.heap.size) A0 b.length b) (hc0 : b.length ≤ c0) (d : Int) (y1 : List Int) (h0 : colloquyref04_numbers.f k b 1 = some ([d], y1, 0)) (hd : d = 0) (hnum : colloquyref04_numbered.f 0 = some false) (hwor : colloquyref04_worded.f 0 = some false) (ok : Bool) (hmay : colloquyref04_May.f k 0 0 0 0 0 ⟨#[]⟩ = some ok) (p9 : 0 < y1.length) :
    Calls Try.prog 17 #[.slice A0 b.length c0] w (RGTold w 0 0 0 0 0 ⟨#[]⟩ 2) := by
  have HV0 := Aside0.mk hV0
  have HC0 := Aside0.mk hc0
  clear hV0 hc0
  have H0 := Aside0.mk h0
  clear h0
  subst hd
  have HNUM := Aside0.mk hnum
  clear hnum
  have HWOR := Aside0.mk hwor
  clear hwor
  have HMAY := Aside0.mk hmay
  clear hmay
  go_enter Try.func17, Try.ntmps17
  go_wp2_with fail
  refine (num_told (P := fun k_ => k_ < w.heap.size) (W := refW w) HV0.out HC0.out H0.out (by simp)).mono ?_
  rintro x w1 ⟨g1, cc1, A1, c1, rfl, hx1, hg1, hl1, hF1, hb1⟩
  have x10 := hx1 0 _ rfl
  have HW1 := Aside0.mk hb1
  have HL1 := Aside0.mk hl1
  have HF1 := Aside0.mk (Kd.F_bound hF1)
  clear hx1 hg1 hl1 hF1 hb1 HV0 HC0 H0
  simp only [List.length_cons, List.length_nil, Nat.zero_add]
  go_wp2_with fail
  obtain ⟨Cb, hCb⟩ : ∃ n, n = w1.heap.size := ⟨_, rfl⟩
  rw [← hCb]
  have LCb := Aside0.mk (show w.heap.size + 2 ≤ Cb by rw [hCb]; have := HW1.out.size; rw [refW_size] at this; exact this)
  have HW2 := Aside0.mk (below_alloc HW1.out (.cells #[.int .i64 0, .int .i64 0, .int .i64 0, .int .i64 0, .int .i64 0, .string ⟨#[]⟩] 23))
  have HC2 := Aside0.mk (show (w1.alloc (.cells #[.int .i64 0, .int .i64 0, .int .i64 0, .int .i64 0, .int .i64 0, .string ⟨#[]⟩] 23)).heap[Cb]? = some (.cells #[.int .i64 0, .int .i64 0, .int .i64 0, .int .i64 0, .int .i64 0, .string ⟨#[]⟩] 23 (0, 0)) from by rw [hCb]; exact blk_new w1 _)
  have HF2 := Aside0.mk (Kd.F_alloc (Kd.F_mono HF1.out (ok' := (fun k_ => k_ ≠ Cb)) (fun k_ hk => by rw [hCb]; exact Nat.ne_of_lt hk.2)) (.cells #[.int .i64 0, .int .i64 0, .int .i64 0, .int .i64 0, .int .i64 0, .string ⟨#[]⟩] 23))
  clear hCb x10 HW1 HF1
  refine (colloquyref04_numbered.calls _ _ _ HNUM.out).mono ?_
  rintro x w3 ⟨rfl, hD⟩
  have HW3 := Aside0.mk (below_then HW2.out HW2.out.size hD.below)
  have HC3 := Aside0.mk (blk_below HC2.out hD.below)
  have HF3 := Aside0.mk (Kd.F_below HF2.out hD.below)
  clear hD HW2 HC2 HF2 HNUM
  have cf2_4 : w3.cell? ⟨Cb, 2, none⟩ = some (.int .i64 0) := (blk_cell HC3.out 2).trans rfl
  go_wp2_with fail
  refine (colloquyref04_worded.calls _ _ _ HWOR.out).mono ?_
  rintro x w5 ⟨rfl, hD⟩
  have HW5 := Aside0.mk (below_then HW3.out HW3.out.size hD.below)
  have HC5 := Aside0.mk (blk_below HC3.out hD.below)
  have HF5 := Aside0.mk (Kd.F_below HF3.out hD.below)
  clear hD HW3 HC3 HF3 HWOR
  have cf0_6 : w5.cell? ⟨Cb, 0, none⟩ = some (.int .i64 0) := (blk_cell HC5.out 0).trans rfl
  have zf0_6 := blk_frozen HC5.out 0
  have cf1_7 : w5.cell? ⟨Cb, 1, none⟩ = some (.int .i64 0) := (blk_cell HC5.out 1).trans rfl
  have zf1_7 := blk_frozen HC5.out 1
  have cf2_8 : w5.cell? ⟨Cb, 2, none⟩ = some (.int .i64 0) := (blk_cell HC5.out 2).trans rfl
  have zf2_8 := blk_frozen HC5.out 2
  have cf3_9 : w5.cell? ⟨Cb, 3, none⟩ = some (.int .i64 0) := (blk_cell HC5.out 3).trans rfl
  have zf3_9 := blk_frozen HC5.out 3
  have cf4_10 : w5.cell? ⟨Cb, 4, none⟩ = some (.int .i64 0) := (blk_cell HC5.out 4).trans rfl
  have zf4_10 := blk_frozen HC5.out 4
  have cf5_11 : w5.cell? ⟨Cb, 5, none⟩ = some (.string ⟨#[]⟩) := (blk_cell HC5.out 5).trans rfl
  have zf5_11 := blk_frozen HC5.out 5
  go_wp2_with fail
  refine (colloquyref04_May.calls k _ _ _ _ _ _ _ _ HMAY.out).mono ?_
  rintro x w12 ⟨rfl, hb⟩
  have HW12 := Aside0.mk (below_then HW5.out HW5.out.size hb)
  have HC12 := Aside0.mk (blk_below HC5.out hb)
  clear hb HW5 HC5 HMAY
  obtain ⟨nc0, rc0, rf0, nc1, rc1, rf1, nc2, rc2, rf2, nc3, rc3, rf3, nc4, rc4, rf4, nc5, rc5, rf5⟩ := ref_facts HW12.out
  have nrn : w.heap.size ≠ w.heap.size + 1 := by omega
  have nrc : w.heap.size ≠ Cb := by have := LCb.out; omega
  have nnc : w.heap.size + 1 ≠ Cb := by have := LCb.out; omega
  have lcb : w.heap.size ≤ Cb := by have := LCb.out; omega
  clear LCb
  go_wp2
  refine bodyPost_ret (results_ct rfl _ _ w.heap.size 23 #[.int .i64 0, .int .i64 0, .int .i64 0, .int .i64 0, .int .i64 0, .string ⟨#[]⟩] (0, 0) _ rfl (ref_put6 (ref_res HW12.out) rfl _ _ _ _ _ _) Try.underlying23 rfl (by kernel_rfl)) rfl ?_
  exact ⟨rfl, ref_set6 (ref_below HW12.out) _ _ _ _ _ _⟩
set_option maxHeartbeats 4000000 in
set_option maxRecDepth 100000 in
theorem rg_N_n0_t0_b (k : Nat) (w : World) (A0 : Option Addr) (c0 : Nat) (b : List Int) (hV0 : Kd.F (Kd.int .u8) (refW w) (fun k_ => k_ < w.heap.size) A0 b.length b) (hc0 : b.length ≤ c0) (d : Int) (y1 : List Int) (h0 : colloquyref04_numbers.f k b 1 = some ([d], y1, 0)) (hd : d = 0) (hnum : colloquyref04_numbered.f 0 = some false) (hwor : colloquyref04_worded.f 0 = some false) (ok : Bool) (hmay : colloquyref04_May.f k 0 0 0 0 0 ⟨#[]⟩ = some ok) (p9 : ¬ 0 < y1.length) (hok : ok = false) :
    Calls Try.prog 17 #[.slice A0 b.length c0] w (RGTold w 0 0 0 0 0 ⟨#[]⟩ 2) := by
  have HV0 := Aside0.mk hV0
  have HC0 := Aside0.mk hc0
  clear hV0 hc0
  have H0 := Aside0.mk h0
  clear h0
  subst hd
  have HNUM := Aside0.mk hnum
  clear hnum
  have HWOR := Aside0.mk hwor
  clear hwor
  have HMAY := Aside0.mk hmay
  clear hmay
  subst hok
  go_enter Try.func17, Try.ntmps17
  go_wp2_with fail
  refine (num_told (P := fun k_ => k_ < w.heap.size) (W := refW w) HV0.out HC0.out H0.out (by simp)).mono ?_
  rintro x w1 ⟨g1, cc1, A1, c1, rfl, hx1, hg1, hl1, hF1, hb1⟩
  have x10 := hx1 0 _ rfl
  have HW1 := Aside0.mk hb1
  have HL1 := Aside0.mk hl1
  have HF1 := Aside0.mk (Kd.F_bound hF1)
  clear hx1 hg1 hl1 hF1 hb1 HV0 HC0 H0
  simp only [List.length_cons, List.length_nil, Nat.zero_add]
  go_wp2_with fail
  obtain ⟨Cb, hCb⟩ : ∃ n, n = w1.heap.size := ⟨_, rfl⟩
  rw [← hCb]
  have LCb := Aside0.mk (show w.heap.size + 2 ≤ Cb by rw [hCb]; have := HW1.out.size; rw [refW_size] at this; exact this)
  have HW2 := Aside0.mk (below_alloc HW1.out (.cells #[.int .i64 0, .int .i64 0, .int .i64 0, .int .i64 0, .int .i64 0, .string ⟨#[]⟩] 23))
  have HC2 := Aside0.mk (show (w1.alloc (.cells #[.int .i64 0, .int .i64 0, .int .i64 0, .int .i64 0, .int .i64 0, .string ⟨#[]⟩] 23)).heap[Cb]? = some (.cells #[.int .i64 0, .int .i64 0, .int .i64 0, .int .i64 0, .int .i64 0, .string ⟨#[]⟩] 23 (0, 0)) from by rw [hCb]; exact blk_new w1 _)
  have HF2 := Aside0.mk (Kd.F_alloc (Kd.F_mono HF1.out (ok' := (fun k_ => k_ ≠ Cb)) (fun k_ hk => by rw [hCb]; exact Nat.ne_of_lt hk.2)) (.cells #[.int .i64 0, .int .i64 0, .int .i64 0, .int .i64 0, .int .i64 0, .string ⟨#[]⟩] 23))
  clear hCb x10 HW1 HF1
  refine (colloquyref04_numbered.calls _ _ _ HNUM.out).mono ?_
  rintro x w3 ⟨rfl, hD⟩
  have HW3 := Aside0.mk (below_then HW2.out HW2.out.size hD.below)
  have HC3 := Aside0.mk (blk_below HC2.out hD.below)
  have HF3 := Aside0.mk (Kd.F_below HF2.out hD.below)
  clear hD HW2 HC2 HF2 HNUM
  have cf2_4 : w3.cell? ⟨Cb, 2, none⟩ = some (.int .i64 0) := (blk_cell HC3.out 2).trans rfl
  go_wp2_with fail
  refine (colloquyref04_worded.calls _ _ _ HWOR.out).mono ?_
  rintro x w5 ⟨rfl, hD⟩
  have HW5 := Aside0.mk (below_then HW3.out HW3.out.size hD.below)
  have HC5 := Aside0.mk (blk_below HC3.out hD.below)
  have HF5 := Aside0.mk (Kd.F_below HF3.out hD.below)
  clear hD HW3 HC3 HF3 HWOR
  have cf0_6 : w5.cell? ⟨Cb, 0, none⟩ = some (.int .i64 0) := (blk_cell HC5.out 0).trans rfl
  have zf0_6 := blk_frozen HC5.out 0
  have cf1_7 : w5.cell? ⟨Cb, 1, none⟩ = some (.int .i64 0) := (blk_cell HC5.out 1).trans rfl
  have zf1_7 := blk_frozen HC5.out 1
  have cf2_8 : w5.cell? ⟨Cb, 2, none⟩ = some (.int .i64 0) := (blk_cell HC5.out 2).trans rfl
  have zf2_8 := blk_frozen HC5.out 2
  have cf3_9 : w5.cell? ⟨Cb, 3, none⟩ = some (.int .i64 0) := (blk_cell HC5.out 3).trans rfl
  have zf3_9 := blk_frozen HC5.out 3
  have cf4_10 : w5.cell? ⟨Cb, 4, none⟩ = some (.int .i64 0) := (blk_cell HC5.out 4).trans rfl
  have zf4_10 := blk_frozen HC5.out 4
  have cf5_11 : w5.cell? ⟨Cb, 5, none⟩ = some (.string ⟨#[]⟩) := (blk_cell HC5.out 5).trans rfl
  have zf5_11 := blk_frozen HC5.out 5
  go_wp2_with fail
  refine (colloquyref04_May.calls k _ _ _ _ _ _ _ _ HMAY.out).mono ?_
  rintro x w12 ⟨rfl, hb⟩
  have HW12 := Aside0.mk (below_then HW5.out HW5.out.size hb)
  have HC12 := Aside0.mk (blk_below HC5.out hb)
  clear hb HW5 HC5 HMAY
  obtain ⟨nc0, rc0, rf0, nc1, rc1, rf1, nc2, rc2, rf2, nc3, rc3, rf3, nc4, rc4, rf4, nc5, rc5, rf5⟩ := ref_facts HW12.out
  have nrn : w.heap.size ≠ w.heap.size + 1 := by omega
  have nrc : w.heap.size ≠ Cb := by have := LCb.out; omega
  have nnc : w.heap.size + 1 ≠ Cb := by have := LCb.out; omega
  have lcb : w.heap.size ≤ Cb := by have := LCb.out; omega
  clear LCb
  go_wp2
  refine bodyPost_ret (results_ct rfl _ _ w.heap.size 23 #[.int .i64 0, .int .i64 0, .int .i64 0, .int .i64 0, .int .i64 0, .string ⟨#[]⟩] (0, 0) _ rfl (ref_put6 (ref_res HW12.out) rfl _ _ _ _ _ _) Try.underlying23 rfl (by kernel_rfl)) rfl ?_
  exact ⟨rfl, ref_set6 (ref_below HW12.out) _ _ _ _ _ _⟩
set_option maxHeartbeats 4000000 in
set_option maxRecDepth 100000 in
theorem rg_N_n0_t0_g (k : Nat) (w : World) (A0 : Option Addr) (c0 : Nat) (b : List Int) (hV0 : Kd.F (Kd.int .u8) (refW w) (fun k_ => k_ < w.heap.size) A0 b.length b) (hc0 : b.length ≤ c0) (d : Int) (y1 : List Int) (h0 : colloquyref04_numbers.f k b 1 = some ([d], y1, 0)) (hd : d = 0) (hnum : colloquyref04_numbered.f 0 = some false) (hwor : colloquyref04_worded.f 0 = some false) (ok : Bool) (hmay : colloquyref04_May.f k 0 0 0 0 0 ⟨#[]⟩ = some ok) (p9 : ¬ 0 < y1.length) (hok : ok = true) :
    Calls Try.prog 17 #[.slice A0 b.length c0] w (RGTold w 0 0 0 0 0 ⟨#[]⟩ 0) := by
  have HV0 := Aside0.mk hV0
  have HC0 := Aside0.mk hc0
  clear hV0 hc0
  have H0 := Aside0.mk h0
  clear h0
  subst hd
  have HNUM := Aside0.mk hnum
  clear hnum
  have HWOR := Aside0.mk hwor
  clear hwor
  have HMAY := Aside0.mk hmay
  clear hmay
  subst hok
  go_enter Try.func17, Try.ntmps17
  go_wp2_with fail
  refine (num_told (P := fun k_ => k_ < w.heap.size) (W := refW w) HV0.out HC0.out H0.out (by simp)).mono ?_
  rintro x w1 ⟨g1, cc1, A1, c1, rfl, hx1, hg1, hl1, hF1, hb1⟩
  have x10 := hx1 0 _ rfl
  have HW1 := Aside0.mk hb1
  have HL1 := Aside0.mk hl1
  have HF1 := Aside0.mk (Kd.F_bound hF1)
  clear hx1 hg1 hl1 hF1 hb1 HV0 HC0 H0
  simp only [List.length_cons, List.length_nil, Nat.zero_add]
  go_wp2_with fail
  obtain ⟨Cb, hCb⟩ : ∃ n, n = w1.heap.size := ⟨_, rfl⟩
  rw [← hCb]
  have LCb := Aside0.mk (show w.heap.size + 2 ≤ Cb by rw [hCb]; have := HW1.out.size; rw [refW_size] at this; exact this)
  have HW2 := Aside0.mk (below_alloc HW1.out (.cells #[.int .i64 0, .int .i64 0, .int .i64 0, .int .i64 0, .int .i64 0, .string ⟨#[]⟩] 23))
  have HC2 := Aside0.mk (show (w1.alloc (.cells #[.int .i64 0, .int .i64 0, .int .i64 0, .int .i64 0, .int .i64 0, .string ⟨#[]⟩] 23)).heap[Cb]? = some (.cells #[.int .i64 0, .int .i64 0, .int .i64 0, .int .i64 0, .int .i64 0, .string ⟨#[]⟩] 23 (0, 0)) from by rw [hCb]; exact blk_new w1 _)
  have HF2 := Aside0.mk (Kd.F_alloc (Kd.F_mono HF1.out (ok' := (fun k_ => k_ ≠ Cb)) (fun k_ hk => by rw [hCb]; exact Nat.ne_of_lt hk.2)) (.cells #[.int .i64 0, .int .i64 0, .int .i64 0, .int .i64 0, .int .i64 0, .string ⟨#[]⟩] 23))
  clear hCb x10 HW1 HF1
  refine (colloquyref04_numbered.calls _ _ _ HNUM.out).mono ?_
  rintro x w3 ⟨rfl, hD⟩
  have HW3 := Aside0.mk (below_then HW2.out HW2.out.size hD.below)
  have HC3 := Aside0.mk (blk_below HC2.out hD.below)
  have HF3 := Aside0.mk (Kd.F_below HF2.out hD.below)
  clear hD HW2 HC2 HF2 HNUM
  have cf2_4 : w3.cell? ⟨Cb, 2, none⟩ = some (.int .i64 0) := (blk_cell HC3.out 2).trans rfl
  go_wp2_with fail
  refine (colloquyref04_worded.calls _ _ _ HWOR.out).mono ?_
  rintro x w5 ⟨rfl, hD⟩
  have HW5 := Aside0.mk (below_then HW3.out HW3.out.size hD.below)
  have HC5 := Aside0.mk (blk_below HC3.out hD.below)
  have HF5 := Aside0.mk (Kd.F_below HF3.out hD.below)
  clear hD HW3 HC3 HF3 HWOR
  have cf0_6 : w5.cell? ⟨Cb, 0, none⟩ = some (.int .i64 0) := (blk_cell HC5.out 0).trans rfl
  have zf0_6 := blk_frozen HC5.out 0
  have cf1_7 : w5.cell? ⟨Cb, 1, none⟩ = some (.int .i64 0) := (blk_cell HC5.out 1).trans rfl
  have zf1_7 := blk_frozen HC5.out 1
  have cf2_8 : w5.cell? ⟨Cb, 2, none⟩ = some (.int .i64 0) := (blk_cell HC5.out 2).trans rfl
  have zf2_8 := blk_frozen HC5.out 2
  have cf3_9 : w5.cell? ⟨Cb, 3, none⟩ = some (.int .i64 0) := (blk_cell HC5.out 3).trans rfl
  have zf3_9 := blk_frozen HC5.out 3
  have cf4_10 : w5.cell? ⟨Cb, 4, none⟩ = some (.int .i64 0) := (blk_cell HC5.out 4).trans rfl
  have zf4_10 := blk_frozen HC5.out 4
  have cf5_11 : w5.cell? ⟨Cb, 5, none⟩ = some (.string ⟨#[]⟩) := (blk_cell HC5.out 5).trans rfl
  have zf5_11 := blk_frozen HC5.out 5
  go_wp2_with fail
  refine (colloquyref04_May.calls k _ _ _ _ _ _ _ _ HMAY.out).mono ?_
  rintro x w12 ⟨rfl, hb⟩
  have HW12 := Aside0.mk (below_then HW5.out HW5.out.size hb)
  have HC12 := Aside0.mk (blk_below HC5.out hb)
  clear hb HW5 HC5 HMAY
  have cf0_13 : w12.cell? ⟨Cb, 0, none⟩ = some (.int .i64 0) := (blk_cell HC12.out 0).trans rfl
  have cf1_14 : w12.cell? ⟨Cb, 1, none⟩ = some (.int .i64 0) := (blk_cell HC12.out 1).trans rfl
  have cf2_15 : w12.cell? ⟨Cb, 2, none⟩ = some (.int .i64 0) := (blk_cell HC12.out 2).trans rfl
  have cf3_16 : w12.cell? ⟨Cb, 3, none⟩ = some (.int .i64 0) := (blk_cell HC12.out 3).trans rfl
  have cf4_17 : w12.cell? ⟨Cb, 4, none⟩ = some (.int .i64 0) := (blk_cell HC12.out 4).trans rfl
  have cf5_18 : w12.cell? ⟨Cb, 5, none⟩ = some (.string ⟨#[]⟩) := (blk_cell HC12.out 5).trans rfl
  have rc0 := (blk_cell (ref_res HW12.out) 0).trans rfl
  have rf0 := blk_frozen (ref_res HW12.out) 0
  have rc1 := (blk_cell (ref_res HW12.out) 1).trans rfl
  have rf1 := blk_frozen (ref_res HW12.out) 1
  have rc2 := (blk_cell (ref_res HW12.out) 2).trans rfl
  have rf2 := blk_frozen (ref_res HW12.out) 2
  have rc3 := (blk_cell (ref_res HW12.out) 3).trans rfl
  have rf3 := blk_frozen (ref_res HW12.out) 3
  have rc4 := (blk_cell (ref_res HW12.out) 4).trans rfl
  have rf4 := blk_frozen (ref_res HW12.out) 4
  have rc5 := (blk_cell (ref_res HW12.out) 5).trans rfl
  have rf5 := blk_frozen (ref_res HW12.out) 5
  go_wp2
  refine bodyPost_ret (results_ct rfl _ _ w.heap.size 23 #[.int .i64 0, .int .i64 0, .int .i64 0, .int .i64 0, .int .i64 0, .string ⟨#[]⟩] (0, 0) _ rfl (ref_put6 (ref_res HW12.out) rfl _ _ _ _ _ _) Try.underlying23 rfl (by kernel_rfl)) rfl ?_
  exact ⟨rfl, ref_set6 (ref_below HW12.out) _ _ _ _ _ _⟩
set_option maxHeartbeats 4000000 in
set_option maxRecDepth 100000 in
theorem rg_K_3e (k : Nat) (w : World) (A0 : Option Addr) (c0 : Nat) (b : List Int) (hV0 : Kd.F (Kd.int .u8) (refW w) (fun k_ => k_ < w.heap.size) A0 b.length b) (hc0 : b.length ≤ c0) (d : Int) (y1 : List Int) (h0 : colloquyref04_numbers.f k b 1 = some ([d], y1, 0)) (p1 : decide (d ≥ 8) = false) (p2 : (d != 0) = true) (r1 r2 : List Int) (e : Int) (h3 : colloquyref04_numbers.f k y1 3 = some (r1, r2, e)) (he : (e != 0) = true) :
    Calls Try.prog 17 #[.slice A0 b.length c0] w (RGTold w 0 0 0 0 0 ⟨#[]⟩ e) := by
  have HV0 := Aside0.mk hV0
  have HC0 := Aside0.mk hc0
  clear hV0 hc0
  have H0 := Aside0.mk h0
  clear h0
  have H3 := Aside0.mk h3
  clear h3
  go_enter Try.func17, Try.ntmps17
  go_wp2_with fail
  refine (num_told (P := fun k_ => k_ < w.heap.size) (W := refW w) HV0.out HC0.out H0.out (by simp)).mono ?_
  rintro x w1 ⟨g1, cc1, A1, c1, rfl, hx1, hg1, hl1, hF1, hb1⟩
  have x10 := hx1 0 _ rfl
  have HW1 := Aside0.mk hb1
  have HL1 := Aside0.mk hl1
  have HF1 := Aside0.mk (Kd.F_bound hF1)
  clear hx1 hg1 hl1 hF1 hb1 HV0 HC0 H0
  simp only [List.length_cons, List.length_nil, Nat.zero_add]
  go_wp2_with fail
  obtain ⟨Cb, hCb⟩ : ∃ n, n = w1.heap.size := ⟨_, rfl⟩
  rw [← hCb]
  have LCb := Aside0.mk (show w.heap.size + 2 ≤ Cb by rw [hCb]; have := HW1.out.size; rw [refW_size] at this; exact this)
  have HW2 := Aside0.mk (below_alloc HW1.out (.cells #[.int .i64 0, .int .i64 0, .int .i64 d, .int .i64 0, .int .i64 0, .string ⟨#[]⟩] 23))
  have HC2 := Aside0.mk (show (w1.alloc (.cells #[.int .i64 0, .int .i64 0, .int .i64 d, .int .i64 0, .int .i64 0, .string ⟨#[]⟩] 23)).heap[Cb]? = some (.cells #[.int .i64 0, .int .i64 0, .int .i64 d, .int .i64 0, .int .i64 0, .string ⟨#[]⟩] 23 (0, 0)) from by rw [hCb]; exact blk_new w1 _)
  have HF2 := Aside0.mk (Kd.F_alloc (Kd.F_mono HF1.out (ok' := (fun k_ => k_ ≠ Cb)) (fun k_ hk => by rw [hCb]; exact Nat.ne_of_lt hk.2)) (.cells #[.int .i64 0, .int .i64 0, .int .i64 d, .int .i64 0, .int .i64 0, .string ⟨#[]⟩] 23))
  clear hCb x10 HW1 HF1
  refine (num_err (P := (fun k_ => k_ ≠ Cb)) HF2.out HL1.out H3.out).mono ?_
  rintro x w3 ⟨v0, v1, rfl, hb⟩
  have HW3 := Aside0.mk (below_then HW2.out HW2.out.size hb)
  clear hb HW2 HC2 HF2 HL1 H3
  obtain ⟨nc0, rc0, rf0, nc1, rc1, rf1, nc2, rc2, rf2, nc3, rc3, rf3, nc4, rc4, rf4, nc5, rc5, rf5⟩ := ref_facts HW3.out
  have nrn : w.heap.size ≠ w.heap.size + 1 := by omega
  have nrc : w.heap.size ≠ Cb := by have := LCb.out; omega
  have nnc : w.heap.size + 1 ≠ Cb := by have := LCb.out; omega
  have lcb : w.heap.size ≤ Cb := by have := LCb.out; omega
  clear LCb
  go_wp2
  refine bodyPost_ret (results_ct rfl _ _ w.heap.size 23 #[.int .i64 0, .int .i64 0, .int .i64 0, .int .i64 0, .int .i64 0, .string ⟨#[]⟩] (0, 0) _ rfl (ref_put6 (ref_res HW3.out) rfl _ _ _ _ _ _) Try.underlying23 rfl (by kernel_rfl)) rfl ?_
  exact ⟨rfl, ref_set6 (ref_below HW3.out) _ _ _ _ _ _⟩
set_option maxHeartbeats 4000000 in
set_option maxRecDepth 100000 in
theorem rg_K_3_n0_t0_l (k : Nat) (w : World) (A0 : Option Addr) (c0 : Nat) (b : List Int) (hV0 : Kd.F (Kd.int .u8) (refW w) (fun k_ => k_ < w.heap.size) A0 b.length b) (hc0 : b.length ≤ c0) (d : Int) (y1 : List Int) (h0 : colloquyref04_numbers.f k b 1 = some ([d], y1, 0)) (p1 : decide (d ≥ 8) = false) (p2 : (d != 0) = true) (u q h : Int) (y2 : List Int) (h3 : colloquyref04_numbers.f k y1 3 = some ([u, q, h], y2, 0)) (hnum : colloquyref04_numbered.f d = some false) (hwor : colloquyref04_worded.f d = some false) (ok : Bool) (hmay : colloquyref04_May.f k u q d h 0 ⟨#[]⟩ = some ok) (p9 : 0 < y2.length) :
    Calls Try.prog 17 #[.slice A0 b.length c0] w (RGTold w 0 0 0 0 0 ⟨#[]⟩ 2) := by
  have HV0 := Aside0.mk hV0
  have HC0 := Aside0.mk hc0
  clear hV0 hc0
  have H0 := Aside0.mk h0
  clear h0
  have H3 := Aside0.mk h3
  clear h3
  have HNUM := Aside0.mk hnum
  clear hnum
  have HWOR := Aside0.mk hwor
  clear hwor
  have HMAY := Aside0.mk hmay
  clear hmay
  go_enter Try.func17, Try.ntmps17
  go_wp2_with fail
  refine (num_told (P := fun k_ => k_ < w.heap.size) (W := refW w) HV0.out HC0.out H0.out (by simp)).mono ?_
  rintro x w1 ⟨g1, cc1, A1, c1, rfl, hx1, hg1, hl1, hF1, hb1⟩
  have x10 := hx1 0 _ rfl
  have HW1 := Aside0.mk hb1
  have HL1 := Aside0.mk hl1
  have HF1 := Aside0.mk (Kd.F_bound hF1)
  clear hx1 hg1 hl1 hF1 hb1 HV0 HC0 H0
  simp only [List.length_cons, List.length_nil, Nat.zero_add]
  go_wp2_with fail
  obtain ⟨Cb, hCb⟩ : ∃ n, n = w1.heap.size := ⟨_, rfl⟩
  rw [← hCb]
  have LCb := Aside0.mk (show w.heap.size + 2 ≤ Cb by rw [hCb]; have := HW1.out.size; rw [refW_size] at this; exact this)
  have HW2 := Aside0.mk (below_alloc HW1.out (.cells #[.int .i64 0, .int .i64 0, .int .i64 d, .int .i64 0, .int .i64 0, .string ⟨#[]⟩] 23))
  have HC2 := Aside0.mk (show (w1.alloc (.cells #[.int .i64 0, .int .i64 0, .int .i64 d, .int .i64 0, .int .i64 0, .string ⟨#[]⟩] 23)).heap[Cb]? = some (.cells #[.int .i64 0, .int .i64 0, .int .i64 d, .int .i64 0, .int .i64 0, .string ⟨#[]⟩] 23 (0, 0)) from by rw [hCb]; exact blk_new w1 _)
  have HF2 := Aside0.mk (Kd.F_alloc (Kd.F_mono HF1.out (ok' := (fun k_ => k_ ≠ Cb)) (fun k_ hk => by rw [hCb]; exact Nat.ne_of_lt hk.2)) (.cells #[.int .i64 0, .int .i64 0, .int .i64 d, .int .i64 0, .int .i64 0, .string ⟨#[]⟩] 23))
  clear hCb x10 HW1 HF1
  refine (num_told (P := (fun k_ => k_ ≠ Cb)) HF2.out HL1.out H3.out (by simp)).mono ?_
  rintro x w3 ⟨g3, cc3, A3, c3, rfl, hx, hg, hl, hF, hb⟩
  have gne3 : g3 ≠ Cb := by have h1 := blk_lt HC2.out; omega
  have gnf3 : Cb ≠ g3 := fun e => gne3 e.symm
  have HW3 := Aside0.mk (below_then HW2.out HW2.out.size hb)
  have HC3 := Aside0.mk (blk_below HC2.out hb)
  have HL3 := Aside0.mk hl
  have HF3 := Aside0.mk (Kd.F_mono hF (ok' := (fun k_ => k_ ≠ Cb)) (fun k_ hk => by have h1 := blk_lt HC2.out; rcases hk with hk | hk; exact hk; omega))
  have x30 := hx 0 _ rfl
  have x31 := cell_at (hx 1 _ rfl) (u := .int .i64 u) (i := 0) gne3
  have x32 := cell_at (cell_at (hx 2 _ rfl) (u := .int .i64 u) (i := 0) gne3) (u := .int .i64 q) (i := 1) gne3
  clear hx hg hl hF hb HW2 HC2 HF2 HL1 H3
  simp only [List.length_cons, List.length_nil, Nat.zero_add, Nat.reduceAdd]
  have cf0_4 : w3.cell? ⟨Cb, 0, none⟩ = some (.int .i64 0) := (blk_cell HC3.out 0).trans rfl
  have zf0_4 := blk_frozen HC3.out 0
  have cf1_5 : w3.cell? ⟨Cb, 1, none⟩ = some (.int .i64 0) := (blk_cell HC3.out 1).trans rfl
  have zf1_5 := blk_frozen HC3.out 1
  have cf2_6 : w3.cell? ⟨Cb, 2, none⟩ = some (.int .i64 d) := (blk_cell HC3.out 2).trans rfl
  have zf2_6 := blk_frozen HC3.out 2
  have cf3_7 : w3.cell? ⟨Cb, 3, none⟩ = some (.int .i64 0) := (blk_cell HC3.out 3).trans rfl
  have zf3_7 := blk_frozen HC3.out 3
  go_wp2_with fail
  have HW8q := Aside0.mk (below_set (j := 3) (v := .int .i64 h) (below_set (j := 1) (v := .int .i64 q) (below_set (j := 0) (v := .int .i64 u) (HW3.out) (by have := LCb.out; rw [refW_size]; omega)) (by have := LCb.out; rw [refW_size]; omega)) (by have := LCb.out; rw [refW_size]; omega))
  have HC8q := Aside0.mk (blk_put (blk_put (blk_put (HC3.out) 0 (.int .i64 u) rfl) 1 (.int .i64 q) rfl) 3 (.int .i64 h) rfl)
  have HF8q := Aside0.mk (Kd.F_far (Kd.F_far (Kd.F_far (HF3.out) (p := ⟨Cb, 0, none⟩) (fun _ hk => hk) (.int .i64 u)) (p := ⟨Cb, 1, none⟩) (fun _ hk => hk) (.int .i64 q)) (p := ⟨Cb, 3, none⟩) (fun _ hk => hk) (.int .i64 h))
  refine (colloquyref04_numbered.calls _ _ _ HNUM.out).mono ?_
  rintro x w9 ⟨rfl, hD⟩
  have HW9 := Aside0.mk (below_then HW8q.out HW8q.out.size hD.below)
  have HC9 := Aside0.mk (blk_below HC8q.out hD.below)
  have HF9 := Aside0.mk (Kd.F_below HF8q.out hD.below)
  clear hD HW8q HC8q HF8q HNUM
  have cf2_10 : w9.cell? ⟨Cb, 2, none⟩ = some (.int .i64 d) := (blk_cell HC9.out 2).trans rfl
  go_wp2_with fail
  refine (colloquyref04_worded.calls _ _ _ HWOR.out).mono ?_
  rintro x w11 ⟨rfl, hD⟩
  have HW11 := Aside0.mk (below_then HW9.out HW9.out.size hD.below)
  have HC11 := Aside0.mk (blk_below HC9.out hD.below)
  have HF11 := Aside0.mk (Kd.F_below HF9.out hD.below)
  clear hD HW9 HC9 HF9 HWOR
  have cf0_12 : w11.cell? ⟨Cb, 0, none⟩ = some (.int .i64 u) := (blk_cell HC11.out 0).trans rfl
  have zf0_12 := blk_frozen HC11.out 0
  have cf1_13 : w11.cell? ⟨Cb, 1, none⟩ = some (.int .i64 q) := (blk_cell HC11.out 1).trans rfl
  have zf1_13 := blk_frozen HC11.out 1
  have cf2_14 : w11.cell? ⟨Cb, 2, none⟩ = some (.int .i64 d) := (blk_cell HC11.out 2).trans rfl
  have zf2_14 := blk_frozen HC11.out 2
  have cf3_15 : w11.cell? ⟨Cb, 3, none⟩ = some (.int .i64 h) := (blk_cell HC11.out 3).trans rfl
  have zf3_15 := blk_frozen HC11.out 3
  have cf4_16 : w11.cell? ⟨Cb, 4, none⟩ = some (.int .i64 0) := (blk_cell HC11.out 4).trans rfl
  have zf4_16 := blk_frozen HC11.out 4
  have cf5_17 : w11.cell? ⟨Cb, 5, none⟩ = some (.string ⟨#[]⟩) := (blk_cell HC11.out 5).trans rfl
  have zf5_17 := blk_frozen HC11.out 5
  go_wp2_with fail
  refine (colloquyref04_May.calls k _ _ _ _ _ _ _ _ HMAY.out).mono ?_
  rintro x w18 ⟨rfl, hb⟩
  have HW18 := Aside0.mk (below_then HW11.out HW11.out.size hb)
  have HC18 := Aside0.mk (blk_below HC11.out hb)
  clear hb HW11 HC11 HMAY
  obtain ⟨nc0, rc0, rf0, nc1, rc1, rf1, nc2, rc2, rf2, nc3, rc3, rf3, nc4, rc4, rf4, nc5, rc5, rf5⟩ := ref_facts HW18.out
  have nrn : w.heap.size ≠ w.heap.size + 1 := by omega
  have nrc : w.heap.size ≠ Cb := by have := LCb.out; omega
  have nnc : w.heap.size + 1 ≠ Cb := by have := LCb.out; omega
  have lcb : w.heap.size ≤ Cb := by have := LCb.out; omega
  clear LCb
  go_wp2
  refine bodyPost_ret (results_ct rfl _ _ w.heap.size 23 #[.int .i64 0, .int .i64 0, .int .i64 0, .int .i64 0, .int .i64 0, .string ⟨#[]⟩] (0, 0) _ rfl (ref_put6 (ref_res HW18.out) rfl _ _ _ _ _ _) Try.underlying23 rfl (by kernel_rfl)) rfl ?_
  exact ⟨rfl, ref_set6 (ref_below HW18.out) _ _ _ _ _ _⟩
set_option maxHeartbeats 4000000 in
set_option maxRecDepth 100000 in
theorem rg_K_3_n0_t0_b (k : Nat) (w : World) (A0 : Option Addr) (c0 : Nat) (b : List Int) (hV0 : Kd.F (Kd.int .u8) (refW w) (fun k_ => k_ < w.heap.size) A0 b.length b) (hc0 : b.length ≤ c0) (d : Int) (y1 : List Int) (h0 : colloquyref04_numbers.f k b 1 = some ([d], y1, 0)) (p1 : decide (d ≥ 8) = false) (p2 : (d != 0) = true) (u q h : Int) (y2 : List Int) (h3 : colloquyref04_numbers.f k y1 3 = some ([u, q, h], y2, 0)) (hnum : colloquyref04_numbered.f d = some false) (hwor : colloquyref04_worded.f d = some false) (ok : Bool) (hmay : colloquyref04_May.f k u q d h 0 ⟨#[]⟩ = some ok) (p9 : ¬ 0 < y2.length) (hok : ok = false) :
    Calls Try.prog 17 #[.slice A0 b.length c0] w (RGTold w 0 0 0 0 0 ⟨#[]⟩ 2) := by
  have HV0 := Aside0.mk hV0
  have HC0 := Aside0.mk hc0
  clear hV0 hc0
  have H0 := Aside0.mk h0
  clear h0
  have H3 := Aside0.mk h3
  clear h3
  have HNUM := Aside0.mk hnum
  clear hnum
  have HWOR := Aside0.mk hwor
  clear hwor
  have HMAY := Aside0.mk hmay
  clear hmay
  subst hok
  go_enter Try.func17, Try.ntmps17
  go_wp2_with fail
  refine (num_told (P := fun k_ => k_ < w.heap.size) (W := refW w) HV0.out HC0.out H0.out (by simp)).mono ?_
  rintro x w1 ⟨g1, cc1, A1, c1, rfl, hx1, hg1, hl1, hF1, hb1⟩
  have x10 := hx1 0 _ rfl
  have HW1 := Aside0.mk hb1
  have HL1 := Aside0.mk hl1
  have HF1 := Aside0.mk (Kd.F_bound hF1)
  clear hx1 hg1 hl1 hF1 hb1 HV0 HC0 H0
  simp only [List.length_cons, List.length_nil, Nat.zero_add]
  go_wp2_with fail
  obtain ⟨Cb, hCb⟩ : ∃ n, n = w1.heap.size := ⟨_, rfl⟩
  rw [← hCb]
  have LCb := Aside0.mk (show w.heap.size + 2 ≤ Cb by rw [hCb]; have := HW1.out.size; rw [refW_size] at this; exact this)
  have HW2 := Aside0.mk (below_alloc HW1.out (.cells #[.int .i64 0, .int .i64 0, .int .i64 d, .int .i64 0, .int .i64 0, .string ⟨#[]⟩] 23))
  have HC2 := Aside0.mk (show (w1.alloc (.cells #[.int .i64 0, .int .i64 0, .int .i64 d, .int .i64 0, .int .i64 0, .string ⟨#[]⟩] 23)).heap[Cb]? = some (.cells #[.int .i64 0, .int .i64 0, .int .i64 d, .int .i64 0, .int .i64 0, .string ⟨#[]⟩] 23 (0, 0)) from by rw [hCb]; exact blk_new w1 _)
  have HF2 := Aside0.mk (Kd.F_alloc (Kd.F_mono HF1.out (ok' := (fun k_ => k_ ≠ Cb)) (fun k_ hk => by rw [hCb]; exact Nat.ne_of_lt hk.2)) (.cells #[.int .i64 0, .int .i64 0, .int .i64 d, .int .i64 0, .int .i64 0, .string ⟨#[]⟩] 23))
  clear hCb x10 HW1 HF1
  refine (num_told (P := (fun k_ => k_ ≠ Cb)) HF2.out HL1.out H3.out (by simp)).mono ?_
  rintro x w3 ⟨g3, cc3, A3, c3, rfl, hx, hg, hl, hF, hb⟩
  have gne3 : g3 ≠ Cb := by have h1 := blk_lt HC2.out; omega
  have gnf3 : Cb ≠ g3 := fun e => gne3 e.symm
  have HW3 := Aside0.mk (below_then HW2.out HW2.out.size hb)
  have HC3 := Aside0.mk (blk_below HC2.out hb)
  have HL3 := Aside0.mk hl
  have HF3 := Aside0.mk (Kd.F_mono hF (ok' := (fun k_ => k_ ≠ Cb)) (fun k_ hk => by have h1 := blk_lt HC2.out; rcases hk with hk | hk; exact hk; omega))
  have x30 := hx 0 _ rfl
  have x31 := cell_at (hx 1 _ rfl) (u := .int .i64 u) (i := 0) gne3
  have x32 := cell_at (cell_at (hx 2 _ rfl) (u := .int .i64 u) (i := 0) gne3) (u := .int .i64 q) (i := 1) gne3
  clear hx hg hl hF hb HW2 HC2 HF2 HL1 H3
  simp only [List.length_cons, List.length_nil, Nat.zero_add, Nat.reduceAdd]
  have cf0_4 : w3.cell? ⟨Cb, 0, none⟩ = some (.int .i64 0) := (blk_cell HC3.out 0).trans rfl
  have zf0_4 := blk_frozen HC3.out 0
  have cf1_5 : w3.cell? ⟨Cb, 1, none⟩ = some (.int .i64 0) := (blk_cell HC3.out 1).trans rfl
  have zf1_5 := blk_frozen HC3.out 1
  have cf2_6 : w3.cell? ⟨Cb, 2, none⟩ = some (.int .i64 d) := (blk_cell HC3.out 2).trans rfl
  have zf2_6 := blk_frozen HC3.out 2
  have cf3_7 : w3.cell? ⟨Cb, 3, none⟩ = some (.int .i64 0) := (blk_cell HC3.out 3).trans rfl
  have zf3_7 := blk_frozen HC3.out 3
  go_wp2_with fail
  have HW8q := Aside0.mk (below_set (j := 3) (v := .int .i64 h) (below_set (j := 1) (v := .int .i64 q) (below_set (j := 0) (v := .int .i64 u) (HW3.out) (by have := LCb.out; rw [refW_size]; omega)) (by have := LCb.out; rw [refW_size]; omega)) (by have := LCb.out; rw [refW_size]; omega))
  have HC8q := Aside0.mk (blk_put (blk_put (blk_put (HC3.out) 0 (.int .i64 u) rfl) 1 (.int .i64 q) rfl) 3 (.int .i64 h) rfl)
  have HF8q := Aside0.mk (Kd.F_far (Kd.F_far (Kd.F_far (HF3.out) (p := ⟨Cb, 0, none⟩) (fun _ hk => hk) (.int .i64 u)) (p := ⟨Cb, 1, none⟩) (fun _ hk => hk) (.int .i64 q)) (p := ⟨Cb, 3, none⟩) (fun _ hk => hk) (.int .i64 h))
  refine (colloquyref04_numbered.calls _ _ _ HNUM.out).mono ?_
  rintro x w9 ⟨rfl, hD⟩
  have HW9 := Aside0.mk (below_then HW8q.out HW8q.out.size hD.below)
  have HC9 := Aside0.mk (blk_below HC8q.out hD.below)
  have HF9 := Aside0.mk (Kd.F_below HF8q.out hD.below)
  clear hD HW8q HC8q HF8q HNUM
  have cf2_10 : w9.cell? ⟨Cb, 2, none⟩ = some (.int .i64 d) := (blk_cell HC9.out 2).trans rfl
  go_wp2_with fail
  refine (colloquyref04_worded.calls _ _ _ HWOR.out).mono ?_
  rintro x w11 ⟨rfl, hD⟩
  have HW11 := Aside0.mk (below_then HW9.out HW9.out.size hD.below)
  have HC11 := Aside0.mk (blk_below HC9.out hD.below)
  have HF11 := Aside0.mk (Kd.F_below HF9.out hD.below)
  clear hD HW9 HC9 HF9 HWOR
  have cf0_12 : w11.cell? ⟨Cb, 0, none⟩ = some (.int .i64 u) := (blk_cell HC11.out 0).trans rfl
  have zf0_12 := blk_frozen HC11.out 0
  have cf1_13 : w11.cell? ⟨Cb, 1, none⟩ = some (.int .i64 q) := (blk_cell HC11.out 1).trans rfl
  have zf1_13 := blk_frozen HC11.out 1
  have cf2_14 : w11.cell? ⟨Cb, 2, none⟩ = some (.int .i64 d) := (blk_cell HC11.out 2).trans rfl
  have zf2_14 := blk_frozen HC11.out 2
  have cf3_15 : w11.cell? ⟨Cb, 3, none⟩ = some (.int .i64 h) := (blk_cell HC11.out 3).trans rfl
  have zf3_15 := blk_frozen HC11.out 3
  have cf4_16 : w11.cell? ⟨Cb, 4, none⟩ = some (.int .i64 0) := (blk_cell HC11.out 4).trans rfl
  have zf4_16 := blk_frozen HC11.out 4
  have cf5_17 : w11.cell? ⟨Cb, 5, none⟩ = some (.string ⟨#[]⟩) := (blk_cell HC11.out 5).trans rfl
  have zf5_17 := blk_frozen HC11.out 5
  go_wp2_with fail
  refine (colloquyref04_May.calls k _ _ _ _ _ _ _ _ HMAY.out).mono ?_
  rintro x w18 ⟨rfl, hb⟩
  have HW18 := Aside0.mk (below_then HW11.out HW11.out.size hb)
  have HC18 := Aside0.mk (blk_below HC11.out hb)
  clear hb HW11 HC11 HMAY
  obtain ⟨nc0, rc0, rf0, nc1, rc1, rf1, nc2, rc2, rf2, nc3, rc3, rf3, nc4, rc4, rf4, nc5, rc5, rf5⟩ := ref_facts HW18.out
  have nrn : w.heap.size ≠ w.heap.size + 1 := by omega
  have nrc : w.heap.size ≠ Cb := by have := LCb.out; omega
  have nnc : w.heap.size + 1 ≠ Cb := by have := LCb.out; omega
  have lcb : w.heap.size ≤ Cb := by have := LCb.out; omega
  clear LCb
  go_wp2
  refine bodyPost_ret (results_ct rfl _ _ w.heap.size 23 #[.int .i64 0, .int .i64 0, .int .i64 0, .int .i64 0, .int .i64 0, .string ⟨#[]⟩] (0, 0) _ rfl (ref_put6 (ref_res HW18.out) rfl _ _ _ _ _ _) Try.underlying23 rfl (by kernel_rfl)) rfl ?_
  exact ⟨rfl, ref_set6 (ref_below HW18.out) _ _ _ _ _ _⟩
set_option maxHeartbeats 4000000 in
set_option maxRecDepth 100000 in
theorem rg_K_3_n0_t0_g (k : Nat) (w : World) (A0 : Option Addr) (c0 : Nat) (b : List Int) (hV0 : Kd.F (Kd.int .u8) (refW w) (fun k_ => k_ < w.heap.size) A0 b.length b) (hc0 : b.length ≤ c0) (d : Int) (y1 : List Int) (h0 : colloquyref04_numbers.f k b 1 = some ([d], y1, 0)) (p1 : decide (d ≥ 8) = false) (p2 : (d != 0) = true) (u q h : Int) (y2 : List Int) (h3 : colloquyref04_numbers.f k y1 3 = some ([u, q, h], y2, 0)) (hnum : colloquyref04_numbered.f d = some false) (hwor : colloquyref04_worded.f d = some false) (ok : Bool) (hmay : colloquyref04_May.f k u q d h 0 ⟨#[]⟩ = some ok) (p9 : ¬ 0 < y2.length) (hok : ok = true) :
    Calls Try.prog 17 #[.slice A0 b.length c0] w (RGTold w u q d h 0 ⟨#[]⟩ 0) := by
  have HV0 := Aside0.mk hV0
  have HC0 := Aside0.mk hc0
  clear hV0 hc0
  have H0 := Aside0.mk h0
  clear h0
  have H3 := Aside0.mk h3
  clear h3
  have HNUM := Aside0.mk hnum
  clear hnum
  have HWOR := Aside0.mk hwor
  clear hwor
  have HMAY := Aside0.mk hmay
  clear hmay
  subst hok
  go_enter Try.func17, Try.ntmps17
  go_wp2_with fail
  refine (num_told (P := fun k_ => k_ < w.heap.size) (W := refW w) HV0.out HC0.out H0.out (by simp)).mono ?_
  rintro x w1 ⟨g1, cc1, A1, c1, rfl, hx1, hg1, hl1, hF1, hb1⟩
  have x10 := hx1 0 _ rfl
  have HW1 := Aside0.mk hb1
  have HL1 := Aside0.mk hl1
  have HF1 := Aside0.mk (Kd.F_bound hF1)
  clear hx1 hg1 hl1 hF1 hb1 HV0 HC0 H0
  simp only [List.length_cons, List.length_nil, Nat.zero_add]
  go_wp2_with fail
  obtain ⟨Cb, hCb⟩ : ∃ n, n = w1.heap.size := ⟨_, rfl⟩
  rw [← hCb]
  have LCb := Aside0.mk (show w.heap.size + 2 ≤ Cb by rw [hCb]; have := HW1.out.size; rw [refW_size] at this; exact this)
  have HW2 := Aside0.mk (below_alloc HW1.out (.cells #[.int .i64 0, .int .i64 0, .int .i64 d, .int .i64 0, .int .i64 0, .string ⟨#[]⟩] 23))
  have HC2 := Aside0.mk (show (w1.alloc (.cells #[.int .i64 0, .int .i64 0, .int .i64 d, .int .i64 0, .int .i64 0, .string ⟨#[]⟩] 23)).heap[Cb]? = some (.cells #[.int .i64 0, .int .i64 0, .int .i64 d, .int .i64 0, .int .i64 0, .string ⟨#[]⟩] 23 (0, 0)) from by rw [hCb]; exact blk_new w1 _)
  have HF2 := Aside0.mk (Kd.F_alloc (Kd.F_mono HF1.out (ok' := (fun k_ => k_ ≠ Cb)) (fun k_ hk => by rw [hCb]; exact Nat.ne_of_lt hk.2)) (.cells #[.int .i64 0, .int .i64 0, .int .i64 d, .int .i64 0, .int .i64 0, .string ⟨#[]⟩] 23))
  clear hCb x10 HW1 HF1
  refine (num_told (P := (fun k_ => k_ ≠ Cb)) HF2.out HL1.out H3.out (by simp)).mono ?_
  rintro x w3 ⟨g3, cc3, A3, c3, rfl, hx, hg, hl, hF, hb⟩
  have gne3 : g3 ≠ Cb := by have h1 := blk_lt HC2.out; omega
  have gnf3 : Cb ≠ g3 := fun e => gne3 e.symm
  have HW3 := Aside0.mk (below_then HW2.out HW2.out.size hb)
  have HC3 := Aside0.mk (blk_below HC2.out hb)
  have HL3 := Aside0.mk hl
  have HF3 := Aside0.mk (Kd.F_mono hF (ok' := (fun k_ => k_ ≠ Cb)) (fun k_ hk => by have h1 := blk_lt HC2.out; rcases hk with hk | hk; exact hk; omega))
  have x30 := hx 0 _ rfl
  have x31 := cell_at (hx 1 _ rfl) (u := .int .i64 u) (i := 0) gne3
  have x32 := cell_at (cell_at (hx 2 _ rfl) (u := .int .i64 u) (i := 0) gne3) (u := .int .i64 q) (i := 1) gne3
  clear hx hg hl hF hb HW2 HC2 HF2 HL1 H3
  simp only [List.length_cons, List.length_nil, Nat.zero_add, Nat.reduceAdd]
  have cf0_4 : w3.cell? ⟨Cb, 0, none⟩ = some (.int .i64 0) := (blk_cell HC3.out 0).trans rfl
  have zf0_4 := blk_frozen HC3.out 0
  have cf1_5 : w3.cell? ⟨Cb, 1, none⟩ = some (.int .i64 0) := (blk_cell HC3.out 1).trans rfl
  have zf1_5 := blk_frozen HC3.out 1
  have cf2_6 : w3.cell? ⟨Cb, 2, none⟩ = some (.int .i64 d) := (blk_cell HC3.out 2).trans rfl
  have zf2_6 := blk_frozen HC3.out 2
  have cf3_7 : w3.cell? ⟨Cb, 3, none⟩ = some (.int .i64 0) := (blk_cell HC3.out 3).trans rfl
  have zf3_7 := blk_frozen HC3.out 3
  go_wp2_with fail
  have HW8q := Aside0.mk (below_set (j := 3) (v := .int .i64 h) (below_set (j := 1) (v := .int .i64 q) (below_set (j := 0) (v := .int .i64 u) (HW3.out) (by have := LCb.out; rw [refW_size]; omega)) (by have := LCb.out; rw [refW_size]; omega)) (by have := LCb.out; rw [refW_size]; omega))
  have HC8q := Aside0.mk (blk_put (blk_put (blk_put (HC3.out) 0 (.int .i64 u) rfl) 1 (.int .i64 q) rfl) 3 (.int .i64 h) rfl)
  have HF8q := Aside0.mk (Kd.F_far (Kd.F_far (Kd.F_far (HF3.out) (p := ⟨Cb, 0, none⟩) (fun _ hk => hk) (.int .i64 u)) (p := ⟨Cb, 1, none⟩) (fun _ hk => hk) (.int .i64 q)) (p := ⟨Cb, 3, none⟩) (fun _ hk => hk) (.int .i64 h))
  refine (colloquyref04_numbered.calls _ _ _ HNUM.out).mono ?_
  rintro x w9 ⟨rfl, hD⟩
  have HW9 := Aside0.mk (below_then HW8q.out HW8q.out.size hD.below)
  have HC9 := Aside0.mk (blk_below HC8q.out hD.below)
  have HF9 := Aside0.mk (Kd.F_below HF8q.out hD.below)
  clear hD HW8q HC8q HF8q HNUM
  have cf2_10 : w9.cell? ⟨Cb, 2, none⟩ = some (.int .i64 d) := (blk_cell HC9.out 2).trans rfl
  go_wp2_with fail
  refine (colloquyref04_worded.calls _ _ _ HWOR.out).mono ?_
  rintro x w11 ⟨rfl, hD⟩
  have HW11 := Aside0.mk (below_then HW9.out HW9.out.size hD.below)
  have HC11 := Aside0.mk (blk_below HC9.out hD.below)
  have HF11 := Aside0.mk (Kd.F_below HF9.out hD.below)
  clear hD HW9 HC9 HF9 HWOR
  have cf0_12 : w11.cell? ⟨Cb, 0, none⟩ = some (.int .i64 u) := (blk_cell HC11.out 0).trans rfl
  have zf0_12 := blk_frozen HC11.out 0
  have cf1_13 : w11.cell? ⟨Cb, 1, none⟩ = some (.int .i64 q) := (blk_cell HC11.out 1).trans rfl
  have zf1_13 := blk_frozen HC11.out 1
  have cf2_14 : w11.cell? ⟨Cb, 2, none⟩ = some (.int .i64 d) := (blk_cell HC11.out 2).trans rfl
  have zf2_14 := blk_frozen HC11.out 2
  have cf3_15 : w11.cell? ⟨Cb, 3, none⟩ = some (.int .i64 h) := (blk_cell HC11.out 3).trans rfl
  have zf3_15 := blk_frozen HC11.out 3
  have cf4_16 : w11.cell? ⟨Cb, 4, none⟩ = some (.int .i64 0) := (blk_cell HC11.out 4).trans rfl
  have zf4_16 := blk_frozen HC11.out 4
  have cf5_17 : w11.cell? ⟨Cb, 5, none⟩ = some (.string ⟨#[]⟩) := (blk_cell HC11.out 5).trans rfl
  have zf5_17 := blk_frozen HC11.out 5
  go_wp2_with fail
  refine (colloquyref04_May.calls k _ _ _ _ _ _ _ _ HMAY.out).mono ?_
  rintro x w18 ⟨rfl, hb⟩
  have HW18 := Aside0.mk (below_then HW11.out HW11.out.size hb)
  have HC18 := Aside0.mk (blk_below HC11.out hb)
  clear hb HW11 HC11 HMAY
  have cf0_19 : w18.cell? ⟨Cb, 0, none⟩ = some (.int .i64 u) := (blk_cell HC18.out 0).trans rfl
  have cf1_20 : w18.cell? ⟨Cb, 1, none⟩ = some (.int .i64 q) := (blk_cell HC18.out 1).trans rfl
  have cf2_21 : w18.cell? ⟨Cb, 2, none⟩ = some (.int .i64 d) := (blk_cell HC18.out 2).trans rfl
  have cf3_22 : w18.cell? ⟨Cb, 3, none⟩ = some (.int .i64 h) := (blk_cell HC18.out 3).trans rfl
  have cf4_23 : w18.cell? ⟨Cb, 4, none⟩ = some (.int .i64 0) := (blk_cell HC18.out 4).trans rfl
  have cf5_24 : w18.cell? ⟨Cb, 5, none⟩ = some (.string ⟨#[]⟩) := (blk_cell HC18.out 5).trans rfl
  have rc0 := (blk_cell (ref_res HW18.out) 0).trans rfl
  have rf0 := blk_frozen (ref_res HW18.out) 0
  have rc1 := (blk_cell (ref_res HW18.out) 1).trans rfl
  have rf1 := blk_frozen (ref_res HW18.out) 1
  have rc2 := (blk_cell (ref_res HW18.out) 2).trans rfl
  have rf2 := blk_frozen (ref_res HW18.out) 2
  have rc3 := (blk_cell (ref_res HW18.out) 3).trans rfl
  have rf3 := blk_frozen (ref_res HW18.out) 3
  have rc4 := (blk_cell (ref_res HW18.out) 4).trans rfl
  have rf4 := blk_frozen (ref_res HW18.out) 4
  have rc5 := (blk_cell (ref_res HW18.out) 5).trans rfl
  have rf5 := blk_frozen (ref_res HW18.out) 5
  go_wp2
  refine bodyPost_ret (results_ct rfl _ _ w.heap.size 23 #[.int .i64 u, .int .i64 q, .int .i64 d, .int .i64 h, .int .i64 0, .string ⟨#[]⟩] (0, 0) _ rfl (ref_put6 (ref_res HW18.out) rfl _ _ _ _ _ _) Try.underlying23 rfl (by kernel_rfl)) rfl ?_
  exact ⟨rfl, ref_set6 (ref_below HW18.out) _ _ _ _ _ _⟩
set_option maxHeartbeats 4000000 in
set_option maxRecDepth 100000 in
theorem rg_K_3_n0_t1_l (k : Nat) (w : World) (A0 : Option Addr) (c0 : Nat) (b : List Int) (hV0 : Kd.F (Kd.int .u8) (refW w) (fun k_ => k_ < w.heap.size) A0 b.length b) (hc0 : b.length ≤ c0) (d : Int) (y1 : List Int) (h0 : colloquyref04_numbers.f k b 1 = some ([d], y1, 0)) (p1 : decide (d ≥ 8) = false) (p2 : (d != 0) = true) (u q h : Int) (y2 : List Int) (h3 : colloquyref04_numbers.f k y1 3 = some ([u, q, h], y2, 0)) (hnum : colloquyref04_numbered.f d = some false) (hwor : colloquyref04_worded.f d = some true) (m : Int) (y4 : List Int) (h5 : colloquyref04_numbers.f k y2 1 = some ([m], y4, 0)) (p5 : decide ((y4.length : Int) < m) = false) (m0 : 0 ≤ m) (m1 : m ≤ (y4.length : Int)) (y5 x5 : List Int) (hy5 : y5 = y4.drop m.toNat) (hx5 : x5 = y4.take m.toNat) (ok : Bool) (hmay : colloquyref04_May.f k u q d h 0 (strOfNums x5) = some ok) (p9 : 0 < y5.length) :
    Calls Try.prog 17 #[.slice A0 b.length c0] w (RGTold w 0 0 0 0 0 ⟨#[]⟩ 2) := by
  have HV0 := Aside0.mk hV0
  have HC0 := Aside0.mk hc0
  clear hV0 hc0
  have H0 := Aside0.mk h0
  clear h0
  have H3 := Aside0.mk h3
  clear h3
  have HNUM := Aside0.mk hnum
  clear hnum
  have HWOR := Aside0.mk hwor
  clear hwor
  have H5 := Aside0.mk h5
  clear h5
  have HY5 := Aside0.mk hy5
  have HX5 := Aside0.mk hx5
  have HM0 := Aside0.mk m0
  have HM1 := Aside0.mk m1
  clear hy5 hx5 m0 m1
  have HMAY := Aside0.mk hmay
  clear hmay
  go_enter Try.func17, Try.ntmps17
  go_wp2_with fail
  refine (num_told (P := fun k_ => k_ < w.heap.size) (W := refW w) HV0.out HC0.out H0.out (by simp)).mono ?_
  rintro x w1 ⟨g1, cc1, A1, c1, rfl, hx1, hg1, hl1, hF1, hb1⟩
  have x10 := hx1 0 _ rfl
  have HW1 := Aside0.mk hb1
  have HL1 := Aside0.mk hl1
  have HF1 := Aside0.mk (Kd.F_bound hF1)
  clear hx1 hg1 hl1 hF1 hb1 HV0 HC0 H0
  simp only [List.length_cons, List.length_nil, Nat.zero_add]
  go_wp2_with fail
  obtain ⟨Cb, hCb⟩ : ∃ n, n = w1.heap.size := ⟨_, rfl⟩
  rw [← hCb]
  have LCb := Aside0.mk (show w.heap.size + 2 ≤ Cb by rw [hCb]; have := HW1.out.size; rw [refW_size] at this; exact this)
  have HW2 := Aside0.mk (below_alloc HW1.out (.cells #[.int .i64 0, .int .i64 0, .int .i64 d, .int .i64 0, .int .i64 0, .string ⟨#[]⟩] 23))
  have HC2 := Aside0.mk (show (w1.alloc (.cells #[.int .i64 0, .int .i64 0, .int .i64 d, .int .i64 0, .int .i64 0, .string ⟨#[]⟩] 23)).heap[Cb]? = some (.cells #[.int .i64 0, .int .i64 0, .int .i64 d, .int .i64 0, .int .i64 0, .string ⟨#[]⟩] 23 (0, 0)) from by rw [hCb]; exact blk_new w1 _)
  have HF2 := Aside0.mk (Kd.F_alloc (Kd.F_mono HF1.out (ok' := (fun k_ => k_ ≠ Cb)) (fun k_ hk => by rw [hCb]; exact Nat.ne_of_lt hk.2)) (.cells #[.int .i64 0, .int .i64 0, .int .i64 d, .int .i64 0, .int .i64 0, .string ⟨#[]⟩] 23))
  clear hCb x10 HW1 HF1
  refine (num_told (P := (fun k_ => k_ ≠ Cb)) HF2.out HL1.out H3.out (by simp)).mono ?_
  rintro x w3 ⟨g3, cc3, A3, c3, rfl, hx, hg, hl, hF, hb⟩
  have gne3 : g3 ≠ Cb := by have h1 := blk_lt HC2.out; omega
  have gnf3 : Cb ≠ g3 := fun e => gne3 e.symm
  have HW3 := Aside0.mk (below_then HW2.out HW2.out.size hb)
  have HC3 := Aside0.mk (blk_below HC2.out hb)
  have HL3 := Aside0.mk hl
  have HF3 := Aside0.mk (Kd.F_mono hF (ok' := (fun k_ => k_ ≠ Cb)) (fun k_ hk => by have h1 := blk_lt HC2.out; rcases hk with hk | hk; exact hk; omega))
  have x30 := hx 0 _ rfl
  have x31 := cell_at (hx 1 _ rfl) (u := .int .i64 u) (i := 0) gne3
  have x32 := cell_at (cell_at (hx 2 _ rfl) (u := .int .i64 u) (i := 0) gne3) (u := .int .i64 q) (i := 1) gne3
  clear hx hg hl hF hb HW2 HC2 HF2 HL1 H3
  simp only [List.length_cons, List.length_nil, Nat.zero_add, Nat.reduceAdd]
  have cf0_4 : w3.cell? ⟨Cb, 0, none⟩ = some (.int .i64 0) := (blk_cell HC3.out 0).trans rfl
  have zf0_4 := blk_frozen HC3.out 0
  have cf1_5 : w3.cell? ⟨Cb, 1, none⟩ = some (.int .i64 0) := (blk_cell HC3.out 1).trans rfl
  have zf1_5 := blk_frozen HC3.out 1
  have cf2_6 : w3.cell? ⟨Cb, 2, none⟩ = some (.int .i64 d) := (blk_cell HC3.out 2).trans rfl
  have zf2_6 := blk_frozen HC3.out 2
  have cf3_7 : w3.cell? ⟨Cb, 3, none⟩ = some (.int .i64 0) := (blk_cell HC3.out 3).trans rfl
  have zf3_7 := blk_frozen HC3.out 3
  go_wp2_with fail
  have HW8q := Aside0.mk (below_set (j := 3) (v := .int .i64 h) (below_set (j := 1) (v := .int .i64 q) (below_set (j := 0) (v := .int .i64 u) (HW3.out) (by have := LCb.out; rw [refW_size]; omega)) (by have := LCb.out; rw [refW_size]; omega)) (by have := LCb.out; rw [refW_size]; omega))
  have HC8q := Aside0.mk (blk_put (blk_put (blk_put (HC3.out) 0 (.int .i64 u) rfl) 1 (.int .i64 q) rfl) 3 (.int .i64 h) rfl)
  have HF8q := Aside0.mk (Kd.F_far (Kd.F_far (Kd.F_far (HF3.out) (p := ⟨Cb, 0, none⟩) (fun _ hk => hk) (.int .i64 u)) (p := ⟨Cb, 1, none⟩) (fun _ hk => hk) (.int .i64 q)) (p := ⟨Cb, 3, none⟩) (fun _ hk => hk) (.int .i64 h))
  refine (colloquyref04_numbered.calls _ _ _ HNUM.out).mono ?_
  rintro x w9 ⟨rfl, hD⟩
  have HW9 := Aside0.mk (below_then HW8q.out HW8q.out.size hD.below)
  have HC9 := Aside0.mk (blk_below HC8q.out hD.below)
  have HF9 := Aside0.mk (Kd.F_below HF8q.out hD.below)
  clear hD HW8q HC8q HF8q HNUM
  have cf2_10 : w9.cell? ⟨Cb, 2, none⟩ = some (.int .i64 d) := (blk_cell HC9.out 2).trans rfl
  go_wp2_with fail
  refine (colloquyref04_worded.calls _ _ _ HWOR.out).mono ?_
  rintro x w11 ⟨rfl, hD⟩
  have HW11 := Aside0.mk (below_then HW9.out HW9.out.size hD.below)
  have HC11 := Aside0.mk (blk_below HC9.out hD.below)
  have HF11 := Aside0.mk (Kd.F_below HF9.out hD.below)
  clear hD HW9 HC9 HF9 HWOR
  go_wp2_with fail
  refine (num_told (P := (fun k_ => k_ ≠ Cb)) HF11.out HL3.out H5.out (by simp)).mono ?_
  rintro x w12 ⟨g12, cc12, A12, c12, rfl, hx, hg, hl, hF, hb⟩
  have gne12 : g12 ≠ Cb := by have h1 := blk_lt HC11.out; omega
  have gnf12 : Cb ≠ g12 := fun e => gne12 e.symm
  have HW12 := Aside0.mk (below_then HW11.out HW11.out.size hb)
  have HC12 := Aside0.mk (blk_below HC11.out hb)
  have HL12 := Aside0.mk hl
  have HF12 := Aside0.mk (Kd.F_mono hF (ok' := (fun k_ => k_ ≠ Cb)) (fun k_ hk => by have h1 := blk_lt HC11.out; rcases hk with hk | hk; exact hk; omega))
  have x120 := hx 0 _ rfl
  clear hx hg hl hF hb HW11 HC11 HF11 HL3 H5
  simp only [List.length_cons, List.length_nil, Nat.zero_add, Nat.reduceAdd]
  have cf0_13 : w12.cell? ⟨Cb, 0, none⟩ = some (.int .i64 u) := (blk_cell HC12.out 0).trans rfl
  have zf0_13 := blk_frozen HC12.out 0
  have cf1_14 : w12.cell? ⟨Cb, 1, none⟩ = some (.int .i64 q) := (blk_cell HC12.out 1).trans rfl
  have zf1_14 := blk_frozen HC12.out 1
  have cf2_15 : w12.cell? ⟨Cb, 2, none⟩ = some (.int .i64 d) := (blk_cell HC12.out 2).trans rfl
  have zf2_15 := blk_frozen HC12.out 2
  have cf3_16 : w12.cell? ⟨Cb, 3, none⟩ = some (.int .i64 h) := (blk_cell HC12.out 3).trans rfl
  have zf3_16 := blk_frozen HC12.out 3
  have cf4_17 : w12.cell? ⟨Cb, 4, none⟩ = some (.int .i64 0) := (blk_cell HC12.out 4).trans rfl
  have zf4_17 := blk_frozen HC12.out 4
  have cf5_18 : w12.cell? ⟨Cb, 5, none⟩ = some (.string ⟨#[]⟩) := (blk_cell HC12.out 5).trans rfl
  have zf5_18 := blk_frozen HC12.out 5
  obtain ⟨i0, hi0, _, hsz, _⟩ := info_parts info5
  have hm0 := HM0.out
  have hm1 := HM1.out
  have hcut := cut_from (P := Try.prog) 26 5 .i64 Try.underlying26 hi0 1 hsz A12 y4.length c12 m hm0 hm1
  have hcut2 := cut_to (P := Try.prog) 26 5 .i64 Try.underlying26 hi0 A12 y4.length c12 m hm0 hm1 HL12.out
  have hat : m.toNat ≤ y4.length := by omega
  have hr := Kd.F_cut (m := m.toNat) (c := c12) HF12.out hat HL12.out
  have ht := Kd.C_take (m := m.toNat) (Kd.F_now HF12.out) hat
  have hyl : y5.length = y4.length - m.toNat := by rw [HY5.out, List.length_drop]
  have hxl : x5.length = m.toNat := by rw [HX5.out, List.length_take]; omega
  rw [← HY5.out] at hr
  rw [← HX5.out, hxl] at ht
  have hcv := Kd.C_string (P := Try.prog) Try.underlying26 Try.underlying5 Try.underlying9 (c := c12) ht
  obtain ⟨A9, hA9⟩ : ∃ A1, A1 = (if c12 = m.toNat then A12 else (A12 : Option Addr).map (·.add (m.toNat * 1))) := ⟨_, rfl⟩
  obtain ⟨c9, hc9⟩ : ∃ c1, c1 = c12 - m.toNat := ⟨_, rfl⟩
  replace hr : Kd.F (Kd.int .u8) w12 (fun k_ => k_ ≠ Cb) A9 y5.length y5 := by rw [hA9]; exact hr
  rw [← hyl, ← hA9, ← hc9] at hcut
  have HL9 := Aside0.mk (show y5.length ≤ c9 from by rw [hyl, hc9]; exact Nat.sub_le_sub_right HL12.out _)
  have HF9 := Aside0.mk hr
  clear hr ht hyl hxl hA9 hc9 hat hi0 hsz hm0 hm1 HM0 HM1 HY5 HX5 HF12
  go_wp2_with fail
  have HW19q := Aside0.mk (below_set (j := 5) (v := .string (strOfNums x5)) (HW12.out) (by have := LCb.out; rw [refW_size]; omega))
  have HC19q := Aside0.mk (blk_put (HC12.out) 5 (.string (strOfNums x5)) rfl)
  have HF19q := Aside0.mk (Kd.F_far (HF9.out) (p := ⟨Cb, 5, none⟩) (fun _ hk => hk) (.string (strOfNums x5)))
  refine (colloquyref04_May.calls k _ _ _ _ _ _ _ _ HMAY.out).mono ?_
  rintro x w20 ⟨rfl, hb⟩
  have HW20 := Aside0.mk (below_then HW19q.out HW19q.out.size hb)
  have HC20 := Aside0.mk (blk_below HC19q.out hb)
  clear hb HW19q HC19q HMAY
  obtain ⟨nc0, rc0, rf0, nc1, rc1, rf1, nc2, rc2, rf2, nc3, rc3, rf3, nc4, rc4, rf4, nc5, rc5, rf5⟩ := ref_facts HW20.out
  have nrn : w.heap.size ≠ w.heap.size + 1 := by omega
  have nrc : w.heap.size ≠ Cb := by have := LCb.out; omega
  have nnc : w.heap.size + 1 ≠ Cb := by have := LCb.out; omega
  have lcb : w.heap.size ≤ Cb := by have := LCb.out; omega
  clear LCb
  go_wp2
  refine bodyPost_ret (results_ct rfl _ _ w.heap.size 23 #[.int .i64 0, .int .i64 0, .int .i64 0, .int .i64 0, .int .i64 0, .string ⟨#[]⟩] (0, 0) _ rfl (ref_put6 (ref_res HW20.out) rfl _ _ _ _ _ _) Try.underlying23 rfl (by kernel_rfl)) rfl ?_
  exact ⟨rfl, ref_set6 (ref_below HW20.out) _ _ _ _ _ _⟩
set_option maxHeartbeats 4000000 in
set_option maxRecDepth 100000 in
theorem rg_K_3_n0_t1_b (k : Nat) (w : World) (A0 : Option Addr) (c0 : Nat) (b : List Int) (hV0 : Kd.F (Kd.int .u8) (refW w) (fun k_ => k_ < w.heap.size) A0 b.length b) (hc0 : b.length ≤ c0) (d : Int) (y1 : List Int) (h0 : colloquyref04_numbers.f k b 1 = some ([d], y1, 0)) (p1 : decide (d ≥ 8) = false) (p2 : (d != 0) = true) (u q h : Int) (y2 : List Int) (h3 : colloquyref04_numbers.f k y1 3 = some ([u, q, h], y2, 0)) (hnum : colloquyref04_numbered.f d = some false) (hwor : colloquyref04_worded.f d = some true) (m : Int) (y4 : List Int) (h5 : colloquyref04_numbers.f k y2 1 = some ([m], y4, 0)) (p5 : decide ((y4.length : Int) < m) = false) (m0 : 0 ≤ m) (m1 : m ≤ (y4.length : Int)) (y5 x5 : List Int) (hy5 : y5 = y4.drop m.toNat) (hx5 : x5 = y4.take m.toNat) (ok : Bool) (hmay : colloquyref04_May.f k u q d h 0 (strOfNums x5) = some ok) (p9 : ¬ 0 < y5.length) (hok : ok = false) :
    Calls Try.prog 17 #[.slice A0 b.length c0] w (RGTold w 0 0 0 0 0 ⟨#[]⟩ 2) := by
  have HV0 := Aside0.mk hV0
  have HC0 := Aside0.mk hc0
  clear hV0 hc0
  have H0 := Aside0.mk h0
  clear h0
  have H3 := Aside0.mk h3
  clear h3
  have HNUM := Aside0.mk hnum
  clear hnum
  have HWOR := Aside0.mk hwor
  clear hwor
  have H5 := Aside0.mk h5
  clear h5
  have HY5 := Aside0.mk hy5
  have HX5 := Aside0.mk hx5
  have HM0 := Aside0.mk m0
  have HM1 := Aside0.mk m1
  clear hy5 hx5 m0 m1
  have HMAY := Aside0.mk hmay
  clear hmay
  subst hok
  go_enter Try.func17, Try.ntmps17
  go_wp2_with fail
  refine (num_told (P := fun k_ => k_ < w.heap.size) (W := refW w) HV0.out HC0.out H0.out (by simp)).mono ?_
  rintro x w1 ⟨g1, cc1, A1, c1, rfl, hx1, hg1, hl1, hF1, hb1⟩
  have x10 := hx1 0 _ rfl
  have HW1 := Aside0.mk hb1
  have HL1 := Aside0.mk hl1
  have HF1 := Aside0.mk (Kd.F_bound hF1)
  clear hx1 hg1 hl1 hF1 hb1 HV0 HC0 H0
  simp only [List.length_cons, List.length_nil, Nat.zero_add]
  go_wp2_with fail
  obtain ⟨Cb, hCb⟩ : ∃ n, n = w1.heap.size := ⟨_, rfl⟩
  rw [← hCb]
  have LCb := Aside0.mk (show w.heap.size + 2 ≤ Cb by rw [hCb]; have := HW1.out.size; rw [refW_size] at this; exact this)
  have HW2 := Aside0.mk (below_alloc HW1.out (.cells #[.int .i64 0, .int .i64 0, .int .i64 d, .int .i64 0, .int .i64 0, .string ⟨#[]⟩] 23))
  have HC2 := Aside0.mk (show (w1.alloc (.cells #[.int .i64 0, .int .i64 0, .int .i64 d, .int .i64 0, .int .i64 0, .string ⟨#[]⟩] 23)).heap[Cb]? = some (.cells #[.int .i64 0, .int .i64 0, .int .i64 d, .int .i64 0, .int .i64 0, .string ⟨#[]⟩] 23 (0, 0)) from by rw [hCb]; exact blk_new w1 _)
  have HF2 := Aside0.mk (Kd.F_alloc (Kd.F_mono HF1.out (ok' := (fun k_ => k_ ≠ Cb)) (fun k_ hk => by rw [hCb]; exact Nat.ne_of_lt hk.2)) (.cells #[.int .i64 0, .int .i64 0, .int .i64 d, .int .i64 0, .int .i64 0, .string ⟨#[]⟩] 23))
  clear hCb x10 HW1 HF1
  refine (num_told (P := (fun k_ => k_ ≠ Cb)) HF2.out HL1.out H3.out (by simp)).mono ?_
  rintro x w3 ⟨g3, cc3, A3, c3, rfl, hx, hg, hl, hF, hb⟩
  have gne3 : g3 ≠ Cb := by have h1 := blk_lt HC2.out; omega
  have gnf3 : Cb ≠ g3 := fun e => gne3 e.symm
  have HW3 := Aside0.mk (below_then HW2.out HW2.out.size hb)
  have HC3 := Aside0.mk (blk_below HC2.out hb)
  have HL3 := Aside0.mk hl
  have HF3 := Aside0.mk (Kd.F_mono hF (ok' := (fun k_ => k_ ≠ Cb)) (fun k_ hk => by have h1 := blk_lt HC2.out; rcases hk with hk | hk; exact hk; omega))
  have x30 := hx 0 _ rfl
  have x31 := cell_at (hx 1 _ rfl) (u := .int .i64 u) (i := 0) gne3
  have x32 := cell_at (cell_at (hx 2 _ rfl) (u := .int .i64 u) (i := 0) gne3) (u := .int .i64 q) (i := 1) gne3
  clear hx hg hl hF hb HW2 HC2 HF2 HL1 H3
  simp only [List.length_cons, List.length_nil, Nat.zero_add, Nat.reduceAdd]
  have cf0_4 : w3.cell? ⟨Cb, 0, none⟩ = some (.int .i64 0) := (blk_cell HC3.out 0).trans rfl
  have zf0_4 := blk_frozen HC3.out 0
  have cf1_5 : w3.cell? ⟨Cb, 1, none⟩ = some (.int .i64 0) := (blk_cell HC3.out 1).trans rfl
  have zf1_5 := blk_frozen HC3.out 1
  have cf2_6 : w3.cell? ⟨Cb, 2, none⟩ = some (.int .i64 d) := (blk_cell HC3.out 2).trans rfl
  have zf2_6 := blk_frozen HC3.out 2
  have cf3_7 : w3.cell? ⟨Cb, 3, none⟩ = some (.int .i64 0) := (blk_cell HC3.out 3).trans rfl
  have zf3_7 := blk_frozen HC3.out 3
  go_wp2_with fail
  have HW8q := Aside0.mk (below_set (j := 3) (v := .int .i64 h) (below_set (j := 1) (v := .int .i64 q) (below_set (j := 0) (v := .int .i64 u) (HW3.out) (by have := LCb.out; rw [refW_size]; omega)) (by have := LCb.out; rw [refW_size]; omega)) (by have := LCb.out; rw [refW_size]; omega))
  have HC8q := Aside0.mk (blk_put (blk_put (blk_put (HC3.out) 0 (.int .i64 u) rfl) 1 (.int .i64 q) rfl) 3 (.int .i64 h) rfl)
  have HF8q := Aside0.mk (Kd.F_far (Kd.F_far (Kd.F_far (HF3.out) (p := ⟨Cb, 0, none⟩) (fun _ hk => hk) (.int .i64 u)) (p := ⟨Cb, 1, none⟩) (fun _ hk => hk) (.int .i64 q)) (p := ⟨Cb, 3, none⟩) (fun _ hk => hk) (.int .i64 h))
  refine (colloquyref04_numbered.calls _ _ _ HNUM.out).mono ?_
  rintro x w9 ⟨rfl, hD⟩
  have HW9 := Aside0.mk (below_then HW8q.out HW8q.out.size hD.below)
  have HC9 := Aside0.mk (blk_below HC8q.out hD.below)
  have HF9 := Aside0.mk (Kd.F_below HF8q.out hD.below)
  clear hD HW8q HC8q HF8q HNUM
  have cf2_10 : w9.cell? ⟨Cb, 2, none⟩ = some (.int .i64 d) := (blk_cell HC9.out 2).trans rfl
  go_wp2_with fail
  refine (colloquyref04_worded.calls _ _ _ HWOR.out).mono ?_
  rintro x w11 ⟨rfl, hD⟩
  have HW11 := Aside0.mk (below_then HW9.out HW9.out.size hD.below)
  have HC11 := Aside0.mk (blk_below HC9.out hD.below)
  have HF11 := Aside0.mk (Kd.F_below HF9.out hD.below)
  clear hD HW9 HC9 HF9 HWOR
  go_wp2_with fail
  refine (num_told (P := (fun k_ => k_ ≠ Cb)) HF11.out HL3.out H5.out (by simp)).mono ?_
  rintro x w12 ⟨g12, cc12, A12, c12, rfl, hx, hg, hl, hF, hb⟩
  have gne12 : g12 ≠ Cb := by have h1 := blk_lt HC11.out; omega
  have gnf12 : Cb ≠ g12 := fun e => gne12 e.symm
  have HW12 := Aside0.mk (below_then HW11.out HW11.out.size hb)
  have HC12 := Aside0.mk (blk_below HC11.out hb)
  have HL12 := Aside0.mk hl
  have HF12 := Aside0.mk (Kd.F_mono hF (ok' := (fun k_ => k_ ≠ Cb)) (fun k_ hk => by have h1 := blk_lt HC11.out; rcases hk with hk | hk; exact hk; omega))
  have x120 := hx 0 _ rfl
  clear hx hg hl hF hb HW11 HC11 HF11 HL3 H5
  simp only [List.length_cons, List.length_nil, Nat.zero_add, Nat.reduceAdd]
  have cf0_13 : w12.cell? ⟨Cb, 0, none⟩ = some (.int .i64 u) := (blk_cell HC12.out 0).trans rfl
  have zf0_13 := blk_frozen HC12.out 0
  have cf1_14 : w12.cell? ⟨Cb, 1, none⟩ = some (.int .i64 q) := (blk_cell HC12.out 1).trans rfl
  have zf1_14 := blk_frozen HC12.out 1
  have cf2_15 : w12.cell? ⟨Cb, 2, none⟩ = some (.int .i64 d) := (blk_cell HC12.out 2).trans rfl
  have zf2_15 := blk_frozen HC12.out 2
  have cf3_16 : w12.cell? ⟨Cb, 3, none⟩ = some (.int .i64 h) := (blk_cell HC12.out 3).trans rfl
  have zf3_16 := blk_frozen HC12.out 3
  have cf4_17 : w12.cell? ⟨Cb, 4, none⟩ = some (.int .i64 0) := (blk_cell HC12.out 4).trans rfl
  have zf4_17 := blk_frozen HC12.out 4
  have cf5_18 : w12.cell? ⟨Cb, 5, none⟩ = some (.string ⟨#[]⟩) := (blk_cell HC12.out 5).trans rfl
  have zf5_18 := blk_frozen HC12.out 5
  obtain ⟨i0, hi0, _, hsz, _⟩ := info_parts info5
  have hm0 := HM0.out
  have hm1 := HM1.out
  have hcut := cut_from (P := Try.prog) 26 5 .i64 Try.underlying26 hi0 1 hsz A12 y4.length c12 m hm0 hm1
  have hcut2 := cut_to (P := Try.prog) 26 5 .i64 Try.underlying26 hi0 A12 y4.length c12 m hm0 hm1 HL12.out
  have hat : m.toNat ≤ y4.length := by omega
  have hr := Kd.F_cut (m := m.toNat) (c := c12) HF12.out hat HL12.out
  have ht := Kd.C_take (m := m.toNat) (Kd.F_now HF12.out) hat
  have hyl : y5.length = y4.length - m.toNat := by rw [HY5.out, List.length_drop]
  have hxl : x5.length = m.toNat := by rw [HX5.out, List.length_take]; omega
  rw [← HY5.out] at hr
  rw [← HX5.out, hxl] at ht
  have hcv := Kd.C_string (P := Try.prog) Try.underlying26 Try.underlying5 Try.underlying9 (c := c12) ht
  obtain ⟨A9, hA9⟩ : ∃ A1, A1 = (if c12 = m.toNat then A12 else (A12 : Option Addr).map (·.add (m.toNat * 1))) := ⟨_, rfl⟩
  obtain ⟨c9, hc9⟩ : ∃ c1, c1 = c12 - m.toNat := ⟨_, rfl⟩
  replace hr : Kd.F (Kd.int .u8) w12 (fun k_ => k_ ≠ Cb) A9 y5.length y5 := by rw [hA9]; exact hr
  rw [← hyl, ← hA9, ← hc9] at hcut
  have HL9 := Aside0.mk (show y5.length ≤ c9 from by rw [hyl, hc9]; exact Nat.sub_le_sub_right HL12.out _)
  have HF9 := Aside0.mk hr
  clear hr ht hyl hxl hA9 hc9 hat hi0 hsz hm0 hm1 HM0 HM1 HY5 HX5 HF12
  go_wp2_with fail
  have HW19q := Aside0.mk (below_set (j := 5) (v := .string (strOfNums x5)) (HW12.out) (by have := LCb.out; rw [refW_size]; omega))
  have HC19q := Aside0.mk (blk_put (HC12.out) 5 (.string (strOfNums x5)) rfl)
  have HF19q := Aside0.mk (Kd.F_far (HF9.out) (p := ⟨Cb, 5, none⟩) (fun _ hk => hk) (.string (strOfNums x5)))
  refine (colloquyref04_May.calls k _ _ _ _ _ _ _ _ HMAY.out).mono ?_
  rintro x w20 ⟨rfl, hb⟩
  have HW20 := Aside0.mk (below_then HW19q.out HW19q.out.size hb)
  have HC20 := Aside0.mk (blk_below HC19q.out hb)
  clear hb HW19q HC19q HMAY
  obtain ⟨nc0, rc0, rf0, nc1, rc1, rf1, nc2, rc2, rf2, nc3, rc3, rf3, nc4, rc4, rf4, nc5, rc5, rf5⟩ := ref_facts HW20.out
  have nrn : w.heap.size ≠ w.heap.size + 1 := by omega
  have nrc : w.heap.size ≠ Cb := by have := LCb.out; omega
  have nnc : w.heap.size + 1 ≠ Cb := by have := LCb.out; omega
  have lcb : w.heap.size ≤ Cb := by have := LCb.out; omega
  clear LCb
  go_wp2
  refine bodyPost_ret (results_ct rfl _ _ w.heap.size 23 #[.int .i64 0, .int .i64 0, .int .i64 0, .int .i64 0, .int .i64 0, .string ⟨#[]⟩] (0, 0) _ rfl (ref_put6 (ref_res HW20.out) rfl _ _ _ _ _ _) Try.underlying23 rfl (by kernel_rfl)) rfl ?_
  exact ⟨rfl, ref_set6 (ref_below HW20.out) _ _ _ _ _ _⟩
set_option maxHeartbeats 4000000 in
set_option maxRecDepth 100000 in
theorem rg_K_3_n0_t1_g (k : Nat) (w : World) (A0 : Option Addr) (c0 : Nat) (b : List Int) (hV0 : Kd.F (Kd.int .u8) (refW w) (fun k_ => k_ < w.heap.size) A0 b.length b) (hc0 : b.length ≤ c0) (d : Int) (y1 : List Int) (h0 : colloquyref04_numbers.f k b 1 = some ([d], y1, 0)) (p1 : decide (d ≥ 8) = false) (p2 : (d != 0) = true) (u q h : Int) (y2 : List Int) (h3 : colloquyref04_numbers.f k y1 3 = some ([u, q, h], y2, 0)) (hnum : colloquyref04_numbered.f d = some false) (hwor : colloquyref04_worded.f d = some true) (m : Int) (y4 : List Int) (h5 : colloquyref04_numbers.f k y2 1 = some ([m], y4, 0)) (p5 : decide ((y4.length : Int) < m) = false) (m0 : 0 ≤ m) (m1 : m ≤ (y4.length : Int)) (y5 x5 : List Int) (hy5 : y5 = y4.drop m.toNat) (hx5 : x5 = y4.take m.toNat) (ok : Bool) (hmay : colloquyref04_May.f k u q d h 0 (strOfNums x5) = some ok) (p9 : ¬ 0 < y5.length) (hok : ok = true) :
    Calls Try.prog 17 #[.slice A0 b.length c0] w (RGTold w u q d h 0 (strOfNums x5) 0) := by
  have HV0 := Aside0.mk hV0
  have HC0 := Aside0.mk hc0
  clear hV0 hc0
  have H0 := Aside0.mk h0
  clear h0
  have H3 := Aside0.mk h3
  clear h3
  have HNUM := Aside0.mk hnum
  clear hnum
  have HWOR := Aside0.mk hwor
  clear hwor
  have H5 := Aside0.mk h5
  clear h5
  have HY5 := Aside0.mk hy5
  have HX5 := Aside0.mk hx5
  have HM0 := Aside0.mk m0
  have HM1 := Aside0.mk m1
  clear hy5 hx5 m0 m1
  have HMAY := Aside0.mk hmay
  clear hmay
  subst hok
  go_enter Try.func17, Try.ntmps17
  go_wp2_with fail
  refine (num_told (P := fun k_ => k_ < w.heap.size) (W := refW w) HV0.out HC0.out H0.out (by simp)).mono ?_
  rintro x w1 ⟨g1, cc1, A1, c1, rfl, hx1, hg1, hl1, hF1, hb1⟩
  have x10 := hx1 0 _ rfl
  have HW1 := Aside0.mk hb1
  have HL1 := Aside0.mk hl1
  have HF1 := Aside0.mk (Kd.F_bound hF1)
  clear hx1 hg1 hl1 hF1 hb1 HV0 HC0 H0
  simp only [List.length_cons, List.length_nil, Nat.zero_add]
  go_wp2_with fail
  obtain ⟨Cb, hCb⟩ : ∃ n, n = w1.heap.size := ⟨_, rfl⟩
  rw [← hCb]
  have LCb := Aside0.mk (show w.heap.size + 2 ≤ Cb by rw [hCb]; have := HW1.out.size; rw [refW_size] at this; exact this)
  have HW2 := Aside0.mk (below_alloc HW1.out (.cells #[.int .i64 0, .int .i64 0, .int .i64 d, .int .i64 0, .int .i64 0, .string ⟨#[]⟩] 23))
  have HC2 := Aside0.mk (show (w1.alloc (.cells #[.int .i64 0, .int .i64 0, .int .i64 d, .int .i64 0, .int .i64 0, .string ⟨#[]⟩] 23)).heap[Cb]? = some (.cells #[.int .i64 0, .int .i64 0, .int .i64 d, .int .i64 0, .int .i64 0, .string ⟨#[]⟩] 23 (0, 0)) from by rw [hCb]; exact blk_new w1 _)
  have HF2 := Aside0.mk (Kd.F_alloc (Kd.F_mono HF1.out (ok' := (fun k_ => k_ ≠ Cb)) (fun k_ hk => by rw [hCb]; exact Nat.ne_of_lt hk.2)) (.cells #[.int .i64 0, .int .i64 0, .int .i64 d, .int .i64 0, .int .i64 0, .string ⟨#[]⟩] 23))
  clear hCb x10 HW1 HF1
  refine (num_told (P := (fun k_ => k_ ≠ Cb)) HF2.out HL1.out H3.out (by simp)).mono ?_
  rintro x w3 ⟨g3, cc3, A3, c3, rfl, hx, hg, hl, hF, hb⟩
  have gne3 : g3 ≠ Cb := by have h1 := blk_lt HC2.out; omega
  have gnf3 : Cb ≠ g3 := fun e => gne3 e.symm
  have HW3 := Aside0.mk (below_then HW2.out HW2.out.size hb)
  have HC3 := Aside0.mk (blk_below HC2.out hb)
  have HL3 := Aside0.mk hl
  have HF3 := Aside0.mk (Kd.F_mono hF (ok' := (fun k_ => k_ ≠ Cb)) (fun k_ hk => by have h1 := blk_lt HC2.out; rcases hk with hk | hk; exact hk; omega))
  have x30 := hx 0 _ rfl
  have x31 := cell_at (hx 1 _ rfl) (u := .int .i64 u) (i := 0) gne3
  have x32 := cell_at (cell_at (hx 2 _ rfl) (u := .int .i64 u) (i := 0) gne3) (u := .int .i64 q) (i := 1) gne3
  clear hx hg hl hF hb HW2 HC2 HF2 HL1 H3
  simp only [List.length_cons, List.length_nil, Nat.zero_add, Nat.reduceAdd]
  have cf0_4 : w3.cell? ⟨Cb, 0, none⟩ = some (.int .i64 0) := (blk_cell HC3.out 0).trans rfl
  have zf0_4 := blk_frozen HC3.out 0
  have cf1_5 : w3.cell? ⟨Cb, 1, none⟩ = some (.int .i64 0) := (blk_cell HC3.out 1).trans rfl
  have zf1_5 := blk_frozen HC3.out 1
  have cf2_6 : w3.cell? ⟨Cb, 2, none⟩ = some (.int .i64 d) := (blk_cell HC3.out 2).trans rfl
  have zf2_6 := blk_frozen HC3.out 2
  have cf3_7 : w3.cell? ⟨Cb, 3, none⟩ = some (.int .i64 0) := (blk_cell HC3.out 3).trans rfl
  have zf3_7 := blk_frozen HC3.out 3
  go_wp2_with fail
  have HW8q := Aside0.mk (below_set (j := 3) (v := .int .i64 h) (below_set (j := 1) (v := .int .i64 q) (below_set (j := 0) (v := .int .i64 u) (HW3.out) (by have := LCb.out; rw [refW_size]; omega)) (by have := LCb.out; rw [refW_size]; omega)) (by have := LCb.out; rw [refW_size]; omega))
  have HC8q := Aside0.mk (blk_put (blk_put (blk_put (HC3.out) 0 (.int .i64 u) rfl) 1 (.int .i64 q) rfl) 3 (.int .i64 h) rfl)
  have HF8q := Aside0.mk (Kd.F_far (Kd.F_far (Kd.F_far (HF3.out) (p := ⟨Cb, 0, none⟩) (fun _ hk => hk) (.int .i64 u)) (p := ⟨Cb, 1, none⟩) (fun _ hk => hk) (.int .i64 q)) (p := ⟨Cb, 3, none⟩) (fun _ hk => hk) (.int .i64 h))
  refine (colloquyref04_numbered.calls _ _ _ HNUM.out).mono ?_
  rintro x w9 ⟨rfl, hD⟩
  have HW9 := Aside0.mk (below_then HW8q.out HW8q.out.size hD.below)
  have HC9 := Aside0.mk (blk_below HC8q.out hD.below)
  have HF9 := Aside0.mk (Kd.F_below HF8q.out hD.below)
  clear hD HW8q HC8q HF8q HNUM
  have cf2_10 : w9.cell? ⟨Cb, 2, none⟩ = some (.int .i64 d) := (blk_cell HC9.out 2).trans rfl
  go_wp2_with fail
  refine (colloquyref04_worded.calls _ _ _ HWOR.out).mono ?_
  rintro x w11 ⟨rfl, hD⟩
  have HW11 := Aside0.mk (below_then HW9.out HW9.out.size hD.below)
  have HC11 := Aside0.mk (blk_below HC9.out hD.below)
  have HF11 := Aside0.mk (Kd.F_below HF9.out hD.below)
  clear hD HW9 HC9 HF9 HWOR
  go_wp2_with fail
  refine (num_told (P := (fun k_ => k_ ≠ Cb)) HF11.out HL3.out H5.out (by simp)).mono ?_
  rintro x w12 ⟨g12, cc12, A12, c12, rfl, hx, hg, hl, hF, hb⟩
  have gne12 : g12 ≠ Cb := by have h1 := blk_lt HC11.out; omega
  have gnf12 : Cb ≠ g12 := fun e => gne12 e.symm
  have HW12 := Aside0.mk (below_then HW11.out HW11.out.size hb)
  have HC12 := Aside0.mk (blk_below HC11.out hb)
  have HL12 := Aside0.mk hl
  have HF12 := Aside0.mk (Kd.F_mono hF (ok' := (fun k_ => k_ ≠ Cb)) (fun k_ hk => by have h1 := blk_lt HC11.out; rcases hk with hk | hk; exact hk; omega))
  have x120 := hx 0 _ rfl
  clear hx hg hl hF hb HW11 HC11 HF11 HL3 H5
  simp only [List.length_cons, List.length_nil, Nat.zero_add, Nat.reduceAdd]
  have cf0_13 : w12.cell? ⟨Cb, 0, none⟩ = some (.int .i64 u) := (blk_cell HC12.out 0).trans rfl
  have zf0_13 := blk_frozen HC12.out 0
  have cf1_14 : w12.cell? ⟨Cb, 1, none⟩ = some (.int .i64 q) := (blk_cell HC12.out 1).trans rfl
  have zf1_14 := blk_frozen HC12.out 1
  have cf2_15 : w12.cell? ⟨Cb, 2, none⟩ = some (.int .i64 d) := (blk_cell HC12.out 2).trans rfl
  have zf2_15 := blk_frozen HC12.out 2
  have cf3_16 : w12.cell? ⟨Cb, 3, none⟩ = some (.int .i64 h) := (blk_cell HC12.out 3).trans rfl
  have zf3_16 := blk_frozen HC12.out 3
  have cf4_17 : w12.cell? ⟨Cb, 4, none⟩ = some (.int .i64 0) := (blk_cell HC12.out 4).trans rfl
  have zf4_17 := blk_frozen HC12.out 4
  have cf5_18 : w12.cell? ⟨Cb, 5, none⟩ = some (.string ⟨#[]⟩) := (blk_cell HC12.out 5).trans rfl
  have zf5_18 := blk_frozen HC12.out 5
  obtain ⟨i0, hi0, _, hsz, _⟩ := info_parts info5
  have hm0 := HM0.out
  have hm1 := HM1.out
  have hcut := cut_from (P := Try.prog) 26 5 .i64 Try.underlying26 hi0 1 hsz A12 y4.length c12 m hm0 hm1
  have hcut2 := cut_to (P := Try.prog) 26 5 .i64 Try.underlying26 hi0 A12 y4.length c12 m hm0 hm1 HL12.out
  have hat : m.toNat ≤ y4.length := by omega
  have hr := Kd.F_cut (m := m.toNat) (c := c12) HF12.out hat HL12.out
  have ht := Kd.C_take (m := m.toNat) (Kd.F_now HF12.out) hat
  have hyl : y5.length = y4.length - m.toNat := by rw [HY5.out, List.length_drop]
  have hxl : x5.length = m.toNat := by rw [HX5.out, List.length_take]; omega
  rw [← HY5.out] at hr
  rw [← HX5.out, hxl] at ht
  have hcv := Kd.C_string (P := Try.prog) Try.underlying26 Try.underlying5 Try.underlying9 (c := c12) ht
  obtain ⟨A9, hA9⟩ : ∃ A1, A1 = (if c12 = m.toNat then A12 else (A12 : Option Addr).map (·.add (m.toNat * 1))) := ⟨_, rfl⟩
  obtain ⟨c9, hc9⟩ : ∃ c1, c1 = c12 - m.toNat := ⟨_, rfl⟩
  replace hr : Kd.F (Kd.int .u8) w12 (fun k_ => k_ ≠ Cb) A9 y5.length y5 := by rw [hA9]; exact hr
  rw [← hyl, ← hA9, ← hc9] at hcut
  have HL9 := Aside0.mk (show y5.length ≤ c9 from by rw [hyl, hc9]; exact Nat.sub_le_sub_right HL12.out _)
  have HF9 := Aside0.mk hr
  clear hr ht hyl hxl hA9 hc9 hat hi0 hsz hm0 hm1 HM0 HM1 HY5 HX5 HF12
  go_wp2_with fail
  have HW19q := Aside0.mk (below_set (j := 5) (v := .string (strOfNums x5)) (HW12.out) (by have := LCb.out; rw [refW_size]; omega))
  have HC19q := Aside0.mk (blk_put (HC12.out) 5 (.string (strOfNums x5)) rfl)
  have HF19q := Aside0.mk (Kd.F_far (HF9.out) (p := ⟨Cb, 5, none⟩) (fun _ hk => hk) (.string (strOfNums x5)))
  refine (colloquyref04_May.calls k _ _ _ _ _ _ _ _ HMAY.out).mono ?_
  rintro x w20 ⟨rfl, hb⟩
  have HW20 := Aside0.mk (below_then HW19q.out HW19q.out.size hb)
  have HC20 := Aside0.mk (blk_below HC19q.out hb)
  clear hb HW19q HC19q HMAY
  have cf0_21 : w20.cell? ⟨Cb, 0, none⟩ = some (.int .i64 u) := (blk_cell HC20.out 0).trans rfl
  have cf1_22 : w20.cell? ⟨Cb, 1, none⟩ = some (.int .i64 q) := (blk_cell HC20.out 1).trans rfl
  have cf2_23 : w20.cell? ⟨Cb, 2, none⟩ = some (.int .i64 d) := (blk_cell HC20.out 2).trans rfl
  have cf3_24 : w20.cell? ⟨Cb, 3, none⟩ = some (.int .i64 h) := (blk_cell HC20.out 3).trans rfl
  have cf4_25 : w20.cell? ⟨Cb, 4, none⟩ = some (.int .i64 0) := (blk_cell HC20.out 4).trans rfl
  have cf5_26 : w20.cell? ⟨Cb, 5, none⟩ = some (.string (strOfNums x5)) := (blk_cell HC20.out 5).trans rfl
  have rc0 := (blk_cell (ref_res HW20.out) 0).trans rfl
  have rf0 := blk_frozen (ref_res HW20.out) 0
  have rc1 := (blk_cell (ref_res HW20.out) 1).trans rfl
  have rf1 := blk_frozen (ref_res HW20.out) 1
  have rc2 := (blk_cell (ref_res HW20.out) 2).trans rfl
  have rf2 := blk_frozen (ref_res HW20.out) 2
  have rc3 := (blk_cell (ref_res HW20.out) 3).trans rfl
  have rf3 := blk_frozen (ref_res HW20.out) 3
  have rc4 := (blk_cell (ref_res HW20.out) 4).trans rfl
  have rf4 := blk_frozen (ref_res HW20.out) 4
  have rc5 := (blk_cell (ref_res HW20.out) 5).trans rfl
  have rf5 := blk_frozen (ref_res HW20.out) 5
  go_wp2
  refine bodyPost_ret (results_ct rfl _ _ w.heap.size 23 #[.int .i64 u, .int .i64 q, .int .i64 d, .int .i64 h, .int .i64 0, .string (strOfNums x5)] (0, 0) _ rfl (ref_put6 (ref_res HW20.out) rfl _ _ _ _ _ _) Try.underlying23 rfl (by kernel_rfl)) rfl ?_
  exact ⟨rfl, ref_set6 (ref_below HW20.out) _ _ _ _ _ _⟩
set_option maxHeartbeats 4000000 in
set_option maxRecDepth 100000 in
theorem rg_K_3_n0_te (k : Nat) (w : World) (A0 : Option Addr) (c0 : Nat) (b : List Int) (hV0 : Kd.F (Kd.int .u8) (refW w) (fun k_ => k_ < w.heap.size) A0 b.length b) (hc0 : b.length ≤ c0) (d : Int) (y1 : List Int) (h0 : colloquyref04_numbers.f k b 1 = some ([d], y1, 0)) (p1 : decide (d ≥ 8) = false) (p2 : (d != 0) = true) (u q h : Int) (y2 : List Int) (h3 : colloquyref04_numbers.f k y1 3 = some ([u, q, h], y2, 0)) (hnum : colloquyref04_numbered.f d = some false) (hwor : colloquyref04_worded.f d = some true) (r1 r2 : List Int) (e : Int) (h5 : colloquyref04_numbers.f k y2 1 = some (r1, r2, e)) (he : (e != 0) = true) :
    Calls Try.prog 17 #[.slice A0 b.length c0] w (RGTold w 0 0 0 0 0 ⟨#[]⟩ e) := by
  have HV0 := Aside0.mk hV0
  have HC0 := Aside0.mk hc0
  clear hV0 hc0
  have H0 := Aside0.mk h0
  clear h0
  have H3 := Aside0.mk h3
  clear h3
  have HNUM := Aside0.mk hnum
  clear hnum
  have HWOR := Aside0.mk hwor
  clear hwor
  have H5 := Aside0.mk h5
  clear h5
  go_enter Try.func17, Try.ntmps17
  go_wp2_with fail
  refine (num_told (P := fun k_ => k_ < w.heap.size) (W := refW w) HV0.out HC0.out H0.out (by simp)).mono ?_
  rintro x w1 ⟨g1, cc1, A1, c1, rfl, hx1, hg1, hl1, hF1, hb1⟩
  have x10 := hx1 0 _ rfl
  have HW1 := Aside0.mk hb1
  have HL1 := Aside0.mk hl1
  have HF1 := Aside0.mk (Kd.F_bound hF1)
  clear hx1 hg1 hl1 hF1 hb1 HV0 HC0 H0
  simp only [List.length_cons, List.length_nil, Nat.zero_add]
  go_wp2_with fail
  obtain ⟨Cb, hCb⟩ : ∃ n, n = w1.heap.size := ⟨_, rfl⟩
  rw [← hCb]
  have LCb := Aside0.mk (show w.heap.size + 2 ≤ Cb by rw [hCb]; have := HW1.out.size; rw [refW_size] at this; exact this)
  have HW2 := Aside0.mk (below_alloc HW1.out (.cells #[.int .i64 0, .int .i64 0, .int .i64 d, .int .i64 0, .int .i64 0, .string ⟨#[]⟩] 23))
  have HC2 := Aside0.mk (show (w1.alloc (.cells #[.int .i64 0, .int .i64 0, .int .i64 d, .int .i64 0, .int .i64 0, .string ⟨#[]⟩] 23)).heap[Cb]? = some (.cells #[.int .i64 0, .int .i64 0, .int .i64 d, .int .i64 0, .int .i64 0, .string ⟨#[]⟩] 23 (0, 0)) from by rw [hCb]; exact blk_new w1 _)
  have HF2 := Aside0.mk (Kd.F_alloc (Kd.F_mono HF1.out (ok' := (fun k_ => k_ ≠ Cb)) (fun k_ hk => by rw [hCb]; exact Nat.ne_of_lt hk.2)) (.cells #[.int .i64 0, .int .i64 0, .int .i64 d, .int .i64 0, .int .i64 0, .string ⟨#[]⟩] 23))
  clear hCb x10 HW1 HF1
  refine (num_told (P := (fun k_ => k_ ≠ Cb)) HF2.out HL1.out H3.out (by simp)).mono ?_
  rintro x w3 ⟨g3, cc3, A3, c3, rfl, hx, hg, hl, hF, hb⟩
  have gne3 : g3 ≠ Cb := by have h1 := blk_lt HC2.out; omega
  have gnf3 : Cb ≠ g3 := fun e => gne3 e.symm
  have HW3 := Aside0.mk (below_then HW2.out HW2.out.size hb)
  have HC3 := Aside0.mk (blk_below HC2.out hb)
  have HL3 := Aside0.mk hl
  have HF3 := Aside0.mk (Kd.F_mono hF (ok' := (fun k_ => k_ ≠ Cb)) (fun k_ hk => by have h1 := blk_lt HC2.out; rcases hk with hk | hk; exact hk; omega))
  have x30 := hx 0 _ rfl
  have x31 := cell_at (hx 1 _ rfl) (u := .int .i64 u) (i := 0) gne3
  have x32 := cell_at (cell_at (hx 2 _ rfl) (u := .int .i64 u) (i := 0) gne3) (u := .int .i64 q) (i := 1) gne3
  clear hx hg hl hF hb HW2 HC2 HF2 HL1 H3
  simp only [List.length_cons, List.length_nil, Nat.zero_add, Nat.reduceAdd]
  have cf0_4 : w3.cell? ⟨Cb, 0, none⟩ = some (.int .i64 0) := (blk_cell HC3.out 0).trans rfl
  have zf0_4 := blk_frozen HC3.out 0
  have cf1_5 : w3.cell? ⟨Cb, 1, none⟩ = some (.int .i64 0) := (blk_cell HC3.out 1).trans rfl
  have zf1_5 := blk_frozen HC3.out 1
  have cf2_6 : w3.cell? ⟨Cb, 2, none⟩ = some (.int .i64 d) := (blk_cell HC3.out 2).trans rfl
  have zf2_6 := blk_frozen HC3.out 2
  have cf3_7 : w3.cell? ⟨Cb, 3, none⟩ = some (.int .i64 0) := (blk_cell HC3.out 3).trans rfl
  have zf3_7 := blk_frozen HC3.out 3
  go_wp2_with fail
  have HW8q := Aside0.mk (below_set (j := 3) (v := .int .i64 h) (below_set (j := 1) (v := .int .i64 q) (below_set (j := 0) (v := .int .i64 u) (HW3.out) (by have := LCb.out; rw [refW_size]; omega)) (by have := LCb.out; rw [refW_size]; omega)) (by have := LCb.out; rw [refW_size]; omega))
  have HC8q := Aside0.mk (blk_put (blk_put (blk_put (HC3.out) 0 (.int .i64 u) rfl) 1 (.int .i64 q) rfl) 3 (.int .i64 h) rfl)
  have HF8q := Aside0.mk (Kd.F_far (Kd.F_far (Kd.F_far (HF3.out) (p := ⟨Cb, 0, none⟩) (fun _ hk => hk) (.int .i64 u)) (p := ⟨Cb, 1, none⟩) (fun _ hk => hk) (.int .i64 q)) (p := ⟨Cb, 3, none⟩) (fun _ hk => hk) (.int .i64 h))
  refine (colloquyref04_numbered.calls _ _ _ HNUM.out).mono ?_
  rintro x w9 ⟨rfl, hD⟩
  have HW9 := Aside0.mk (below_then HW8q.out HW8q.out.size hD.below)
  have HC9 := Aside0.mk (blk_below HC8q.out hD.below)
  have HF9 := Aside0.mk (Kd.F_below HF8q.out hD.below)
  clear hD HW8q HC8q HF8q HNUM
  have cf2_10 : w9.cell? ⟨Cb, 2, none⟩ = some (.int .i64 d) := (blk_cell HC9.out 2).trans rfl
  go_wp2_with fail
  refine (colloquyref04_worded.calls _ _ _ HWOR.out).mono ?_
  rintro x w11 ⟨rfl, hD⟩
  have HW11 := Aside0.mk (below_then HW9.out HW9.out.size hD.below)
  have HC11 := Aside0.mk (blk_below HC9.out hD.below)
  have HF11 := Aside0.mk (Kd.F_below HF9.out hD.below)
  clear hD HW9 HC9 HF9 HWOR
  go_wp2_with fail
  refine (num_err (P := (fun k_ => k_ ≠ Cb)) HF11.out HL3.out H5.out).mono ?_
  rintro x w12 ⟨v0, v1, rfl, hb⟩
  have HW12 := Aside0.mk (below_then HW11.out HW11.out.size hb)
  clear hb HW11 HC11 HF11 HL3 H5
  obtain ⟨nc0, rc0, rf0, nc1, rc1, rf1, nc2, rc2, rf2, nc3, rc3, rf3, nc4, rc4, rf4, nc5, rc5, rf5⟩ := ref_facts HW12.out
  have nrn : w.heap.size ≠ w.heap.size + 1 := by omega
  have nrc : w.heap.size ≠ Cb := by have := LCb.out; omega
  have nnc : w.heap.size + 1 ≠ Cb := by have := LCb.out; omega
  have lcb : w.heap.size ≤ Cb := by have := LCb.out; omega
  clear LCb
  go_wp2
  refine bodyPost_ret (results_ct rfl _ _ w.heap.size 23 #[.int .i64 0, .int .i64 0, .int .i64 0, .int .i64 0, .int .i64 0, .string ⟨#[]⟩] (0, 0) _ rfl (ref_put6 (ref_res HW12.out) rfl _ _ _ _ _ _) Try.underlying23 rfl (by kernel_rfl)) rfl ?_
  exact ⟨rfl, ref_set6 (ref_below HW12.out) _ _ _ _ _ _⟩
set_option maxHeartbeats 4000000 in
set_option maxRecDepth 100000 in
theorem rg_K_3_n0_tm (k : Nat) (w : World) (A0 : Option Addr) (c0 : Nat) (b : List Int) (hV0 : Kd.F (Kd.int .u8) (refW w) (fun k_ => k_ < w.heap.size) A0 b.length b) (hc0 : b.length ≤ c0) (d : Int) (y1 : List Int) (h0 : colloquyref04_numbers.f k b 1 = some ([d], y1, 0)) (p1 : decide (d ≥ 8) = false) (p2 : (d != 0) = true) (u q h : Int) (y2 : List Int) (h3 : colloquyref04_numbers.f k y1 3 = some ([u, q, h], y2, 0)) (hnum : colloquyref04_numbered.f d = some false) (hwor : colloquyref04_worded.f d = some true) (m : Int) (y4 : List Int) (h5 : colloquyref04_numbers.f k y2 1 = some ([m], y4, 0)) (p5 : decide ((y4.length : Int) < m) = true) :
    Calls Try.prog 17 #[.slice A0 b.length c0] w (RGTold w 0 0 0 0 0 ⟨#[]⟩ 3) := by
  have HV0 := Aside0.mk hV0
  have HC0 := Aside0.mk hc0
  clear hV0 hc0
  have H0 := Aside0.mk h0
  clear h0
  have H3 := Aside0.mk h3
  clear h3
  have HNUM := Aside0.mk hnum
  clear hnum
  have HWOR := Aside0.mk hwor
  clear hwor
  have H5 := Aside0.mk h5
  clear h5
  go_enter Try.func17, Try.ntmps17
  go_wp2_with fail
  refine (num_told (P := fun k_ => k_ < w.heap.size) (W := refW w) HV0.out HC0.out H0.out (by simp)).mono ?_
  rintro x w1 ⟨g1, cc1, A1, c1, rfl, hx1, hg1, hl1, hF1, hb1⟩
  have x10 := hx1 0 _ rfl
  have HW1 := Aside0.mk hb1
  have HL1 := Aside0.mk hl1
  have HF1 := Aside0.mk (Kd.F_bound hF1)
  clear hx1 hg1 hl1 hF1 hb1 HV0 HC0 H0
  simp only [List.length_cons, List.length_nil, Nat.zero_add]
  go_wp2_with fail
  obtain ⟨Cb, hCb⟩ : ∃ n, n = w1.heap.size := ⟨_, rfl⟩
  rw [← hCb]
  have LCb := Aside0.mk (show w.heap.size + 2 ≤ Cb by rw [hCb]; have := HW1.out.size; rw [refW_size] at this; exact this)
  have HW2 := Aside0.mk (below_alloc HW1.out (.cells #[.int .i64 0, .int .i64 0, .int .i64 d, .int .i64 0, .int .i64 0, .string ⟨#[]⟩] 23))
  have HC2 := Aside0.mk (show (w1.alloc (.cells #[.int .i64 0, .int .i64 0, .int .i64 d, .int .i64 0, .int .i64 0, .string ⟨#[]⟩] 23)).heap[Cb]? = some (.cells #[.int .i64 0, .int .i64 0, .int .i64 d, .int .i64 0, .int .i64 0, .string ⟨#[]⟩] 23 (0, 0)) from by rw [hCb]; exact blk_new w1 _)
  have HF2 := Aside0.mk (Kd.F_alloc (Kd.F_mono HF1.out (ok' := (fun k_ => k_ ≠ Cb)) (fun k_ hk => by rw [hCb]; exact Nat.ne_of_lt hk.2)) (.cells #[.int .i64 0, .int .i64 0, .int .i64 d, .int .i64 0, .int .i64 0, .string ⟨#[]⟩] 23))
  clear hCb x10 HW1 HF1
  refine (num_told (P := (fun k_ => k_ ≠ Cb)) HF2.out HL1.out H3.out (by simp)).mono ?_
  rintro x w3 ⟨g3, cc3, A3, c3, rfl, hx, hg, hl, hF, hb⟩
  have gne3 : g3 ≠ Cb := by have h1 := blk_lt HC2.out; omega
  have gnf3 : Cb ≠ g3 := fun e => gne3 e.symm
  have HW3 := Aside0.mk (below_then HW2.out HW2.out.size hb)
  have HC3 := Aside0.mk (blk_below HC2.out hb)
  have HL3 := Aside0.mk hl
  have HF3 := Aside0.mk (Kd.F_mono hF (ok' := (fun k_ => k_ ≠ Cb)) (fun k_ hk => by have h1 := blk_lt HC2.out; rcases hk with hk | hk; exact hk; omega))
  have x30 := hx 0 _ rfl
  have x31 := cell_at (hx 1 _ rfl) (u := .int .i64 u) (i := 0) gne3
  have x32 := cell_at (cell_at (hx 2 _ rfl) (u := .int .i64 u) (i := 0) gne3) (u := .int .i64 q) (i := 1) gne3
  clear hx hg hl hF hb HW2 HC2 HF2 HL1 H3
  simp only [List.length_cons, List.length_nil, Nat.zero_add, Nat.reduceAdd]
  have cf0_4 : w3.cell? ⟨Cb, 0, none⟩ = some (.int .i64 0) := (blk_cell HC3.out 0).trans rfl
  have zf0_4 := blk_frozen HC3.out 0
  have cf1_5 : w3.cell? ⟨Cb, 1, none⟩ = some (.int .i64 0) := (blk_cell HC3.out 1).trans rfl
  have zf1_5 := blk_frozen HC3.out 1
  have cf2_6 : w3.cell? ⟨Cb, 2, none⟩ = some (.int .i64 d) := (blk_cell HC3.out 2).trans rfl
  have zf2_6 := blk_frozen HC3.out 2
  have cf3_7 : w3.cell? ⟨Cb, 3, none⟩ = some (.int .i64 0) := (blk_cell HC3.out 3).trans rfl
  have zf3_7 := blk_frozen HC3.out 3
  go_wp2_with fail
  have HW8q := Aside0.mk (below_set (j := 3) (v := .int .i64 h) (below_set (j := 1) (v := .int .i64 q) (below_set (j := 0) (v := .int .i64 u) (HW3.out) (by have := LCb.out; rw [refW_size]; omega)) (by have := LCb.out; rw [refW_size]; omega)) (by have := LCb.out; rw [refW_size]; omega))
  have HC8q := Aside0.mk (blk_put (blk_put (blk_put (HC3.out) 0 (.int .i64 u) rfl) 1 (.int .i64 q) rfl) 3 (.int .i64 h) rfl)
  have HF8q := Aside0.mk (Kd.F_far (Kd.F_far (Kd.F_far (HF3.out) (p := ⟨Cb, 0, none⟩) (fun _ hk => hk) (.int .i64 u)) (p := ⟨Cb, 1, none⟩) (fun _ hk => hk) (.int .i64 q)) (p := ⟨Cb, 3, none⟩) (fun _ hk => hk) (.int .i64 h))
  refine (colloquyref04_numbered.calls _ _ _ HNUM.out).mono ?_
  rintro x w9 ⟨rfl, hD⟩
  have HW9 := Aside0.mk (below_then HW8q.out HW8q.out.size hD.below)
  have HC9 := Aside0.mk (blk_below HC8q.out hD.below)
  have HF9 := Aside0.mk (Kd.F_below HF8q.out hD.below)
  clear hD HW8q HC8q HF8q HNUM
  have cf2_10 : w9.cell? ⟨Cb, 2, none⟩ = some (.int .i64 d) := (blk_cell HC9.out 2).trans rfl
  go_wp2_with fail
  refine (colloquyref04_worded.calls _ _ _ HWOR.out).mono ?_
  rintro x w11 ⟨rfl, hD⟩
  have HW11 := Aside0.mk (below_then HW9.out HW9.out.size hD.below)
  have HC11 := Aside0.mk (blk_below HC9.out hD.below)
  have HF11 := Aside0.mk (Kd.F_below HF9.out hD.below)
  clear hD HW9 HC9 HF9 HWOR
  go_wp2_with fail
  refine (num_told (P := (fun k_ => k_ ≠ Cb)) HF11.out HL3.out H5.out (by simp)).mono ?_
  rintro x w12 ⟨g12, cc12, A12, c12, rfl, hx, hg, hl, hF, hb⟩
  have gne12 : g12 ≠ Cb := by have h1 := blk_lt HC11.out; omega
  have gnf12 : Cb ≠ g12 := fun e => gne12 e.symm
  have HW12 := Aside0.mk (below_then HW11.out HW11.out.size hb)
  have HC12 := Aside0.mk (blk_below HC11.out hb)
  have HL12 := Aside0.mk hl
  have HF12 := Aside0.mk (Kd.F_mono hF (ok' := (fun k_ => k_ ≠ Cb)) (fun k_ hk => by have h1 := blk_lt HC11.out; rcases hk with hk | hk; exact hk; omega))
  have x120 := hx 0 _ rfl
  clear hx hg hl hF hb HW11 HC11 HF11 HL3 H5
  simp only [List.length_cons, List.length_nil, Nat.zero_add, Nat.reduceAdd]
  obtain ⟨nc0, rc0, rf0, nc1, rc1, rf1, nc2, rc2, rf2, nc3, rc3, rf3, nc4, rc4, rf4, nc5, rc5, rf5⟩ := ref_facts HW12.out
  have nrn : w.heap.size ≠ w.heap.size + 1 := by omega
  have nrc : w.heap.size ≠ Cb := by have := LCb.out; omega
  have nnc : w.heap.size + 1 ≠ Cb := by have := LCb.out; omega
  have lcb : w.heap.size ≤ Cb := by have := LCb.out; omega
  clear LCb
  go_wp2
  refine bodyPost_ret (results_ct rfl _ _ w.heap.size 23 #[.int .i64 0, .int .i64 0, .int .i64 0, .int .i64 0, .int .i64 0, .string ⟨#[]⟩] (0, 0) _ rfl (ref_put6 (ref_res HW12.out) rfl _ _ _ _ _ _) Try.underlying23 rfl (by kernel_rfl)) rfl ?_
  exact ⟨rfl, ref_set6 (ref_below HW12.out) _ _ _ _ _ _⟩
set_option maxHeartbeats 4000000 in
set_option maxRecDepth 100000 in
theorem rg_K_3_ne (k : Nat) (w : World) (A0 : Option Addr) (c0 : Nat) (b : List Int) (hV0 : Kd.F (Kd.int .u8) (refW w) (fun k_ => k_ < w.heap.size) A0 b.length b) (hc0 : b.length ≤ c0) (d : Int) (y1 : List Int) (h0 : colloquyref04_numbers.f k b 1 = some ([d], y1, 0)) (p1 : decide (d ≥ 8) = false) (p2 : (d != 0) = true) (u q h : Int) (y2 : List Int) (h3 : colloquyref04_numbers.f k y1 3 = some ([u, q, h], y2, 0)) (hnum : colloquyref04_numbered.f d = some true) (r1 r2 : List Int) (e : Int) (h4 : colloquyref04_numbers.f k y2 1 = some (r1, r2, e)) (he : (e != 0) = true) :
    Calls Try.prog 17 #[.slice A0 b.length c0] w (RGTold w 0 0 0 0 0 ⟨#[]⟩ e) := by
  have HV0 := Aside0.mk hV0
  have HC0 := Aside0.mk hc0
  clear hV0 hc0
  have H0 := Aside0.mk h0
  clear h0
  have H3 := Aside0.mk h3
  clear h3
  have HNUM := Aside0.mk hnum
  clear hnum
  have H4 := Aside0.mk h4
  clear h4
  go_enter Try.func17, Try.ntmps17
  go_wp2_with fail
  refine (num_told (P := fun k_ => k_ < w.heap.size) (W := refW w) HV0.out HC0.out H0.out (by simp)).mono ?_
  rintro x w1 ⟨g1, cc1, A1, c1, rfl, hx1, hg1, hl1, hF1, hb1⟩
  have x10 := hx1 0 _ rfl
  have HW1 := Aside0.mk hb1
  have HL1 := Aside0.mk hl1
  have HF1 := Aside0.mk (Kd.F_bound hF1)
  clear hx1 hg1 hl1 hF1 hb1 HV0 HC0 H0
  simp only [List.length_cons, List.length_nil, Nat.zero_add]
  go_wp2_with fail
  obtain ⟨Cb, hCb⟩ : ∃ n, n = w1.heap.size := ⟨_, rfl⟩
  rw [← hCb]
  have LCb := Aside0.mk (show w.heap.size + 2 ≤ Cb by rw [hCb]; have := HW1.out.size; rw [refW_size] at this; exact this)
  have HW2 := Aside0.mk (below_alloc HW1.out (.cells #[.int .i64 0, .int .i64 0, .int .i64 d, .int .i64 0, .int .i64 0, .string ⟨#[]⟩] 23))
  have HC2 := Aside0.mk (show (w1.alloc (.cells #[.int .i64 0, .int .i64 0, .int .i64 d, .int .i64 0, .int .i64 0, .string ⟨#[]⟩] 23)).heap[Cb]? = some (.cells #[.int .i64 0, .int .i64 0, .int .i64 d, .int .i64 0, .int .i64 0, .string ⟨#[]⟩] 23 (0, 0)) from by rw [hCb]; exact blk_new w1 _)
  have HF2 := Aside0.mk (Kd.F_alloc (Kd.F_mono HF1.out (ok' := (fun k_ => k_ ≠ Cb)) (fun k_ hk => by rw [hCb]; exact Nat.ne_of_lt hk.2)) (.cells #[.int .i64 0, .int .i64 0, .int .i64 d, .int .i64 0, .int .i64 0, .string ⟨#[]⟩] 23))
  clear hCb x10 HW1 HF1
  refine (num_told (P := (fun k_ => k_ ≠ Cb)) HF2.out HL1.out H3.out (by simp)).mono ?_
  rintro x w3 ⟨g3, cc3, A3, c3, rfl, hx, hg, hl, hF, hb⟩
  have gne3 : g3 ≠ Cb := by have h1 := blk_lt HC2.out; omega
  have gnf3 : Cb ≠ g3 := fun e => gne3 e.symm
  have HW3 := Aside0.mk (below_then HW2.out HW2.out.size hb)
  have HC3 := Aside0.mk (blk_below HC2.out hb)
  have HL3 := Aside0.mk hl
  have HF3 := Aside0.mk (Kd.F_mono hF (ok' := (fun k_ => k_ ≠ Cb)) (fun k_ hk => by have h1 := blk_lt HC2.out; rcases hk with hk | hk; exact hk; omega))
  have x30 := hx 0 _ rfl
  have x31 := cell_at (hx 1 _ rfl) (u := .int .i64 u) (i := 0) gne3
  have x32 := cell_at (cell_at (hx 2 _ rfl) (u := .int .i64 u) (i := 0) gne3) (u := .int .i64 q) (i := 1) gne3
  clear hx hg hl hF hb HW2 HC2 HF2 HL1 H3
  simp only [List.length_cons, List.length_nil, Nat.zero_add, Nat.reduceAdd]
  have cf0_4 : w3.cell? ⟨Cb, 0, none⟩ = some (.int .i64 0) := (blk_cell HC3.out 0).trans rfl
  have zf0_4 := blk_frozen HC3.out 0
  have cf1_5 : w3.cell? ⟨Cb, 1, none⟩ = some (.int .i64 0) := (blk_cell HC3.out 1).trans rfl
  have zf1_5 := blk_frozen HC3.out 1
  have cf2_6 : w3.cell? ⟨Cb, 2, none⟩ = some (.int .i64 d) := (blk_cell HC3.out 2).trans rfl
  have zf2_6 := blk_frozen HC3.out 2
  have cf3_7 : w3.cell? ⟨Cb, 3, none⟩ = some (.int .i64 0) := (blk_cell HC3.out 3).trans rfl
  have zf3_7 := blk_frozen HC3.out 3
  go_wp2_with fail
  have HW8q := Aside0.mk (below_set (j := 3) (v := .int .i64 h) (below_set (j := 1) (v := .int .i64 q) (below_set (j := 0) (v := .int .i64 u) (HW3.out) (by have := LCb.out; rw [refW_size]; omega)) (by have := LCb.out; rw [refW_size]; omega)) (by have := LCb.out; rw [refW_size]; omega))
  have HC8q := Aside0.mk (blk_put (blk_put (blk_put (HC3.out) 0 (.int .i64 u) rfl) 1 (.int .i64 q) rfl) 3 (.int .i64 h) rfl)
  have HF8q := Aside0.mk (Kd.F_far (Kd.F_far (Kd.F_far (HF3.out) (p := ⟨Cb, 0, none⟩) (fun _ hk => hk) (.int .i64 u)) (p := ⟨Cb, 1, none⟩) (fun _ hk => hk) (.int .i64 q)) (p := ⟨Cb, 3, none⟩) (fun _ hk => hk) (.int .i64 h))
  refine (colloquyref04_numbered.calls _ _ _ HNUM.out).mono ?_
  rintro x w9 ⟨rfl, hD⟩
  have HW9 := Aside0.mk (below_then HW8q.out HW8q.out.size hD.below)
  have HC9 := Aside0.mk (blk_below HC8q.out hD.below)
  have HF9 := Aside0.mk (Kd.F_below HF8q.out hD.below)
  clear hD HW8q HC8q HF8q HNUM
  go_wp2_with fail
  refine (num_err (P := (fun k_ => k_ ≠ Cb)) HF9.out HL3.out H4.out).mono ?_
  rintro x w10 ⟨v0, v1, rfl, hb⟩
  have HW10 := Aside0.mk (below_then HW9.out HW9.out.size hb)
  clear hb HW9 HC9 HF9 HL3 H4
  obtain ⟨nc0, rc0, rf0, nc1, rc1, rf1, nc2, rc2, rf2, nc3, rc3, rf3, nc4, rc4, rf4, nc5, rc5, rf5⟩ := ref_facts HW10.out
  have nrn : w.heap.size ≠ w.heap.size + 1 := by omega
  have nrc : w.heap.size ≠ Cb := by have := LCb.out; omega
  have nnc : w.heap.size + 1 ≠ Cb := by have := LCb.out; omega
  have lcb : w.heap.size ≤ Cb := by have := LCb.out; omega
  clear LCb
  go_wp2
  refine bodyPost_ret (results_ct rfl _ _ w.heap.size 23 #[.int .i64 0, .int .i64 0, .int .i64 0, .int .i64 0, .int .i64 0, .string ⟨#[]⟩] (0, 0) _ rfl (ref_put6 (ref_res HW10.out) rfl _ _ _ _ _ _) Try.underlying23 rfl (by kernel_rfl)) rfl ?_
  exact ⟨rfl, ref_set6 (ref_below HW10.out) _ _ _ _ _ _⟩
set_option maxHeartbeats 4000000 in
set_option maxRecDepth 100000 in
theorem rg_K_3_n1_t0_l (k : Nat) (w : World) (A0 : Option Addr) (c0 : Nat) (b : List Int) (hV0 : Kd.F (Kd.int .u8) (refW w) (fun k_ => k_ < w.heap.size) A0 b.length b) (hc0 : b.length ≤ c0) (d : Int) (y1 : List Int) (h0 : colloquyref04_numbers.f k b 1 = some ([d], y1, 0)) (p1 : decide (d ≥ 8) = false) (p2 : (d != 0) = true) (u q h : Int) (y2 : List Int) (h3 : colloquyref04_numbers.f k y1 3 = some ([u, q, h], y2, 0)) (hnum : colloquyref04_numbered.f d = some true) (n : Int) (y3 : List Int) (h4 : colloquyref04_numbers.f k y2 1 = some ([n], y3, 0)) (hwor : colloquyref04_worded.f d = some false) (ok : Bool) (hmay : colloquyref04_May.f k u q d h n ⟨#[]⟩ = some ok) (p9 : 0 < y3.length) :
    Calls Try.prog 17 #[.slice A0 b.length c0] w (RGTold w 0 0 0 0 0 ⟨#[]⟩ 2) := by
  have HV0 := Aside0.mk hV0
  have HC0 := Aside0.mk hc0
  clear hV0 hc0
  have H0 := Aside0.mk h0
  clear h0
  have H3 := Aside0.mk h3
  clear h3
  have HNUM := Aside0.mk hnum
  clear hnum
  have H4 := Aside0.mk h4
  clear h4
  have HWOR := Aside0.mk hwor
  clear hwor
  have HMAY := Aside0.mk hmay
  clear hmay
  go_enter Try.func17, Try.ntmps17
  go_wp2_with fail
  refine (num_told (P := fun k_ => k_ < w.heap.size) (W := refW w) HV0.out HC0.out H0.out (by simp)).mono ?_
  rintro x w1 ⟨g1, cc1, A1, c1, rfl, hx1, hg1, hl1, hF1, hb1⟩
  have x10 := hx1 0 _ rfl
  have HW1 := Aside0.mk hb1
  have HL1 := Aside0.mk hl1
  have HF1 := Aside0.mk (Kd.F_bound hF1)
  clear hx1 hg1 hl1 hF1 hb1 HV0 HC0 H0
  simp only [List.length_cons, List.length_nil, Nat.zero_add]
  go_wp2_with fail
  obtain ⟨Cb, hCb⟩ : ∃ n, n = w1.heap.size := ⟨_, rfl⟩
  rw [← hCb]
  have LCb := Aside0.mk (show w.heap.size + 2 ≤ Cb by rw [hCb]; have := HW1.out.size; rw [refW_size] at this; exact this)
  have HW2 := Aside0.mk (below_alloc HW1.out (.cells #[.int .i64 0, .int .i64 0, .int .i64 d, .int .i64 0, .int .i64 0, .string ⟨#[]⟩] 23))
  have HC2 := Aside0.mk (show (w1.alloc (.cells #[.int .i64 0, .int .i64 0, .int .i64 d, .int .i64 0, .int .i64 0, .string ⟨#[]⟩] 23)).heap[Cb]? = some (.cells #[.int .i64 0, .int .i64 0, .int .i64 d, .int .i64 0, .int .i64 0, .string ⟨#[]⟩] 23 (0, 0)) from by rw [hCb]; exact blk_new w1 _)
  have HF2 := Aside0.mk (Kd.F_alloc (Kd.F_mono HF1.out (ok' := (fun k_ => k_ ≠ Cb)) (fun k_ hk => by rw [hCb]; exact Nat.ne_of_lt hk.2)) (.cells #[.int .i64 0, .int .i64 0, .int .i64 d, .int .i64 0, .int .i64 0, .string ⟨#[]⟩] 23))
  clear hCb x10 HW1 HF1
  refine (num_told (P := (fun k_ => k_ ≠ Cb)) HF2.out HL1.out H3.out (by simp)).mono ?_
  rintro x w3 ⟨g3, cc3, A3, c3, rfl, hx, hg, hl, hF, hb⟩
  have gne3 : g3 ≠ Cb := by have h1 := blk_lt HC2.out; omega
  have gnf3 : Cb ≠ g3 := fun e => gne3 e.symm
  have HW3 := Aside0.mk (below_then HW2.out HW2.out.size hb)
  have HC3 := Aside0.mk (blk_below HC2.out hb)
  have HL3 := Aside0.mk hl
  have HF3 := Aside0.mk (Kd.F_mono hF (ok' := (fun k_ => k_ ≠ Cb)) (fun k_ hk => by have h1 := blk_lt HC2.out; rcases hk with hk | hk; exact hk; omega))
  have x30 := hx 0 _ rfl
  have x31 := cell_at (hx 1 _ rfl) (u := .int .i64 u) (i := 0) gne3
  have x32 := cell_at (cell_at (hx 2 _ rfl) (u := .int .i64 u) (i := 0) gne3) (u := .int .i64 q) (i := 1) gne3
  clear hx hg hl hF hb HW2 HC2 HF2 HL1 H3
  simp only [List.length_cons, List.length_nil, Nat.zero_add, Nat.reduceAdd]
  have cf0_4 : w3.cell? ⟨Cb, 0, none⟩ = some (.int .i64 0) := (blk_cell HC3.out 0).trans rfl
  have zf0_4 := blk_frozen HC3.out 0
  have cf1_5 : w3.cell? ⟨Cb, 1, none⟩ = some (.int .i64 0) := (blk_cell HC3.out 1).trans rfl
  have zf1_5 := blk_frozen HC3.out 1
  have cf2_6 : w3.cell? ⟨Cb, 2, none⟩ = some (.int .i64 d) := (blk_cell HC3.out 2).trans rfl
  have zf2_6 := blk_frozen HC3.out 2
  have cf3_7 : w3.cell? ⟨Cb, 3, none⟩ = some (.int .i64 0) := (blk_cell HC3.out 3).trans rfl
  have zf3_7 := blk_frozen HC3.out 3
  go_wp2_with fail
  have HW8q := Aside0.mk (below_set (j := 3) (v := .int .i64 h) (below_set (j := 1) (v := .int .i64 q) (below_set (j := 0) (v := .int .i64 u) (HW3.out) (by have := LCb.out; rw [refW_size]; omega)) (by have := LCb.out; rw [refW_size]; omega)) (by have := LCb.out; rw [refW_size]; omega))
  have HC8q := Aside0.mk (blk_put (blk_put (blk_put (HC3.out) 0 (.int .i64 u) rfl) 1 (.int .i64 q) rfl) 3 (.int .i64 h) rfl)
  have HF8q := Aside0.mk (Kd.F_far (Kd.F_far (Kd.F_far (HF3.out) (p := ⟨Cb, 0, none⟩) (fun _ hk => hk) (.int .i64 u)) (p := ⟨Cb, 1, none⟩) (fun _ hk => hk) (.int .i64 q)) (p := ⟨Cb, 3, none⟩) (fun _ hk => hk) (.int .i64 h))
  refine (colloquyref04_numbered.calls _ _ _ HNUM.out).mono ?_
  rintro x w9 ⟨rfl, hD⟩
  have HW9 := Aside0.mk (below_then HW8q.out HW8q.out.size hD.below)
  have HC9 := Aside0.mk (blk_below HC8q.out hD.below)
  have HF9 := Aside0.mk (Kd.F_below HF8q.out hD.below)
  clear hD HW8q HC8q HF8q HNUM
  go_wp2_with fail
  refine (num_told (P := (fun k_ => k_ ≠ Cb)) HF9.out HL3.out H4.out (by simp)).mono ?_
  rintro x w10 ⟨g10, cc10, A10, c10, rfl, hx, hg, hl, hF, hb⟩
  have gne10 : g10 ≠ Cb := by have h1 := blk_lt HC9.out; omega
  have gnf10 : Cb ≠ g10 := fun e => gne10 e.symm
  have HW10 := Aside0.mk (below_then HW9.out HW9.out.size hb)
  have HC10 := Aside0.mk (blk_below HC9.out hb)
  have HL10 := Aside0.mk hl
  have HF10 := Aside0.mk (Kd.F_mono hF (ok' := (fun k_ => k_ ≠ Cb)) (fun k_ hk => by have h1 := blk_lt HC9.out; rcases hk with hk | hk; exact hk; omega))
  have x100 := hx 0 _ rfl
  clear hx hg hl hF hb HW9 HC9 HF9 HL3 H4
  simp only [List.length_cons, List.length_nil, Nat.zero_add, Nat.reduceAdd]
  have cf2_11 : w10.cell? ⟨Cb, 2, none⟩ = some (.int .i64 d) := (blk_cell HC10.out 2).trans rfl
  have zf2_11 := blk_frozen HC10.out 2
  have cf4_12 : w10.cell? ⟨Cb, 4, none⟩ = some (.int .i64 0) := (blk_cell HC10.out 4).trans rfl
  have zf4_12 := blk_frozen HC10.out 4
  go_wp2_with fail
  have HW13q := Aside0.mk (below_set (j := 4) (v := .int .i64 n) (HW10.out) (by have := LCb.out; rw [refW_size]; omega))
  have HC13q := Aside0.mk (blk_put (HC10.out) 4 (.int .i64 n) rfl)
  have HF13q := Aside0.mk (Kd.F_far (HF10.out) (p := ⟨Cb, 4, none⟩) (fun _ hk => hk) (.int .i64 n))
  refine (colloquyref04_worded.calls _ _ _ HWOR.out).mono ?_
  rintro x w14 ⟨rfl, hD⟩
  have HW14 := Aside0.mk (below_then HW13q.out HW13q.out.size hD.below)
  have HC14 := Aside0.mk (blk_below HC13q.out hD.below)
  have HF14 := Aside0.mk (Kd.F_below HF13q.out hD.below)
  clear hD HW13q HC13q HF13q HWOR
  have cf0_15 : w14.cell? ⟨Cb, 0, none⟩ = some (.int .i64 u) := (blk_cell HC14.out 0).trans rfl
  have zf0_15 := blk_frozen HC14.out 0
  have cf1_16 : w14.cell? ⟨Cb, 1, none⟩ = some (.int .i64 q) := (blk_cell HC14.out 1).trans rfl
  have zf1_16 := blk_frozen HC14.out 1
  have cf2_17 : w14.cell? ⟨Cb, 2, none⟩ = some (.int .i64 d) := (blk_cell HC14.out 2).trans rfl
  have zf2_17 := blk_frozen HC14.out 2
  have cf3_18 : w14.cell? ⟨Cb, 3, none⟩ = some (.int .i64 h) := (blk_cell HC14.out 3).trans rfl
  have zf3_18 := blk_frozen HC14.out 3
  have cf4_19 : w14.cell? ⟨Cb, 4, none⟩ = some (.int .i64 n) := (blk_cell HC14.out 4).trans rfl
  have zf4_19 := blk_frozen HC14.out 4
  have cf5_20 : w14.cell? ⟨Cb, 5, none⟩ = some (.string ⟨#[]⟩) := (blk_cell HC14.out 5).trans rfl
  have zf5_20 := blk_frozen HC14.out 5
  go_wp2_with fail
  refine (colloquyref04_May.calls k _ _ _ _ _ _ _ _ HMAY.out).mono ?_
  rintro x w21 ⟨rfl, hb⟩
  have HW21 := Aside0.mk (below_then HW14.out HW14.out.size hb)
  have HC21 := Aside0.mk (blk_below HC14.out hb)
  clear hb HW14 HC14 HMAY
  obtain ⟨nc0, rc0, rf0, nc1, rc1, rf1, nc2, rc2, rf2, nc3, rc3, rf3, nc4, rc4, rf4, nc5, rc5, rf5⟩ := ref_facts HW21.out
  have nrn : w.heap.size ≠ w.heap.size + 1 := by omega
  have nrc : w.heap.size ≠ Cb := by have := LCb.out; omega
  have nnc : w.heap.size + 1 ≠ Cb := by have := LCb.out; omega
  have lcb : w.heap.size ≤ Cb := by have := LCb.out; omega
  clear LCb
  go_wp2
  refine bodyPost_ret (results_ct rfl _ _ w.heap.size 23 #[.int .i64 0, .int .i64 0, .int .i64 0, .int .i64 0, .int .i64 0, .string ⟨#[]⟩] (0, 0) _ rfl (ref_put6 (ref_res HW21.out) rfl _ _ _ _ _ _) Try.underlying23 rfl (by kernel_rfl)) rfl ?_
  exact ⟨rfl, ref_set6 (ref_below HW21.out) _ _ _ _ _ _⟩
set_option maxHeartbeats 4000000 in
set_option maxRecDepth 100000 in
theorem rg_K_3_n1_t0_b (k : Nat) (w : World) (A0 : Option Addr) (c0 : Nat) (b : List Int) (hV0 : Kd.F (Kd.int .u8) (refW w) (fun k_ => k_ < w.heap.size) A0 b.length b) (hc0 : b.length ≤ c0) (d : Int) (y1 : List Int) (h0 : colloquyref04_numbers.f k b 1 = some ([d], y1, 0)) (p1 : decide (d ≥ 8) = false) (p2 : (d != 0) = true) (u q h : Int) (y2 : List Int) (h3 : colloquyref04_numbers.f k y1 3 = some ([u, q, h], y2, 0)) (hnum : colloquyref04_numbered.f d = some true) (n : Int) (y3 : List Int) (h4 : colloquyref04_numbers.f k y2 1 = some ([n], y3, 0)) (hwor : colloquyref04_worded.f d = some false) (ok : Bool) (hmay : colloquyref04_May.f k u q d h n ⟨#[]⟩ = some ok) (p9 : ¬ 0 < y3.length) (hok : ok = false) :
    Calls Try.prog 17 #[.slice A0 b.length c0] w (RGTold w 0 0 0 0 0 ⟨#[]⟩ 2) := by
  have HV0 := Aside0.mk hV0
  have HC0 := Aside0.mk hc0
  clear hV0 hc0
  have H0 := Aside0.mk h0
  clear h0
  have H3 := Aside0.mk h3
  clear h3
  have HNUM := Aside0.mk hnum
  clear hnum
  have H4 := Aside0.mk h4
  clear h4
  have HWOR := Aside0.mk hwor
  clear hwor
  have HMAY := Aside0.mk hmay
  clear hmay
  subst hok
  go_enter Try.func17, Try.ntmps17
  go_wp2_with fail
  refine (num_told (P := fun k_ => k_ < w.heap.size) (W := refW w) HV0.out HC0.out H0.out (by simp)).mono ?_
  rintro x w1 ⟨g1, cc1, A1, c1, rfl, hx1, hg1, hl1, hF1, hb1⟩
  have x10 := hx1 0 _ rfl
  have HW1 := Aside0.mk hb1
  have HL1 := Aside0.mk hl1
  have HF1 := Aside0.mk (Kd.F_bound hF1)
  clear hx1 hg1 hl1 hF1 hb1 HV0 HC0 H0
  simp only [List.length_cons, List.length_nil, Nat.zero_add]
  go_wp2_with fail
  obtain ⟨Cb, hCb⟩ : ∃ n, n = w1.heap.size := ⟨_, rfl⟩
  rw [← hCb]
  have LCb := Aside0.mk (show w.heap.size + 2 ≤ Cb by rw [hCb]; have := HW1.out.size; rw [refW_size] at this; exact this)
  have HW2 := Aside0.mk (below_alloc HW1.out (.cells #[.int .i64 0, .int .i64 0, .int .i64 d, .int .i64 0, .int .i64 0, .string ⟨#[]⟩] 23))
  have HC2 := Aside0.mk (show (w1.alloc (.cells #[.int .i64 0, .int .i64 0, .int .i64 d, .int .i64 0, .int .i64 0, .string ⟨#[]⟩] 23)).heap[Cb]? = some (.cells #[.int .i64 0, .int .i64 0, .int .i64 d, .int .i64 0, .int .i64 0, .string ⟨#[]⟩] 23 (0, 0)) from by rw [hCb]; exact blk_new w1 _)
  have HF2 := Aside0.mk (Kd.F_alloc (Kd.F_mono HF1.out (ok' := (fun k_ => k_ ≠ Cb)) (fun k_ hk => by rw [hCb]; exact Nat.ne_of_lt hk.2)) (.cells #[.int .i64 0, .int .i64 0, .int .i64 d, .int .i64 0, .int .i64 0, .string ⟨#[]⟩] 23))
  clear hCb x10 HW1 HF1
  refine (num_told (P := (fun k_ => k_ ≠ Cb)) HF2.out HL1.out H3.out (by simp)).mono ?_
  rintro x w3 ⟨g3, cc3, A3, c3, rfl, hx, hg, hl, hF, hb⟩
  have gne3 : g3 ≠ Cb := by have h1 := blk_lt HC2.out; omega
  have gnf3 : Cb ≠ g3 := fun e => gne3 e.symm
  have HW3 := Aside0.mk (below_then HW2.out HW2.out.size hb)
  have HC3 := Aside0.mk (blk_below HC2.out hb)
  have HL3 := Aside0.mk hl
  have HF3 := Aside0.mk (Kd.F_mono hF (ok' := (fun k_ => k_ ≠ Cb)) (fun k_ hk => by have h1 := blk_lt HC2.out; rcases hk with hk | hk; exact hk; omega))
  have x30 := hx 0 _ rfl
  have x31 := cell_at (hx 1 _ rfl) (u := .int .i64 u) (i := 0) gne3
  have x32 := cell_at (cell_at (hx 2 _ rfl) (u := .int .i64 u) (i := 0) gne3) (u := .int .i64 q) (i := 1) gne3
  clear hx hg hl hF hb HW2 HC2 HF2 HL1 H3
  simp only [List.length_cons, List.length_nil, Nat.zero_add, Nat.reduceAdd]
  have cf0_4 : w3.cell? ⟨Cb, 0, none⟩ = some (.int .i64 0) := (blk_cell HC3.out 0).trans rfl
  have zf0_4 := blk_frozen HC3.out 0
  have cf1_5 : w3.cell? ⟨Cb, 1, none⟩ = some (.int .i64 0) := (blk_cell HC3.out 1).trans rfl
  have zf1_5 := blk_frozen HC3.out 1
  have cf2_6 : w3.cell? ⟨Cb, 2, none⟩ = some (.int .i64 d) := (blk_cell HC3.out 2).trans rfl
  have zf2_6 := blk_frozen HC3.out 2
  have cf3_7 : w3.cell? ⟨Cb, 3, none⟩ = some (.int .i64 0) := (blk_cell HC3.out 3).trans rfl
  have zf3_7 := blk_frozen HC3.out 3
  go_wp2_with fail
  have HW8q := Aside0.mk (below_set (j := 3) (v := .int .i64 h) (below_set (j := 1) (v := .int .i64 q) (below_set (j := 0) (v := .int .i64 u) (HW3.out) (by have := LCb.out; rw [refW_size]; omega)) (by have := LCb.out; rw [refW_size]; omega)) (by have := LCb.out; rw [refW_size]; omega))
  have HC8q := Aside0.mk (blk_put (blk_put (blk_put (HC3.out) 0 (.int .i64 u) rfl) 1 (.int .i64 q) rfl) 3 (.int .i64 h) rfl)
  have HF8q := Aside0.mk (Kd.F_far (Kd.F_far (Kd.F_far (HF3.out) (p := ⟨Cb, 0, none⟩) (fun _ hk => hk) (.int .i64 u)) (p := ⟨Cb, 1, none⟩) (fun _ hk => hk) (.int .i64 q)) (p := ⟨Cb, 3, none⟩) (fun _ hk => hk) (.int .i64 h))
  refine (colloquyref04_numbered.calls _ _ _ HNUM.out).mono ?_
  rintro x w9 ⟨rfl, hD⟩
  have HW9 := Aside0.mk (below_then HW8q.out HW8q.out.size hD.below)
  have HC9 := Aside0.mk (blk_below HC8q.out hD.below)
  have HF9 := Aside0.mk (Kd.F_below HF8q.out hD.below)
  clear hD HW8q HC8q HF8q HNUM
  go_wp2_with fail
  refine (num_told (P := (fun k_ => k_ ≠ Cb)) HF9.out HL3.out H4.out (by simp)).mono ?_
  rintro x w10 ⟨g10, cc10, A10, c10, rfl, hx, hg, hl, hF, hb⟩
  have gne10 : g10 ≠ Cb := by have h1 := blk_lt HC9.out; omega
  have gnf10 : Cb ≠ g10 := fun e => gne10 e.symm
  have HW10 := Aside0.mk (below_then HW9.out HW9.out.size hb)
  have HC10 := Aside0.mk (blk_below HC9.out hb)
  have HL10 := Aside0.mk hl
  have HF10 := Aside0.mk (Kd.F_mono hF (ok' := (fun k_ => k_ ≠ Cb)) (fun k_ hk => by have h1 := blk_lt HC9.out; rcases hk with hk | hk; exact hk; omega))
  have x100 := hx 0 _ rfl
  clear hx hg hl hF hb HW9 HC9 HF9 HL3 H4
  simp only [List.length_cons, List.length_nil, Nat.zero_add, Nat.reduceAdd]
  have cf2_11 : w10.cell? ⟨Cb, 2, none⟩ = some (.int .i64 d) := (blk_cell HC10.out 2).trans rfl
  have zf2_11 := blk_frozen HC10.out 2
  have cf4_12 : w10.cell? ⟨Cb, 4, none⟩ = some (.int .i64 0) := (blk_cell HC10.out 4).trans rfl
  have zf4_12 := blk_frozen HC10.out 4
  go_wp2_with fail
  have HW13q := Aside0.mk (below_set (j := 4) (v := .int .i64 n) (HW10.out) (by have := LCb.out; rw [refW_size]; omega))
  have HC13q := Aside0.mk (blk_put (HC10.out) 4 (.int .i64 n) rfl)
  have HF13q := Aside0.mk (Kd.F_far (HF10.out) (p := ⟨Cb, 4, none⟩) (fun _ hk => hk) (.int .i64 n))
  refine (colloquyref04_worded.calls _ _ _ HWOR.out).mono ?_
  rintro x w14 ⟨rfl, hD⟩
  have HW14 := Aside0.mk (below_then HW13q.out HW13q.out.size hD.below)
  have HC14 := Aside0.mk (blk_below HC13q.out hD.below)
  have HF14 := Aside0.mk (Kd.F_below HF13q.out hD.below)
  clear hD HW13q HC13q HF13q HWOR
  have cf0_15 : w14.cell? ⟨Cb, 0, none⟩ = some (.int .i64 u) := (blk_cell HC14.out 0).trans rfl
  have zf0_15 := blk_frozen HC14.out 0
  have cf1_16 : w14.cell? ⟨Cb, 1, none⟩ = some (.int .i64 q) := (blk_cell HC14.out 1).trans rfl
  have zf1_16 := blk_frozen HC14.out 1
  have cf2_17 : w14.cell? ⟨Cb, 2, none⟩ = some (.int .i64 d) := (blk_cell HC14.out 2).trans rfl
  have zf2_17 := blk_frozen HC14.out 2
  have cf3_18 : w14.cell? ⟨Cb, 3, none⟩ = some (.int .i64 h) := (blk_cell HC14.out 3).trans rfl
  have zf3_18 := blk_frozen HC14.out 3
  have cf4_19 : w14.cell? ⟨Cb, 4, none⟩ = some (.int .i64 n) := (blk_cell HC14.out 4).trans rfl
  have zf4_19 := blk_frozen HC14.out 4
  have cf5_20 : w14.cell? ⟨Cb, 5, none⟩ = some (.string ⟨#[]⟩) := (blk_cell HC14.out 5).trans rfl
  have zf5_20 := blk_frozen HC14.out 5
  go_wp2_with fail
  refine (colloquyref04_May.calls k _ _ _ _ _ _ _ _ HMAY.out).mono ?_
  rintro x w21 ⟨rfl, hb⟩
  have HW21 := Aside0.mk (below_then HW14.out HW14.out.size hb)
  have HC21 := Aside0.mk (blk_below HC14.out hb)
  clear hb HW14 HC14 HMAY
  obtain ⟨nc0, rc0, rf0, nc1, rc1, rf1, nc2, rc2, rf2, nc3, rc3, rf3, nc4, rc4, rf4, nc5, rc5, rf5⟩ := ref_facts HW21.out
  have nrn : w.heap.size ≠ w.heap.size + 1 := by omega
  have nrc : w.heap.size ≠ Cb := by have := LCb.out; omega
  have nnc : w.heap.size + 1 ≠ Cb := by have := LCb.out; omega
  have lcb : w.heap.size ≤ Cb := by have := LCb.out; omega
  clear LCb
  go_wp2
  refine bodyPost_ret (results_ct rfl _ _ w.heap.size 23 #[.int .i64 0, .int .i64 0, .int .i64 0, .int .i64 0, .int .i64 0, .string ⟨#[]⟩] (0, 0) _ rfl (ref_put6 (ref_res HW21.out) rfl _ _ _ _ _ _) Try.underlying23 rfl (by kernel_rfl)) rfl ?_
  exact ⟨rfl, ref_set6 (ref_below HW21.out) _ _ _ _ _ _⟩
set_option maxHeartbeats 4000000 in
set_option maxRecDepth 100000 in
theorem rg_K_3_n1_t0_g (k : Nat) (w : World) (A0 : Option Addr) (c0 : Nat) (b : List Int) (hV0 : Kd.F (Kd.int .u8) (refW w) (fun k_ => k_ < w.heap.size) A0 b.length b) (hc0 : b.length ≤ c0) (d : Int) (y1 : List Int) (h0 : colloquyref04_numbers.f k b 1 = some ([d], y1, 0)) (p1 : decide (d ≥ 8) = false) (p2 : (d != 0) = true) (u q h : Int) (y2 : List Int) (h3 : colloquyref04_numbers.f k y1 3 = some ([u, q, h], y2, 0)) (hnum : colloquyref04_numbered.f d = some true) (n : Int) (y3 : List Int) (h4 : colloquyref04_numbers.f k y2 1 = some ([n], y3, 0)) (hwor : colloquyref04_worded.f d = some false) (ok : Bool) (hmay : colloquyref04_May.f k u q d h n ⟨#[]⟩ = some ok) (p9 : ¬ 0 < y3.length) (hok : ok = true) :
    Calls Try.prog 17 #[.slice A0 b.length c0] w (RGTold w u q d h n ⟨#[]⟩ 0) := by
  have HV0 := Aside0.mk hV0
  have HC0 := Aside0.mk hc0
  clear hV0 hc0
  have H0 := Aside0.mk h0
  clear h0
  have H3 := Aside0.mk h3
  clear h3
  have HNUM := Aside0.mk hnum
  clear hnum
  have H4 := Aside0.mk h4
  clear h4
  have HWOR := Aside0.mk hwor
  clear hwor
  have HMAY := Aside0.mk hmay
  clear hmay
  subst hok
  go_enter Try.func17, Try.ntmps17
  go_wp2_with fail
  refine (num_told (P := fun k_ => k_ < w.heap.size) (W := refW w) HV0.out HC0.out H0.out (by simp)).mono ?_
  rintro x w1 ⟨g1, cc1, A1, c1, rfl, hx1, hg1, hl1, hF1, hb1⟩
  have x10 := hx1 0 _ rfl
  have HW1 := Aside0.mk hb1
  have HL1 := Aside0.mk hl1
  have HF1 := Aside0.mk (Kd.F_bound hF1)
  clear hx1 hg1 hl1 hF1 hb1 HV0 HC0 H0
  simp only [List.length_cons, List.length_nil, Nat.zero_add]
  go_wp2_with fail
  obtain ⟨Cb, hCb⟩ : ∃ n, n = w1.heap.size := ⟨_, rfl⟩
  rw [← hCb]
  have LCb := Aside0.mk (show w.heap.size + 2 ≤ Cb by rw [hCb]; have := HW1.out.size; rw [refW_size] at this; exact this)
  have HW2 := Aside0.mk (below_alloc HW1.out (.cells #[.int .i64 0, .int .i64 0, .int .i64 d, .int .i64 0, .int .i64 0, .string ⟨#[]⟩] 23))
  have HC2 := Aside0.mk (show (w1.alloc (.cells #[.int .i64 0, .int .i64 0, .int .i64 d, .int .i64 0, .int .i64 0, .string ⟨#[]⟩] 23)).heap[Cb]? = some (.cells #[.int .i64 0, .int .i64 0, .int .i64 d, .int .i64 0, .int .i64 0, .string ⟨#[]⟩] 23 (0, 0)) from by rw [hCb]; exact blk_new w1 _)
  have HF2 := Aside0.mk (Kd.F_alloc (Kd.F_mono HF1.out (ok' := (fun k_ => k_ ≠ Cb)) (fun k_ hk => by rw [hCb]; exact Nat.ne_of_lt hk.2)) (.cells #[.int .i64 0, .int .i64 0, .int .i64 d, .int .i64 0, .int .i64 0, .string ⟨#[]⟩] 23))
  clear hCb x10 HW1 HF1
  refine (num_told (P := (fun k_ => k_ ≠ Cb)) HF2.out HL1.out H3.out (by simp)).mono ?_
  rintro x w3 ⟨g3, cc3, A3, c3, rfl, hx, hg, hl, hF, hb⟩
  have gne3 : g3 ≠ Cb := by have h1 := blk_lt HC2.out; omega
  have gnf3 : Cb ≠ g3 := fun e => gne3 e.symm
  have HW3 := Aside0.mk (below_then HW2.out HW2.out.size hb)
  have HC3 := Aside0.mk (blk_below HC2.out hb)
  have HL3 := Aside0.mk hl
  have HF3 := Aside0.mk (Kd.F_mono hF (ok' := (fun k_ => k_ ≠ Cb)) (fun k_ hk => by have h1 := blk_lt HC2.out; rcases hk with hk | hk; exact hk; omega))
  have x30 := hx 0 _ rfl
  have x31 := cell_at (hx 1 _ rfl) (u := .int .i64 u) (i := 0) gne3
  have x32 := cell_at (cell_at (hx 2 _ rfl) (u := .int .i64 u) (i := 0) gne3) (u := .int .i64 q) (i := 1) gne3
  clear hx hg hl hF hb HW2 HC2 HF2 HL1 H3
  simp only [List.length_cons, List.length_nil, Nat.zero_add, Nat.reduceAdd]
  have cf0_4 : w3.cell? ⟨Cb, 0, none⟩ = some (.int .i64 0) := (blk_cell HC3.out 0).trans rfl
  have zf0_4 := blk_frozen HC3.out 0
  have cf1_5 : w3.cell? ⟨Cb, 1, none⟩ = some (.int .i64 0) := (blk_cell HC3.out 1).trans rfl
  have zf1_5 := blk_frozen HC3.out 1
  have cf2_6 : w3.cell? ⟨Cb, 2, none⟩ = some (.int .i64 d) := (blk_cell HC3.out 2).trans rfl
  have zf2_6 := blk_frozen HC3.out 2
  have cf3_7 : w3.cell? ⟨Cb, 3, none⟩ = some (.int .i64 0) := (blk_cell HC3.out 3).trans rfl
  have zf3_7 := blk_frozen HC3.out 3
  go_wp2_with fail
  have HW8q := Aside0.mk (below_set (j := 3) (v := .int .i64 h) (below_set (j := 1) (v := .int .i64 q) (below_set (j := 0) (v := .int .i64 u) (HW3.out) (by have := LCb.out; rw [refW_size]; omega)) (by have := LCb.out; rw [refW_size]; omega)) (by have := LCb.out; rw [refW_size]; omega))
  have HC8q := Aside0.mk (blk_put (blk_put (blk_put (HC3.out) 0 (.int .i64 u) rfl) 1 (.int .i64 q) rfl) 3 (.int .i64 h) rfl)
  have HF8q := Aside0.mk (Kd.F_far (Kd.F_far (Kd.F_far (HF3.out) (p := ⟨Cb, 0, none⟩) (fun _ hk => hk) (.int .i64 u)) (p := ⟨Cb, 1, none⟩) (fun _ hk => hk) (.int .i64 q)) (p := ⟨Cb, 3, none⟩) (fun _ hk => hk) (.int .i64 h))
  refine (colloquyref04_numbered.calls _ _ _ HNUM.out).mono ?_
  rintro x w9 ⟨rfl, hD⟩
  have HW9 := Aside0.mk (below_then HW8q.out HW8q.out.size hD.below)
  have HC9 := Aside0.mk (blk_below HC8q.out hD.below)
  have HF9 := Aside0.mk (Kd.F_below HF8q.out hD.below)
  clear hD HW8q HC8q HF8q HNUM
  go_wp2_with fail
  refine (num_told (P := (fun k_ => k_ ≠ Cb)) HF9.out HL3.out H4.out (by simp)).mono ?_
  rintro x w10 ⟨g10, cc10, A10, c10, rfl, hx, hg, hl, hF, hb⟩
  have gne10 : g10 ≠ Cb := by have h1 := blk_lt HC9.out; omega
  have gnf10 : Cb ≠ g10 := fun e => gne10 e.symm
  have HW10 := Aside0.mk (below_then HW9.out HW9.out.size hb)
  have HC10 := Aside0.mk (blk_below HC9.out hb)
  have HL10 := Aside0.mk hl
  have HF10 := Aside0.mk (Kd.F_mono hF (ok' := (fun k_ => k_ ≠ Cb)) (fun k_ hk => by have h1 := blk_lt HC9.out; rcases hk with hk | hk; exact hk; omega))
  have x100 := hx 0 _ rfl
  clear hx hg hl hF hb HW9 HC9 HF9 HL3 H4
  simp only [List.length_cons, List.length_nil, Nat.zero_add, Nat.reduceAdd]
  have cf2_11 : w10.cell? ⟨Cb, 2, none⟩ = some (.int .i64 d) := (blk_cell HC10.out 2).trans rfl
  have zf2_11 := blk_frozen HC10.out 2
  have cf4_12 : w10.cell? ⟨Cb, 4, none⟩ = some (.int .i64 0) := (blk_cell HC10.out 4).trans rfl
  have zf4_12 := blk_frozen HC10.out 4
  go_wp2_with fail
  have HW13q := Aside0.mk (below_set (j := 4) (v := .int .i64 n) (HW10.out) (by have := LCb.out; rw [refW_size]; omega))
  have HC13q := Aside0.mk (blk_put (HC10.out) 4 (.int .i64 n) rfl)
  have HF13q := Aside0.mk (Kd.F_far (HF10.out) (p := ⟨Cb, 4, none⟩) (fun _ hk => hk) (.int .i64 n))
  refine (colloquyref04_worded.calls _ _ _ HWOR.out).mono ?_
  rintro x w14 ⟨rfl, hD⟩
  have HW14 := Aside0.mk (below_then HW13q.out HW13q.out.size hD.below)
  have HC14 := Aside0.mk (blk_below HC13q.out hD.below)
  have HF14 := Aside0.mk (Kd.F_below HF13q.out hD.below)
  clear hD HW13q HC13q HF13q HWOR
  have cf0_15 : w14.cell? ⟨Cb, 0, none⟩ = some (.int .i64 u) := (blk_cell HC14.out 0).trans rfl
  have zf0_15 := blk_frozen HC14.out 0
  have cf1_16 : w14.cell? ⟨Cb, 1, none⟩ = some (.int .i64 q) := (blk_cell HC14.out 1).trans rfl
  have zf1_16 := blk_frozen HC14.out 1
  have cf2_17 : w14.cell? ⟨Cb, 2, none⟩ = some (.int .i64 d) := (blk_cell HC14.out 2).trans rfl
  have zf2_17 := blk_frozen HC14.out 2
  have cf3_18 : w14.cell? ⟨Cb, 3, none⟩ = some (.int .i64 h) := (blk_cell HC14.out 3).trans rfl
  have zf3_18 := blk_frozen HC14.out 3
  have cf4_19 : w14.cell? ⟨Cb, 4, none⟩ = some (.int .i64 n) := (blk_cell HC14.out 4).trans rfl
  have zf4_19 := blk_frozen HC14.out 4
  have cf5_20 : w14.cell? ⟨Cb, 5, none⟩ = some (.string ⟨#[]⟩) := (blk_cell HC14.out 5).trans rfl
  have zf5_20 := blk_frozen HC14.out 5
  go_wp2_with fail
  refine (colloquyref04_May.calls k _ _ _ _ _ _ _ _ HMAY.out).mono ?_
  rintro x w21 ⟨rfl, hb⟩
  have HW21 := Aside0.mk (below_then HW14.out HW14.out.size hb)
  have HC21 := Aside0.mk (blk_below HC14.out hb)
  clear hb HW14 HC14 HMAY
  have cf0_22 : w21.cell? ⟨Cb, 0, none⟩ = some (.int .i64 u) := (blk_cell HC21.out 0).trans rfl
  have cf1_23 : w21.cell? ⟨Cb, 1, none⟩ = some (.int .i64 q) := (blk_cell HC21.out 1).trans rfl
  have cf2_24 : w21.cell? ⟨Cb, 2, none⟩ = some (.int .i64 d) := (blk_cell HC21.out 2).trans rfl
  have cf3_25 : w21.cell? ⟨Cb, 3, none⟩ = some (.int .i64 h) := (blk_cell HC21.out 3).trans rfl
  have cf4_26 : w21.cell? ⟨Cb, 4, none⟩ = some (.int .i64 n) := (blk_cell HC21.out 4).trans rfl
  have cf5_27 : w21.cell? ⟨Cb, 5, none⟩ = some (.string ⟨#[]⟩) := (blk_cell HC21.out 5).trans rfl
  have rc0 := (blk_cell (ref_res HW21.out) 0).trans rfl
  have rf0 := blk_frozen (ref_res HW21.out) 0
  have rc1 := (blk_cell (ref_res HW21.out) 1).trans rfl
  have rf1 := blk_frozen (ref_res HW21.out) 1
  have rc2 := (blk_cell (ref_res HW21.out) 2).trans rfl
  have rf2 := blk_frozen (ref_res HW21.out) 2
  have rc3 := (blk_cell (ref_res HW21.out) 3).trans rfl
  have rf3 := blk_frozen (ref_res HW21.out) 3
  have rc4 := (blk_cell (ref_res HW21.out) 4).trans rfl
  have rf4 := blk_frozen (ref_res HW21.out) 4
  have rc5 := (blk_cell (ref_res HW21.out) 5).trans rfl
  have rf5 := blk_frozen (ref_res HW21.out) 5
  go_wp2
  refine bodyPost_ret (results_ct rfl _ _ w.heap.size 23 #[.int .i64 u, .int .i64 q, .int .i64 d, .int .i64 h, .int .i64 n, .string ⟨#[]⟩] (0, 0) _ rfl (ref_put6 (ref_res HW21.out) rfl _ _ _ _ _ _) Try.underlying23 rfl (by kernel_rfl)) rfl ?_
  exact ⟨rfl, ref_set6 (ref_below HW21.out) _ _ _ _ _ _⟩
set_option maxHeartbeats 4000000 in
set_option maxRecDepth 100000 in
theorem rg_K_3_n1_t1_l (k : Nat) (w : World) (A0 : Option Addr) (c0 : Nat) (b : List Int) (hV0 : Kd.F (Kd.int .u8) (refW w) (fun k_ => k_ < w.heap.size) A0 b.length b) (hc0 : b.length ≤ c0) (d : Int) (y1 : List Int) (h0 : colloquyref04_numbers.f k b 1 = some ([d], y1, 0)) (p1 : decide (d ≥ 8) = false) (p2 : (d != 0) = true) (u q h : Int) (y2 : List Int) (h3 : colloquyref04_numbers.f k y1 3 = some ([u, q, h], y2, 0)) (hnum : colloquyref04_numbered.f d = some true) (n : Int) (y3 : List Int) (h4 : colloquyref04_numbers.f k y2 1 = some ([n], y3, 0)) (hwor : colloquyref04_worded.f d = some true) (m : Int) (y4 : List Int) (h5 : colloquyref04_numbers.f k y3 1 = some ([m], y4, 0)) (p5 : decide ((y4.length : Int) < m) = false) (m0 : 0 ≤ m) (m1 : m ≤ (y4.length : Int)) (y5 x5 : List Int) (hy5 : y5 = y4.drop m.toNat) (hx5 : x5 = y4.take m.toNat) (ok : Bool) (hmay : colloquyref04_May.f k u q d h n (strOfNums x5) = some ok) (p9 : 0 < y5.length) :
    Calls Try.prog 17 #[.slice A0 b.length c0] w (RGTold w 0 0 0 0 0 ⟨#[]⟩ 2) := by
  have HV0 := Aside0.mk hV0
  have HC0 := Aside0.mk hc0
  clear hV0 hc0
  have H0 := Aside0.mk h0
  clear h0
  have H3 := Aside0.mk h3
  clear h3
  have HNUM := Aside0.mk hnum
  clear hnum
  have H4 := Aside0.mk h4
  clear h4
  have HWOR := Aside0.mk hwor
  clear hwor
  have H5 := Aside0.mk h5
  clear h5
  have HY5 := Aside0.mk hy5
  have HX5 := Aside0.mk hx5
  have HM0 := Aside0.mk m0
  have HM1 := Aside0.mk m1
  clear hy5 hx5 m0 m1
  have HMAY := Aside0.mk hmay
  clear hmay
  go_enter Try.func17, Try.ntmps17
  go_wp2_with fail
  refine (num_told (P := fun k_ => k_ < w.heap.size) (W := refW w) HV0.out HC0.out H0.out (by simp)).mono ?_
  rintro x w1 ⟨g1, cc1, A1, c1, rfl, hx1, hg1, hl1, hF1, hb1⟩
  have x10 := hx1 0 _ rfl
  have HW1 := Aside0.mk hb1
  have HL1 := Aside0.mk hl1
  have HF1 := Aside0.mk (Kd.F_bound hF1)
  clear hx1 hg1 hl1 hF1 hb1 HV0 HC0 H0
  simp only [List.length_cons, List.length_nil, Nat.zero_add]
  go_wp2_with fail
  obtain ⟨Cb, hCb⟩ : ∃ n, n = w1.heap.size := ⟨_, rfl⟩
  rw [← hCb]
  have LCb := Aside0.mk (show w.heap.size + 2 ≤ Cb by rw [hCb]; have := HW1.out.size; rw [refW_size] at this; exact this)
  have HW2 := Aside0.mk (below_alloc HW1.out (.cells #[.int .i64 0, .int .i64 0, .int .i64 d, .int .i64 0, .int .i64 0, .string ⟨#[]⟩] 23))
  have HC2 := Aside0.mk (show (w1.alloc (.cells #[.int .i64 0, .int .i64 0, .int .i64 d, .int .i64 0, .int .i64 0, .string ⟨#[]⟩] 23)).heap[Cb]? = some (.cells #[.int .i64 0, .int .i64 0, .int .i64 d, .int .i64 0, .int .i64 0, .string ⟨#[]⟩] 23 (0, 0)) from by rw [hCb]; exact blk_new w1 _)
  have HF2 := Aside0.mk (Kd.F_alloc (Kd.F_mono HF1.out (ok' := (fun k_ => k_ ≠ Cb)) (fun k_ hk => by rw [hCb]; exact Nat.ne_of_lt hk.2)) (.cells #[.int .i64 0, .int .i64 0, .int .i64 d, .int .i64 0, .int .i64 0, .string ⟨#[]⟩] 23))
  clear hCb x10 HW1 HF1
  refine (num_told (P := (fun k_ => k_ ≠ Cb)) HF2.out HL1.out H3.out (by simp)).mono ?_
  rintro x w3 ⟨g3, cc3, A3, c3, rfl, hx, hg, hl, hF, hb⟩
  have gne3 : g3 ≠ Cb := by have h1 := blk_lt HC2.out; omega
  have gnf3 : Cb ≠ g3 := fun e => gne3 e.symm
  have HW3 := Aside0.mk (below_then HW2.out HW2.out.size hb)
  have HC3 := Aside0.mk (blk_below HC2.out hb)
  have HL3 := Aside0.mk hl
  have HF3 := Aside0.mk (Kd.F_mono hF (ok' := (fun k_ => k_ ≠ Cb)) (fun k_ hk => by have h1 := blk_lt HC2.out; rcases hk with hk | hk; exact hk; omega))
  have x30 := hx 0 _ rfl
  have x31 := cell_at (hx 1 _ rfl) (u := .int .i64 u) (i := 0) gne3
  have x32 := cell_at (cell_at (hx 2 _ rfl) (u := .int .i64 u) (i := 0) gne3) (u := .int .i64 q) (i := 1) gne3
  clear hx hg hl hF hb HW2 HC2 HF2 HL1 H3
  simp only [List.length_cons, List.length_nil, Nat.zero_add, Nat.reduceAdd]
  have cf0_4 : w3.cell? ⟨Cb, 0, none⟩ = some (.int .i64 0) := (blk_cell HC3.out 0).trans rfl
  have zf0_4 := blk_frozen HC3.out 0
  have cf1_5 : w3.cell? ⟨Cb, 1, none⟩ = some (.int .i64 0) := (blk_cell HC3.out 1).trans rfl
  have zf1_5 := blk_frozen HC3.out 1
  have cf2_6 : w3.cell? ⟨Cb, 2, none⟩ = some (.int .i64 d) := (blk_cell HC3.out 2).trans rfl
  have zf2_6 := blk_frozen HC3.out 2
  have cf3_7 : w3.cell? ⟨Cb, 3, none⟩ = some (.int .i64 0) := (blk_cell HC3.out 3).trans rfl
  have zf3_7 := blk_frozen HC3.out 3
  go_wp2_with fail
  have HW8q := Aside0.mk (below_set (j := 3) (v := .int .i64 h) (below_set (j := 1) (v := .int .i64 q) (below_set (j := 0) (v := .int .i64 u) (HW3.out) (by have := LCb.out; rw [refW_size]; omega)) (by have := LCb.out; rw [refW_size]; omega)) (by have := LCb.out; rw [refW_size]; omega))
  have HC8q := Aside0.mk (blk_put (blk_put (blk_put (HC3.out) 0 (.int .i64 u) rfl) 1 (.int .i64 q) rfl) 3 (.int .i64 h) rfl)
  have HF8q := Aside0.mk (Kd.F_far (Kd.F_far (Kd.F_far (HF3.out) (p := ⟨Cb, 0, none⟩) (fun _ hk => hk) (.int .i64 u)) (p := ⟨Cb, 1, none⟩) (fun _ hk => hk) (.int .i64 q)) (p := ⟨Cb, 3, none⟩) (fun _ hk => hk) (.int .i64 h))
  refine (colloquyref04_numbered.calls _ _ _ HNUM.out).mono ?_
  rintro x w9 ⟨rfl, hD⟩
  have HW9 := Aside0.mk (below_then HW8q.out HW8q.out.size hD.below)
  have HC9 := Aside0.mk (blk_below HC8q.out hD.below)
  have HF9 := Aside0.mk (Kd.F_below HF8q.out hD.below)
  clear hD HW8q HC8q HF8q HNUM
  go_wp2_with fail
  refine (num_told (P := (fun k_ => k_ ≠ Cb)) HF9.out HL3.out H4.out (by simp)).mono ?_
  rintro x w10 ⟨g10, cc10, A10, c10, rfl, hx, hg, hl, hF, hb⟩
  have gne10 : g10 ≠ Cb := by have h1 := blk_lt HC9.out; omega
  have gnf10 : Cb ≠ g10 := fun e => gne10 e.symm
  have HW10 := Aside0.mk (below_then HW9.out HW9.out.size hb)
  have HC10 := Aside0.mk (blk_below HC9.out hb)
  have HL10 := Aside0.mk hl
  have HF10 := Aside0.mk (Kd.F_mono hF (ok' := (fun k_ => k_ ≠ Cb)) (fun k_ hk => by have h1 := blk_lt HC9.out; rcases hk with hk | hk; exact hk; omega))
  have x100 := hx 0 _ rfl
  clear hx hg hl hF hb HW9 HC9 HF9 HL3 H4
  simp only [List.length_cons, List.length_nil, Nat.zero_add, Nat.reduceAdd]
  have cf2_11 : w10.cell? ⟨Cb, 2, none⟩ = some (.int .i64 d) := (blk_cell HC10.out 2).trans rfl
  have zf2_11 := blk_frozen HC10.out 2
  have cf4_12 : w10.cell? ⟨Cb, 4, none⟩ = some (.int .i64 0) := (blk_cell HC10.out 4).trans rfl
  have zf4_12 := blk_frozen HC10.out 4
  go_wp2_with fail
  have HW13q := Aside0.mk (below_set (j := 4) (v := .int .i64 n) (HW10.out) (by have := LCb.out; rw [refW_size]; omega))
  have HC13q := Aside0.mk (blk_put (HC10.out) 4 (.int .i64 n) rfl)
  have HF13q := Aside0.mk (Kd.F_far (HF10.out) (p := ⟨Cb, 4, none⟩) (fun _ hk => hk) (.int .i64 n))
  refine (colloquyref04_worded.calls _ _ _ HWOR.out).mono ?_
  rintro x w14 ⟨rfl, hD⟩
  have HW14 := Aside0.mk (below_then HW13q.out HW13q.out.size hD.below)
  have HC14 := Aside0.mk (blk_below HC13q.out hD.below)
  have HF14 := Aside0.mk (Kd.F_below HF13q.out hD.below)
  clear hD HW13q HC13q HF13q HWOR
  go_wp2_with fail
  refine (num_told (P := (fun k_ => k_ ≠ Cb)) HF14.out HL10.out H5.out (by simp)).mono ?_
  rintro x w15 ⟨g15, cc15, A15, c15, rfl, hx, hg, hl, hF, hb⟩
  have gne15 : g15 ≠ Cb := by have h1 := blk_lt HC14.out; omega
  have gnf15 : Cb ≠ g15 := fun e => gne15 e.symm
  have HW15 := Aside0.mk (below_then HW14.out HW14.out.size hb)
  have HC15 := Aside0.mk (blk_below HC14.out hb)
  have HL15 := Aside0.mk hl
  have HF15 := Aside0.mk (Kd.F_mono hF (ok' := (fun k_ => k_ ≠ Cb)) (fun k_ hk => by have h1 := blk_lt HC14.out; rcases hk with hk | hk; exact hk; omega))
  have x150 := hx 0 _ rfl
  clear hx hg hl hF hb HW14 HC14 HF14 HL10 H5
  simp only [List.length_cons, List.length_nil, Nat.zero_add, Nat.reduceAdd]
  have cf0_16 : w15.cell? ⟨Cb, 0, none⟩ = some (.int .i64 u) := (blk_cell HC15.out 0).trans rfl
  have zf0_16 := blk_frozen HC15.out 0
  have cf1_17 : w15.cell? ⟨Cb, 1, none⟩ = some (.int .i64 q) := (blk_cell HC15.out 1).trans rfl
  have zf1_17 := blk_frozen HC15.out 1
  have cf2_18 : w15.cell? ⟨Cb, 2, none⟩ = some (.int .i64 d) := (blk_cell HC15.out 2).trans rfl
  have zf2_18 := blk_frozen HC15.out 2
  have cf3_19 : w15.cell? ⟨Cb, 3, none⟩ = some (.int .i64 h) := (blk_cell HC15.out 3).trans rfl
  have zf3_19 := blk_frozen HC15.out 3
  have cf4_20 : w15.cell? ⟨Cb, 4, none⟩ = some (.int .i64 n) := (blk_cell HC15.out 4).trans rfl
  have zf4_20 := blk_frozen HC15.out 4
  have cf5_21 : w15.cell? ⟨Cb, 5, none⟩ = some (.string ⟨#[]⟩) := (blk_cell HC15.out 5).trans rfl
  have zf5_21 := blk_frozen HC15.out 5
  obtain ⟨i0, hi0, _, hsz, _⟩ := info_parts info5
  have hm0 := HM0.out
  have hm1 := HM1.out
  have hcut := cut_from (P := Try.prog) 26 5 .i64 Try.underlying26 hi0 1 hsz A15 y4.length c15 m hm0 hm1
  have hcut2 := cut_to (P := Try.prog) 26 5 .i64 Try.underlying26 hi0 A15 y4.length c15 m hm0 hm1 HL15.out
  have hat : m.toNat ≤ y4.length := by omega
  have hr := Kd.F_cut (m := m.toNat) (c := c15) HF15.out hat HL15.out
  have ht := Kd.C_take (m := m.toNat) (Kd.F_now HF15.out) hat
  have hyl : y5.length = y4.length - m.toNat := by rw [HY5.out, List.length_drop]
  have hxl : x5.length = m.toNat := by rw [HX5.out, List.length_take]; omega
  rw [← HY5.out] at hr
  rw [← HX5.out, hxl] at ht
  have hcv := Kd.C_string (P := Try.prog) Try.underlying26 Try.underlying5 Try.underlying9 (c := c15) ht
  obtain ⟨A9, hA9⟩ : ∃ A1, A1 = (if c15 = m.toNat then A15 else (A15 : Option Addr).map (·.add (m.toNat * 1))) := ⟨_, rfl⟩
  obtain ⟨c9, hc9⟩ : ∃ c1, c1 = c15 - m.toNat := ⟨_, rfl⟩
  replace hr : Kd.F (Kd.int .u8) w15 (fun k_ => k_ ≠ Cb) A9 y5.length y5 := by rw [hA9]; exact hr
  rw [← hyl, ← hA9, ← hc9] at hcut
  have HL9 := Aside0.mk (show y5.length ≤ c9 from by rw [hyl, hc9]; exact Nat.sub_le_sub_right HL15.out _)
  have HF9 := Aside0.mk hr
  clear hr ht hyl hxl hA9 hc9 hat hi0 hsz hm0 hm1 HM0 HM1 HY5 HX5 HF15
  go_wp2_with fail
  have HW22q := Aside0.mk (below_set (j := 5) (v := .string (strOfNums x5)) (HW15.out) (by have := LCb.out; rw [refW_size]; omega))
  have HC22q := Aside0.mk (blk_put (HC15.out) 5 (.string (strOfNums x5)) rfl)
  have HF22q := Aside0.mk (Kd.F_far (HF9.out) (p := ⟨Cb, 5, none⟩) (fun _ hk => hk) (.string (strOfNums x5)))
  refine (colloquyref04_May.calls k _ _ _ _ _ _ _ _ HMAY.out).mono ?_
  rintro x w23 ⟨rfl, hb⟩
  have HW23 := Aside0.mk (below_then HW22q.out HW22q.out.size hb)
  have HC23 := Aside0.mk (blk_below HC22q.out hb)
  clear hb HW22q HC22q HMAY
  obtain ⟨nc0, rc0, rf0, nc1, rc1, rf1, nc2, rc2, rf2, nc3, rc3, rf3, nc4, rc4, rf4, nc5, rc5, rf5⟩ := ref_facts HW23.out
  have nrn : w.heap.size ≠ w.heap.size + 1 := by omega
  have nrc : w.heap.size ≠ Cb := by have := LCb.out; omega
  have nnc : w.heap.size + 1 ≠ Cb := by have := LCb.out; omega
  have lcb : w.heap.size ≤ Cb := by have := LCb.out; omega
  clear LCb
  go_wp2
  refine bodyPost_ret (results_ct rfl _ _ w.heap.size 23 #[.int .i64 0, .int .i64 0, .int .i64 0, .int .i64 0, .int .i64 0, .string ⟨#[]⟩] (0, 0) _ rfl (ref_put6 (ref_res HW23.out) rfl _ _ _ _ _ _) Try.underlying23 rfl (by kernel_rfl)) rfl ?_
  exact ⟨rfl, ref_set6 (ref_below HW23.out) _ _ _ _ _ _⟩
set_option maxHeartbeats 4000000 in
set_option maxRecDepth 100000 in
theorem rg_K_3_n1_t1_b (k : Nat) (w : World) (A0 : Option Addr) (c0 : Nat) (b : List Int) (hV0 : Kd.F (Kd.int .u8) (refW w) (fun k_ => k_ < w.heap.size) A0 b.length b) (hc0 : b.length ≤ c0) (d : Int) (y1 : List Int) (h0 : colloquyref04_numbers.f k b 1 = some ([d], y1, 0)) (p1 : decide (d ≥ 8) = false) (p2 : (d != 0) = true) (u q h : Int) (y2 : List Int) (h3 : colloquyref04_numbers.f k y1 3 = some ([u, q, h], y2, 0)) (hnum : colloquyref04_numbered.f d = some true) (n : Int) (y3 : List Int) (h4 : colloquyref04_numbers.f k y2 1 = some ([n], y3, 0)) (hwor : colloquyref04_worded.f d = some true) (m : Int) (y4 : List Int) (h5 : colloquyref04_numbers.f k y3 1 = some ([m], y4, 0)) (p5 : decide ((y4.length : Int) < m) = false) (m0 : 0 ≤ m) (m1 : m ≤ (y4.length : Int)) (y5 x5 : List Int) (hy5 : y5 = y4.drop m.toNat) (hx5 : x5 = y4.take m.toNat) (ok : Bool) (hmay : colloquyref04_May.f k u q d h n (strOfNums x5) = some ok) (p9 : ¬ 0 < y5.length) (hok : ok = false) :
    Calls Try.prog 17 #[.slice A0 b.length c0] w (RGTold w 0 0 0 0 0 ⟨#[]⟩ 2) := by
  have HV0 := Aside0.mk hV0
  have HC0 := Aside0.mk hc0
  clear hV0 hc0
  have H0 := Aside0.mk h0
  clear h0
  have H3 := Aside0.mk h3
  clear h3
  have HNUM := Aside0.mk hnum
  clear hnum
  have H4 := Aside0.mk h4
  clear h4
  have HWOR := Aside0.mk hwor
  clear hwor
  have H5 := Aside0.mk h5
  clear h5
  have HY5 := Aside0.mk hy5
  have HX5 := Aside0.mk hx5
  have HM0 := Aside0.mk m0
  have HM1 := Aside0.mk m1
  clear hy5 hx5 m0 m1
  have HMAY := Aside0.mk hmay
  clear hmay
  subst hok
  go_enter Try.func17, Try.ntmps17
  go_wp2_with fail
  refine (num_told (P := fun k_ => k_ < w.heap.size) (W := refW w) HV0.out HC0.out H0.out (by simp)).mono ?_
  rintro x w1 ⟨g1, cc1, A1, c1, rfl, hx1, hg1, hl1, hF1, hb1⟩
  have x10 := hx1 0 _ rfl
  have HW1 := Aside0.mk hb1
  have HL1 := Aside0.mk hl1
  have HF1 := Aside0.mk (Kd.F_bound hF1)
  clear hx1 hg1 hl1 hF1 hb1 HV0 HC0 H0
  simp only [List.length_cons, List.length_nil, Nat.zero_add]
  go_wp2_with fail
  obtain ⟨Cb, hCb⟩ : ∃ n, n = w1.heap.size := ⟨_, rfl⟩
  rw [← hCb]
  have LCb := Aside0.mk (show w.heap.size + 2 ≤ Cb by rw [hCb]; have := HW1.out.size; rw [refW_size] at this; exact this)
  have HW2 := Aside0.mk (below_alloc HW1.out (.cells #[.int .i64 0, .int .i64 0, .int .i64 d, .int .i64 0, .int .i64 0, .string ⟨#[]⟩] 23))
  have HC2 := Aside0.mk (show (w1.alloc (.cells #[.int .i64 0, .int .i64 0, .int .i64 d, .int .i64 0, .int .i64 0, .string ⟨#[]⟩] 23)).heap[Cb]? = some (.cells #[.int .i64 0, .int .i64 0, .int .i64 d, .int .i64 0, .int .i64 0, .string ⟨#[]⟩] 23 (0, 0)) from by rw [hCb]; exact blk_new w1 _)
  have HF2 := Aside0.mk (Kd.F_alloc (Kd.F_mono HF1.out (ok' := (fun k_ => k_ ≠ Cb)) (fun k_ hk => by rw [hCb]; exact Nat.ne_of_lt hk.2)) (.cells #[.int .i64 0, .int .i64 0, .int .i64 d, .int .i64 0, .int .i64 0, .string ⟨#[]⟩] 23))
  clear hCb x10 HW1 HF1
  refine (num_told (P := (fun k_ => k_ ≠ Cb)) HF2.out HL1.out H3.out (by simp)).mono ?_
  rintro x w3 ⟨g3, cc3, A3, c3, rfl, hx, hg, hl, hF, hb⟩
  have gne3 : g3 ≠ Cb := by have h1 := blk_lt HC2.out; omega
  have gnf3 : Cb ≠ g3 := fun e => gne3 e.symm
  have HW3 := Aside0.mk (below_then HW2.out HW2.out.size hb)
  have HC3 := Aside0.mk (blk_below HC2.out hb)
  have HL3 := Aside0.mk hl
  have HF3 := Aside0.mk (Kd.F_mono hF (ok' := (fun k_ => k_ ≠ Cb)) (fun k_ hk => by have h1 := blk_lt HC2.out; rcases hk with hk | hk; exact hk; omega))
  have x30 := hx 0 _ rfl
  have x31 := cell_at (hx 1 _ rfl) (u := .int .i64 u) (i := 0) gne3
  have x32 := cell_at (cell_at (hx 2 _ rfl) (u := .int .i64 u) (i := 0) gne3) (u := .int .i64 q) (i := 1) gne3
  clear hx hg hl hF hb HW2 HC2 HF2 HL1 H3
  simp only [List.length_cons, List.length_nil, Nat.zero_add, Nat.reduceAdd]
  have cf0_4 : w3.cell? ⟨Cb, 0, none⟩ = some (.int .i64 0) := (blk_cell HC3.out 0).trans rfl
  have zf0_4 := blk_frozen HC3.out 0
  have cf1_5 : w3.cell? ⟨Cb, 1, none⟩ = some (.int .i64 0) := (blk_cell HC3.out 1).trans rfl
  have zf1_5 := blk_frozen HC3.out 1
  have cf2_6 : w3.cell? ⟨Cb, 2, none⟩ = some (.int .i64 d) := (blk_cell HC3.out 2).trans rfl
  have zf2_6 := blk_frozen HC3.out 2
  have cf3_7 : w3.cell? ⟨Cb, 3, none⟩ = some (.int .i64 0) := (blk_cell HC3.out 3).trans rfl
  have zf3_7 := blk_frozen HC3.out 3
  go_wp2_with fail
  have HW8q := Aside0.mk (below_set (j := 3) (v := .int .i64 h) (below_set (j := 1) (v := .int .i64 q) (below_set (j := 0) (v := .int .i64 u) (HW3.out) (by have := LCb.out; rw [refW_size]; omega)) (by have := LCb.out; rw [refW_size]; omega)) (by have := LCb.out; rw [refW_size]; omega))
  have HC8q := Aside0.mk (blk_put (blk_put (blk_put (HC3.out) 0 (.int .i64 u) rfl) 1 (.int .i64 q) rfl) 3 (.int .i64 h) rfl)
  have HF8q := Aside0.mk (Kd.F_far (Kd.F_far (Kd.F_far (HF3.out) (p := ⟨Cb, 0, none⟩) (fun _ hk => hk) (.int .i64 u)) (p := ⟨Cb, 1, none⟩) (fun _ hk => hk) (.int .i64 q)) (p := ⟨Cb, 3, none⟩) (fun _ hk => hk) (.int .i64 h))
  refine (colloquyref04_numbered.calls _ _ _ HNUM.out).mono ?_
  rintro x w9 ⟨rfl, hD⟩
  have HW9 := Aside0.mk (below_then HW8q.out HW8q.out.size hD.below)
  have HC9 := Aside0.mk (blk_below HC8q.out hD.below)
  have HF9 := Aside0.mk (Kd.F_below HF8q.out hD.below)
  clear hD HW8q HC8q HF8q HNUM
  go_wp2_with fail
  refine (num_told (P := (fun k_ => k_ ≠ Cb)) HF9.out HL3.out H4.out (by simp)).mono ?_
  rintro x w10 ⟨g10, cc10, A10, c10, rfl, hx, hg, hl, hF, hb⟩
  have gne10 : g10 ≠ Cb := by have h1 := blk_lt HC9.out; omega
  have gnf10 : Cb ≠ g10 := fun e => gne10 e.symm
  have HW10 := Aside0.mk (below_then HW9.out HW9.out.size hb)
  have HC10 := Aside0.mk (blk_below HC9.out hb)
  have HL10 := Aside0.mk hl
  have HF10 := Aside0.mk (Kd.F_mono hF (ok' := (fun k_ => k_ ≠ Cb)) (fun k_ hk => by have h1 := blk_lt HC9.out; rcases hk with hk | hk; exact hk; omega))
  have x100 := hx 0 _ rfl
  clear hx hg hl hF hb HW9 HC9 HF9 HL3 H4
  simp only [List.length_cons, List.length_nil, Nat.zero_add, Nat.reduceAdd]
  have cf2_11 : w10.cell? ⟨Cb, 2, none⟩ = some (.int .i64 d) := (blk_cell HC10.out 2).trans rfl
  have zf2_11 := blk_frozen HC10.out 2
  have cf4_12 : w10.cell? ⟨Cb, 4, none⟩ = some (.int .i64 0) := (blk_cell HC10.out 4).trans rfl
  have zf4_12 := blk_frozen HC10.out 4
  go_wp2_with fail
  have HW13q := Aside0.mk (below_set (j := 4) (v := .int .i64 n) (HW10.out) (by have := LCb.out; rw [refW_size]; omega))
  have HC13q := Aside0.mk (blk_put (HC10.out) 4 (.int .i64 n) rfl)
  have HF13q := Aside0.mk (Kd.F_far (HF10.out) (p := ⟨Cb, 4, none⟩) (fun _ hk => hk) (.int .i64 n))
  refine (colloquyref04_worded.calls _ _ _ HWOR.out).mono ?_
  rintro x w14 ⟨rfl, hD⟩
  have HW14 := Aside0.mk (below_then HW13q.out HW13q.out.size hD.below)
  have HC14 := Aside0.mk (blk_below HC13q.out hD.below)
  have HF14 := Aside0.mk (Kd.F_below HF13q.out hD.below)
  clear hD HW13q HC13q HF13q HWOR
  go_wp2_with fail
  refine (num_told (P := (fun k_ => k_ ≠ Cb)) HF14.out HL10.out H5.out (by simp)).mono ?_
  rintro x w15 ⟨g15, cc15, A15, c15, rfl, hx, hg, hl, hF, hb⟩
  have gne15 : g15 ≠ Cb := by have h1 := blk_lt HC14.out; omega
  have gnf15 : Cb ≠ g15 := fun e => gne15 e.symm
  have HW15 := Aside0.mk (below_then HW14.out HW14.out.size hb)
  have HC15 := Aside0.mk (blk_below HC14.out hb)
  have HL15 := Aside0.mk hl
  have HF15 := Aside0.mk (Kd.F_mono hF (ok' := (fun k_ => k_ ≠ Cb)) (fun k_ hk => by have h1 := blk_lt HC14.out; rcases hk with hk | hk; exact hk; omega))
  have x150 := hx 0 _ rfl
  clear hx hg hl hF hb HW14 HC14 HF14 HL10 H5
  simp only [List.length_cons, List.length_nil, Nat.zero_add, Nat.reduceAdd]
  have cf0_16 : w15.cell? ⟨Cb, 0, none⟩ = some (.int .i64 u) := (blk_cell HC15.out 0).trans rfl
  have zf0_16 := blk_frozen HC15.out 0
  have cf1_17 : w15.cell? ⟨Cb, 1, none⟩ = some (.int .i64 q) := (blk_cell HC15.out 1).trans rfl
  have zf1_17 := blk_frozen HC15.out 1
  have cf2_18 : w15.cell? ⟨Cb, 2, none⟩ = some (.int .i64 d) := (blk_cell HC15.out 2).trans rfl
  have zf2_18 := blk_frozen HC15.out 2
  have cf3_19 : w15.cell? ⟨Cb, 3, none⟩ = some (.int .i64 h) := (blk_cell HC15.out 3).trans rfl
  have zf3_19 := blk_frozen HC15.out 3
  have cf4_20 : w15.cell? ⟨Cb, 4, none⟩ = some (.int .i64 n) := (blk_cell HC15.out 4).trans rfl
  have zf4_20 := blk_frozen HC15.out 4
  have cf5_21 : w15.cell? ⟨Cb, 5, none⟩ = some (.string ⟨#[]⟩) := (blk_cell HC15.out 5).trans rfl
  have zf5_21 := blk_frozen HC15.out 5
  obtain ⟨i0, hi0, _, hsz, _⟩ := info_parts info5
  have hm0 := HM0.out
  have hm1 := HM1.out
  have hcut := cut_from (P := Try.prog) 26 5 .i64 Try.underlying26 hi0 1 hsz A15 y4.length c15 m hm0 hm1
  have hcut2 := cut_to (P := Try.prog) 26 5 .i64 Try.underlying26 hi0 A15 y4.length c15 m hm0 hm1 HL15.out
  have hat : m.toNat ≤ y4.length := by omega
  have hr := Kd.F_cut (m := m.toNat) (c := c15) HF15.out hat HL15.out
  have ht := Kd.C_take (m := m.toNat) (Kd.F_now HF15.out) hat
  have hyl : y5.length = y4.length - m.toNat := by rw [HY5.out, List.length_drop]
  have hxl : x5.length = m.toNat := by rw [HX5.out, List.length_take]; omega
  rw [← HY5.out] at hr
  rw [← HX5.out, hxl] at ht
  have hcv := Kd.C_string (P := Try.prog) Try.underlying26 Try.underlying5 Try.underlying9 (c := c15) ht
  obtain ⟨A9, hA9⟩ : ∃ A1, A1 = (if c15 = m.toNat then A15 else (A15 : Option Addr).map (·.add (m.toNat * 1))) := ⟨_, rfl⟩
  obtain ⟨c9, hc9⟩ : ∃ c1, c1 = c15 - m.toNat := ⟨_, rfl⟩
  replace hr : Kd.F (Kd.int .u8) w15 (fun k_ => k_ ≠ Cb) A9 y5.length y5 := by rw [hA9]; exact hr
  rw [← hyl, ← hA9, ← hc9] at hcut
  have HL9 := Aside0.mk (show y5.length ≤ c9 from by rw [hyl, hc9]; exact Nat.sub_le_sub_right HL15.out _)
  have HF9 := Aside0.mk hr
  clear hr ht hyl hxl hA9 hc9 hat hi0 hsz hm0 hm1 HM0 HM1 HY5 HX5 HF15
  go_wp2_with fail
  have HW22q := Aside0.mk (below_set (j := 5) (v := .string (strOfNums x5)) (HW15.out) (by have := LCb.out; rw [refW_size]; omega))
  have HC22q := Aside0.mk (blk_put (HC15.out) 5 (.string (strOfNums x5)) rfl)
  have HF22q := Aside0.mk (Kd.F_far (HF9.out) (p := ⟨Cb, 5, none⟩) (fun _ hk => hk) (.string (strOfNums x5)))
  refine (colloquyref04_May.calls k _ _ _ _ _ _ _ _ HMAY.out).mono ?_
  rintro x w23 ⟨rfl, hb⟩
  have HW23 := Aside0.mk (below_then HW22q.out HW22q.out.size hb)
  have HC23 := Aside0.mk (blk_below HC22q.out hb)
  clear hb HW22q HC22q HMAY
  obtain ⟨nc0, rc0, rf0, nc1, rc1, rf1, nc2, rc2, rf2, nc3, rc3, rf3, nc4, rc4, rf4, nc5, rc5, rf5⟩ := ref_facts HW23.out
  have nrn : w.heap.size ≠ w.heap.size + 1 := by omega
  have nrc : w.heap.size ≠ Cb := by have := LCb.out; omega
  have nnc : w.heap.size + 1 ≠ Cb := by have := LCb.out; omega
  have lcb : w.heap.size ≤ Cb := by have := LCb.out; omega
  clear LCb
  go_wp2
  refine bodyPost_ret (results_ct rfl _ _ w.heap.size 23 #[.int .i64 0, .int .i64 0, .int .i64 0, .int .i64 0, .int .i64 0, .string ⟨#[]⟩] (0, 0) _ rfl (ref_put6 (ref_res HW23.out) rfl _ _ _ _ _ _) Try.underlying23 rfl (by kernel_rfl)) rfl ?_
  exact ⟨rfl, ref_set6 (ref_below HW23.out) _ _ _ _ _ _⟩
set_option maxHeartbeats 4000000 in
set_option maxRecDepth 100000 in
theorem rg_K_3_n1_t1_g (k : Nat) (w : World) (A0 : Option Addr) (c0 : Nat) (b : List Int) (hV0 : Kd.F (Kd.int .u8) (refW w) (fun k_ => k_ < w.heap.size) A0 b.length b) (hc0 : b.length ≤ c0) (d : Int) (y1 : List Int) (h0 : colloquyref04_numbers.f k b 1 = some ([d], y1, 0)) (p1 : decide (d ≥ 8) = false) (p2 : (d != 0) = true) (u q h : Int) (y2 : List Int) (h3 : colloquyref04_numbers.f k y1 3 = some ([u, q, h], y2, 0)) (hnum : colloquyref04_numbered.f d = some true) (n : Int) (y3 : List Int) (h4 : colloquyref04_numbers.f k y2 1 = some ([n], y3, 0)) (hwor : colloquyref04_worded.f d = some true) (m : Int) (y4 : List Int) (h5 : colloquyref04_numbers.f k y3 1 = some ([m], y4, 0)) (p5 : decide ((y4.length : Int) < m) = false) (m0 : 0 ≤ m) (m1 : m ≤ (y4.length : Int)) (y5 x5 : List Int) (hy5 : y5 = y4.drop m.toNat) (hx5 : x5 = y4.take m.toNat) (ok : Bool) (hmay : colloquyref04_May.f k u q d h n (strOfNums x5) = some ok) (p9 : ¬ 0 < y5.length) (hok : ok = true) :
    Calls Try.prog 17 #[.slice A0 b.length c0] w (RGTold w u q d h n (strOfNums x5) 0) := by
  have HV0 := Aside0.mk hV0
  have HC0 := Aside0.mk hc0
  clear hV0 hc0
  have H0 := Aside0.mk h0
  clear h0
  have H3 := Aside0.mk h3
  clear h3
  have HNUM := Aside0.mk hnum
  clear hnum
  have H4 := Aside0.mk h4
  clear h4
  have HWOR := Aside0.mk hwor
  clear hwor
  have H5 := Aside0.mk h5
  clear h5
  have HY5 := Aside0.mk hy5
  have HX5 := Aside0.mk hx5
  have HM0 := Aside0.mk m0
  have HM1 := Aside0.mk m1
  clear hy5 hx5 m0 m1
  have HMAY := Aside0.mk hmay
  clear hmay
  subst hok
  go_enter Try.func17, Try.ntmps17
  go_wp2_with fail
  refine (num_told (P := fun k_ => k_ < w.heap.size) (W := refW w) HV0.out HC0.out H0.out (by simp)).mono ?_
  rintro x w1 ⟨g1, cc1, A1, c1, rfl, hx1, hg1, hl1, hF1, hb1⟩
  have x10 := hx1 0 _ rfl
  have HW1 := Aside0.mk hb1
  have HL1 := Aside0.mk hl1
  have HF1 := Aside0.mk (Kd.F_bound hF1)
  clear hx1 hg1 hl1 hF1 hb1 HV0 HC0 H0
  simp only [List.length_cons, List.length_nil, Nat.zero_add]
  go_wp2_with fail
  obtain ⟨Cb, hCb⟩ : ∃ n, n = w1.heap.size := ⟨_, rfl⟩
  rw [← hCb]
  have LCb := Aside0.mk (show w.heap.size + 2 ≤ Cb by rw [hCb]; have := HW1.out.size; rw [refW_size] at this; exact this)
  have HW2 := Aside0.mk (below_alloc HW1.out (.cells #[.int .i64 0, .int .i64 0, .int .i64 d, .int .i64 0, .int .i64 0, .string ⟨#[]⟩] 23))
  have HC2 := Aside0.mk (show (w1.alloc (.cells #[.int .i64 0, .int .i64 0, .int .i64 d, .int .i64 0, .int .i64 0, .string ⟨#[]⟩] 23)).heap[Cb]? = some (.cells #[.int .i64 0, .int .i64 0, .int .i64 d, .int .i64 0, .int .i64 0, .string ⟨#[]⟩] 23 (0, 0)) from by rw [hCb]; exact blk_new w1 _)
  have HF2 := Aside0.mk (Kd.F_alloc (Kd.F_mono HF1.out (ok' := (fun k_ => k_ ≠ Cb)) (fun k_ hk => by rw [hCb]; exact Nat.ne_of_lt hk.2)) (.cells #[.int .i64 0, .int .i64 0, .int .i64 d, .int .i64 0, .int .i64 0, .string ⟨#[]⟩] 23))
  clear hCb x10 HW1 HF1
  refine (num_told (P := (fun k_ => k_ ≠ Cb)) HF2.out HL1.out H3.out (by simp)).mono ?_
  rintro x w3 ⟨g3, cc3, A3, c3, rfl, hx, hg, hl, hF, hb⟩
  have gne3 : g3 ≠ Cb := by have h1 := blk_lt HC2.out; omega
  have gnf3 : Cb ≠ g3 := fun e => gne3 e.symm
  have HW3 := Aside0.mk (below_then HW2.out HW2.out.size hb)
  have HC3 := Aside0.mk (blk_below HC2.out hb)
  have HL3 := Aside0.mk hl
  have HF3 := Aside0.mk (Kd.F_mono hF (ok' := (fun k_ => k_ ≠ Cb)) (fun k_ hk => by have h1 := blk_lt HC2.out; rcases hk with hk | hk; exact hk; omega))
  have x30 := hx 0 _ rfl
  have x31 := cell_at (hx 1 _ rfl) (u := .int .i64 u) (i := 0) gne3
  have x32 := cell_at (cell_at (hx 2 _ rfl) (u := .int .i64 u) (i := 0) gne3) (u := .int .i64 q) (i := 1) gne3
  clear hx hg hl hF hb HW2 HC2 HF2 HL1 H3
  simp only [List.length_cons, List.length_nil, Nat.zero_add, Nat.reduceAdd]
  have cf0_4 : w3.cell? ⟨Cb, 0, none⟩ = some (.int .i64 0) := (blk_cell HC3.out 0).trans rfl
  have zf0_4 := blk_frozen HC3.out 0
  have cf1_5 : w3.cell? ⟨Cb, 1, none⟩ = some (.int .i64 0) := (blk_cell HC3.out 1).trans rfl
  have zf1_5 := blk_frozen HC3.out 1
  have cf2_6 : w3.cell? ⟨Cb, 2, none⟩ = some (.int .i64 d) := (blk_cell HC3.out 2).trans rfl
  have zf2_6 := blk_frozen HC3.out 2
  have cf3_7 : w3.cell? ⟨Cb, 3, none⟩ = some (.int .i64 0) := (blk_cell HC3.out 3).trans rfl
  have zf3_7 := blk_frozen HC3.out 3
  go_wp2_with fail
  have HW8q := Aside0.mk (below_set (j := 3) (v := .int .i64 h) (below_set (j := 1) (v := .int .i64 q) (below_set (j := 0) (v := .int .i64 u) (HW3.out) (by have := LCb.out; rw [refW_size]; omega)) (by have := LCb.out; rw [refW_size]; omega)) (by have := LCb.out; rw [refW_size]; omega))
  have HC8q := Aside0.mk (blk_put (blk_put (blk_put (HC3.out) 0 (.int .i64 u) rfl) 1 (.int .i64 q) rfl) 3 (.int .i64 h) rfl)
  have HF8q := Aside0.mk (Kd.F_far (Kd.F_far (Kd.F_far (HF3.out) (p := ⟨Cb, 0, none⟩) (fun _ hk => hk) (.int .i64 u)) (p := ⟨Cb, 1, none⟩) (fun _ hk => hk) (.int .i64 q)) (p := ⟨Cb, 3, none⟩) (fun _ hk => hk) (.int .i64 h))
  refine (colloquyref04_numbered.calls _ _ _ HNUM.out).mono ?_
  rintro x w9 ⟨rfl, hD⟩
  have HW9 := Aside0.mk (below_then HW8q.out HW8q.out.size hD.below)
  have HC9 := Aside0.mk (blk_below HC8q.out hD.below)
  have HF9 := Aside0.mk (Kd.F_below HF8q.out hD.below)
  clear hD HW8q HC8q HF8q HNUM
  go_wp2_with fail
  refine (num_told (P := (fun k_ => k_ ≠ Cb)) HF9.out HL3.out H4.out (by simp)).mono ?_
  rintro x w10 ⟨g10, cc10, A10, c10, rfl, hx, hg, hl, hF, hb⟩
  have gne10 : g10 ≠ Cb := by have h1 := blk_lt HC9.out; omega
  have gnf10 : Cb ≠ g10 := fun e => gne10 e.symm
  have HW10 := Aside0.mk (below_then HW9.out HW9.out.size hb)
  have HC10 := Aside0.mk (blk_below HC9.out hb)
  have HL10 := Aside0.mk hl
  have HF10 := Aside0.mk (Kd.F_mono hF (ok' := (fun k_ => k_ ≠ Cb)) (fun k_ hk => by have h1 := blk_lt HC9.out; rcases hk with hk | hk; exact hk; omega))
  have x100 := hx 0 _ rfl
  clear hx hg hl hF hb HW9 HC9 HF9 HL3 H4
  simp only [List.length_cons, List.length_nil, Nat.zero_add, Nat.reduceAdd]
  have cf2_11 : w10.cell? ⟨Cb, 2, none⟩ = some (.int .i64 d) := (blk_cell HC10.out 2).trans rfl
  have zf2_11 := blk_frozen HC10.out 2
  have cf4_12 : w10.cell? ⟨Cb, 4, none⟩ = some (.int .i64 0) := (blk_cell HC10.out 4).trans rfl
  have zf4_12 := blk_frozen HC10.out 4
  go_wp2_with fail
  have HW13q := Aside0.mk (below_set (j := 4) (v := .int .i64 n) (HW10.out) (by have := LCb.out; rw [refW_size]; omega))
  have HC13q := Aside0.mk (blk_put (HC10.out) 4 (.int .i64 n) rfl)
  have HF13q := Aside0.mk (Kd.F_far (HF10.out) (p := ⟨Cb, 4, none⟩) (fun _ hk => hk) (.int .i64 n))
  refine (colloquyref04_worded.calls _ _ _ HWOR.out).mono ?_
  rintro x w14 ⟨rfl, hD⟩
  have HW14 := Aside0.mk (below_then HW13q.out HW13q.out.size hD.below)
  have HC14 := Aside0.mk (blk_below HC13q.out hD.below)
  have HF14 := Aside0.mk (Kd.F_below HF13q.out hD.below)
  clear hD HW13q HC13q HF13q HWOR
  go_wp2_with fail
  refine (num_told (P := (fun k_ => k_ ≠ Cb)) HF14.out HL10.out H5.out (by simp)).mono ?_
  rintro x w15 ⟨g15, cc15, A15, c15, rfl, hx, hg, hl, hF, hb⟩
  have gne15 : g15 ≠ Cb := by have h1 := blk_lt HC14.out; omega
  have gnf15 : Cb ≠ g15 := fun e => gne15 e.symm
  have HW15 := Aside0.mk (below_then HW14.out HW14.out.size hb)
  have HC15 := Aside0.mk (blk_below HC14.out hb)
  have HL15 := Aside0.mk hl
  have HF15 := Aside0.mk (Kd.F_mono hF (ok' := (fun k_ => k_ ≠ Cb)) (fun k_ hk => by have h1 := blk_lt HC14.out; rcases hk with hk | hk; exact hk; omega))
  have x150 := hx 0 _ rfl
  clear hx hg hl hF hb HW14 HC14 HF14 HL10 H5
  simp only [List.length_cons, List.length_nil, Nat.zero_add, Nat.reduceAdd]
  have cf0_16 : w15.cell? ⟨Cb, 0, none⟩ = some (.int .i64 u) := (blk_cell HC15.out 0).trans rfl
  have zf0_16 := blk_frozen HC15.out 0
  have cf1_17 : w15.cell? ⟨Cb, 1, none⟩ = some (.int .i64 q) := (blk_cell HC15.out 1).trans rfl
  have zf1_17 := blk_frozen HC15.out 1
  have cf2_18 : w15.cell? ⟨Cb, 2, none⟩ = some (.int .i64 d) := (blk_cell HC15.out 2).trans rfl
  have zf2_18 := blk_frozen HC15.out 2
  have cf3_19 : w15.cell? ⟨Cb, 3, none⟩ = some (.int .i64 h) := (blk_cell HC15.out 3).trans rfl
  have zf3_19 := blk_frozen HC15.out 3
  have cf4_20 : w15.cell? ⟨Cb, 4, none⟩ = some (.int .i64 n) := (blk_cell HC15.out 4).trans rfl
  have zf4_20 := blk_frozen HC15.out 4
  have cf5_21 : w15.cell? ⟨Cb, 5, none⟩ = some (.string ⟨#[]⟩) := (blk_cell HC15.out 5).trans rfl
  have zf5_21 := blk_frozen HC15.out 5
  obtain ⟨i0, hi0, _, hsz, _⟩ := info_parts info5
  have hm0 := HM0.out
  have hm1 := HM1.out
  have hcut := cut_from (P := Try.prog) 26 5 .i64 Try.underlying26 hi0 1 hsz A15 y4.length c15 m hm0 hm1
  have hcut2 := cut_to (P := Try.prog) 26 5 .i64 Try.underlying26 hi0 A15 y4.length c15 m hm0 hm1 HL15.out
  have hat : m.toNat ≤ y4.length := by omega
  have hr := Kd.F_cut (m := m.toNat) (c := c15) HF15.out hat HL15.out
  have ht := Kd.C_take (m := m.toNat) (Kd.F_now HF15.out) hat
  have hyl : y5.length = y4.length - m.toNat := by rw [HY5.out, List.length_drop]
  have hxl : x5.length = m.toNat := by rw [HX5.out, List.length_take]; omega
  rw [← HY5.out] at hr
  rw [← HX5.out, hxl] at ht
  have hcv := Kd.C_string (P := Try.prog) Try.underlying26 Try.underlying5 Try.underlying9 (c := c15) ht
  obtain ⟨A9, hA9⟩ : ∃ A1, A1 = (if c15 = m.toNat then A15 else (A15 : Option Addr).map (·.add (m.toNat * 1))) := ⟨_, rfl⟩
  obtain ⟨c9, hc9⟩ : ∃ c1, c1 = c15 - m.toNat := ⟨_, rfl⟩
  replace hr : Kd.F (Kd.int .u8) w15 (fun k_ => k_ ≠ Cb) A9 y5.length y5 := by rw [hA9]; exact hr
  rw [← hyl, ← hA9, ← hc9] at hcut
  have HL9 := Aside0.mk (show y5.length ≤ c9 from by rw [hyl, hc9]; exact Nat.sub_le_sub_right HL15.out _)
  have HF9 := Aside0.mk hr
  clear hr ht hyl hxl hA9 hc9 hat hi0 hsz hm0 hm1 HM0 HM1 HY5 HX5 HF15
  go_wp2_with fail
  have HW22q := Aside0.mk (below_set (j := 5) (v := .string (strOfNums x5)) (HW15.out) (by have := LCb.out; rw [refW_size]; omega))
  have HC22q := Aside0.mk (blk_put (HC15.out) 5 (.string (strOfNums x5)) rfl)
  have HF22q := Aside0.mk (Kd.F_far (HF9.out) (p := ⟨Cb, 5, none⟩) (fun _ hk => hk) (.string (strOfNums x5)))
  refine (colloquyref04_May.calls k _ _ _ _ _ _ _ _ HMAY.out).mono ?_
  rintro x w23 ⟨rfl, hb⟩
  have HW23 := Aside0.mk (below_then HW22q.out HW22q.out.size hb)
  have HC23 := Aside0.mk (blk_below HC22q.out hb)
  clear hb HW22q HC22q HMAY
  have cf0_24 : w23.cell? ⟨Cb, 0, none⟩ = some (.int .i64 u) := (blk_cell HC23.out 0).trans rfl
  have cf1_25 : w23.cell? ⟨Cb, 1, none⟩ = some (.int .i64 q) := (blk_cell HC23.out 1).trans rfl
  have cf2_26 : w23.cell? ⟨Cb, 2, none⟩ = some (.int .i64 d) := (blk_cell HC23.out 2).trans rfl
  have cf3_27 : w23.cell? ⟨Cb, 3, none⟩ = some (.int .i64 h) := (blk_cell HC23.out 3).trans rfl
  have cf4_28 : w23.cell? ⟨Cb, 4, none⟩ = some (.int .i64 n) := (blk_cell HC23.out 4).trans rfl
  have cf5_29 : w23.cell? ⟨Cb, 5, none⟩ = some (.string (strOfNums x5)) := (blk_cell HC23.out 5).trans rfl
  have rc0 := (blk_cell (ref_res HW23.out) 0).trans rfl
  have rf0 := blk_frozen (ref_res HW23.out) 0
  have rc1 := (blk_cell (ref_res HW23.out) 1).trans rfl
  have rf1 := blk_frozen (ref_res HW23.out) 1
  have rc2 := (blk_cell (ref_res HW23.out) 2).trans rfl
  have rf2 := blk_frozen (ref_res HW23.out) 2
  have rc3 := (blk_cell (ref_res HW23.out) 3).trans rfl
  have rf3 := blk_frozen (ref_res HW23.out) 3
  have rc4 := (blk_cell (ref_res HW23.out) 4).trans rfl
  have rf4 := blk_frozen (ref_res HW23.out) 4
  have rc5 := (blk_cell (ref_res HW23.out) 5).trans rfl
  have rf5 := blk_frozen (ref_res HW23.out) 5
  go_wp2
  refine bodyPost_ret (results_ct rfl _ _ w.heap.size 23 #[.int .i64 u, .int .i64 q, .int .i64 d, .int .i64 h, .int .i64 n, .string (strOfNums x5)] (0, 0) _ rfl (ref_put6 (ref_res HW23.out) rfl _ _ _ _ _ _) Try.underlying23 rfl (by kernel_rfl)) rfl ?_
  exact ⟨rfl, ref_set6 (ref_below HW23.out) _ _ _ _ _ _⟩
set_option maxHeartbeats 4000000 in
set_option maxRecDepth 100000 in
theorem rg_K_3_n1_te (k : Nat) (w : World) (A0 : Option Addr) (c0 : Nat) (b : List Int) (hV0 : Kd.F (Kd.int .u8) (refW w) (fun k_ => k_ < w.heap.size) A0 b.length b) (hc0 : b.length ≤ c0) (d : Int) (y1 : List Int) (h0 : colloquyref04_numbers.f k b 1 = some ([d], y1, 0)) (p1 : decide (d ≥ 8) = false) (p2 : (d != 0) = true) (u q h : Int) (y2 : List Int) (h3 : colloquyref04_numbers.f k y1 3 = some ([u, q, h], y2, 0)) (hnum : colloquyref04_numbered.f d = some true) (n : Int) (y3 : List Int) (h4 : colloquyref04_numbers.f k y2 1 = some ([n], y3, 0)) (hwor : colloquyref04_worded.f d = some true) (r1 r2 : List Int) (e : Int) (h5 : colloquyref04_numbers.f k y3 1 = some (r1, r2, e)) (he : (e != 0) = true) :
    Calls Try.prog 17 #[.slice A0 b.length c0] w (RGTold w 0 0 0 0 0 ⟨#[]⟩ e) := by
  have HV0 := Aside0.mk hV0
  have HC0 := Aside0.mk hc0
  clear hV0 hc0
  have H0 := Aside0.mk h0
  clear h0
  have H3 := Aside0.mk h3
  clear h3
  have HNUM := Aside0.mk hnum
  clear hnum
  have H4 := Aside0.mk h4
  clear h4
  have HWOR := Aside0.mk hwor
  clear hwor
  have H5 := Aside0.mk h5
  clear h5
  go_enter Try.func17, Try.ntmps17
  go_wp2_with fail
  refine (num_told (P := fun k_ => k_ < w.heap.size) (W := refW w) HV0.out HC0.out H0.out (by simp)).mono ?_
  rintro x w1 ⟨g1, cc1, A1, c1, rfl, hx1, hg1, hl1, hF1, hb1⟩
  have x10 := hx1 0 _ rfl
  have HW1 := Aside0.mk hb1
  have HL1 := Aside0.mk hl1
  have HF1 := Aside0.mk (Kd.F_bound hF1)
  clear hx1 hg1 hl1 hF1 hb1 HV0 HC0 H0
  simp only [List.length_cons, List.length_nil, Nat.zero_add]
  go_wp2_with fail
  obtain ⟨Cb, hCb⟩ : ∃ n, n = w1.heap.size := ⟨_, rfl⟩
  rw [← hCb]
  have LCb := Aside0.mk (show w.heap.size + 2 ≤ Cb by rw [hCb]; have := HW1.out.size; rw [refW_size] at this; exact this)
  have HW2 := Aside0.mk (below_alloc HW1.out (.cells #[.int .i64 0, .int .i64 0, .int .i64 d, .int .i64 0, .int .i64 0, .string ⟨#[]⟩] 23))
  have HC2 := Aside0.mk (show (w1.alloc (.cells #[.int .i64 0, .int .i64 0, .int .i64 d, .int .i64 0, .int .i64 0, .string ⟨#[]⟩] 23)).heap[Cb]? = some (.cells #[.int .i64 0, .int .i64 0, .int .i64 d, .int .i64 0, .int .i64 0, .string ⟨#[]⟩] 23 (0, 0)) from by rw [hCb]; exact blk_new w1 _)
  have HF2 := Aside0.mk (Kd.F_alloc (Kd.F_mono HF1.out (ok' := (fun k_ => k_ ≠ Cb)) (fun k_ hk => by rw [hCb]; exact Nat.ne_of_lt hk.2)) (.cells #[.int .i64 0, .int .i64 0, .int .i64 d, .int .i64 0, .int .i64 0, .string ⟨#[]⟩] 23))
  clear hCb x10 HW1 HF1
  refine (num_told (P := (fun k_ => k_ ≠ Cb)) HF2.out HL1.out H3.out (by simp)).mono ?_
  rintro x w3 ⟨g3, cc3, A3, c3, rfl, hx, hg, hl, hF, hb⟩
  have gne3 : g3 ≠ Cb := by have h1 := blk_lt HC2.out; omega
  have gnf3 : Cb ≠ g3 := fun e => gne3 e.symm
  have HW3 := Aside0.mk (below_then HW2.out HW2.out.size hb)
  have HC3 := Aside0.mk (blk_below HC2.out hb)
  have HL3 := Aside0.mk hl
  have HF3 := Aside0.mk (Kd.F_mono hF (ok' := (fun k_ => k_ ≠ Cb)) (fun k_ hk => by have h1 := blk_lt HC2.out; rcases hk with hk | hk; exact hk; omega))
  have x30 := hx 0 _ rfl
  have x31 := cell_at (hx 1 _ rfl) (u := .int .i64 u) (i := 0) gne3
  have x32 := cell_at (cell_at (hx 2 _ rfl) (u := .int .i64 u) (i := 0) gne3) (u := .int .i64 q) (i := 1) gne3
  clear hx hg hl hF hb HW2 HC2 HF2 HL1 H3
  simp only [List.length_cons, List.length_nil, Nat.zero_add, Nat.reduceAdd]
  have cf0_4 : w3.cell? ⟨Cb, 0, none⟩ = some (.int .i64 0) := (blk_cell HC3.out 0).trans rfl
  have zf0_4 := blk_frozen HC3.out 0
  have cf1_5 : w3.cell? ⟨Cb, 1, none⟩ = some (.int .i64 0) := (blk_cell HC3.out 1).trans rfl
  have zf1_5 := blk_frozen HC3.out 1
  have cf2_6 : w3.cell? ⟨Cb, 2, none⟩ = some (.int .i64 d) := (blk_cell HC3.out 2).trans rfl
  have zf2_6 := blk_frozen HC3.out 2
  have cf3_7 : w3.cell? ⟨Cb, 3, none⟩ = some (.int .i64 0) := (blk_cell HC3.out 3).trans rfl
  have zf3_7 := blk_frozen HC3.out 3
  go_wp2_with fail
  have HW8q := Aside0.mk (below_set (j := 3) (v := .int .i64 h) (below_set (j := 1) (v := .int .i64 q) (below_set (j := 0) (v := .int .i64 u) (HW3.out) (by have := LCb.out; rw [refW_size]; omega)) (by have := LCb.out; rw [refW_size]; omega)) (by have := LCb.out; rw [refW_size]; omega))
  have HC8q := Aside0.mk (blk_put (blk_put (blk_put (HC3.out) 0 (.int .i64 u) rfl) 1 (.int .i64 q) rfl) 3 (.int .i64 h) rfl)
  have HF8q := Aside0.mk (Kd.F_far (Kd.F_far (Kd.F_far (HF3.out) (p := ⟨Cb, 0, none⟩) (fun _ hk => hk) (.int .i64 u)) (p := ⟨Cb, 1, none⟩) (fun _ hk => hk) (.int .i64 q)) (p := ⟨Cb, 3, none⟩) (fun _ hk => hk) (.int .i64 h))
  refine (colloquyref04_numbered.calls _ _ _ HNUM.out).mono ?_
  rintro x w9 ⟨rfl, hD⟩
  have HW9 := Aside0.mk (below_then HW8q.out HW8q.out.size hD.below)
  have HC9 := Aside0.mk (blk_below HC8q.out hD.below)
  have HF9 := Aside0.mk (Kd.F_below HF8q.out hD.below)
  clear hD HW8q HC8q HF8q HNUM
  go_wp2_with fail
  refine (num_told (P := (fun k_ => k_ ≠ Cb)) HF9.out HL3.out H4.out (by simp)).mono ?_
  rintro x w10 ⟨g10, cc10, A10, c10, rfl, hx, hg, hl, hF, hb⟩
  have gne10 : g10 ≠ Cb := by have h1 := blk_lt HC9.out; omega
  have gnf10 : Cb ≠ g10 := fun e => gne10 e.symm
  have HW10 := Aside0.mk (below_then HW9.out HW9.out.size hb)
  have HC10 := Aside0.mk (blk_below HC9.out hb)
  have HL10 := Aside0.mk hl
  have HF10 := Aside0.mk (Kd.F_mono hF (ok' := (fun k_ => k_ ≠ Cb)) (fun k_ hk => by have h1 := blk_lt HC9.out; rcases hk with hk | hk; exact hk; omega))
  have x100 := hx 0 _ rfl
  clear hx hg hl hF hb HW9 HC9 HF9 HL3 H4
  simp only [List.length_cons, List.length_nil, Nat.zero_add, Nat.reduceAdd]
  have cf2_11 : w10.cell? ⟨Cb, 2, none⟩ = some (.int .i64 d) := (blk_cell HC10.out 2).trans rfl
  have zf2_11 := blk_frozen HC10.out 2
  have cf4_12 : w10.cell? ⟨Cb, 4, none⟩ = some (.int .i64 0) := (blk_cell HC10.out 4).trans rfl
  have zf4_12 := blk_frozen HC10.out 4
  go_wp2_with fail
  have HW13q := Aside0.mk (below_set (j := 4) (v := .int .i64 n) (HW10.out) (by have := LCb.out; rw [refW_size]; omega))
  have HC13q := Aside0.mk (blk_put (HC10.out) 4 (.int .i64 n) rfl)
  have HF13q := Aside0.mk (Kd.F_far (HF10.out) (p := ⟨Cb, 4, none⟩) (fun _ hk => hk) (.int .i64 n))
  refine (colloquyref04_worded.calls _ _ _ HWOR.out).mono ?_
  rintro x w14 ⟨rfl, hD⟩
  have HW14 := Aside0.mk (below_then HW13q.out HW13q.out.size hD.below)
  have HC14 := Aside0.mk (blk_below HC13q.out hD.below)
  have HF14 := Aside0.mk (Kd.F_below HF13q.out hD.below)
  clear hD HW13q HC13q HF13q HWOR
  go_wp2_with fail
  refine (num_err (P := (fun k_ => k_ ≠ Cb)) HF14.out HL10.out H5.out).mono ?_
  rintro x w15 ⟨v0, v1, rfl, hb⟩
  have HW15 := Aside0.mk (below_then HW14.out HW14.out.size hb)
  clear hb HW14 HC14 HF14 HL10 H5
  obtain ⟨nc0, rc0, rf0, nc1, rc1, rf1, nc2, rc2, rf2, nc3, rc3, rf3, nc4, rc4, rf4, nc5, rc5, rf5⟩ := ref_facts HW15.out
  have nrn : w.heap.size ≠ w.heap.size + 1 := by omega
  have nrc : w.heap.size ≠ Cb := by have := LCb.out; omega
  have nnc : w.heap.size + 1 ≠ Cb := by have := LCb.out; omega
  have lcb : w.heap.size ≤ Cb := by have := LCb.out; omega
  clear LCb
  go_wp2
  refine bodyPost_ret (results_ct rfl _ _ w.heap.size 23 #[.int .i64 0, .int .i64 0, .int .i64 0, .int .i64 0, .int .i64 0, .string ⟨#[]⟩] (0, 0) _ rfl (ref_put6 (ref_res HW15.out) rfl _ _ _ _ _ _) Try.underlying23 rfl (by kernel_rfl)) rfl ?_
  exact ⟨rfl, ref_set6 (ref_below HW15.out) _ _ _ _ _ _⟩
set_option maxHeartbeats 4000000 in
set_option maxRecDepth 100000 in
theorem rg_K_3_n1_tm (k : Nat) (w : World) (A0 : Option Addr) (c0 : Nat) (b : List Int) (hV0 : Kd.F (Kd.int .u8) (refW w) (fun k_ => k_ < w.heap.size) A0 b.length b) (hc0 : b.length ≤ c0) (d : Int) (y1 : List Int) (h0 : colloquyref04_numbers.f k b 1 = some ([d], y1, 0)) (p1 : decide (d ≥ 8) = false) (p2 : (d != 0) = true) (u q h : Int) (y2 : List Int) (h3 : colloquyref04_numbers.f k y1 3 = some ([u, q, h], y2, 0)) (hnum : colloquyref04_numbered.f d = some true) (n : Int) (y3 : List Int) (h4 : colloquyref04_numbers.f k y2 1 = some ([n], y3, 0)) (hwor : colloquyref04_worded.f d = some true) (m : Int) (y4 : List Int) (h5 : colloquyref04_numbers.f k y3 1 = some ([m], y4, 0)) (p5 : decide ((y4.length : Int) < m) = true) :
    Calls Try.prog 17 #[.slice A0 b.length c0] w (RGTold w 0 0 0 0 0 ⟨#[]⟩ 3) := by
  have HV0 := Aside0.mk hV0
  have HC0 := Aside0.mk hc0
  clear hV0 hc0
  have H0 := Aside0.mk h0
  clear h0
  have H3 := Aside0.mk h3
  clear h3
  have HNUM := Aside0.mk hnum
  clear hnum
  have H4 := Aside0.mk h4
  clear h4
  have HWOR := Aside0.mk hwor
  clear hwor
  have H5 := Aside0.mk h5
  clear h5
  go_enter Try.func17, Try.ntmps17
  go_wp2_with fail
  refine (num_told (P := fun k_ => k_ < w.heap.size) (W := refW w) HV0.out HC0.out H0.out (by simp)).mono ?_
  rintro x w1 ⟨g1, cc1, A1, c1, rfl, hx1, hg1, hl1, hF1, hb1⟩
  have x10 := hx1 0 _ rfl
  have HW1 := Aside0.mk hb1
  have HL1 := Aside0.mk hl1
  have HF1 := Aside0.mk (Kd.F_bound hF1)
  clear hx1 hg1 hl1 hF1 hb1 HV0 HC0 H0
  simp only [List.length_cons, List.length_nil, Nat.zero_add]
  go_wp2_with fail
  obtain ⟨Cb, hCb⟩ : ∃ n, n = w1.heap.size := ⟨_, rfl⟩
  rw [← hCb]
  have LCb := Aside0.mk (show w.heap.size + 2 ≤ Cb by rw [hCb]; have := HW1.out.size; rw [refW_size] at this; exact this)
  have HW2 := Aside0.mk (below_alloc HW1.out (.cells #[.int .i64 0, .int .i64 0, .int .i64 d, .int .i64 0, .int .i64 0, .string ⟨#[]⟩] 23))
  have HC2 := Aside0.mk (show (w1.alloc (.cells #[.int .i64 0, .int .i64 0, .int .i64 d, .int .i64 0, .int .i64 0, .string ⟨#[]⟩] 23)).heap[Cb]? = some (.cells #[.int .i64 0, .int .i64 0, .int .i64 d, .int .i64 0, .int .i64 0, .string ⟨#[]⟩] 23 (0, 0)) from by rw [hCb]; exact blk_new w1 _)
  have HF2 := Aside0.mk (Kd.F_alloc (Kd.F_mono HF1.out (ok' := (fun k_ => k_ ≠ Cb)) (fun k_ hk => by rw [hCb]; exact Nat.ne_of_lt hk.2)) (.cells #[.int .i64 0, .int .i64 0, .int .i64 d, .int .i64 0, .int .i64 0, .string ⟨#[]⟩] 23))
  clear hCb x10 HW1 HF1
  refine (num_told (P := (fun k_ => k_ ≠ Cb)) HF2.out HL1.out H3.out (by simp)).mono ?_
  rintro x w3 ⟨g3, cc3, A3, c3, rfl, hx, hg, hl, hF, hb⟩
  have gne3 : g3 ≠ Cb := by have h1 := blk_lt HC2.out; omega
  have gnf3 : Cb ≠ g3 := fun e => gne3 e.symm
  have HW3 := Aside0.mk (below_then HW2.out HW2.out.size hb)
  have HC3 := Aside0.mk (blk_below HC2.out hb)
  have HL3 := Aside0.mk hl
  have HF3 := Aside0.mk (Kd.F_mono hF (ok' := (fun k_ => k_ ≠ Cb)) (fun k_ hk => by have h1 := blk_lt HC2.out; rcases hk with hk | hk; exact hk; omega))
  have x30 := hx 0 _ rfl
  have x31 := cell_at (hx 1 _ rfl) (u := .int .i64 u) (i := 0) gne3
  have x32 := cell_at (cell_at (hx 2 _ rfl) (u := .int .i64 u) (i := 0) gne3) (u := .int .i64 q) (i := 1) gne3
  clear hx hg hl hF hb HW2 HC2 HF2 HL1 H3
  simp only [List.length_cons, List.length_nil, Nat.zero_add, Nat.reduceAdd]
  have cf0_4 : w3.cell? ⟨Cb, 0, none⟩ = some (.int .i64 0) := (blk_cell HC3.out 0).trans rfl
  have zf0_4 := blk_frozen HC3.out 0
  have cf1_5 : w3.cell? ⟨Cb, 1, none⟩ = some (.int .i64 0) := (blk_cell HC3.out 1).trans rfl
  have zf1_5 := blk_frozen HC3.out 1
  have cf2_6 : w3.cell? ⟨Cb, 2, none⟩ = some (.int .i64 d) := (blk_cell HC3.out 2).trans rfl
  have zf2_6 := blk_frozen HC3.out 2
  have cf3_7 : w3.cell? ⟨Cb, 3, none⟩ = some (.int .i64 0) := (blk_cell HC3.out 3).trans rfl
  have zf3_7 := blk_frozen HC3.out 3
  go_wp2_with fail
  have HW8q := Aside0.mk (below_set (j := 3) (v := .int .i64 h) (below_set (j := 1) (v := .int .i64 q) (below_set (j := 0) (v := .int .i64 u) (HW3.out) (by have := LCb.out; rw [refW_size]; omega)) (by have := LCb.out; rw [refW_size]; omega)) (by have := LCb.out; rw [refW_size]; omega))
  have HC8q := Aside0.mk (blk_put (blk_put (blk_put (HC3.out) 0 (.int .i64 u) rfl) 1 (.int .i64 q) rfl) 3 (.int .i64 h) rfl)
  have HF8q := Aside0.mk (Kd.F_far (Kd.F_far (Kd.F_far (HF3.out) (p := ⟨Cb, 0, none⟩) (fun _ hk => hk) (.int .i64 u)) (p := ⟨Cb, 1, none⟩) (fun _ hk => hk) (.int .i64 q)) (p := ⟨Cb, 3, none⟩) (fun _ hk => hk) (.int .i64 h))
  refine (colloquyref04_numbered.calls _ _ _ HNUM.out).mono ?_
  rintro x w9 ⟨rfl, hD⟩
  have HW9 := Aside0.mk (below_then HW8q.out HW8q.out.size hD.below)
  have HC9 := Aside0.mk (blk_below HC8q.out hD.below)
  have HF9 := Aside0.mk (Kd.F_below HF8q.out hD.below)
  clear hD HW8q HC8q HF8q HNUM
  go_wp2_with fail
  refine (num_told (P := (fun k_ => k_ ≠ Cb)) HF9.out HL3.out H4.out (by simp)).mono ?_
  rintro x w10 ⟨g10, cc10, A10, c10, rfl, hx, hg, hl, hF, hb⟩
  have gne10 : g10 ≠ Cb := by have h1 := blk_lt HC9.out; omega
  have gnf10 : Cb ≠ g10 := fun e => gne10 e.symm
  have HW10 := Aside0.mk (below_then HW9.out HW9.out.size hb)
  have HC10 := Aside0.mk (blk_below HC9.out hb)
  have HL10 := Aside0.mk hl
  have HF10 := Aside0.mk (Kd.F_mono hF (ok' := (fun k_ => k_ ≠ Cb)) (fun k_ hk => by have h1 := blk_lt HC9.out; rcases hk with hk | hk; exact hk; omega))
  have x100 := hx 0 _ rfl
  clear hx hg hl hF hb HW9 HC9 HF9 HL3 H4
  simp only [List.length_cons, List.length_nil, Nat.zero_add, Nat.reduceAdd]
  have cf2_11 : w10.cell? ⟨Cb, 2, none⟩ = some (.int .i64 d) := (blk_cell HC10.out 2).trans rfl
  have zf2_11 := blk_frozen HC10.out 2
  have cf4_12 : w10.cell? ⟨Cb, 4, none⟩ = some (.int .i64 0) := (blk_cell HC10.out 4).trans rfl
  have zf4_12 := blk_frozen HC10.out 4
  go_wp2_with fail
  have HW13q := Aside0.mk (below_set (j := 4) (v := .int .i64 n) (HW10.out) (by have := LCb.out; rw [refW_size]; omega))
  have HC13q := Aside0.mk (blk_put (HC10.out) 4 (.int .i64 n) rfl)
  have HF13q := Aside0.mk (Kd.F_far (HF10.out) (p := ⟨Cb, 4, none⟩) (fun _ hk => hk) (.int .i64 n))
  refine (colloquyref04_worded.calls _ _ _ HWOR.out).mono ?_
  rintro x w14 ⟨rfl, hD⟩
  have HW14 := Aside0.mk (below_then HW13q.out HW13q.out.size hD.below)
  have HC14 := Aside0.mk (blk_below HC13q.out hD.below)
  have HF14 := Aside0.mk (Kd.F_below HF13q.out hD.below)
  clear hD HW13q HC13q HF13q HWOR
  go_wp2_with fail
  refine (num_told (P := (fun k_ => k_ ≠ Cb)) HF14.out HL10.out H5.out (by simp)).mono ?_
  rintro x w15 ⟨g15, cc15, A15, c15, rfl, hx, hg, hl, hF, hb⟩
  have gne15 : g15 ≠ Cb := by have h1 := blk_lt HC14.out; omega
  have gnf15 : Cb ≠ g15 := fun e => gne15 e.symm
  have HW15 := Aside0.mk (below_then HW14.out HW14.out.size hb)
  have HC15 := Aside0.mk (blk_below HC14.out hb)
  have HL15 := Aside0.mk hl
  have HF15 := Aside0.mk (Kd.F_mono hF (ok' := (fun k_ => k_ ≠ Cb)) (fun k_ hk => by have h1 := blk_lt HC14.out; rcases hk with hk | hk; exact hk; omega))
  have x150 := hx 0 _ rfl
  clear hx hg hl hF hb HW14 HC14 HF14 HL10 H5
  simp only [List.length_cons, List.length_nil, Nat.zero_add, Nat.reduceAdd]
  obtain ⟨nc0, rc0, rf0, nc1, rc1, rf1, nc2, rc2, rf2, nc3, rc3, rf3, nc4, rc4, rf4, nc5, rc5, rf5⟩ := ref_facts HW15.out
  have nrn : w.heap.size ≠ w.heap.size + 1 := by omega
  have nrc : w.heap.size ≠ Cb := by have := LCb.out; omega
  have nnc : w.heap.size + 1 ≠ Cb := by have := LCb.out; omega
  have lcb : w.heap.size ≤ Cb := by have := LCb.out; omega
  clear LCb
  go_wp2
  refine bodyPost_ret (results_ct rfl _ _ w.heap.size 23 #[.int .i64 0, .int .i64 0, .int .i64 0, .int .i64 0, .int .i64 0, .string ⟨#[]⟩] (0, 0) _ rfl (ref_put6 (ref_res HW15.out) rfl _ _ _ _ _ _) Try.underlying23 rfl (by kernel_rfl)) rfl ?_
  exact ⟨rfl, ref_set6 (ref_below HW15.out) _ _ _ _ _ _⟩
abbrev RG := Int × Int × Int × Int × Int × ByteArray × Int
def colloquyref04_Get.zero (e : Int) : RG := (0, 0, 0, 0, 0, ⟨#[]⟩, e)
def colloquyref04_Get.one (p : List Int × List Int × Int) (f : Int → List Int → Option RG) : Option RG :=
  if p.2.2 = 0 then (match p.1 with | [a] => f a p.2.1 | _ => none) else some (colloquyref04_Get.zero p.2.2)
def colloquyref04_Get.three (p : List Int × List Int × Int) (f : Int → Int → Int → List Int → Option RG) : Option RG :=
  if p.2.2 = 0 then (match p.1 with | [a, b, c] => f a b c p.2.1 | _ => none) else some (colloquyref04_Get.zero p.2.2)
theorem colloquyref04_Get.one_mono {p : List Int × List Int × Int} {f g : Int → List Int → Option RG} (h : ∀ a z, LeO (f a z) (g a z)) : LeO (colloquyref04_Get.one p f) (colloquyref04_Get.one p g) := by
  obtain ⟨l, z, e⟩ := p
  unfold colloquyref04_Get.one
  refine LeO.ite ?_ (LeO.refl _)
  rcases l with _ | ⟨a, _ | ⟨b, l⟩⟩
  · exact LeO.refl _
  · exact h _ _
  · exact LeO.refl _
theorem colloquyref04_Get.three_mono {p : List Int × List Int × Int} {f g : Int → Int → Int → List Int → Option RG} (h : ∀ a b c z, LeO (f a b c z) (g a b c z)) : LeO (colloquyref04_Get.three p f) (colloquyref04_Get.three p g) := by
  obtain ⟨l, z, e⟩ := p
  unfold colloquyref04_Get.three
  refine LeO.ite ?_ (LeO.refl _)
  rcases l with _ | ⟨a, _ | ⟨b, _ | ⟨c, _ | ⟨d, l⟩⟩⟩⟩
  · exact LeO.refl _
  · exact LeO.refl _
  · exact LeO.refl _
  · exact h _ _ _ _
  · exact LeO.refl _
theorem colloquyref04_Get.one_some {p : List Int × List Int × Int} {f : Int → List Int → Option RG} {r : RG} (h : colloquyref04_Get.one p f = some r) : (p.2.2 ≠ 0 ∧ r = colloquyref04_Get.zero p.2.2) ∨ ∃ a, p = ([a], p.2.1, 0) ∧ f a p.2.1 = some r := by
  obtain ⟨l, z, e⟩ := p
  unfold colloquyref04_Get.one at h
  by_cases c : e = 0
  · subst c
    right
    rcases l with _ | ⟨a, _ | ⟨b, l⟩⟩
    · simp at h
    · exact ⟨a, rfl, by simpa using h⟩
    · simp at h
  · left
    simp only [if_neg c, Option.some.injEq] at h
    exact ⟨c, h.symm⟩
theorem colloquyref04_Get.three_some {p : List Int × List Int × Int} {f : Int → Int → Int → List Int → Option RG} {r : RG} (h : colloquyref04_Get.three p f = some r) : (p.2.2 ≠ 0 ∧ r = colloquyref04_Get.zero p.2.2) ∨ ∃ a b c, p = ([a, b, c], p.2.1, 0) ∧ f a b c p.2.1 = some r := by
  obtain ⟨l, z, e⟩ := p
  unfold colloquyref04_Get.three at h
  by_cases c : e = 0
  · subst c
    right
    rcases l with _ | ⟨a, _ | ⟨b, _ | ⟨c, _ | ⟨d, l⟩⟩⟩⟩
    · simp at h
    · simp at h
    · simp at h
    · exact ⟨a, b, c, rfl, by simpa using h⟩
    · simp at h
  · left
    simp only [if_neg c, Option.some.injEq] at h
    exact ⟨c, h.symm⟩
def colloquyref04_Get.fin (k : Nat) (d u q h n : Int) (t : ByteArray) (y : List Int) : Option RG :=
  (colloquyref04_May.f k u q d h n t).bind fun ok => if 0 < y.length then some (colloquyref04_Get.zero 2) else if ok = true then some (u, q, d, h, n, t, 0) else some (colloquyref04_Get.zero 2)
def colloquyref04_Get.txt (k : Nat) (d u q h n : Int) (y : List Int) : Option RG :=
  (colloquyref04_worded.f d).bind fun b => if b = true then (colloquyref04_numbers.f k y 1).bind fun p => colloquyref04_Get.one p fun m z => if (z.length : Int) < m then some (colloquyref04_Get.zero 3) else if 0 ≤ m then colloquyref04_Get.fin k d u q h n (strOfNums (z.take m.toNat)) (z.drop m.toNat) else none
    else colloquyref04_Get.fin k d u q h n ⟨#[]⟩ y
def colloquyref04_Get.num (k : Nat) (d u q h : Int) (y : List Int) : Option RG :=
  (colloquyref04_numbered.f d).bind fun b => if b = true then (colloquyref04_numbers.f k y 1).bind fun p => colloquyref04_Get.one p fun n z => colloquyref04_Get.txt k d u q h n z else colloquyref04_Get.txt k d u q h 0 y
def colloquyref04_Get.f (k : Nat) (b : List Int) : Option RG :=
  (colloquyref04_numbers.f k b 1).bind fun p => colloquyref04_Get.one p fun d y => if d ≥ 8 then some (colloquyref04_Get.zero 2) else if d = 0 then (if colloquyref04_numbered.f d = some false ∧ colloquyref04_worded.f d = some false then colloquyref04_Get.fin k d 0 0 0 0 ⟨#[]⟩ y else none)
    else (colloquyref04_numbers.f k y 3).bind fun p => colloquyref04_Get.three p fun u q h z => colloquyref04_Get.num k d u q h z
theorem colloquyref04_Get.fin_mono (k : Nat) (d u q h n : Int) (t : ByteArray) (y : List Int) : LeO (colloquyref04_Get.fin k d u q h n t y) (colloquyref04_Get.fin (k + 1) d u q h n t y) := by
  unfold colloquyref04_Get.fin
  exact LeO.bind (colloquyref04_May.mono _ _ _ _ _ _ _) (fun _ => LeO.refl _)
theorem colloquyref04_Get.txt_mono (k : Nat) (d u q h n : Int) (y : List Int) : LeO (colloquyref04_Get.txt k d u q h n y) (colloquyref04_Get.txt (k + 1) d u q h n y) := by
  unfold colloquyref04_Get.txt
  exact LeO.bind (LeO.refl _) (fun _ => LeO.ite (LeO.bind (colloquyref04_numbers.mono _ _ _) (fun _ => colloquyref04_Get.one_mono (fun _ _ => LeO.ite (LeO.refl _) (LeO.ite (colloquyref04_Get.fin_mono _ _ _ _ _ _ _ _) (LeO.refl _))))) (colloquyref04_Get.fin_mono _ _ _ _ _ _ _ _))
theorem colloquyref04_Get.num_mono (k : Nat) (d u q h : Int) (y : List Int) : LeO (colloquyref04_Get.num k d u q h y) (colloquyref04_Get.num (k + 1) d u q h y) := by
  unfold colloquyref04_Get.num
  exact LeO.bind (LeO.refl _) (fun _ => LeO.ite (LeO.bind (colloquyref04_numbers.mono _ _ _) (fun _ => colloquyref04_Get.one_mono (fun _ _ => colloquyref04_Get.txt_mono _ _ _ _ _ _ _))) (colloquyref04_Get.txt_mono _ _ _ _ _ _ _))
theorem colloquyref04_Get.mono : ∀ a0 k, LeO (colloquyref04_Get.f k a0) (colloquyref04_Get.f (k + 1) a0) := by
  intro a0 k
  unfold colloquyref04_Get.f
  exact LeO.bind (colloquyref04_numbers.mono _ _ _) (fun _ => colloquyref04_Get.one_mono (fun _ _ => LeO.ite (LeO.refl _) (LeO.ite (LeO.ite (colloquyref04_Get.fin_mono _ _ _ _ _ _ _ _) (LeO.refl _)) (LeO.bind (colloquyref04_numbers.mono _ _ _) (fun _ => colloquyref04_Get.three_mono (fun _ _ _ _ => colloquyref04_Get.num_mono _ _ _ _ _ _))))))
/-- A walk's answer: what the contract says of a result. -/
def RGSays (w : World) (r : RG) : Ending → World → Prop := RGTold w r.1 r.2.1 r.2.2.1 r.2.2.2.1 r.2.2.2.2.1 r.2.2.2.2.2.1 r.2.2.2.2.2.2
theorem colloquyref04_Get.fin_some {k : Nat} {d u q h n : Int} {t : ByteArray} {y : List Int} {r : RG} (hf : colloquyref04_Get.fin k d u q h n t y = some r) : ∃ ok, colloquyref04_May.f k u q d h n t = some ok ∧ ((0 < y.length ∧ r = colloquyref04_Get.zero 2) ∨ (¬ 0 < y.length ∧ ok = false ∧ r = colloquyref04_Get.zero 2) ∨ (¬ 0 < y.length ∧ ok = true ∧ r = (u, q, d, h, n, t, 0))) := by
  obtain ⟨ok, ho, hr⟩ := Option.bind_eq_some_iff.mp hf
  refine ⟨ok, ho, ?_⟩
  by_cases c : 0 < y.length
  · rw [if_pos c] at hr
    exact .inl ⟨c, (Option.some.inj hr).symm⟩
  · rw [if_neg c] at hr
    cases ok with
    | true => exact .inr (.inr ⟨c, rfl, by simpa using hr.symm⟩)
    | false => exact .inr (.inl ⟨c, rfl, by simpa using hr.symm⟩)
set_option maxHeartbeats 1000000 in
theorem colloquyref04_Get.walk (k : Nat) (A0 : Option Addr) (c0 : Nat) (l0 : List Int) (r : RG) (w : World) (hr0 : Kd.C (Kd.int .u8) w A0 l0.length l0) (hc0 : l0.length ≤ c0) (hf : colloquyref04_Get.f k l0 = some r) :
    Calls Try.prog 17 #[.slice A0 l0.length c0] w (RGSays w r) := by
  have hV0 : Kd.F (Kd.int .u8) (refW w) (fun k_ => k_ < w.heap.size) A0 l0.length l0 := Kd.F_below (Kd.C_F (Kd.heap_int .u8) hr0) (refW_below w)
  obtain ⟨⟨a1, a2, a3⟩, h0, x0⟩ := Option.bind_eq_some_iff.mp hf
  rcases colloquyref04_Get.one_some x0 with ⟨he, rfl⟩ | ⟨d, hp, x1⟩
  · exact rg_e0 k w A0 c0 l0 hV0 hc0 a1 a2 a3 h0 (bne_iff_ne.mpr he)
  simp only [Prod.mk.injEq, true_and] at hp
  obtain ⟨rfl, rfl⟩ := hp
  clear x0
  simp only at x1
  by_cases c8 : d ≥ 8
  · rw [if_pos c8] at x1
    obtain rfl := Option.some.inj x1
    exact rg_k8 k w A0 c0 l0 hV0 hc0 d a2 h0 (decide_eq_true c8)
  rw [if_neg c8] at x1
  by_cases cz : d = 0
  · rw [if_pos cz] at x1
    subst cz
    by_cases cn : colloquyref04_numbered.f 0 = some false ∧ colloquyref04_worded.f 0 = some false
    · rw [if_pos cn] at x1
      obtain ⟨ok, hm, h9⟩ := colloquyref04_Get.fin_some x1
      rcases h9 with ⟨p9, rfl⟩ | ⟨p9, ho, rfl⟩ | ⟨p9, ho, rfl⟩
      · exact rg_N_n0_t0_l k w A0 c0 l0 hV0 hc0 0 a2 h0 rfl cn.1 cn.2 ok hm p9
      · exact rg_N_n0_t0_b k w A0 c0 l0 hV0 hc0 0 a2 h0 rfl cn.1 cn.2 ok hm p9 ho
      · exact rg_N_n0_t0_g k w A0 c0 l0 hV0 hc0 0 a2 h0 rfl cn.1 cn.2 ok hm p9 ho
    · rw [if_neg cn] at x1; cases x1
  rw [if_neg cz] at x1
  have p1 : decide (d ≥ 8) = false := decide_eq_false c8
  have p2 : (d != 0) = true := bne_iff_ne.mpr cz
  obtain ⟨⟨b1, b2, b3⟩, h3, x2⟩ := Option.bind_eq_some_iff.mp x1
  clear x1
  rcases colloquyref04_Get.three_some x2 with ⟨he, rfl⟩ | ⟨u, q, h, hp, x3⟩
  · exact rg_K_3e k w A0 c0 l0 hV0 hc0 d a2 h0 p1 p2 b1 b2 b3 h3 (bne_iff_ne.mpr he)
  simp only [Prod.mk.injEq, true_and] at hp
  obtain ⟨rfl, rfl⟩ := hp
  clear x2
  simp only at x3
  obtain ⟨bn, hnum, x4⟩ := Option.bind_eq_some_iff.mp x3
  clear x3
  cases bn with
  | false =>
    simp only [Bool.false_eq_true, if_false] at x4
    obtain ⟨bt, hwor, x5⟩ := Option.bind_eq_some_iff.mp x4
    clear x4
    cases bt with
    | false =>
      simp only [Bool.false_eq_true, if_false] at x5
      obtain ⟨ok, hm, h9⟩ := colloquyref04_Get.fin_some x5
      rcases h9 with ⟨p9, rfl⟩ | ⟨p9, ho, rfl⟩ | ⟨p9, ho, rfl⟩
      · exact rg_K_3_n0_t0_l k w A0 c0 l0 hV0 hc0 d a2 h0 p1 p2 u q h b2 h3 hnum hwor ok hm p9
      · exact rg_K_3_n0_t0_b k w A0 c0 l0 hV0 hc0 d a2 h0 p1 p2 u q h b2 h3 hnum hwor ok hm p9 ho
      · exact rg_K_3_n0_t0_g k w A0 c0 l0 hV0 hc0 d a2 h0 p1 p2 u q h b2 h3 hnum hwor ok hm p9 ho
    | true =>
      simp only [if_true] at x5
      obtain ⟨⟨d1, d2, d3⟩, h5, x6⟩ := Option.bind_eq_some_iff.mp x5
      clear x5
      rcases colloquyref04_Get.one_some x6 with ⟨he, rfl⟩ | ⟨m, hp, x7⟩
      · exact rg_K_3_n0_te k w A0 c0 l0 hV0 hc0 d a2 h0 p1 p2 u q h b2 h3 hnum hwor d1 d2 d3 h5 (bne_iff_ne.mpr he)
      simp only [Prod.mk.injEq, true_and] at hp
      obtain ⟨rfl, rfl⟩ := hp
      clear x6
      simp only at x7
      by_cases cm : (d2.length : Int) < m
      · rw [if_pos cm] at x7
        obtain rfl := Option.some.inj x7
        exact rg_K_3_n0_tm k w A0 c0 l0 hV0 hc0 d a2 h0 p1 p2 u q h b2 h3 hnum hwor m d2 h5 (decide_eq_true cm)
      rw [if_neg cm] at x7
      by_cases c0' : 0 ≤ m
      · rw [if_pos c0'] at x7
        obtain ⟨ok, hm, h9⟩ := colloquyref04_Get.fin_some x7
        rcases h9 with ⟨p9, rfl⟩ | ⟨p9, ho, rfl⟩ | ⟨p9, ho, rfl⟩
        · exact rg_K_3_n0_t1_l k w A0 c0 l0 hV0 hc0 d a2 h0 p1 p2 u q h b2 h3 hnum hwor m d2 h5 (decide_eq_false cm) c0' (by omega) _ _ rfl rfl ok hm p9
        · exact rg_K_3_n0_t1_b k w A0 c0 l0 hV0 hc0 d a2 h0 p1 p2 u q h b2 h3 hnum hwor m d2 h5 (decide_eq_false cm) c0' (by omega) _ _ rfl rfl ok hm p9 ho
        · exact rg_K_3_n0_t1_g k w A0 c0 l0 hV0 hc0 d a2 h0 p1 p2 u q h b2 h3 hnum hwor m d2 h5 (decide_eq_false cm) c0' (by omega) _ _ rfl rfl ok hm p9 ho
      · rw [if_neg c0'] at x7; cases x7
  | true =>
    simp only [if_true] at x4
    obtain ⟨⟨g1, g2, g3⟩, h4, y0⟩ := Option.bind_eq_some_iff.mp x4
    clear x4
    rcases colloquyref04_Get.one_some y0 with ⟨he, rfl⟩ | ⟨n, hp, y1⟩
    · exact rg_K_3_ne k w A0 c0 l0 hV0 hc0 d a2 h0 p1 p2 u q h b2 h3 hnum g1 g2 g3 h4 (bne_iff_ne.mpr he)
    simp only [Prod.mk.injEq, true_and] at hp
    obtain ⟨rfl, rfl⟩ := hp
    clear y0
    simp only at y1
    obtain ⟨bt, hwor, x5⟩ := Option.bind_eq_some_iff.mp y1
    clear y1
    cases bt with
    | false =>
      simp only [Bool.false_eq_true, if_false] at x5
      obtain ⟨ok, hm, h9⟩ := colloquyref04_Get.fin_some x5
      rcases h9 with ⟨p9, rfl⟩ | ⟨p9, ho, rfl⟩ | ⟨p9, ho, rfl⟩
      · exact rg_K_3_n1_t0_l k w A0 c0 l0 hV0 hc0 d a2 h0 p1 p2 u q h b2 h3 hnum n g2 h4 hwor ok hm p9
      · exact rg_K_3_n1_t0_b k w A0 c0 l0 hV0 hc0 d a2 h0 p1 p2 u q h b2 h3 hnum n g2 h4 hwor ok hm p9 ho
      · exact rg_K_3_n1_t0_g k w A0 c0 l0 hV0 hc0 d a2 h0 p1 p2 u q h b2 h3 hnum n g2 h4 hwor ok hm p9 ho
    | true =>
      simp only [if_true] at x5
      obtain ⟨⟨d1, d2, d3⟩, h5, x6⟩ := Option.bind_eq_some_iff.mp x5
      clear x5
      rcases colloquyref04_Get.one_some x6 with ⟨he, rfl⟩ | ⟨m, hp, x7⟩
      · exact rg_K_3_n1_te k w A0 c0 l0 hV0 hc0 d a2 h0 p1 p2 u q h b2 h3 hnum n g2 h4 hwor d1 d2 d3 h5 (bne_iff_ne.mpr he)
      simp only [Prod.mk.injEq, true_and] at hp
      obtain ⟨rfl, rfl⟩ := hp
      clear x6
      simp only at x7
      by_cases cm : (d2.length : Int) < m
      · rw [if_pos cm] at x7
        obtain rfl := Option.some.inj x7
        exact rg_K_3_n1_tm k w A0 c0 l0 hV0 hc0 d a2 h0 p1 p2 u q h b2 h3 hnum n g2 h4 hwor m d2 h5 (decide_eq_true cm)
      rw [if_neg cm] at x7
      by_cases c0' : 0 ≤ m
      · rw [if_pos c0'] at x7
        obtain ⟨ok, hm, h9⟩ := colloquyref04_Get.fin_some x7
        rcases h9 with ⟨p9, rfl⟩ | ⟨p9, ho, rfl⟩ | ⟨p9, ho, rfl⟩
        · exact rg_K_3_n1_t1_l k w A0 c0 l0 hV0 hc0 d a2 h0 p1 p2 u q h b2 h3 hnum n g2 h4 hwor m d2 h5 (decide_eq_false cm) c0' (by omega) _ _ rfl rfl ok hm p9
        · exact rg_K_3_n1_t1_b k w A0 c0 l0 hV0 hc0 d a2 h0 p1 p2 u q h b2 h3 hnum n g2 h4 hwor m d2 h5 (decide_eq_false cm) c0' (by omega) _ _ rfl rfl ok hm p9 ho
        · exact rg_K_3_n1_t1_g k w A0 c0 l0 hV0 hc0 d a2 h0 p1 p2 u q h b2 h3 hnum n g2 h4 hwor m d2 h5 (decide_eq_false cm) c0' (by omega) _ _ rfl rfl ok hm p9 ho
      · rw [if_neg c0'] at x7; cases x7
theorem colloquyref04_Get.calls (k : Nat) (A0 : Option Addr) (c0 : Nat) (l0 : List Int) (r1 r2 r3 r4 r5 : Int) (r6 : ByteArray) (r7 : Int) (w : World) (hr0 : Kd.C (Kd.int .u8) w A0 l0.length l0) (hc0 : l0.length ≤ c0) (h : colloquyref04_Get.f k l0 = some (r1, r2, r3, r4, r5, r6, r7)) :
    Calls Try.prog 17 #[.slice A0 l0.length c0] w fun e w' => e = .returned (.tuple #[.agg #[.int .i64 r1, .int .i64 r2, .int .i64 r3, .int .i64 r4, .int .i64 r5, .string r6], .int .i64 r7]) ∧ Below w.heap.size w w' :=
  colloquyref04_Get.walk k A0 c0 l0 (r1, r2, r3, r4, r5, r6, r7) w hr0 hc0 h

end Go.Proofs.Ythkipipfdlepnaa.PAll

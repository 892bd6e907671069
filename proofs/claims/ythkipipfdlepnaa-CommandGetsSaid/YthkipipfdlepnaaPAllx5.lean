/- The machine's side of this claim, written by a program of this session out of the translation: for each Go function a Lean function of its answers, and the proof that the code comes to just these. Conditions: those that each theorem states. -/
import Derived.Test.YthkipipfdlepnaaPAllx0
import Derived.Test.YthkipipfdlepnaaPAllx3
import Derived.Test.YthkipipfdlepnaaPAllx4
namespace Go.Proofs.Ythkipipfdlepnaa.PAll
open Go.RowKit Go.Proofs.YthkipipfdlepnaaW.PrintWords Go.Proofs.YthkipipfdlepnaaW.PrintLast Go.Proofs.YthkipipfdlepnaaW.PrintMore
attribute [local go_sem] max2_int min2_int max_two min_two max_three min_three max_four min_four   -- for this text's walks alone
set_option linter.unusedVariables false
set_option linter.unusedSimpArgs false

/-! ### command_Get: function 16 -/
theorem grown_put {w w1 : World} {g : Nat} (h : w.grownBy w1 (some g)) (i : Nat) (u : Value) : w.grownBy (w1.setCell ⟨g, i, none⟩ u) (some g) :=
  ⟨h.os, h.tape, h.output, Nat.le_trans h.size (Nat.le_of_eq (by simp)), fun k hk hne => (Below.heap_setCell w1 ⟨g, i, none⟩ u k (fun e => hne (by rw [e]))).trans (h.block k hk hne)⟩
theorem grown_drewN (w : World) (row : Option Nat) (n : Nat) : w.grownBy (w.drewN n) row := by
  have h := pw_below_drewN (Below.refl w.heap.size w) n
  exact ⟨h.os, h.tape, h.output, h.size, fun k hk _ => h.block k hk⟩
theorem grown_then {w w1 w2 : World} {row : Option Nat} (h1 : w.grownBy w1 row) (h2 : w1.grownBy w2 row) : w.grownBy w2 row :=
  ⟨h2.os.trans h1.os, h2.tape.trans h1.tape, h2.output.trans h1.output, Nat.le_trans h1.size h2.size, fun k hk hne => (h2.block k (Nat.lt_of_lt_of_le hk h1.size) hne).trans (h1.block k hk hne)⟩
/-- The reader in memory. -/
def RD (w0 : World) (Br : Nat) (y : List Int) (e : Int) (w : World) : Prop :=
  ∃ A c, w.heap[Br]? = some (.cells #[.slice A y.length c, .int .i64 e] 46 (0, 0)) ∧ y.length ≤ c ∧ Kd.C (Kd.int .u8) w0 A y.length y ∧ Below w0.heap.size w0 w
def RTold (w0 : World) (Br : Nat) (w : World) (y : List Int) (e : Int) (v : Value) (x : Ending) (w' : World) : Prop := x = .returned v ∧ RD w0 Br y e w' ∧ w.grownBy w' (some Br)
theorem RD.drewN {w0 w : World} {Br : Nat} {y : List Int} {e : Int} (h : RD w0 Br y e w) (m : Nat) : RD w0 Br y e (w.drewN m) := by
  obtain ⟨A, c, h1, h2, h3, h4⟩ := h
  exact ⟨A, c, blk_drewN h1 m, h2, h3, pw_below_drewN h4 m⟩
set_option maxHeartbeats 1000000 in
set_option maxRecDepth 100000 in
theorem number_no (w0 w : World) (Br : Nat) (y : List Int) (e : Int) (nd : Bool) (hR : RD w0 Br y e w) (he : nd = false ∨ (nd = true ∧ (e != 0) = true)) :
    Calls Try.prog 25 #[.pointer (some ⟨Br, 0, none⟩), .bool nd] w (RTold w0 Br w y e (.int .i64 0)) := by
  have HR := Aside0.mk hR
  obtain ⟨A, c, h1, _⟩ := hR
  have h2 : w.cell? ⟨Br, 1, none⟩ = some (.int .i64 e) := (blk_cell h1 1).trans rfl
  clear h1
  rcases he with rfl | ⟨rfl, he⟩
  all_goals
    go_enter Try.func25, Try.ntmps25
    go_wp2
    go_ret
    exact ⟨rfl, HR.out, World.grownBy.refl _ _⟩
set_option maxHeartbeats 2000000 in
set_option maxRecDepth 100000 in
theorem number_yes (k : Nat) (w0 w : World) (Br : Nat) (hB : w0.heap.size ≤ Br) (y z : List Int) (g1 g2 g3 : Int) (hR : RD w0 Br y 0 w) (hg : vlq_Get.f k y = some (g1, g2, g3)) (h0 : 0 ≤ g2) (h1 : g2 ≤ (y.length : Int)) (hz : z = y.drop g2.toNat) :
    Calls Try.prog 25 #[.pointer (some ⟨Br, 0, none⟩), .bool true] w (RTold w0 Br w z g3 (.int .i64 g1)) := by
  obtain ⟨A, c, hb, hc, hC, hW⟩ := hR
  have q0 : w.cell? ⟨Br, 0, none⟩ = some (.slice A y.length c) := (blk_cell hb 0).trans rfl
  have q1 : w.cell? ⟨Br, 1, none⟩ = some (.int .i64 0) := (blk_cell hb 1).trans rfl
  have f0 := blk_frozen hb 0
  have f1 := blk_frozen hb 1
  have hat : g2.toNat ≤ y.length := by omega
  obtain ⟨i0, hi0, _, hsz, _⟩ := info_parts info5
  have hcut := cut_from (P := Try.prog) 26 5 .i64 Try.underlying26 hi0 1 hsz A y.length c g2 h0 h1
  have hr := Kd.C_drop (m := g2.toNat) (c := c) hC hat hc
  have hyl : z.length = y.length - g2.toNat := by rw [hz, List.length_drop]
  rw [← hz] at hr
  obtain ⟨A2, hA2⟩ : ∃ A1, A1 = (if c = g2.toNat then A else (A : Option Addr).map (·.add (g2.toNat * 1))) := ⟨_, rfl⟩
  obtain ⟨c2, hc2⟩ : ∃ c1, c1 = c - g2.toNat := ⟨_, rfl⟩
  replace hr : Kd.C (Kd.int .u8) w0 A2 z.length z := by rw [hA2]; exact hr
  rw [← hyl, ← hA2, ← hc2] at hcut
  have HR2 := Aside0.mk hr
  have HC2 := Aside0.mk (show z.length ≤ c2 from by rw [hyl, hc2]; exact Nat.sub_le_sub_right hc _)
  have HC := Aside0.mk (Kd.C_below hC hW)
  have HL := Aside0.mk hc
  have HB := Aside0.mk hb
  have HW := Aside0.mk hW
  have HG := Aside0.mk hg
  have HS := Aside0.mk hB
  clear hb hC hW hg hc hB hr hyl hz hA2 hc2 hat hi0 hsz h0 h1
  go_enter Try.func25, Try.ntmps25
  go_wp2_with (go_at_call 31; refine (vlq_Get.drawn k A c y g1 g2 g3 _ HC.out HL.out HG.out).mono ?_; rintro x w1 ⟨rfl, n1, rfl⟩)
  go_ret
  refine ⟨rfl, ⟨A2, c2, blk_put (blk_put (blk_drewN HB.out n1) 0 _ rfl) 1 _ rfl, HC2.out, HR2.out, (below_set (below_set (pw_below_drewN HW.out n1) HS.out) HS.out)⟩, ?_⟩
  exact grown_put (grown_put (grown_drewN w (some Br) n1) 0 _) 1 _
set_option maxHeartbeats 1000000 in
set_option maxRecDepth 100000 in
theorem text_bad (w0 w : World) (Br : Nat) (y : List Int) (e n : Int) (nd : Bool)
    (hn : Calls Try.prog 25 #[.pointer (some ⟨Br, 0, none⟩), .bool nd] w (RTold w0 Br w y e (.int .i64 n))) (he : (e == 0) = false) :
    Calls Try.prog 26 #[.pointer (some ⟨Br, 0, none⟩), .bool nd] w (RTold w0 Br w y e (.string ⟨#[]⟩)) := by
  have HN := Aside0.mk hn
  have he2 : (e != 0) = true := by rw [bne, he]; rfl
  clear hn
  go_enter Try.func26, Try.ntmps26
  go_wp2_with fail
  refine HN.out.mono ?_
  rintro x w1 ⟨rfl, hR, hG⟩
  have HR := Aside0.mk hR
  have HG := Aside0.mk hG
  obtain ⟨A, c, hb, hc, hC, hW⟩ := hR
  have q0 : w1.cell? ⟨Br, 0, none⟩ = some (.slice A y.length c) := (blk_cell hb 0).trans rfl
  have q1 : w1.cell? ⟨Br, 1, none⟩ = some (.int .i64 e) := (blk_cell hb 1).trans rfl
  clear hb hc hC hW hG
  go_wp2
  go_ret
  exact ⟨rfl, HR.out, HG.out⟩
set_option maxHeartbeats 1000000 in
set_option maxRecDepth 100000 in
theorem text_more (w0 w : World) (Br : Nat) (hB : w0.heap.size ≤ Br) (y : List Int) (n : Int) (nd : Bool)
    (hn : Calls Try.prog 25 #[.pointer (some ⟨Br, 0, none⟩), .bool nd] w (RTold w0 Br w y 0 (.int .i64 n))) (hl : decide ((y.length : Int) < n) = true) :
    Calls Try.prog 26 #[.pointer (some ⟨Br, 0, none⟩), .bool nd] w (RTold w0 Br w y 3 (.string ⟨#[]⟩)) := by
  have HN := Aside0.mk hn
  have HS := Aside0.mk hB
  clear hn hB
  go_enter Try.func26, Try.ntmps26
  go_wp2_with fail
  refine HN.out.mono ?_
  rintro x w1 ⟨rfl, hR, hG⟩
  have HG := Aside0.mk hG
  obtain ⟨A, c, hb, hc, hC, hW⟩ := hR
  have q0 : w1.cell? ⟨Br, 0, none⟩ = some (.slice A y.length c) := (blk_cell hb 0).trans rfl
  have q1 : w1.cell? ⟨Br, 1, none⟩ = some (.int .i64 0) := (blk_cell hb 1).trans rfl
  have f1 := blk_frozen hb 1
  have HB := Aside0.mk hb
  have HL := Aside0.mk hc
  have HC := Aside0.mk hC
  have HW := Aside0.mk hW
  clear hb hc hC hW hG
  go_wp2
  go_ret
  exact ⟨rfl, ⟨A, c, blk_put HB.out 1 _ rfl, HL.out, HC.out, below_set HW.out HS.out⟩, grown_put HG.out 1 _⟩
set_option maxHeartbeats 1000000 in
set_option maxRecDepth 100000 in
theorem text_ok (w0 w : World) (Br : Nat) (hB : w0.heap.size ≤ Br) (y z x1 : List Int) (n : Int) (nd : Bool)
    (hn : Calls Try.prog 25 #[.pointer (some ⟨Br, 0, none⟩), .bool nd] w (RTold w0 Br w y 0 (.int .i64 n))) (h0 : 0 ≤ n) (h1 : n ≤ (y.length : Int)) (hz : z = y.drop n.toNat) (hx : x1 = y.take n.toNat) :
    Calls Try.prog 26 #[.pointer (some ⟨Br, 0, none⟩), .bool nd] w (RTold w0 Br w z 0 (.string (strOfNums x1))) := by
  have HN := Aside0.mk hn
  have HS := Aside0.mk hB
  clear hn hB
  go_enter Try.func26, Try.ntmps26
  go_wp2_with fail
  refine HN.out.mono ?_
  rintro x w1 ⟨rfl, hR, hG⟩
  have HG := Aside0.mk hG
  obtain ⟨A, c, hb, hc, hC, hW⟩ := hR
  have q0 : w1.cell? ⟨Br, 0, none⟩ = some (.slice A y.length c) := (blk_cell hb 0).trans rfl
  have q1 : w1.cell? ⟨Br, 1, none⟩ = some (.int .i64 0) := (blk_cell hb 1).trans rfl
  have f0 := blk_frozen hb 0
  have hlt : decide ((y.length : Int) < n) = false := decide_eq_false (by omega)
  have hat : n.toNat ≤ y.length := by omega
  obtain ⟨i0, hi0, _, hsz, _⟩ := info_parts info5
  have hcut := cut_from (P := Try.prog) 26 5 .i64 Try.underlying26 hi0 1 hsz A y.length c n h0 h1
  have hcut2 := cut_to (P := Try.prog) 26 5 .i64 Try.underlying26 hi0 A y.length c n h0 h1 hc
  have hr := Kd.C_drop (m := n.toNat) (c := c) hC hat hc
  have ht := Kd.C_take (m := n.toNat) (Kd.C_below hC hW) hat
  have hyl : z.length = y.length - n.toNat := by rw [hz, List.length_drop]
  have hxl : x1.length = n.toNat := by rw [hx, List.length_take]; omega
  rw [← hz] at hr
  rw [← hx, hxl] at ht
  have hcv := Kd.C_string (P := Try.prog) Try.underlying26 Try.underlying5 Try.underlying9 (c := c) ht
  obtain ⟨A2, hA2⟩ : ∃ A1, A1 = (if c = n.toNat then A else (A : Option Addr).map (·.add (n.toNat * 1))) := ⟨_, rfl⟩
  obtain ⟨c2, hc2⟩ : ∃ c1, c1 = c - n.toNat := ⟨_, rfl⟩
  replace hr : Kd.C (Kd.int .u8) w0 A2 z.length z := by rw [hA2]; exact hr
  rw [← hyl, ← hA2, ← hc2] at hcut
  have HR2 := Aside0.mk hr
  have HC2 := Aside0.mk (show z.length ≤ c2 from by rw [hyl, hc2]; exact Nat.sub_le_sub_right hc _)
  have HB := Aside0.mk hb
  have HL := Aside0.mk hc
  have HW := Aside0.mk hW
  clear hb hc hC hW hG hr hyl hz hA2 hc2 hat hi0 hsz h0 h1 ht hx hxl
  go_wp2
  go_ret
  exact ⟨rfl, ⟨A2, c2, blk_put HB.out 0 _ rfl, HC2.out, HR2.out, below_set HW.out HS.out⟩, grown_put HG.out 0 _⟩
theorem RD.below {w0 w w1 : World} {Br : Nat} {y : List Int} {e : Int} (h : RD w0 Br y e w) (hb : Below w.heap.size w w1) : RD w0 Br y e w1 := by
  obtain ⟨A, c, h1, h2, h3, h4⟩ := h
  exact ⟨A, c, blk_below h1 hb, h2, h3, below_then h4 h4.size hb⟩
theorem RD.far {w0 w : World} {Br : Nat} {y : List Int} {e : Int} (h : RD w0 Br y e w) {g : Nat} (hne : Br ≠ g) (hg : w0.heap.size ≤ g) (i : Nat) (u : Value) : RD w0 Br y e (w.setCell ⟨g, i, none⟩ u) := by
  obtain ⟨A, c, h1, h2, h3, h4⟩ := h
  exact ⟨A, c, blk_far h1 hne u, h2, h3, below_set h4 hg⟩
theorem RD.setE {w0 w : World} {Br : Nat} {y : List Int} {e : Int} (h : RD w0 Br y e w) (hB : w0.heap.size ≤ Br) (e' : Int) : RD w0 Br y e' (w.setCell ⟨Br, 1, none⟩ (.int .i64 e')) := by
  obtain ⟨A, c, h1, h2, h3, h4⟩ := h
  exact ⟨A, c, blk_put h1 1 _ rfl, h2, h3, below_set h4 hB⟩
theorem RD.cell0 {w0 w : World} {Br : Nat} {y : List Int} {e : Int} (h : RD w0 Br y e w) : ∃ A c, w.cell? ⟨Br, 0, none⟩ = some (.slice A y.length c) := by
  obtain ⟨A, c, h1, h2, h3, h4⟩ := h
  exact ⟨A, c, (blk_cell h1 0).trans rfl⟩
theorem RD.cell1 {w0 w : World} {Br : Nat} {y : List Int} {e : Int} (h : RD w0 Br y e w) : w.cell? ⟨Br, 1, none⟩ = some (.int .i64 e) ∧ w.frozen? ⟨Br, 1, none⟩ = false := by
  obtain ⟨A, c, h1, h2, h3, h4⟩ := h
  exact ⟨(blk_cell h1 1).trans rfl, blk_frozen h1 1⟩
theorem RD.size {w0 w : World} {Br : Nat} {y : List Int} {e : Int} (h : RD w0 Br y e w) : Br < w.heap.size := by
  obtain ⟨A, c, h1, h2, h3, h4⟩ := h
  exact blk_lt h1
theorem RD.bel {w0 w : World} {Br : Nat} {y : List Int} {e : Int} (h : RD w0 Br y e w) : Below w0.heap.size w0 w := by
  obtain ⟨A, c, h1, h2, h3, h4⟩ := h
  exact h4
def resW (w : World) : World := w.alloc (.cells #[.int .i64 0, .int .i64 0, .int .i64 0, .int .i64 0, .int .i64 0, .string ⟨#[]⟩] 23)
theorem resW_size (w : World) : (resW w).heap.size = w.heap.size + 1 := by simp [resW]
theorem RD.start (w : World) (A : Option Addr) (c : Nat) (y : List Int) (hC : Kd.C (Kd.int .u8) w A y.length y) (hc : y.length ≤ c) : RD (resW w) (w.heap.size + 1) y 0 ((resW w).alloc (.cells #[.slice A y.length c, .int .i64 0] 46)) := by
  refine ⟨A, c, ?_, hc, Kd.C_alloc hC _, below_alloc (Below.refl _ _) _⟩
  rw [← resW_size w]
  exact blk_new _ _
theorem res_at {w w' : World} (h : Below (resW w).heap.size (resW w) w') : w'.heap[w.heap.size]? = some (.cells #[.int .i64 0, .int .i64 0, .int .i64 0, .int .i64 0, .int .i64 0, .string ⟨#[]⟩] 23 (0, 0)) := blk_below (blk_new w _) h
theorem res_below {w w' : World} (h : Below (resW w).heap.size (resW w) w') : Below w.heap.size w w' := below_then (w1 := resW w) (below_alloc (Below.refl _ _) _) (by rw [resW_size]; omega) h
def GTold (w : World) (c0 c1 c2 c3 c4 : Int) (c5 : ByteArray) (e : Int) (x : Ending) (w' : World) : Prop :=
  x = .returned (.tuple #[.agg #[.int .i64 c0, .int .i64 c1, .int .i64 c2, .int .i64 c3, .int .i64 c4, .string c5], .int .i64 e]) ∧ Below w.heap.size w w'
set_option maxHeartbeats 4000000 in
set_option maxRecDepth 100000 in
theorem get_a1 (w : World) (A : Option Addr) (c : Nat) (b y0 y1 y2 y3 y4 y5 : List Int) (e0 e0' e1 e2 e3 e4 e5 v0 v1 v2 v3 v4 : Int) (v5 : ByteArray) (u nn t rr is : Bool) (hC : Kd.C (Kd.int .u8) w A b.length b) (hc : b.length ≤ c)
    (hN0 : ∀ w1, RD (resW w) (w.heap.size + 1) b 0 w1 → Calls Try.prog 25 #[.pointer (some ⟨w.heap.size + 1, 0, none⟩), .bool true] w1 (RTold (resW w) (w.heap.size + 1) w1 y0 e0 (.int .i64 v0)))
    (hOf : ∀ w1, Calls Try.prog 18 #[.agg #[.int .i64 0, .int .i64 0, .int .i64 v0, .int .i64 0, .int .i64 0, .string ⟨#[]⟩]] w1 fun e w' => e = .returned (.tuple #[.agg #[.bool u, .bool nn, .bool t, .bool rr], .bool is]) ∧ Below w1.heap.size w1 w')
    (hN1 : ∀ w1, RD (resW w) (w.heap.size + 1) y0 e0' w1 → Calls Try.prog 25 #[.pointer (some ⟨w.heap.size + 1, 0, none⟩), .bool u] w1 (RTold (resW w) (w.heap.size + 1) w1 y1 e1 (.int .i64 v1)))
    (hN2 : ∀ w1, RD (resW w) (w.heap.size + 1) y1 e1 w1 → Calls Try.prog 25 #[.pointer (some ⟨w.heap.size + 1, 0, none⟩), .bool u] w1 (RTold (resW w) (w.heap.size + 1) w1 y2 e2 (.int .i64 v2)))
    (hN3 : ∀ w1, RD (resW w) (w.heap.size + 1) y2 e2 w1 → Calls Try.prog 25 #[.pointer (some ⟨w.heap.size + 1, 0, none⟩), .bool u] w1 (RTold (resW w) (w.heap.size + 1) w1 y3 e3 (.int .i64 v3)))
    (hN4 : ∀ w1, RD (resW w) (w.heap.size + 1) y3 e3 w1 → Calls Try.prog 25 #[.pointer (some ⟨w.heap.size + 1, 0, none⟩), .bool nn] w1 (RTold (resW w) (w.heap.size + 1) w1 y4 e4 (.int .i64 v4)))
    (hN5 : ∀ w1, RD (resW w) (w.heap.size + 1) y4 e4 w1 → Calls Try.prog 26 #[.pointer (some ⟨w.heap.size + 1, 0, none⟩), .bool t] w1 (RTold (resW w) (w.heap.size + 1) w1 y5 e5 (.string v5)))
    (hE : e0' = e0) (p1 : (e0 == 0) = false) (p2 : (e5 != 0) = true) (p3 : (e5 == 0) = false) :
    Calls Try.prog 16 #[.slice A b.length c] w (GTold w 0 0 0 0 0 ⟨#[]⟩ e5) := by
  have HN0 := Aside0.mk hN0
  have HOF := Aside0.mk hOf
  have HN1 := Aside0.mk hN1
  have HN2 := Aside0.mk hN2
  have HN3 := Aside0.mk hN3
  have HN4 := Aside0.mk hN4
  have HN5 := Aside0.mk hN5
  have HST := Aside0.mk (RD.start w A c b hC hc)
  clear hN0 hOf hN1 hN2 hN3 hN4 hN5 hC hc
  subst hE
  go_enter Try.func16, Try.ntmps16
  go_wp2_with fail
  refine (HN0.out _ HST.out).mono ?_
  rintro x w1 ⟨rfl, hR1, hG1⟩
  have HR1 := Aside0.mk hR1
  clear hR1 hG1
  go_wp2_with fail
  refine (HOF.out _).mono ?_
  rintro x w2 ⟨rfl, hb2⟩
  obtain ⟨Cb, hCb⟩ : ∃ n, n = w1.heap.size := ⟨_, rfl⟩
  rw [← hCb]
  have HR2 := Aside0.mk ((HR1.out.below (below_alloc (Below.refl _ _) _)).below hb2)
  have hC2 : w2.heap[Cb]? = some (.cells #[.int .i64 0, .int .i64 0, .int .i64 v0, .int .i64 0, .int .i64 0, .string ⟨#[]⟩] 23 (0, 0)) := by rw [hCb]; exact blk_below (blk_new w1 _) hb2
  have HC2 := Aside0.mk hC2
  have NBr := Aside0.mk (show w.heap.size + 1 ≠ Cb by have := HR1.out.size; omega)
  have NRs := Aside0.mk (show w.heap.size ≠ Cb by have := HR1.out.size; omega)
  have LCb := Aside0.mk (show (resW w).heap.size ≤ Cb by rw [resW_size]; have := HR1.out.size; omega)
  have LKb := Aside0.mk (show Cb < w2.heap.size from blk_lt hC2)
  clear hb2 hC2 HR1 HOF HN0 HST hCb
  have q1 := HR2.out.cell1.1
  have f1 := HR2.out.cell1.2
  have s1 := HR2.out.size
  have s2 := LKb.out
  go_wp2_with fail
  obtain ⟨Kb, hKb⟩ : ∃ n, n = w2.heap.size := ⟨_, rfl⟩
  rw [← hKb]
  have HRX := Aside0.mk (HR2.out.below (below_alloc (Below.refl _ _) (.cells #[.bool u, .bool nn, .bool t, .bool rr] 36)))
  have HKX := Aside0.mk (show (w2.alloc (.cells #[.bool u, .bool nn, .bool t, .bool rr] 36)).heap[Kb]? = some (.cells #[.bool u, .bool nn, .bool t, .bool rr] 36 (0, 0)) from by rw [hKb]; exact blk_new w2 _)
  have HCX := Aside0.mk (blk_alloc HC2.out (.cells #[.bool u, .bool nn, .bool t, .bool rr] 36))
  have NKC := Aside0.mk (show Kb ≠ Cb by have := LKb.out; omega)
  have NKB := Aside0.mk (show Kb ≠ w.heap.size + 1 by have := HR2.out.size; omega)
  have NKR := Aside0.mk (show w.heap.size ≠ Kb by have := HR2.out.size; omega)
  have nkc := NKC.out
  have nbc := NBr.out
  clear hKb s1 s2 q1 f1 HR2 HC2 LKb
  refine (HN1.out _ HRX.out).mono ?_
  rintro x u1 ⟨rfl, hR, hG⟩
  have HR1q := Aside0.mk hR
  have HK1q := Aside0.mk (blk_grown HKX.out hG (fun e => NKB.out (Option.some.inj e)))
  have HC1q := Aside0.mk (blk_grown HCX.out hG (fun e => NBr.out (Option.some.inj e).symm))
  have f1q := blk_frozen HC1q.out 0
  clear hR hG HRX HKX HCX HN1
  have c1q := (blk_cell HC1q.out 0).trans rfl
  have k1q := (blk_cell HK1q.out 0).trans rfl
  go_wp2_with fail
  have HR1s := Aside0.mk (HR1q.out.far NBr.out LCb.out 0 (.int .i64 v1))
  have HK1s := Aside0.mk (blk_far HK1q.out (p := ⟨Cb, 0, none⟩) NKC.out (.int .i64 v1))
  have HC1s := Aside0.mk (blk_put HC1q.out 0 (.int .i64 v1) rfl)
  clear HR1q HK1q HC1q f1q c1q k1q
  refine (HN2.out _ HR1s.out).mono ?_
  rintro x u2 ⟨rfl, hR, hG⟩
  have HR2q := Aside0.mk hR
  have HK2q := Aside0.mk (blk_grown HK1s.out hG (fun e => NKB.out (Option.some.inj e)))
  have HC2q := Aside0.mk (blk_grown HC1s.out hG (fun e => NBr.out (Option.some.inj e).symm))
  have f2q := blk_frozen HC2q.out 1
  clear hR hG HR1s HK1s HC1s HN2
  have c2q := (blk_cell HC2q.out 1).trans rfl
  have k2q := (blk_cell HK2q.out 0).trans rfl
  go_wp2_with fail
  have HR2s := Aside0.mk (HR2q.out.far NBr.out LCb.out 1 (.int .i64 v2))
  have HK2s := Aside0.mk (blk_far HK2q.out (p := ⟨Cb, 1, none⟩) NKC.out (.int .i64 v2))
  have HC2s := Aside0.mk (blk_put HC2q.out 1 (.int .i64 v2) rfl)
  clear HR2q HK2q HC2q f2q c2q k2q
  refine (HN3.out _ HR2s.out).mono ?_
  rintro x u3 ⟨rfl, hR, hG⟩
  have HR3q := Aside0.mk hR
  have HK3q := Aside0.mk (blk_grown HK2s.out hG (fun e => NKB.out (Option.some.inj e)))
  have HC3q := Aside0.mk (blk_grown HC2s.out hG (fun e => NBr.out (Option.some.inj e).symm))
  have f3q := blk_frozen HC3q.out 3
  clear hR hG HR2s HK2s HC2s HN3
  have c3q := (blk_cell HC3q.out 3).trans rfl
  have k3q := (blk_cell HK3q.out 1).trans rfl
  go_wp2_with fail
  have HR3s := Aside0.mk (HR3q.out.far NBr.out LCb.out 3 (.int .i64 v3))
  have HK3s := Aside0.mk (blk_far HK3q.out (p := ⟨Cb, 3, none⟩) NKC.out (.int .i64 v3))
  have HC3s := Aside0.mk (blk_put HC3q.out 3 (.int .i64 v3) rfl)
  clear HR3q HK3q HC3q f3q c3q k3q
  refine (HN4.out _ HR3s.out).mono ?_
  rintro x u4 ⟨rfl, hR, hG⟩
  have HR4q := Aside0.mk hR
  have HK4q := Aside0.mk (blk_grown HK3s.out hG (fun e => NKB.out (Option.some.inj e)))
  have HC4q := Aside0.mk (blk_grown HC3s.out hG (fun e => NBr.out (Option.some.inj e).symm))
  have f4q := blk_frozen HC4q.out 4
  clear hR hG HR3s HK3s HC3s HN4
  have c4q := (blk_cell HC4q.out 4).trans rfl
  have k4q := (blk_cell HK4q.out 2).trans rfl
  go_wp2_with fail
  have HR4s := Aside0.mk (HR4q.out.far NBr.out LCb.out 4 (.int .i64 v4))
  have HK4s := Aside0.mk (blk_far HK4q.out (p := ⟨Cb, 4, none⟩) NKC.out (.int .i64 v4))
  have HC4s := Aside0.mk (blk_put HC4q.out 4 (.int .i64 v4) rfl)
  clear HR4q HK4q HC4q f4q c4q k4q
  refine (HN5.out _ HR4s.out).mono ?_
  rintro x u5 ⟨rfl, hR, hG⟩
  have HR5q := Aside0.mk hR
  have HK5q := Aside0.mk (blk_grown HK4s.out hG (fun e => NKB.out (Option.some.inj e)))
  have HC5q := Aside0.mk (blk_grown HC4s.out hG (fun e => NBr.out (Option.some.inj e).symm))
  have f5q := blk_frozen HC5q.out 5
  clear hR hG HR4s HK4s HC4s HN5
  have c5q0 := (blk_cell HC5q.out 0).trans rfl
  have c5q1 := (blk_cell HC5q.out 1).trans rfl
  have c5q2 := (blk_cell HC5q.out 2).trans rfl
  have c5q3 := (blk_cell HC5q.out 3).trans rfl
  have c5q4 := (blk_cell HC5q.out 4).trans rfl
  have c5q5 := (blk_cell HC5q.out 5).trans rfl
  have e1 := HR5q.out.cell1.1
  have ef := HR5q.out.cell1.2
  obtain ⟨A5, c5, e0c⟩ := HR5q.out.cell0
  have lb := Aside0.mk (Nat.le_trans (Nat.le_succ _) (Nat.le_trans (Nat.le_of_eq (resW_size w).symm) LCb.out))
  have nrs := NRs.out
  have rc0 := (blk_cell (res_at HR5q.out.bel) 0).trans rfl
  have rf0 := blk_frozen (res_at HR5q.out.bel) 0
  have rc1 := (blk_cell (res_at HR5q.out.bel) 1).trans rfl
  have rf1 := blk_frozen (res_at HR5q.out.bel) 1
  have rc2 := (blk_cell (res_at HR5q.out.bel) 2).trans rfl
  have rf2 := blk_frozen (res_at HR5q.out.bel) 2
  have rc3 := (blk_cell (res_at HR5q.out.bel) 3).trans rfl
  have rf3 := blk_frozen (res_at HR5q.out.bel) 3
  have rc4 := (blk_cell (res_at HR5q.out.bel) 4).trans rfl
  have rf4 := blk_frozen (res_at HR5q.out.bel) 4
  have rc5 := (blk_cell (res_at HR5q.out.bel) 5).trans rfl
  have rf5 := blk_frozen (res_at HR5q.out.bel) 5
  have nrb : w.heap.size ≠ w.heap.size + 1 := by omega
  go_wp2_with fail
  go_region
  go_wp2
  refine bodyPost_ret (results_ct rfl _ _ w.heap.size 23 #[.int .i64 0, .int .i64 0, .int .i64 0, .int .i64 0, .int .i64 0, .string ⟨#[]⟩] (0, 0) _ rfl (blk_drew (blk_put (blk_put (blk_put (blk_put (blk_put (blk_put (blk_far (p := ⟨Cb, 5, none⟩) (res_at HR5q.out.bel) NRs.out _) 0 _ rfl) 1 _ rfl) 2 _ rfl) 3 _ rfl) 4 _ rfl) 5 _ rfl)) Try.underlying23 rfl (by kernel_rfl)) rfl ?_
  exact ⟨rfl, below_drew (below_set (below_set (below_set (below_set (below_set (below_set (below_set (res_below HR5q.out.bel) lb.out) (Nat.le_refl _)) (Nat.le_refl _)) (Nat.le_refl _)) (Nat.le_refl _)) (Nat.le_refl _)) (Nat.le_refl _))⟩
set_option maxHeartbeats 4000000 in
set_option maxRecDepth 100000 in
theorem get_b1 (w : World) (A : Option Addr) (c : Nat) (b y0 y1 y2 y3 y4 y5 : List Int) (e0 e0' e1 e2 e3 e4 e5 v0 v1 v2 v3 v4 : Int) (v5 : ByteArray) (u nn t rr is : Bool) (hC : Kd.C (Kd.int .u8) w A b.length b) (hc : b.length ≤ c)
    (hN0 : ∀ w1, RD (resW w) (w.heap.size + 1) b 0 w1 → Calls Try.prog 25 #[.pointer (some ⟨w.heap.size + 1, 0, none⟩), .bool true] w1 (RTold (resW w) (w.heap.size + 1) w1 y0 e0 (.int .i64 v0)))
    (hOf : ∀ w1, Calls Try.prog 18 #[.agg #[.int .i64 0, .int .i64 0, .int .i64 v0, .int .i64 0, .int .i64 0, .string ⟨#[]⟩]] w1 fun e w' => e = .returned (.tuple #[.agg #[.bool u, .bool nn, .bool t, .bool rr], .bool is]) ∧ Below w1.heap.size w1 w')
    (hN1 : ∀ w1, RD (resW w) (w.heap.size + 1) y0 e0' w1 → Calls Try.prog 25 #[.pointer (some ⟨w.heap.size + 1, 0, none⟩), .bool u] w1 (RTold (resW w) (w.heap.size + 1) w1 y1 e1 (.int .i64 v1)))
    (hN2 : ∀ w1, RD (resW w) (w.heap.size + 1) y1 e1 w1 → Calls Try.prog 25 #[.pointer (some ⟨w.heap.size + 1, 0, none⟩), .bool u] w1 (RTold (resW w) (w.heap.size + 1) w1 y2 e2 (.int .i64 v2)))
    (hN3 : ∀ w1, RD (resW w) (w.heap.size + 1) y2 e2 w1 → Calls Try.prog 25 #[.pointer (some ⟨w.heap.size + 1, 0, none⟩), .bool u] w1 (RTold (resW w) (w.heap.size + 1) w1 y3 e3 (.int .i64 v3)))
    (hN4 : ∀ w1, RD (resW w) (w.heap.size + 1) y3 e3 w1 → Calls Try.prog 25 #[.pointer (some ⟨w.heap.size + 1, 0, none⟩), .bool nn] w1 (RTold (resW w) (w.heap.size + 1) w1 y4 e4 (.int .i64 v4)))
    (hN5 : ∀ w1, RD (resW w) (w.heap.size + 1) y4 e4 w1 → Calls Try.prog 26 #[.pointer (some ⟨w.heap.size + 1, 0, none⟩), .bool t] w1 (RTold (resW w) (w.heap.size + 1) w1 y5 e5 (.string v5)))
    (hE : e0' = 0) (hE0 : e0 = 0) (hI : is = true) (p2 : (e5 != 0) = true) (p3 : (e5 == 0) = false) :
    Calls Try.prog 16 #[.slice A b.length c] w (GTold w 0 0 0 0 0 ⟨#[]⟩ e5) := by
  have HN0 := Aside0.mk hN0
  have HOF := Aside0.mk hOf
  have HN1 := Aside0.mk hN1
  have HN2 := Aside0.mk hN2
  have HN3 := Aside0.mk hN3
  have HN4 := Aside0.mk hN4
  have HN5 := Aside0.mk hN5
  have HST := Aside0.mk (RD.start w A c b hC hc)
  clear hN0 hOf hN1 hN2 hN3 hN4 hN5 hC hc
  subst hE hE0 hI
  go_enter Try.func16, Try.ntmps16
  go_wp2_with fail
  refine (HN0.out _ HST.out).mono ?_
  rintro x w1 ⟨rfl, hR1, hG1⟩
  have HR1 := Aside0.mk hR1
  clear hR1 hG1
  go_wp2_with fail
  refine (HOF.out _).mono ?_
  rintro x w2 ⟨rfl, hb2⟩
  obtain ⟨Cb, hCb⟩ : ∃ n, n = w1.heap.size := ⟨_, rfl⟩
  rw [← hCb]
  have HR2 := Aside0.mk ((HR1.out.below (below_alloc (Below.refl _ _) _)).below hb2)
  have hC2 : w2.heap[Cb]? = some (.cells #[.int .i64 0, .int .i64 0, .int .i64 v0, .int .i64 0, .int .i64 0, .string ⟨#[]⟩] 23 (0, 0)) := by rw [hCb]; exact blk_below (blk_new w1 _) hb2
  have HC2 := Aside0.mk hC2
  have NBr := Aside0.mk (show w.heap.size + 1 ≠ Cb by have := HR1.out.size; omega)
  have NRs := Aside0.mk (show w.heap.size ≠ Cb by have := HR1.out.size; omega)
  have LCb := Aside0.mk (show (resW w).heap.size ≤ Cb by rw [resW_size]; have := HR1.out.size; omega)
  have LKb := Aside0.mk (show Cb < w2.heap.size from blk_lt hC2)
  clear hb2 hC2 HR1 HOF HN0 HST hCb
  have q1 := HR2.out.cell1.1
  have f1 := HR2.out.cell1.2
  have s1 := HR2.out.size
  have s2 := LKb.out
  go_wp2_with fail
  obtain ⟨Kb, hKb⟩ : ∃ n, n = w2.heap.size := ⟨_, rfl⟩
  rw [← hKb]
  have HRX := Aside0.mk (HR2.out.below (below_alloc (Below.refl _ _) (.cells #[.bool u, .bool nn, .bool t, .bool rr] 36)))
  have HKX := Aside0.mk (show (w2.alloc (.cells #[.bool u, .bool nn, .bool t, .bool rr] 36)).heap[Kb]? = some (.cells #[.bool u, .bool nn, .bool t, .bool rr] 36 (0, 0)) from by rw [hKb]; exact blk_new w2 _)
  have HCX := Aside0.mk (blk_alloc HC2.out (.cells #[.bool u, .bool nn, .bool t, .bool rr] 36))
  have NKC := Aside0.mk (show Kb ≠ Cb by have := LKb.out; omega)
  have NKB := Aside0.mk (show Kb ≠ w.heap.size + 1 by have := HR2.out.size; omega)
  have NKR := Aside0.mk (show w.heap.size ≠ Kb by have := HR2.out.size; omega)
  have nkc := NKC.out
  have nbc := NBr.out
  clear hKb s1 s2 q1 f1 HR2 HC2 LKb
  refine (HN1.out _ HRX.out).mono ?_
  rintro x u1 ⟨rfl, hR, hG⟩
  have HR1q := Aside0.mk hR
  have HK1q := Aside0.mk (blk_grown HKX.out hG (fun e => NKB.out (Option.some.inj e)))
  have HC1q := Aside0.mk (blk_grown HCX.out hG (fun e => NBr.out (Option.some.inj e).symm))
  have f1q := blk_frozen HC1q.out 0
  clear hR hG HRX HKX HCX HN1
  have c1q := (blk_cell HC1q.out 0).trans rfl
  have k1q := (blk_cell HK1q.out 0).trans rfl
  go_wp2_with fail
  have HR1s := Aside0.mk (HR1q.out.far NBr.out LCb.out 0 (.int .i64 v1))
  have HK1s := Aside0.mk (blk_far HK1q.out (p := ⟨Cb, 0, none⟩) NKC.out (.int .i64 v1))
  have HC1s := Aside0.mk (blk_put HC1q.out 0 (.int .i64 v1) rfl)
  clear HR1q HK1q HC1q f1q c1q k1q
  refine (HN2.out _ HR1s.out).mono ?_
  rintro x u2 ⟨rfl, hR, hG⟩
  have HR2q := Aside0.mk hR
  have HK2q := Aside0.mk (blk_grown HK1s.out hG (fun e => NKB.out (Option.some.inj e)))
  have HC2q := Aside0.mk (blk_grown HC1s.out hG (fun e => NBr.out (Option.some.inj e).symm))
  have f2q := blk_frozen HC2q.out 1
  clear hR hG HR1s HK1s HC1s HN2
  have c2q := (blk_cell HC2q.out 1).trans rfl
  have k2q := (blk_cell HK2q.out 0).trans rfl
  go_wp2_with fail
  have HR2s := Aside0.mk (HR2q.out.far NBr.out LCb.out 1 (.int .i64 v2))
  have HK2s := Aside0.mk (blk_far HK2q.out (p := ⟨Cb, 1, none⟩) NKC.out (.int .i64 v2))
  have HC2s := Aside0.mk (blk_put HC2q.out 1 (.int .i64 v2) rfl)
  clear HR2q HK2q HC2q f2q c2q k2q
  refine (HN3.out _ HR2s.out).mono ?_
  rintro x u3 ⟨rfl, hR, hG⟩
  have HR3q := Aside0.mk hR
  have HK3q := Aside0.mk (blk_grown HK2s.out hG (fun e => NKB.out (Option.some.inj e)))
  have HC3q := Aside0.mk (blk_grown HC2s.out hG (fun e => NBr.out (Option.some.inj e).symm))
  have f3q := blk_frozen HC3q.out 3
  clear hR hG HR2s HK2s HC2s HN3
  have c3q := (blk_cell HC3q.out 3).trans rfl
  have k3q := (blk_cell HK3q.out 1).trans rfl
  go_wp2_with fail
  have HR3s := Aside0.mk (HR3q.out.far NBr.out LCb.out 3 (.int .i64 v3))
  have HK3s := Aside0.mk (blk_far HK3q.out (p := ⟨Cb, 3, none⟩) NKC.out (.int .i64 v3))
  have HC3s := Aside0.mk (blk_put HC3q.out 3 (.int .i64 v3) rfl)
  clear HR3q HK3q HC3q f3q c3q k3q
  refine (HN4.out _ HR3s.out).mono ?_
  rintro x u4 ⟨rfl, hR, hG⟩
  have HR4q := Aside0.mk hR
  have HK4q := Aside0.mk (blk_grown HK3s.out hG (fun e => NKB.out (Option.some.inj e)))
  have HC4q := Aside0.mk (blk_grown HC3s.out hG (fun e => NBr.out (Option.some.inj e).symm))
  have f4q := blk_frozen HC4q.out 4
  clear hR hG HR3s HK3s HC3s HN4
  have c4q := (blk_cell HC4q.out 4).trans rfl
  have k4q := (blk_cell HK4q.out 2).trans rfl
  go_wp2_with fail
  have HR4s := Aside0.mk (HR4q.out.far NBr.out LCb.out 4 (.int .i64 v4))
  have HK4s := Aside0.mk (blk_far HK4q.out (p := ⟨Cb, 4, none⟩) NKC.out (.int .i64 v4))
  have HC4s := Aside0.mk (blk_put HC4q.out 4 (.int .i64 v4) rfl)
  clear HR4q HK4q HC4q f4q c4q k4q
  refine (HN5.out _ HR4s.out).mono ?_
  rintro x u5 ⟨rfl, hR, hG⟩
  have HR5q := Aside0.mk hR
  have HK5q := Aside0.mk (blk_grown HK4s.out hG (fun e => NKB.out (Option.some.inj e)))
  have HC5q := Aside0.mk (blk_grown HC4s.out hG (fun e => NBr.out (Option.some.inj e).symm))
  have f5q := blk_frozen HC5q.out 5
  clear hR hG HR4s HK4s HC4s HN5
  have c5q0 := (blk_cell HC5q.out 0).trans rfl
  have c5q1 := (blk_cell HC5q.out 1).trans rfl
  have c5q2 := (blk_cell HC5q.out 2).trans rfl
  have c5q3 := (blk_cell HC5q.out 3).trans rfl
  have c5q4 := (blk_cell HC5q.out 4).trans rfl
  have c5q5 := (blk_cell HC5q.out 5).trans rfl
  have e1 := HR5q.out.cell1.1
  have ef := HR5q.out.cell1.2
  obtain ⟨A5, c5, e0c⟩ := HR5q.out.cell0
  have lb := Aside0.mk (Nat.le_trans (Nat.le_succ _) (Nat.le_trans (Nat.le_of_eq (resW_size w).symm) LCb.out))
  have nrs := NRs.out
  have rc0 := (blk_cell (res_at HR5q.out.bel) 0).trans rfl
  have rf0 := blk_frozen (res_at HR5q.out.bel) 0
  have rc1 := (blk_cell (res_at HR5q.out.bel) 1).trans rfl
  have rf1 := blk_frozen (res_at HR5q.out.bel) 1
  have rc2 := (blk_cell (res_at HR5q.out.bel) 2).trans rfl
  have rf2 := blk_frozen (res_at HR5q.out.bel) 2
  have rc3 := (blk_cell (res_at HR5q.out.bel) 3).trans rfl
  have rf3 := blk_frozen (res_at HR5q.out.bel) 3
  have rc4 := (blk_cell (res_at HR5q.out.bel) 4).trans rfl
  have rf4 := blk_frozen (res_at HR5q.out.bel) 4
  have rc5 := (blk_cell (res_at HR5q.out.bel) 5).trans rfl
  have rf5 := blk_frozen (res_at HR5q.out.bel) 5
  have nrb : w.heap.size ≠ w.heap.size + 1 := by omega
  go_wp2_with fail
  go_region
  go_wp2
  refine bodyPost_ret (results_ct rfl _ _ w.heap.size 23 #[.int .i64 0, .int .i64 0, .int .i64 0, .int .i64 0, .int .i64 0, .string ⟨#[]⟩] (0, 0) _ rfl (blk_drew (blk_put (blk_put (blk_put (blk_put (blk_put (blk_put (blk_far (p := ⟨Cb, 5, none⟩) (res_at HR5q.out.bel) NRs.out _) 0 _ rfl) 1 _ rfl) 2 _ rfl) 3 _ rfl) 4 _ rfl) 5 _ rfl)) Try.underlying23 rfl (by kernel_rfl)) rfl ?_
  exact ⟨rfl, below_drew (below_set (below_set (below_set (below_set (below_set (below_set (below_set (res_below HR5q.out.bel) lb.out) (Nat.le_refl _)) (Nat.le_refl _)) (Nat.le_refl _)) (Nat.le_refl _)) (Nat.le_refl _)) (Nat.le_refl _))⟩
set_option maxHeartbeats 4000000 in
set_option maxRecDepth 100000 in
theorem get_b2 (w : World) (A : Option Addr) (c : Nat) (b y0 y1 y2 y3 y4 y5 : List Int) (e0 e0' e1 e2 e3 e4 e5 v0 v1 v2 v3 v4 : Int) (v5 : ByteArray) (u nn t rr is : Bool) (hC : Kd.C (Kd.int .u8) w A b.length b) (hc : b.length ≤ c)
    (hN0 : ∀ w1, RD (resW w) (w.heap.size + 1) b 0 w1 → Calls Try.prog 25 #[.pointer (some ⟨w.heap.size + 1, 0, none⟩), .bool true] w1 (RTold (resW w) (w.heap.size + 1) w1 y0 e0 (.int .i64 v0)))
    (hOf : ∀ w1, Calls Try.prog 18 #[.agg #[.int .i64 0, .int .i64 0, .int .i64 v0, .int .i64 0, .int .i64 0, .string ⟨#[]⟩]] w1 fun e w' => e = .returned (.tuple #[.agg #[.bool u, .bool nn, .bool t, .bool rr], .bool is]) ∧ Below w1.heap.size w1 w')
    (hN1 : ∀ w1, RD (resW w) (w.heap.size + 1) y0 e0' w1 → Calls Try.prog 25 #[.pointer (some ⟨w.heap.size + 1, 0, none⟩), .bool u] w1 (RTold (resW w) (w.heap.size + 1) w1 y1 e1 (.int .i64 v1)))
    (hN2 : ∀ w1, RD (resW w) (w.heap.size + 1) y1 e1 w1 → Calls Try.prog 25 #[.pointer (some ⟨w.heap.size + 1, 0, none⟩), .bool u] w1 (RTold (resW w) (w.heap.size + 1) w1 y2 e2 (.int .i64 v2)))
    (hN3 : ∀ w1, RD (resW w) (w.heap.size + 1) y2 e2 w1 → Calls Try.prog 25 #[.pointer (some ⟨w.heap.size + 1, 0, none⟩), .bool u] w1 (RTold (resW w) (w.heap.size + 1) w1 y3 e3 (.int .i64 v3)))
    (hN4 : ∀ w1, RD (resW w) (w.heap.size + 1) y3 e3 w1 → Calls Try.prog 25 #[.pointer (some ⟨w.heap.size + 1, 0, none⟩), .bool nn] w1 (RTold (resW w) (w.heap.size + 1) w1 y4 e4 (.int .i64 v4)))
    (hN5 : ∀ w1, RD (resW w) (w.heap.size + 1) y4 e4 w1 → Calls Try.prog 26 #[.pointer (some ⟨w.heap.size + 1, 0, none⟩), .bool t] w1 (RTold (resW w) (w.heap.size + 1) w1 y5 e5 (.string v5)))
    (hE : e0' = 0) (hE0 : e0 = 0) (hI : is = true) (h5 : e5 = 0) (p4 : 0 < y5.length) :
    Calls Try.prog 16 #[.slice A b.length c] w (GTold w 0 0 0 0 0 ⟨#[]⟩ 2) := by
  have HN0 := Aside0.mk hN0
  have HOF := Aside0.mk hOf
  have HN1 := Aside0.mk hN1
  have HN2 := Aside0.mk hN2
  have HN3 := Aside0.mk hN3
  have HN4 := Aside0.mk hN4
  have HN5 := Aside0.mk hN5
  have HST := Aside0.mk (RD.start w A c b hC hc)
  clear hN0 hOf hN1 hN2 hN3 hN4 hN5 hC hc
  subst hE hE0 hI
  subst h5
  go_enter Try.func16, Try.ntmps16
  go_wp2_with fail
  refine (HN0.out _ HST.out).mono ?_
  rintro x w1 ⟨rfl, hR1, hG1⟩
  have HR1 := Aside0.mk hR1
  clear hR1 hG1
  go_wp2_with fail
  refine (HOF.out _).mono ?_
  rintro x w2 ⟨rfl, hb2⟩
  obtain ⟨Cb, hCb⟩ : ∃ n, n = w1.heap.size := ⟨_, rfl⟩
  rw [← hCb]
  have HR2 := Aside0.mk ((HR1.out.below (below_alloc (Below.refl _ _) _)).below hb2)
  have hC2 : w2.heap[Cb]? = some (.cells #[.int .i64 0, .int .i64 0, .int .i64 v0, .int .i64 0, .int .i64 0, .string ⟨#[]⟩] 23 (0, 0)) := by rw [hCb]; exact blk_below (blk_new w1 _) hb2
  have HC2 := Aside0.mk hC2
  have NBr := Aside0.mk (show w.heap.size + 1 ≠ Cb by have := HR1.out.size; omega)
  have NRs := Aside0.mk (show w.heap.size ≠ Cb by have := HR1.out.size; omega)
  have LCb := Aside0.mk (show (resW w).heap.size ≤ Cb by rw [resW_size]; have := HR1.out.size; omega)
  have LKb := Aside0.mk (show Cb < w2.heap.size from blk_lt hC2)
  clear hb2 hC2 HR1 HOF HN0 HST hCb
  have q1 := HR2.out.cell1.1
  have f1 := HR2.out.cell1.2
  have s1 := HR2.out.size
  have s2 := LKb.out
  go_wp2_with fail
  obtain ⟨Kb, hKb⟩ : ∃ n, n = w2.heap.size := ⟨_, rfl⟩
  rw [← hKb]
  have HRX := Aside0.mk (HR2.out.below (below_alloc (Below.refl _ _) (.cells #[.bool u, .bool nn, .bool t, .bool rr] 36)))
  have HKX := Aside0.mk (show (w2.alloc (.cells #[.bool u, .bool nn, .bool t, .bool rr] 36)).heap[Kb]? = some (.cells #[.bool u, .bool nn, .bool t, .bool rr] 36 (0, 0)) from by rw [hKb]; exact blk_new w2 _)
  have HCX := Aside0.mk (blk_alloc HC2.out (.cells #[.bool u, .bool nn, .bool t, .bool rr] 36))
  have NKC := Aside0.mk (show Kb ≠ Cb by have := LKb.out; omega)
  have NKB := Aside0.mk (show Kb ≠ w.heap.size + 1 by have := HR2.out.size; omega)
  have NKR := Aside0.mk (show w.heap.size ≠ Kb by have := HR2.out.size; omega)
  have nkc := NKC.out
  have nbc := NBr.out
  clear hKb s1 s2 q1 f1 HR2 HC2 LKb
  refine (HN1.out _ HRX.out).mono ?_
  rintro x u1 ⟨rfl, hR, hG⟩
  have HR1q := Aside0.mk hR
  have HK1q := Aside0.mk (blk_grown HKX.out hG (fun e => NKB.out (Option.some.inj e)))
  have HC1q := Aside0.mk (blk_grown HCX.out hG (fun e => NBr.out (Option.some.inj e).symm))
  have f1q := blk_frozen HC1q.out 0
  clear hR hG HRX HKX HCX HN1
  have c1q := (blk_cell HC1q.out 0).trans rfl
  have k1q := (blk_cell HK1q.out 0).trans rfl
  go_wp2_with fail
  have HR1s := Aside0.mk (HR1q.out.far NBr.out LCb.out 0 (.int .i64 v1))
  have HK1s := Aside0.mk (blk_far HK1q.out (p := ⟨Cb, 0, none⟩) NKC.out (.int .i64 v1))
  have HC1s := Aside0.mk (blk_put HC1q.out 0 (.int .i64 v1) rfl)
  clear HR1q HK1q HC1q f1q c1q k1q
  refine (HN2.out _ HR1s.out).mono ?_
  rintro x u2 ⟨rfl, hR, hG⟩
  have HR2q := Aside0.mk hR
  have HK2q := Aside0.mk (blk_grown HK1s.out hG (fun e => NKB.out (Option.some.inj e)))
  have HC2q := Aside0.mk (blk_grown HC1s.out hG (fun e => NBr.out (Option.some.inj e).symm))
  have f2q := blk_frozen HC2q.out 1
  clear hR hG HR1s HK1s HC1s HN2
  have c2q := (blk_cell HC2q.out 1).trans rfl
  have k2q := (blk_cell HK2q.out 0).trans rfl
  go_wp2_with fail
  have HR2s := Aside0.mk (HR2q.out.far NBr.out LCb.out 1 (.int .i64 v2))
  have HK2s := Aside0.mk (blk_far HK2q.out (p := ⟨Cb, 1, none⟩) NKC.out (.int .i64 v2))
  have HC2s := Aside0.mk (blk_put HC2q.out 1 (.int .i64 v2) rfl)
  clear HR2q HK2q HC2q f2q c2q k2q
  refine (HN3.out _ HR2s.out).mono ?_
  rintro x u3 ⟨rfl, hR, hG⟩
  have HR3q := Aside0.mk hR
  have HK3q := Aside0.mk (blk_grown HK2s.out hG (fun e => NKB.out (Option.some.inj e)))
  have HC3q := Aside0.mk (blk_grown HC2s.out hG (fun e => NBr.out (Option.some.inj e).symm))
  have f3q := blk_frozen HC3q.out 3
  clear hR hG HR2s HK2s HC2s HN3
  have c3q := (blk_cell HC3q.out 3).trans rfl
  have k3q := (blk_cell HK3q.out 1).trans rfl
  go_wp2_with fail
  have HR3s := Aside0.mk (HR3q.out.far NBr.out LCb.out 3 (.int .i64 v3))
  have HK3s := Aside0.mk (blk_far HK3q.out (p := ⟨Cb, 3, none⟩) NKC.out (.int .i64 v3))
  have HC3s := Aside0.mk (blk_put HC3q.out 3 (.int .i64 v3) rfl)
  clear HR3q HK3q HC3q f3q c3q k3q
  refine (HN4.out _ HR3s.out).mono ?_
  rintro x u4 ⟨rfl, hR, hG⟩
  have HR4q := Aside0.mk hR
  have HK4q := Aside0.mk (blk_grown HK3s.out hG (fun e => NKB.out (Option.some.inj e)))
  have HC4q := Aside0.mk (blk_grown HC3s.out hG (fun e => NBr.out (Option.some.inj e).symm))
  have f4q := blk_frozen HC4q.out 4
  clear hR hG HR3s HK3s HC3s HN4
  have c4q := (blk_cell HC4q.out 4).trans rfl
  have k4q := (blk_cell HK4q.out 2).trans rfl
  go_wp2_with fail
  have HR4s := Aside0.mk (HR4q.out.far NBr.out LCb.out 4 (.int .i64 v4))
  have HK4s := Aside0.mk (blk_far HK4q.out (p := ⟨Cb, 4, none⟩) NKC.out (.int .i64 v4))
  have HC4s := Aside0.mk (blk_put HC4q.out 4 (.int .i64 v4) rfl)
  clear HR4q HK4q HC4q f4q c4q k4q
  refine (HN5.out _ HR4s.out).mono ?_
  rintro x u5 ⟨rfl, hR, hG⟩
  have HR5q := Aside0.mk hR
  have HK5q := Aside0.mk (blk_grown HK4s.out hG (fun e => NKB.out (Option.some.inj e)))
  have HC5q := Aside0.mk (blk_grown HC4s.out hG (fun e => NBr.out (Option.some.inj e).symm))
  have f5q := blk_frozen HC5q.out 5
  clear hR hG HR4s HK4s HC4s HN5
  have c5q0 := (blk_cell HC5q.out 0).trans rfl
  have c5q1 := (blk_cell HC5q.out 1).trans rfl
  have c5q2 := (blk_cell HC5q.out 2).trans rfl
  have c5q3 := (blk_cell HC5q.out 3).trans rfl
  have c5q4 := (blk_cell HC5q.out 4).trans rfl
  have c5q5 := (blk_cell HC5q.out 5).trans rfl
  have e1 := HR5q.out.cell1.1
  have ef := HR5q.out.cell1.2
  obtain ⟨A5, c5, e0c⟩ := HR5q.out.cell0
  have lb := Aside0.mk (Nat.le_trans (Nat.le_succ _) (Nat.le_trans (Nat.le_of_eq (resW_size w).symm) LCb.out))
  have nrs := NRs.out
  have rc0 := (blk_cell (res_at HR5q.out.bel) 0).trans rfl
  have rf0 := blk_frozen (res_at HR5q.out.bel) 0
  have rc1 := (blk_cell (res_at HR5q.out.bel) 1).trans rfl
  have rf1 := blk_frozen (res_at HR5q.out.bel) 1
  have rc2 := (blk_cell (res_at HR5q.out.bel) 2).trans rfl
  have rf2 := blk_frozen (res_at HR5q.out.bel) 2
  have rc3 := (blk_cell (res_at HR5q.out.bel) 3).trans rfl
  have rf3 := blk_frozen (res_at HR5q.out.bel) 3
  have rc4 := (blk_cell (res_at HR5q.out.bel) 4).trans rfl
  have rf4 := blk_frozen (res_at HR5q.out.bel) 4
  have rc5 := (blk_cell (res_at HR5q.out.bel) 5).trans rfl
  have rf5 := blk_frozen (res_at HR5q.out.bel) 5
  have nrb : w.heap.size ≠ w.heap.size + 1 := by omega
  go_wp2_with fail
  go_region
  go_wp2
  refine bodyPost_ret (results_ct rfl _ _ w.heap.size 23 #[.int .i64 0, .int .i64 0, .int .i64 0, .int .i64 0, .int .i64 0, .string ⟨#[]⟩] (0, 0) _ rfl (blk_drew (blk_put (blk_put (blk_put (blk_put (blk_put (blk_put (blk_far (p := ⟨w.heap.size + 1, 1, none⟩) (blk_far (p := ⟨Cb, 5, none⟩) (res_at HR5q.out.bel) NRs.out _) (by show w.heap.size ≠ w.heap.size + 1; omega) _) 0 _ rfl) 1 _ rfl) 2 _ rfl) 3 _ rfl) 4 _ rfl) 5 _ rfl)) Try.underlying23 rfl (by kernel_rfl)) rfl ?_
  exact ⟨rfl, below_drew (below_set (below_set (below_set (below_set (below_set (below_set (below_set (below_set (res_below HR5q.out.bel) lb.out) (Nat.le_succ _)) (Nat.le_refl _)) (Nat.le_refl _)) (Nat.le_refl _)) (Nat.le_refl _)) (Nat.le_refl _)) (Nat.le_refl _))⟩
set_option maxHeartbeats 4000000 in
set_option maxRecDepth 100000 in
theorem get_b3 (w : World) (A : Option Addr) (c : Nat) (b y0 y1 y2 y3 y4 y5 : List Int) (e0 e0' e1 e2 e3 e4 e5 v0 v1 v2 v3 v4 : Int) (v5 : ByteArray) (u nn t rr is : Bool) (hC : Kd.C (Kd.int .u8) w A b.length b) (hc : b.length ≤ c)
    (hN0 : ∀ w1, RD (resW w) (w.heap.size + 1) b 0 w1 → Calls Try.prog 25 #[.pointer (some ⟨w.heap.size + 1, 0, none⟩), .bool true] w1 (RTold (resW w) (w.heap.size + 1) w1 y0 e0 (.int .i64 v0)))
    (hOf : ∀ w1, Calls Try.prog 18 #[.agg #[.int .i64 0, .int .i64 0, .int .i64 v0, .int .i64 0, .int .i64 0, .string ⟨#[]⟩]] w1 fun e w' => e = .returned (.tuple #[.agg #[.bool u, .bool nn, .bool t, .bool rr], .bool is]) ∧ Below w1.heap.size w1 w')
    (hN1 : ∀ w1, RD (resW w) (w.heap.size + 1) y0 e0' w1 → Calls Try.prog 25 #[.pointer (some ⟨w.heap.size + 1, 0, none⟩), .bool u] w1 (RTold (resW w) (w.heap.size + 1) w1 y1 e1 (.int .i64 v1)))
    (hN2 : ∀ w1, RD (resW w) (w.heap.size + 1) y1 e1 w1 → Calls Try.prog 25 #[.pointer (some ⟨w.heap.size + 1, 0, none⟩), .bool u] w1 (RTold (resW w) (w.heap.size + 1) w1 y2 e2 (.int .i64 v2)))
    (hN3 : ∀ w1, RD (resW w) (w.heap.size + 1) y2 e2 w1 → Calls Try.prog 25 #[.pointer (some ⟨w.heap.size + 1, 0, none⟩), .bool u] w1 (RTold (resW w) (w.heap.size + 1) w1 y3 e3 (.int .i64 v3)))
    (hN4 : ∀ w1, RD (resW w) (w.heap.size + 1) y3 e3 w1 → Calls Try.prog 25 #[.pointer (some ⟨w.heap.size + 1, 0, none⟩), .bool nn] w1 (RTold (resW w) (w.heap.size + 1) w1 y4 e4 (.int .i64 v4)))
    (hN5 : ∀ w1, RD (resW w) (w.heap.size + 1) y4 e4 w1 → Calls Try.prog 26 #[.pointer (some ⟨w.heap.size + 1, 0, none⟩), .bool t] w1 (RTold (resW w) (w.heap.size + 1) w1 y5 e5 (.string v5)))
    (hE : e0' = 0) (hE0 : e0 = 0) (hI : is = true) (h5 : e5 = 0) (p4 : ¬ 0 < y5.length) (m : Bool) (hm0 : m = false) (hM : ∀ w1, Calls Try.prog 10 #[.agg #[.int .i64 v1, .int .i64 v2, .int .i64 v0, .int .i64 v3, .int .i64 v4, .string v5]] w1 fun e w' => e = .returned (.bool m) ∧ Below w1.heap.size w1 w') :
    Calls Try.prog 16 #[.slice A b.length c] w (GTold w 0 0 0 0 0 ⟨#[]⟩ 2) := by
  have HN0 := Aside0.mk hN0
  have HOF := Aside0.mk hOf
  have HN1 := Aside0.mk hN1
  have HN2 := Aside0.mk hN2
  have HN3 := Aside0.mk hN3
  have HN4 := Aside0.mk hN4
  have HN5 := Aside0.mk hN5
  have HST := Aside0.mk (RD.start w A c b hC hc)
  clear hN0 hOf hN1 hN2 hN3 hN4 hN5 hC hc
  subst hE hE0 hI
  subst h5 hm0
  have HM := Aside0.mk hM
  clear hM
  go_enter Try.func16, Try.ntmps16
  go_wp2_with fail
  refine (HN0.out _ HST.out).mono ?_
  rintro x w1 ⟨rfl, hR1, hG1⟩
  have HR1 := Aside0.mk hR1
  clear hR1 hG1
  go_wp2_with fail
  refine (HOF.out _).mono ?_
  rintro x w2 ⟨rfl, hb2⟩
  obtain ⟨Cb, hCb⟩ : ∃ n, n = w1.heap.size := ⟨_, rfl⟩
  rw [← hCb]
  have HR2 := Aside0.mk ((HR1.out.below (below_alloc (Below.refl _ _) _)).below hb2)
  have hC2 : w2.heap[Cb]? = some (.cells #[.int .i64 0, .int .i64 0, .int .i64 v0, .int .i64 0, .int .i64 0, .string ⟨#[]⟩] 23 (0, 0)) := by rw [hCb]; exact blk_below (blk_new w1 _) hb2
  have HC2 := Aside0.mk hC2
  have NBr := Aside0.mk (show w.heap.size + 1 ≠ Cb by have := HR1.out.size; omega)
  have NRs := Aside0.mk (show w.heap.size ≠ Cb by have := HR1.out.size; omega)
  have LCb := Aside0.mk (show (resW w).heap.size ≤ Cb by rw [resW_size]; have := HR1.out.size; omega)
  have LKb := Aside0.mk (show Cb < w2.heap.size from blk_lt hC2)
  clear hb2 hC2 HR1 HOF HN0 HST hCb
  have q1 := HR2.out.cell1.1
  have f1 := HR2.out.cell1.2
  have s1 := HR2.out.size
  have s2 := LKb.out
  go_wp2_with fail
  obtain ⟨Kb, hKb⟩ : ∃ n, n = w2.heap.size := ⟨_, rfl⟩
  rw [← hKb]
  have HRX := Aside0.mk (HR2.out.below (below_alloc (Below.refl _ _) (.cells #[.bool u, .bool nn, .bool t, .bool rr] 36)))
  have HKX := Aside0.mk (show (w2.alloc (.cells #[.bool u, .bool nn, .bool t, .bool rr] 36)).heap[Kb]? = some (.cells #[.bool u, .bool nn, .bool t, .bool rr] 36 (0, 0)) from by rw [hKb]; exact blk_new w2 _)
  have HCX := Aside0.mk (blk_alloc HC2.out (.cells #[.bool u, .bool nn, .bool t, .bool rr] 36))
  have NKC := Aside0.mk (show Kb ≠ Cb by have := LKb.out; omega)
  have NKB := Aside0.mk (show Kb ≠ w.heap.size + 1 by have := HR2.out.size; omega)
  have NKR := Aside0.mk (show w.heap.size ≠ Kb by have := HR2.out.size; omega)
  have nkc := NKC.out
  have nbc := NBr.out
  clear hKb s1 s2 q1 f1 HR2 HC2 LKb
  refine (HN1.out _ HRX.out).mono ?_
  rintro x u1 ⟨rfl, hR, hG⟩
  have HR1q := Aside0.mk hR
  have HK1q := Aside0.mk (blk_grown HKX.out hG (fun e => NKB.out (Option.some.inj e)))
  have HC1q := Aside0.mk (blk_grown HCX.out hG (fun e => NBr.out (Option.some.inj e).symm))
  have f1q := blk_frozen HC1q.out 0
  clear hR hG HRX HKX HCX HN1
  have c1q := (blk_cell HC1q.out 0).trans rfl
  have k1q := (blk_cell HK1q.out 0).trans rfl
  go_wp2_with fail
  have HR1s := Aside0.mk (HR1q.out.far NBr.out LCb.out 0 (.int .i64 v1))
  have HK1s := Aside0.mk (blk_far HK1q.out (p := ⟨Cb, 0, none⟩) NKC.out (.int .i64 v1))
  have HC1s := Aside0.mk (blk_put HC1q.out 0 (.int .i64 v1) rfl)
  clear HR1q HK1q HC1q f1q c1q k1q
  refine (HN2.out _ HR1s.out).mono ?_
  rintro x u2 ⟨rfl, hR, hG⟩
  have HR2q := Aside0.mk hR
  have HK2q := Aside0.mk (blk_grown HK1s.out hG (fun e => NKB.out (Option.some.inj e)))
  have HC2q := Aside0.mk (blk_grown HC1s.out hG (fun e => NBr.out (Option.some.inj e).symm))
  have f2q := blk_frozen HC2q.out 1
  clear hR hG HR1s HK1s HC1s HN2
  have c2q := (blk_cell HC2q.out 1).trans rfl
  have k2q := (blk_cell HK2q.out 0).trans rfl
  go_wp2_with fail
  have HR2s := Aside0.mk (HR2q.out.far NBr.out LCb.out 1 (.int .i64 v2))
  have HK2s := Aside0.mk (blk_far HK2q.out (p := ⟨Cb, 1, none⟩) NKC.out (.int .i64 v2))
  have HC2s := Aside0.mk (blk_put HC2q.out 1 (.int .i64 v2) rfl)
  clear HR2q HK2q HC2q f2q c2q k2q
  refine (HN3.out _ HR2s.out).mono ?_
  rintro x u3 ⟨rfl, hR, hG⟩
  have HR3q := Aside0.mk hR
  have HK3q := Aside0.mk (blk_grown HK2s.out hG (fun e => NKB.out (Option.some.inj e)))
  have HC3q := Aside0.mk (blk_grown HC2s.out hG (fun e => NBr.out (Option.some.inj e).symm))
  have f3q := blk_frozen HC3q.out 3
  clear hR hG HR2s HK2s HC2s HN3
  have c3q := (blk_cell HC3q.out 3).trans rfl
  have k3q := (blk_cell HK3q.out 1).trans rfl
  go_wp2_with fail
  have HR3s := Aside0.mk (HR3q.out.far NBr.out LCb.out 3 (.int .i64 v3))
  have HK3s := Aside0.mk (blk_far HK3q.out (p := ⟨Cb, 3, none⟩) NKC.out (.int .i64 v3))
  have HC3s := Aside0.mk (blk_put HC3q.out 3 (.int .i64 v3) rfl)
  clear HR3q HK3q HC3q f3q c3q k3q
  refine (HN4.out _ HR3s.out).mono ?_
  rintro x u4 ⟨rfl, hR, hG⟩
  have HR4q := Aside0.mk hR
  have HK4q := Aside0.mk (blk_grown HK3s.out hG (fun e => NKB.out (Option.some.inj e)))
  have HC4q := Aside0.mk (blk_grown HC3s.out hG (fun e => NBr.out (Option.some.inj e).symm))
  have f4q := blk_frozen HC4q.out 4
  clear hR hG HR3s HK3s HC3s HN4
  have c4q := (blk_cell HC4q.out 4).trans rfl
  have k4q := (blk_cell HK4q.out 2).trans rfl
  go_wp2_with fail
  have HR4s := Aside0.mk (HR4q.out.far NBr.out LCb.out 4 (.int .i64 v4))
  have HK4s := Aside0.mk (blk_far HK4q.out (p := ⟨Cb, 4, none⟩) NKC.out (.int .i64 v4))
  have HC4s := Aside0.mk (blk_put HC4q.out 4 (.int .i64 v4) rfl)
  clear HR4q HK4q HC4q f4q c4q k4q
  refine (HN5.out _ HR4s.out).mono ?_
  rintro x u5 ⟨rfl, hR, hG⟩
  have HR5q := Aside0.mk hR
  have HK5q := Aside0.mk (blk_grown HK4s.out hG (fun e => NKB.out (Option.some.inj e)))
  have HC5q := Aside0.mk (blk_grown HC4s.out hG (fun e => NBr.out (Option.some.inj e).symm))
  have f5q := blk_frozen HC5q.out 5
  clear hR hG HR4s HK4s HC4s HN5
  have c5q0 := (blk_cell HC5q.out 0).trans rfl
  have c5q1 := (blk_cell HC5q.out 1).trans rfl
  have c5q2 := (blk_cell HC5q.out 2).trans rfl
  have c5q3 := (blk_cell HC5q.out 3).trans rfl
  have c5q4 := (blk_cell HC5q.out 4).trans rfl
  have c5q5 := (blk_cell HC5q.out 5).trans rfl
  have e1 := HR5q.out.cell1.1
  have ef := HR5q.out.cell1.2
  obtain ⟨A5, c5, e0c⟩ := HR5q.out.cell0
  have lb := Aside0.mk (Nat.le_trans (Nat.le_succ _) (Nat.le_trans (Nat.le_of_eq (resW_size w).symm) LCb.out))
  have nrs := NRs.out
  go_wp2_with fail
  refine (HM.out _).mono ?_
  rintro x w6 ⟨rfl, hb6⟩
  have HR6 := Aside0.mk ((HR5q.out.far NBr.out LCb.out 5 (.string v5)).below hb6)
  have HC6 := Aside0.mk (blk_below (blk_put HC5q.out 5 (.string v5) rfl) hb6)
  clear hb6 HR5q HC5q e0c e1 ef
  have e1 := HR6.out.cell1.1
  have ef := HR6.out.cell1.2
  have nrb : w.heap.size ≠ w.heap.size + 1 := by omega
  have rc0 := (blk_cell (res_at HR6.out.bel) 0).trans rfl
  have rf0 := blk_frozen (res_at HR6.out.bel) 0
  have rc1 := (blk_cell (res_at HR6.out.bel) 1).trans rfl
  have rf1 := blk_frozen (res_at HR6.out.bel) 1
  have rc2 := (blk_cell (res_at HR6.out.bel) 2).trans rfl
  have rf2 := blk_frozen (res_at HR6.out.bel) 2
  have rc3 := (blk_cell (res_at HR6.out.bel) 3).trans rfl
  have rf3 := blk_frozen (res_at HR6.out.bel) 3
  have rc4 := (blk_cell (res_at HR6.out.bel) 4).trans rfl
  have rf4 := blk_frozen (res_at HR6.out.bel) 4
  have rc5 := (blk_cell (res_at HR6.out.bel) 5).trans rfl
  have rf5 := blk_frozen (res_at HR6.out.bel) 5
  have d5q0 := (blk_cell HC6.out 0).trans rfl
  have d5q1 := (blk_cell HC6.out 1).trans rfl
  have d5q2 := (blk_cell HC6.out 2).trans rfl
  have d5q3 := (blk_cell HC6.out 3).trans rfl
  have d5q4 := (blk_cell HC6.out 4).trans rfl
  have d5q5 := (blk_cell HC6.out 5).trans rfl
  go_wp2_with fail
  go_region
  go_wp2
  refine bodyPost_ret (results_ct rfl _ _ w.heap.size 23 #[.int .i64 0, .int .i64 0, .int .i64 0, .int .i64 0, .int .i64 0, .string ⟨#[]⟩] (0, 0) _ rfl (blk_drew (blk_put (blk_put (blk_put (blk_put (blk_put (blk_put (blk_far (p := ⟨w.heap.size + 1, 1, none⟩) (res_at HR6.out.bel) (by show w.heap.size ≠ w.heap.size + 1; omega) _) 0 _ rfl) 1 _ rfl) 2 _ rfl) 3 _ rfl) 4 _ rfl) 5 _ rfl)) Try.underlying23 rfl (by kernel_rfl)) rfl ?_
  exact ⟨rfl, below_drew (below_set (below_set (below_set (below_set (below_set (below_set (below_set (res_below HR6.out.bel) (Nat.le_succ _)) (Nat.le_refl _)) (Nat.le_refl _)) (Nat.le_refl _)) (Nat.le_refl _)) (Nat.le_refl _)) (Nat.le_refl _))⟩
set_option maxHeartbeats 4000000 in
set_option maxRecDepth 100000 in
theorem get_b4 (w : World) (A : Option Addr) (c : Nat) (b y0 y1 y2 y3 y4 y5 : List Int) (e0 e0' e1 e2 e3 e4 e5 v0 v1 v2 v3 v4 : Int) (v5 : ByteArray) (u nn t rr is : Bool) (hC : Kd.C (Kd.int .u8) w A b.length b) (hc : b.length ≤ c)
    (hN0 : ∀ w1, RD (resW w) (w.heap.size + 1) b 0 w1 → Calls Try.prog 25 #[.pointer (some ⟨w.heap.size + 1, 0, none⟩), .bool true] w1 (RTold (resW w) (w.heap.size + 1) w1 y0 e0 (.int .i64 v0)))
    (hOf : ∀ w1, Calls Try.prog 18 #[.agg #[.int .i64 0, .int .i64 0, .int .i64 v0, .int .i64 0, .int .i64 0, .string ⟨#[]⟩]] w1 fun e w' => e = .returned (.tuple #[.agg #[.bool u, .bool nn, .bool t, .bool rr], .bool is]) ∧ Below w1.heap.size w1 w')
    (hN1 : ∀ w1, RD (resW w) (w.heap.size + 1) y0 e0' w1 → Calls Try.prog 25 #[.pointer (some ⟨w.heap.size + 1, 0, none⟩), .bool u] w1 (RTold (resW w) (w.heap.size + 1) w1 y1 e1 (.int .i64 v1)))
    (hN2 : ∀ w1, RD (resW w) (w.heap.size + 1) y1 e1 w1 → Calls Try.prog 25 #[.pointer (some ⟨w.heap.size + 1, 0, none⟩), .bool u] w1 (RTold (resW w) (w.heap.size + 1) w1 y2 e2 (.int .i64 v2)))
    (hN3 : ∀ w1, RD (resW w) (w.heap.size + 1) y2 e2 w1 → Calls Try.prog 25 #[.pointer (some ⟨w.heap.size + 1, 0, none⟩), .bool u] w1 (RTold (resW w) (w.heap.size + 1) w1 y3 e3 (.int .i64 v3)))
    (hN4 : ∀ w1, RD (resW w) (w.heap.size + 1) y3 e3 w1 → Calls Try.prog 25 #[.pointer (some ⟨w.heap.size + 1, 0, none⟩), .bool nn] w1 (RTold (resW w) (w.heap.size + 1) w1 y4 e4 (.int .i64 v4)))
    (hN5 : ∀ w1, RD (resW w) (w.heap.size + 1) y4 e4 w1 → Calls Try.prog 26 #[.pointer (some ⟨w.heap.size + 1, 0, none⟩), .bool t] w1 (RTold (resW w) (w.heap.size + 1) w1 y5 e5 (.string v5)))
    (hE : e0' = 0) (hE0 : e0 = 0) (hI : is = true) (h5 : e5 = 0) (p4 : ¬ 0 < y5.length) (m : Bool) (hm0 : m = true) (hM : ∀ w1, Calls Try.prog 10 #[.agg #[.int .i64 v1, .int .i64 v2, .int .i64 v0, .int .i64 v3, .int .i64 v4, .string v5]] w1 fun e w' => e = .returned (.bool m) ∧ Below w1.heap.size w1 w') :
    Calls Try.prog 16 #[.slice A b.length c] w (GTold w v1 v2 v0 v3 v4 v5 0) := by
  have HN0 := Aside0.mk hN0
  have HOF := Aside0.mk hOf
  have HN1 := Aside0.mk hN1
  have HN2 := Aside0.mk hN2
  have HN3 := Aside0.mk hN3
  have HN4 := Aside0.mk hN4
  have HN5 := Aside0.mk hN5
  have HST := Aside0.mk (RD.start w A c b hC hc)
  clear hN0 hOf hN1 hN2 hN3 hN4 hN5 hC hc
  subst hE hE0 hI
  subst h5 hm0
  have HM := Aside0.mk hM
  clear hM
  go_enter Try.func16, Try.ntmps16
  go_wp2_with fail
  refine (HN0.out _ HST.out).mono ?_
  rintro x w1 ⟨rfl, hR1, hG1⟩
  have HR1 := Aside0.mk hR1
  clear hR1 hG1
  go_wp2_with fail
  refine (HOF.out _).mono ?_
  rintro x w2 ⟨rfl, hb2⟩
  obtain ⟨Cb, hCb⟩ : ∃ n, n = w1.heap.size := ⟨_, rfl⟩
  rw [← hCb]
  have HR2 := Aside0.mk ((HR1.out.below (below_alloc (Below.refl _ _) _)).below hb2)
  have hC2 : w2.heap[Cb]? = some (.cells #[.int .i64 0, .int .i64 0, .int .i64 v0, .int .i64 0, .int .i64 0, .string ⟨#[]⟩] 23 (0, 0)) := by rw [hCb]; exact blk_below (blk_new w1 _) hb2
  have HC2 := Aside0.mk hC2
  have NBr := Aside0.mk (show w.heap.size + 1 ≠ Cb by have := HR1.out.size; omega)
  have NRs := Aside0.mk (show w.heap.size ≠ Cb by have := HR1.out.size; omega)
  have LCb := Aside0.mk (show (resW w).heap.size ≤ Cb by rw [resW_size]; have := HR1.out.size; omega)
  have LKb := Aside0.mk (show Cb < w2.heap.size from blk_lt hC2)
  clear hb2 hC2 HR1 HOF HN0 HST hCb
  have q1 := HR2.out.cell1.1
  have f1 := HR2.out.cell1.2
  have s1 := HR2.out.size
  have s2 := LKb.out
  go_wp2_with fail
  obtain ⟨Kb, hKb⟩ : ∃ n, n = w2.heap.size := ⟨_, rfl⟩
  rw [← hKb]
  have HRX := Aside0.mk (HR2.out.below (below_alloc (Below.refl _ _) (.cells #[.bool u, .bool nn, .bool t, .bool rr] 36)))
  have HKX := Aside0.mk (show (w2.alloc (.cells #[.bool u, .bool nn, .bool t, .bool rr] 36)).heap[Kb]? = some (.cells #[.bool u, .bool nn, .bool t, .bool rr] 36 (0, 0)) from by rw [hKb]; exact blk_new w2 _)
  have HCX := Aside0.mk (blk_alloc HC2.out (.cells #[.bool u, .bool nn, .bool t, .bool rr] 36))
  have NKC := Aside0.mk (show Kb ≠ Cb by have := LKb.out; omega)
  have NKB := Aside0.mk (show Kb ≠ w.heap.size + 1 by have := HR2.out.size; omega)
  have NKR := Aside0.mk (show w.heap.size ≠ Kb by have := HR2.out.size; omega)
  have nkc := NKC.out
  have nbc := NBr.out
  clear hKb s1 s2 q1 f1 HR2 HC2 LKb
  refine (HN1.out _ HRX.out).mono ?_
  rintro x u1 ⟨rfl, hR, hG⟩
  have HR1q := Aside0.mk hR
  have HK1q := Aside0.mk (blk_grown HKX.out hG (fun e => NKB.out (Option.some.inj e)))
  have HC1q := Aside0.mk (blk_grown HCX.out hG (fun e => NBr.out (Option.some.inj e).symm))
  have f1q := blk_frozen HC1q.out 0
  clear hR hG HRX HKX HCX HN1
  have c1q := (blk_cell HC1q.out 0).trans rfl
  have k1q := (blk_cell HK1q.out 0).trans rfl
  go_wp2_with fail
  have HR1s := Aside0.mk (HR1q.out.far NBr.out LCb.out 0 (.int .i64 v1))
  have HK1s := Aside0.mk (blk_far HK1q.out (p := ⟨Cb, 0, none⟩) NKC.out (.int .i64 v1))
  have HC1s := Aside0.mk (blk_put HC1q.out 0 (.int .i64 v1) rfl)
  clear HR1q HK1q HC1q f1q c1q k1q
  refine (HN2.out _ HR1s.out).mono ?_
  rintro x u2 ⟨rfl, hR, hG⟩
  have HR2q := Aside0.mk hR
  have HK2q := Aside0.mk (blk_grown HK1s.out hG (fun e => NKB.out (Option.some.inj e)))
  have HC2q := Aside0.mk (blk_grown HC1s.out hG (fun e => NBr.out (Option.some.inj e).symm))
  have f2q := blk_frozen HC2q.out 1
  clear hR hG HR1s HK1s HC1s HN2
  have c2q := (blk_cell HC2q.out 1).trans rfl
  have k2q := (blk_cell HK2q.out 0).trans rfl
  go_wp2_with fail
  have HR2s := Aside0.mk (HR2q.out.far NBr.out LCb.out 1 (.int .i64 v2))
  have HK2s := Aside0.mk (blk_far HK2q.out (p := ⟨Cb, 1, none⟩) NKC.out (.int .i64 v2))
  have HC2s := Aside0.mk (blk_put HC2q.out 1 (.int .i64 v2) rfl)
  clear HR2q HK2q HC2q f2q c2q k2q
  refine (HN3.out _ HR2s.out).mono ?_
  rintro x u3 ⟨rfl, hR, hG⟩
  have HR3q := Aside0.mk hR
  have HK3q := Aside0.mk (blk_grown HK2s.out hG (fun e => NKB.out (Option.some.inj e)))
  have HC3q := Aside0.mk (blk_grown HC2s.out hG (fun e => NBr.out (Option.some.inj e).symm))
  have f3q := blk_frozen HC3q.out 3
  clear hR hG HR2s HK2s HC2s HN3
  have c3q := (blk_cell HC3q.out 3).trans rfl
  have k3q := (blk_cell HK3q.out 1).trans rfl
  go_wp2_with fail
  have HR3s := Aside0.mk (HR3q.out.far NBr.out LCb.out 3 (.int .i64 v3))
  have HK3s := Aside0.mk (blk_far HK3q.out (p := ⟨Cb, 3, none⟩) NKC.out (.int .i64 v3))
  have HC3s := Aside0.mk (blk_put HC3q.out 3 (.int .i64 v3) rfl)
  clear HR3q HK3q HC3q f3q c3q k3q
  refine (HN4.out _ HR3s.out).mono ?_
  rintro x u4 ⟨rfl, hR, hG⟩
  have HR4q := Aside0.mk hR
  have HK4q := Aside0.mk (blk_grown HK3s.out hG (fun e => NKB.out (Option.some.inj e)))
  have HC4q := Aside0.mk (blk_grown HC3s.out hG (fun e => NBr.out (Option.some.inj e).symm))
  have f4q := blk_frozen HC4q.out 4
  clear hR hG HR3s HK3s HC3s HN4
  have c4q := (blk_cell HC4q.out 4).trans rfl
  have k4q := (blk_cell HK4q.out 2).trans rfl
  go_wp2_with fail
  have HR4s := Aside0.mk (HR4q.out.far NBr.out LCb.out 4 (.int .i64 v4))
  have HK4s := Aside0.mk (blk_far HK4q.out (p := ⟨Cb, 4, none⟩) NKC.out (.int .i64 v4))
  have HC4s := Aside0.mk (blk_put HC4q.out 4 (.int .i64 v4) rfl)
  clear HR4q HK4q HC4q f4q c4q k4q
  refine (HN5.out _ HR4s.out).mono ?_
  rintro x u5 ⟨rfl, hR, hG⟩
  have HR5q := Aside0.mk hR
  have HK5q := Aside0.mk (blk_grown HK4s.out hG (fun e => NKB.out (Option.some.inj e)))
  have HC5q := Aside0.mk (blk_grown HC4s.out hG (fun e => NBr.out (Option.some.inj e).symm))
  have f5q := blk_frozen HC5q.out 5
  clear hR hG HR4s HK4s HC4s HN5
  have c5q0 := (blk_cell HC5q.out 0).trans rfl
  have c5q1 := (blk_cell HC5q.out 1).trans rfl
  have c5q2 := (blk_cell HC5q.out 2).trans rfl
  have c5q3 := (blk_cell HC5q.out 3).trans rfl
  have c5q4 := (blk_cell HC5q.out 4).trans rfl
  have c5q5 := (blk_cell HC5q.out 5).trans rfl
  have e1 := HR5q.out.cell1.1
  have ef := HR5q.out.cell1.2
  obtain ⟨A5, c5, e0c⟩ := HR5q.out.cell0
  have lb := Aside0.mk (Nat.le_trans (Nat.le_succ _) (Nat.le_trans (Nat.le_of_eq (resW_size w).symm) LCb.out))
  have nrs := NRs.out
  go_wp2_with fail
  refine (HM.out _).mono ?_
  rintro x w6 ⟨rfl, hb6⟩
  have HR6 := Aside0.mk ((HR5q.out.far NBr.out LCb.out 5 (.string v5)).below hb6)
  have HC6 := Aside0.mk (blk_below (blk_put HC5q.out 5 (.string v5) rfl) hb6)
  clear hb6 HR5q HC5q e0c e1 ef
  have e1 := HR6.out.cell1.1
  have ef := HR6.out.cell1.2
  have nrb : w.heap.size ≠ w.heap.size + 1 := by omega
  have rc0 := (blk_cell (res_at HR6.out.bel) 0).trans rfl
  have rf0 := blk_frozen (res_at HR6.out.bel) 0
  have rc1 := (blk_cell (res_at HR6.out.bel) 1).trans rfl
  have rf1 := blk_frozen (res_at HR6.out.bel) 1
  have rc2 := (blk_cell (res_at HR6.out.bel) 2).trans rfl
  have rf2 := blk_frozen (res_at HR6.out.bel) 2
  have rc3 := (blk_cell (res_at HR6.out.bel) 3).trans rfl
  have rf3 := blk_frozen (res_at HR6.out.bel) 3
  have rc4 := (blk_cell (res_at HR6.out.bel) 4).trans rfl
  have rf4 := blk_frozen (res_at HR6.out.bel) 4
  have rc5 := (blk_cell (res_at HR6.out.bel) 5).trans rfl
  have rf5 := blk_frozen (res_at HR6.out.bel) 5
  have d5q0 := (blk_cell HC6.out 0).trans rfl
  have d5q1 := (blk_cell HC6.out 1).trans rfl
  have d5q2 := (blk_cell HC6.out 2).trans rfl
  have d5q3 := (blk_cell HC6.out 3).trans rfl
  have d5q4 := (blk_cell HC6.out 4).trans rfl
  have d5q5 := (blk_cell HC6.out 5).trans rfl
  go_wp2
  refine bodyPost_ret (results_ct rfl _ _ w.heap.size 23 #[.int .i64 v1, .int .i64 v2, .int .i64 v0, .int .i64 v3, .int .i64 v4, .string v5] (0, 0) _ rfl ((blk_put (blk_put (blk_put (blk_put (blk_put (blk_put (res_at HR6.out.bel) 0 _ rfl) 1 _ rfl) 2 _ rfl) 3 _ rfl) 4 _ rfl) 5 _ rfl)) Try.underlying23 rfl (by kernel_rfl)) rfl ?_
  exact ⟨rfl, (below_set (below_set (below_set (below_set (below_set (below_set (res_below HR6.out.bel) (Nat.le_refl _)) (Nat.le_refl _)) (Nat.le_refl _)) (Nat.le_refl _)) (Nat.le_refl _)) (Nat.le_refl _))⟩
set_option maxHeartbeats 4000000 in
set_option maxRecDepth 100000 in
theorem get_c1 (w : World) (A : Option Addr) (c : Nat) (b y0 y1 y2 y3 y4 y5 : List Int) (e0 e0' e1 e2 e3 e4 e5 v0 v1 v2 v3 v4 : Int) (v5 : ByteArray) (u nn t rr is : Bool) (hC : Kd.C (Kd.int .u8) w A b.length b) (hc : b.length ≤ c)
    (hN0 : ∀ w1, RD (resW w) (w.heap.size + 1) b 0 w1 → Calls Try.prog 25 #[.pointer (some ⟨w.heap.size + 1, 0, none⟩), .bool true] w1 (RTold (resW w) (w.heap.size + 1) w1 y0 e0 (.int .i64 v0)))
    (hOf : ∀ w1, Calls Try.prog 18 #[.agg #[.int .i64 0, .int .i64 0, .int .i64 v0, .int .i64 0, .int .i64 0, .string ⟨#[]⟩]] w1 fun e w' => e = .returned (.tuple #[.agg #[.bool u, .bool nn, .bool t, .bool rr], .bool is]) ∧ Below w1.heap.size w1 w')
    (hN1 : ∀ w1, RD (resW w) (w.heap.size + 1) y0 e0' w1 → Calls Try.prog 25 #[.pointer (some ⟨w.heap.size + 1, 0, none⟩), .bool u] w1 (RTold (resW w) (w.heap.size + 1) w1 y1 e1 (.int .i64 v1)))
    (hN2 : ∀ w1, RD (resW w) (w.heap.size + 1) y1 e1 w1 → Calls Try.prog 25 #[.pointer (some ⟨w.heap.size + 1, 0, none⟩), .bool u] w1 (RTold (resW w) (w.heap.size + 1) w1 y2 e2 (.int .i64 v2)))
    (hN3 : ∀ w1, RD (resW w) (w.heap.size + 1) y2 e2 w1 → Calls Try.prog 25 #[.pointer (some ⟨w.heap.size + 1, 0, none⟩), .bool u] w1 (RTold (resW w) (w.heap.size + 1) w1 y3 e3 (.int .i64 v3)))
    (hN4 : ∀ w1, RD (resW w) (w.heap.size + 1) y3 e3 w1 → Calls Try.prog 25 #[.pointer (some ⟨w.heap.size + 1, 0, none⟩), .bool nn] w1 (RTold (resW w) (w.heap.size + 1) w1 y4 e4 (.int .i64 v4)))
    (hN5 : ∀ w1, RD (resW w) (w.heap.size + 1) y4 e4 w1 → Calls Try.prog 26 #[.pointer (some ⟨w.heap.size + 1, 0, none⟩), .bool t] w1 (RTold (resW w) (w.heap.size + 1) w1 y5 e5 (.string v5)))
    (hE : e0' = 2) (hE0 : e0 = 0) (hI : is = false) (p2 : (e5 != 0) = true) (p3 : (e5 == 0) = false) :
    Calls Try.prog 16 #[.slice A b.length c] w (GTold w 0 0 0 0 0 ⟨#[]⟩ e5) := by
  have HN0 := Aside0.mk hN0
  have HOF := Aside0.mk hOf
  have HN1 := Aside0.mk hN1
  have HN2 := Aside0.mk hN2
  have HN3 := Aside0.mk hN3
  have HN4 := Aside0.mk hN4
  have HN5 := Aside0.mk hN5
  have HST := Aside0.mk (RD.start w A c b hC hc)
  clear hN0 hOf hN1 hN2 hN3 hN4 hN5 hC hc
  subst hE hE0 hI
  go_enter Try.func16, Try.ntmps16
  go_wp2_with fail
  refine (HN0.out _ HST.out).mono ?_
  rintro x w1 ⟨rfl, hR1, hG1⟩
  have HR1 := Aside0.mk hR1
  clear hR1 hG1
  go_wp2_with fail
  refine (HOF.out _).mono ?_
  rintro x w2 ⟨rfl, hb2⟩
  obtain ⟨Cb, hCb⟩ : ∃ n, n = w1.heap.size := ⟨_, rfl⟩
  rw [← hCb]
  have HR2 := Aside0.mk ((HR1.out.below (below_alloc (Below.refl _ _) _)).below hb2)
  have hC2 : w2.heap[Cb]? = some (.cells #[.int .i64 0, .int .i64 0, .int .i64 v0, .int .i64 0, .int .i64 0, .string ⟨#[]⟩] 23 (0, 0)) := by rw [hCb]; exact blk_below (blk_new w1 _) hb2
  have HC2 := Aside0.mk hC2
  have NBr := Aside0.mk (show w.heap.size + 1 ≠ Cb by have := HR1.out.size; omega)
  have NRs := Aside0.mk (show w.heap.size ≠ Cb by have := HR1.out.size; omega)
  have LCb := Aside0.mk (show (resW w).heap.size ≤ Cb by rw [resW_size]; have := HR1.out.size; omega)
  have LKb := Aside0.mk (show Cb < w2.heap.size from blk_lt hC2)
  clear hb2 hC2 HR1 HOF HN0 HST hCb
  have q1 := HR2.out.cell1.1
  have f1 := HR2.out.cell1.2
  have s1 := HR2.out.size
  have s2 := LKb.out
  go_wp2_with fail
  obtain ⟨Kb, hKb⟩ : ∃ n, n = w2.heap.size := ⟨_, rfl⟩
  rw [← hKb]
  have HRX := Aside0.mk ((HR2.out.setE (by rw [resW_size]; exact Nat.le_refl _) 2).below (below_alloc (Below.refl _ _) (.cells #[.bool u, .bool nn, .bool t, .bool rr] 36)))
  have HKX := Aside0.mk (show ((w2.setCell ⟨w.heap.size + 1, 1, none⟩ (.int .i64 2)).alloc (.cells #[.bool u, .bool nn, .bool t, .bool rr] 36)).heap[Kb]? = some (.cells #[.bool u, .bool nn, .bool t, .bool rr] 36 (0, 0)) from by rw [hKb]; simpa using blk_new (w2.setCell ⟨w.heap.size + 1, 1, none⟩ (.int .i64 2)) (.cells #[.bool u, .bool nn, .bool t, .bool rr] 36))
  have HCX := Aside0.mk (blk_alloc (blk_far HC2.out (p := ⟨w.heap.size + 1, 1, none⟩) (Ne.symm NBr.out) (.int .i64 2)) (.cells #[.bool u, .bool nn, .bool t, .bool rr] 36))
  have NKC := Aside0.mk (show Kb ≠ Cb by have := LKb.out; omega)
  have NKB := Aside0.mk (show Kb ≠ w.heap.size + 1 by have := HR2.out.size; omega)
  have NKR := Aside0.mk (show w.heap.size ≠ Kb by have := HR2.out.size; omega)
  have nkc := NKC.out
  have nbc := NBr.out
  clear hKb s1 s2 q1 f1 HR2 HC2 LKb
  refine (HN1.out _ HRX.out).mono ?_
  rintro x u1 ⟨rfl, hR, hG⟩
  have HR1q := Aside0.mk hR
  have HK1q := Aside0.mk (blk_grown HKX.out hG (fun e => NKB.out (Option.some.inj e)))
  have HC1q := Aside0.mk (blk_grown HCX.out hG (fun e => NBr.out (Option.some.inj e).symm))
  have f1q := blk_frozen HC1q.out 0
  clear hR hG HRX HKX HCX HN1
  have c1q := (blk_cell HC1q.out 0).trans rfl
  have k1q := (blk_cell HK1q.out 0).trans rfl
  go_wp2_with fail
  have HR1s := Aside0.mk (HR1q.out.far NBr.out LCb.out 0 (.int .i64 v1))
  have HK1s := Aside0.mk (blk_far HK1q.out (p := ⟨Cb, 0, none⟩) NKC.out (.int .i64 v1))
  have HC1s := Aside0.mk (blk_put HC1q.out 0 (.int .i64 v1) rfl)
  clear HR1q HK1q HC1q f1q c1q k1q
  refine (HN2.out _ HR1s.out).mono ?_
  rintro x u2 ⟨rfl, hR, hG⟩
  have HR2q := Aside0.mk hR
  have HK2q := Aside0.mk (blk_grown HK1s.out hG (fun e => NKB.out (Option.some.inj e)))
  have HC2q := Aside0.mk (blk_grown HC1s.out hG (fun e => NBr.out (Option.some.inj e).symm))
  have f2q := blk_frozen HC2q.out 1
  clear hR hG HR1s HK1s HC1s HN2
  have c2q := (blk_cell HC2q.out 1).trans rfl
  have k2q := (blk_cell HK2q.out 0).trans rfl
  go_wp2_with fail
  have HR2s := Aside0.mk (HR2q.out.far NBr.out LCb.out 1 (.int .i64 v2))
  have HK2s := Aside0.mk (blk_far HK2q.out (p := ⟨Cb, 1, none⟩) NKC.out (.int .i64 v2))
  have HC2s := Aside0.mk (blk_put HC2q.out 1 (.int .i64 v2) rfl)
  clear HR2q HK2q HC2q f2q c2q k2q
  refine (HN3.out _ HR2s.out).mono ?_
  rintro x u3 ⟨rfl, hR, hG⟩
  have HR3q := Aside0.mk hR
  have HK3q := Aside0.mk (blk_grown HK2s.out hG (fun e => NKB.out (Option.some.inj e)))
  have HC3q := Aside0.mk (blk_grown HC2s.out hG (fun e => NBr.out (Option.some.inj e).symm))
  have f3q := blk_frozen HC3q.out 3
  clear hR hG HR2s HK2s HC2s HN3
  have c3q := (blk_cell HC3q.out 3).trans rfl
  have k3q := (blk_cell HK3q.out 1).trans rfl
  go_wp2_with fail
  have HR3s := Aside0.mk (HR3q.out.far NBr.out LCb.out 3 (.int .i64 v3))
  have HK3s := Aside0.mk (blk_far HK3q.out (p := ⟨Cb, 3, none⟩) NKC.out (.int .i64 v3))
  have HC3s := Aside0.mk (blk_put HC3q.out 3 (.int .i64 v3) rfl)
  clear HR3q HK3q HC3q f3q c3q k3q
  refine (HN4.out _ HR3s.out).mono ?_
  rintro x u4 ⟨rfl, hR, hG⟩
  have HR4q := Aside0.mk hR
  have HK4q := Aside0.mk (blk_grown HK3s.out hG (fun e => NKB.out (Option.some.inj e)))
  have HC4q := Aside0.mk (blk_grown HC3s.out hG (fun e => NBr.out (Option.some.inj e).symm))
  have f4q := blk_frozen HC4q.out 4
  clear hR hG HR3s HK3s HC3s HN4
  have c4q := (blk_cell HC4q.out 4).trans rfl
  have k4q := (blk_cell HK4q.out 2).trans rfl
  go_wp2_with fail
  have HR4s := Aside0.mk (HR4q.out.far NBr.out LCb.out 4 (.int .i64 v4))
  have HK4s := Aside0.mk (blk_far HK4q.out (p := ⟨Cb, 4, none⟩) NKC.out (.int .i64 v4))
  have HC4s := Aside0.mk (blk_put HC4q.out 4 (.int .i64 v4) rfl)
  clear HR4q HK4q HC4q f4q c4q k4q
  refine (HN5.out _ HR4s.out).mono ?_
  rintro x u5 ⟨rfl, hR, hG⟩
  have HR5q := Aside0.mk hR
  have HK5q := Aside0.mk (blk_grown HK4s.out hG (fun e => NKB.out (Option.some.inj e)))
  have HC5q := Aside0.mk (blk_grown HC4s.out hG (fun e => NBr.out (Option.some.inj e).symm))
  have f5q := blk_frozen HC5q.out 5
  clear hR hG HR4s HK4s HC4s HN5
  have c5q0 := (blk_cell HC5q.out 0).trans rfl
  have c5q1 := (blk_cell HC5q.out 1).trans rfl
  have c5q2 := (blk_cell HC5q.out 2).trans rfl
  have c5q3 := (blk_cell HC5q.out 3).trans rfl
  have c5q4 := (blk_cell HC5q.out 4).trans rfl
  have c5q5 := (blk_cell HC5q.out 5).trans rfl
  have e1 := HR5q.out.cell1.1
  have ef := HR5q.out.cell1.2
  obtain ⟨A5, c5, e0c⟩ := HR5q.out.cell0
  have lb := Aside0.mk (Nat.le_trans (Nat.le_succ _) (Nat.le_trans (Nat.le_of_eq (resW_size w).symm) LCb.out))
  have nrs := NRs.out
  have rc0 := (blk_cell (res_at HR5q.out.bel) 0).trans rfl
  have rf0 := blk_frozen (res_at HR5q.out.bel) 0
  have rc1 := (blk_cell (res_at HR5q.out.bel) 1).trans rfl
  have rf1 := blk_frozen (res_at HR5q.out.bel) 1
  have rc2 := (blk_cell (res_at HR5q.out.bel) 2).trans rfl
  have rf2 := blk_frozen (res_at HR5q.out.bel) 2
  have rc3 := (blk_cell (res_at HR5q.out.bel) 3).trans rfl
  have rf3 := blk_frozen (res_at HR5q.out.bel) 3
  have rc4 := (blk_cell (res_at HR5q.out.bel) 4).trans rfl
  have rf4 := blk_frozen (res_at HR5q.out.bel) 4
  have rc5 := (blk_cell (res_at HR5q.out.bel) 5).trans rfl
  have rf5 := blk_frozen (res_at HR5q.out.bel) 5
  have nrb : w.heap.size ≠ w.heap.size + 1 := by omega
  go_wp2_with fail
  go_region
  go_wp2
  refine bodyPost_ret (results_ct rfl _ _ w.heap.size 23 #[.int .i64 0, .int .i64 0, .int .i64 0, .int .i64 0, .int .i64 0, .string ⟨#[]⟩] (0, 0) _ rfl (blk_drew (blk_put (blk_put (blk_put (blk_put (blk_put (blk_put (blk_far (p := ⟨Cb, 5, none⟩) (res_at HR5q.out.bel) NRs.out _) 0 _ rfl) 1 _ rfl) 2 _ rfl) 3 _ rfl) 4 _ rfl) 5 _ rfl)) Try.underlying23 rfl (by kernel_rfl)) rfl ?_
  exact ⟨rfl, below_drew (below_set (below_set (below_set (below_set (below_set (below_set (below_set (res_below HR5q.out.bel) lb.out) (Nat.le_refl _)) (Nat.le_refl _)) (Nat.le_refl _)) (Nat.le_refl _)) (Nat.le_refl _)) (Nat.le_refl _))⟩
def command_Get.num (k : Nat) (y : List Int) (e : Int) (nd : Bool) : Option (Int × List Int × Int) :=
  if nd = true ∧ e = 0 then ((vlq_Get.f k y).bind fun g => if 0 ≤ g.2.1 ∧ g.2.1 ≤ (y.length : Int) then some (g.1, y.drop g.2.1.toNat, g.2.2) else none) else some (0, y, e)
def command_Get.txt (k : Nat) (y : List Int) (e : Int) (nd : Bool) : Option (ByteArray × List Int × Int) :=
  (command_Get.num k y e nd).bind fun p => if p.2.2 = 0 then (if (p.2.1.length : Int) < p.1 then some (⟨#[]⟩, p.2.1, 3) else if 0 ≤ p.1 then some (strOfNums (p.2.1.take p.1.toNat), p.2.1.drop p.1.toNat, 0) else none) else some (⟨#[]⟩, p.2.1, p.2.2)
theorem command_Get.num_mono (k : Nat) (y : List Int) (e : Int) (nd : Bool) : LeO (command_Get.num k y e nd) (command_Get.num (k + 1) y e nd) := by
  unfold command_Get.num
  exact LeO.ite (LeO.bind (vlq_Get.mono _ _) (fun _ => LeO.refl _)) (LeO.refl _)
theorem command_Get.txt_mono (k : Nat) (y : List Int) (e : Int) (nd : Bool) : LeO (command_Get.txt k y e nd) (command_Get.txt (k + 1) y e nd) := by
  unfold command_Get.txt
  exact LeO.bind (command_Get.num_mono _ _ _ _) (fun _ => LeO.refl _)
theorem command_Get.num_err {k : Nat} {y z : List Int} {e e' n : Int} {nd : Bool} (h : command_Get.num k y e nd = some (n, z, e')) (he : e ≠ 0) : e' = e := by
  unfold command_Get.num at h
  rw [if_neg (fun x => he x.2)] at h
  simp only [Option.some.injEq, Prod.mk.injEq] at h
  exact h.2.2.symm
theorem command_Get.txt_err {k : Nat} {y z : List Int} {e e' : Int} {s : ByteArray} {nd : Bool} (h : command_Get.txt k y e nd = some (s, z, e')) (he : e ≠ 0) : e' = e := by
  unfold command_Get.txt at h
  obtain ⟨⟨n, y1, e1⟩, hn, h2⟩ := Option.bind_eq_some_iff.mp h
  clear h
  obtain rfl := command_Get.num_err hn he
  simp only [if_neg he, Option.some.injEq, Prod.mk.injEq] at h2
  exact h2.2.2.symm
theorem num_calls {k : Nat} {w0 : World} {Br : Nat} (hB : w0.heap.size ≤ Br) {y z : List Int} {e e' n : Int} {nd : Bool} (h : command_Get.num k y e nd = some (n, z, e')) (w1 : World) (hR : RD w0 Br y e w1) :
    Calls Try.prog 25 #[.pointer (some ⟨Br, 0, none⟩), .bool nd] w1 (RTold w0 Br w1 z e' (.int .i64 n)) := by
  unfold command_Get.num at h
  by_cases c : nd = true ∧ e = 0
  · rw [if_pos c] at h
    obtain ⟨⟨g1, g2, g3⟩, hg, h6⟩ := Option.bind_eq_some_iff.mp h
    clear h
    have h := h6
    clear h6
    simp only at h
    by_cases c2 : 0 ≤ g2 ∧ g2 ≤ (y.length : Int)
    · rw [if_pos c2] at h
      simp only [Option.some.injEq, Prod.mk.injEq] at h
      obtain ⟨rfl, rfl, rfl⟩ := h
      obtain ⟨rfl, rfl⟩ := c
      exact number_yes k w0 w1 Br hB y _ _ _ _ hR hg c2.1 c2.2 rfl
    · rw [if_neg c2] at h; cases h
  · rw [if_neg c] at h
    simp only [Option.some.injEq, Prod.mk.injEq] at h
    obtain ⟨rfl, rfl, rfl⟩ := h
    refine number_no w0 w1 Br y e nd hR ?_
    cases nd with
    | false => exact .inl rfl
    | true => exact .inr ⟨rfl, bne_iff_ne.mpr (fun x => c ⟨rfl, x⟩)⟩
theorem txt_calls {k : Nat} {w0 : World} {Br : Nat} (hB : w0.heap.size ≤ Br) {y z : List Int} {e e' : Int} {s : ByteArray} {nd : Bool} (h : command_Get.txt k y e nd = some (s, z, e')) (w1 : World) (hR : RD w0 Br y e w1) :
    Calls Try.prog 26 #[.pointer (some ⟨Br, 0, none⟩), .bool nd] w1 (RTold w0 Br w1 z e' (.string s)) := by
  unfold command_Get.txt at h
  obtain ⟨⟨n, y1, e1⟩, hn, h6⟩ := Option.bind_eq_some_iff.mp h
  clear h
  have h := h6
  clear h6
  have hc := num_calls hB hn w1 hR
  simp only at h
  by_cases c : e1 = 0
  · rw [if_pos c] at h
    subst c
    by_cases c2 : (y1.length : Int) < n
    · rw [if_pos c2] at h
      simp only [Option.some.injEq, Prod.mk.injEq] at h
      obtain ⟨rfl, rfl, rfl⟩ := h
      exact text_more w0 w1 Br hB _ n nd hc (decide_eq_true c2)
    · rw [if_neg c2] at h
      by_cases c3 : 0 ≤ n
      · rw [if_pos c3] at h
        simp only [Option.some.injEq, Prod.mk.injEq] at h
        obtain ⟨rfl, rfl, rfl⟩ := h
        exact text_ok w0 w1 Br hB y1 _ _ n nd hc c3 (by omega) rfl rfl
      · rw [if_neg c3] at h; cases h
  · rw [if_neg c] at h
    simp only [Option.some.injEq, Prod.mk.injEq] at h
    obtain ⟨rfl, rfl, rfl⟩ := h
    exact text_bad w0 w1 Br _ _ n nd hc (beq_eq_false_iff_ne.mpr c)
def command_Get.f (k : Nat) (b : List Int) : Option (Int × Int × Int × Int × Int × ByteArray × Int) :=
  (command_Get.num k b 0 true).bind fun p0 => (command_of.f 0 0 p0.1 0 0 ⟨#[]⟩).bind fun q =>
    (command_Get.num k p0.2.1 (if p0.2.2 = 0 then (if q.2.2.2.2 = true then 0 else 2) else p0.2.2) q.1).bind fun p1 => (command_Get.num k p1.2.1 p1.2.2 q.1).bind fun p2 => (command_Get.num k p2.2.1 p2.2.2 q.1).bind fun p3 =>
      (command_Get.num k p3.2.1 p3.2.2 q.2.1).bind fun p4 => (command_Get.txt k p4.2.1 p4.2.2 q.2.2.1).bind fun p5 =>
        if p5.2.2 = 0 then (if 0 < p5.2.1.length then some (0, 0, 0, 0, 0, ⟨#[]⟩, 2) else ((command_May.f p1.1 p2.1 p0.1 p3.1 p4.1 p5.1).bind fun m => if m = true then some (p1.1, p2.1, p0.1, p3.1, p4.1, p5.1, 0) else some (0, 0, 0, 0, 0, ⟨#[]⟩, 2))) else some (0, 0, 0, 0, 0, ⟨#[]⟩, p5.2.2)
theorem command_Get.mono : ∀ a0 k, LeO (command_Get.f k a0) (command_Get.f (k + 1) a0) := by
  intro a0 k
  unfold command_Get.f
  exact LeO.bind (command_Get.num_mono _ _ _ _) (fun _ => LeO.bind (LeO.refl _) (fun _ => LeO.bind (command_Get.num_mono _ _ _ _) (fun _ => LeO.bind (command_Get.num_mono _ _ _ _) (fun _ => LeO.bind (command_Get.num_mono _ _ _ _) (fun _ => LeO.bind (command_Get.num_mono _ _ _ _) (fun _ => LeO.bind (command_Get.txt_mono _ _ _ _) (fun _ => LeO.refl _)))))))
theorem command_Get.calls (k : Nat) (A0 : Option Addr) (c0 : Nat) (l0 : List Int) (r1 r2 r3 r4 r5 : Int) (r6 : ByteArray) (r7 : Int) (w : World) (hr0 : Kd.C (Kd.int .u8) w A0 l0.length l0) (hc0 : l0.length ≤ c0) (h : command_Get.f k l0 = some (r1, r2, r3, r4, r5, r6, r7)) :
    Calls Try.prog 16 #[.slice A0 l0.length c0] w fun e w' => e = .returned (.tuple #[.agg #[.int .i64 r1, .int .i64 r2, .int .i64 r3, .int .i64 r4, .int .i64 r5, .string r6], .int .i64 r7]) ∧ Below w.heap.size w w' := by
  show Calls Try.prog 16 #[.slice A0 l0.length c0] w (GTold w r1 r2 r3 r4 r5 r6 r7)
  have hB : (resW w).heap.size ≤ w.heap.size + 1 := Nat.le_of_eq (resW_size w)
  have hC : Kd.C (Kd.int .u8) w A0 l0.length l0 := hr0
  obtain ⟨⟨v0, y0, e0⟩, h0, x0⟩ := Option.bind_eq_some_iff.mp h
  obtain ⟨⟨u, nn, t, rr, is⟩, hq, x1⟩ := Option.bind_eq_some_iff.mp x0
  obtain ⟨⟨v1, y1, e1⟩, h1, x2⟩ := Option.bind_eq_some_iff.mp x1
  obtain ⟨⟨v2, y2, e2⟩, h2, x3⟩ := Option.bind_eq_some_iff.mp x2
  obtain ⟨⟨v3, y3, e3⟩, h3, x4⟩ := Option.bind_eq_some_iff.mp x3
  obtain ⟨⟨v4, y4, e4⟩, h4, x5⟩ := Option.bind_eq_some_iff.mp x4
  obtain ⟨⟨v5, y5, e5⟩, h5, x6⟩ := Option.bind_eq_some_iff.mp x5
  clear h x0 x1 x2 x3 x4 x5
  have h := x6
  clear x6
  simp only at hq h1 h2 h3 h4 h5 h
  have N0 := num_calls hB h0
  have OF := fun w1 => command_of.calls 0 0 v0 0 0 ⟨#[]⟩ u nn t rr is w1 hq
  have N1 := num_calls hB h1
  have N2 := num_calls hB h2
  have N3 := num_calls hB h3
  have N4 := num_calls hB h4
  have N5 := txt_calls hB h5
  by_cases c0' : e0 = 0
  · subst c0'
    simp only [if_pos] at h1 N1
    by_cases ci : is = true
    · subst ci
      simp only [if_pos] at h1 N1
      by_cases c5 : e5 = 0
      · subst c5
        rw [if_pos rfl] at h
        by_cases cl : 0 < y5.length
        · rw [if_pos cl] at h
          simp only [Option.some.injEq, Prod.mk.injEq] at h
          obtain ⟨rfl, rfl, rfl, rfl, rfl, rfl, rfl⟩ := h
          exact get_b2 w A0 c0 l0 y0 y1 y2 y3 y4 y5 0 0 e1 e2 e3 e4 0 v0 v1 v2 v3 v4 v5 u nn t rr true hC hc0 N0 OF N1 N2 N3 N4 N5 rfl rfl rfl rfl cl
        · rw [if_neg cl] at h
          obtain ⟨m, hm, h6⟩ := Option.bind_eq_some_iff.mp h
          clear h
          have h := h6
          clear h6
          have M := fun w1 => command_May.calls v1 v2 v0 v3 v4 v5 m w1 hm
          cases m with
          | true =>
            simp only [if_pos, Option.some.injEq, Prod.mk.injEq] at h
            obtain ⟨rfl, rfl, rfl, rfl, rfl, rfl, rfl⟩ := h
            exact get_b4 w A0 c0 l0 y0 y1 y2 y3 y4 y5 0 0 e1 e2 e3 e4 0 v0 v1 v2 v3 v4 v5 u nn t rr true hC hc0 N0 OF N1 N2 N3 N4 N5 rfl rfl rfl rfl cl true rfl M
          | false =>
            simp at h
            obtain ⟨rfl, rfl, rfl, rfl, rfl, rfl, rfl⟩ := h
            exact get_b3 w A0 c0 l0 y0 y1 y2 y3 y4 y5 0 0 e1 e2 e3 e4 0 v0 v1 v2 v3 v4 v5 u nn t rr true hC hc0 N0 OF N1 N2 N3 N4 N5 rfl rfl rfl rfl cl false rfl M
      · rw [if_neg c5] at h
        simp only [Option.some.injEq, Prod.mk.injEq] at h
        obtain ⟨rfl, rfl, rfl, rfl, rfl, rfl, rfl⟩ := h
        exact get_b1 w A0 c0 l0 y0 y1 y2 y3 y4 y5 0 0 e1 e2 e3 e4 _ v0 v1 v2 v3 v4 v5 u nn t rr true hC hc0 N0 OF N1 N2 N3 N4 N5 rfl rfl rfl (bne_iff_ne.mpr c5) (beq_eq_false_iff_ne.mpr c5)
    · replace ci : is = false := Bool.eq_false_iff.mpr ci
      subst ci
      simp only [Bool.false_eq_true, if_false] at h1 N1
      obtain rfl := command_Get.num_err h1 (by decide)
      obtain rfl := command_Get.num_err h2 (by decide)
      obtain rfl := command_Get.num_err h3 (by decide)
      obtain rfl := command_Get.num_err h4 (by decide)
      obtain rfl := command_Get.txt_err h5 (by decide)
      simp at h
      obtain ⟨rfl, rfl, rfl, rfl, rfl, rfl, rfl⟩ := h
      exact get_c1 w A0 c0 l0 y0 y1 y2 y3 y4 y5 0 2 2 2 2 2 2 v0 v1 v2 v3 v4 v5 u nn t rr false hC hc0 N0 OF N1 N2 N3 N4 N5 rfl rfl rfl (by decide) (by decide)
  · rw [if_neg c0'] at h1 N1
    obtain rfl := command_Get.num_err h1 c0'
    obtain rfl := command_Get.num_err h2 c0'
    obtain rfl := command_Get.num_err h3 c0'
    obtain rfl := command_Get.num_err h4 c0'
    obtain rfl := command_Get.txt_err h5 c0'
    rw [if_neg c0'] at h
    simp only [Option.some.injEq, Prod.mk.injEq] at h
    obtain ⟨rfl, rfl, rfl, rfl, rfl, rfl, rfl⟩ := h
    exact get_a1 w A0 c0 l0 y0 y1 y2 y3 y4 y5 _ _ _ _ _ _ _ v0 v1 v2 v3 v4 v5 u nn t rr is hC hc0 N0 OF N1 N2 N3 N4 N5 rfl (beq_eq_false_iff_ne.mpr c0') (bne_iff_ne.mpr c0') (beq_eq_false_iff_ne.mpr c0')

end Go.Proofs.Ythkipipfdlepnaa.PAll

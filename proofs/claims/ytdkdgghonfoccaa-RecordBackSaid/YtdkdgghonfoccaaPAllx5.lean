/- The machine's side of this claim, written by a program of this session out of the translation: for each Go function a Lean function of its answers, and the proof that the code comes to just these. Conditions: those that each theorem states. -/
import Derived.Test.YtdkdgghonfoccaaPAllx0
import Derived.Test.YtdkdgghonfoccaaPAllx2
import Derived.Test.YtdkdgghonfoccaaPAllx4
namespace Go.Proofs.Ytdkdgghonfoccaa.PAll
open Go.RowKit Go.Proofs.YtdkdgghonfoccaaW.PrintWords Go.Proofs.YtdkdgghonfoccaaW.PrintLast Go.Proofs.YtdkdgghonfoccaaW.PrintMore
attribute [local go_sem] max2_int min2_int max_two min_two max_three min_three max_four min_four   -- for this text's walks alone
set_option linter.unusedVariables false
set_option linter.unusedSimpArgs false

/-! ### record_Get: function 13 -/
/-- The reader in memory. -/
def Reader (w0 : World) (Br : Nat) (A : Option Addr) (n c : Nat) (at_ e : Int) (w : World) : Prop :=
  w.heap[Br]? = some (.cells #[.slice A n c, .int .i64 at_, .int .i64 e] 46 (0, 0)) ∧ Below w0.heap.size w0 w
def ReaderTold (w0 : World) (Br : Nat) (A : Option Addr) (n c : Nat) (at_ e : Int) (v : Value) (x : Ending) (w : World) : Prop := x = .returned v ∧ Reader w0 Br A n c at_ e w
set_option maxHeartbeats 1000000 in
set_option maxRecDepth 100000 in
theorem number_no (w0 w : World) (Br : Nat) (A : Option Addr) (n c : Nat) (at_ e most above : Int) (hR : Reader w0 Br A n c at_ e w) (he : (e != 0) = true) :
    Calls Try.prog 22 #[.pointer (some ⟨Br, 0, none⟩), .int .i64 most, .int .i64 above] w (ReaderTold w0 Br A n c at_ e (.int .i64 0)) := by
  have HR := Aside0.mk hR
  have h2 : w.cell? ⟨Br, 2, none⟩ = some (.int .i64 e) := (blk_cell hR.1 2).trans rfl
  clear hR
  go_enter Try.func22, Try.ntmps22
  go_wp2
  go_ret
  exact ⟨rfl, HR.out⟩
theorem Reader.drewN {w0 w : World} {Br : Nat} {A : Option Addr} {n c : Nat} {a e : Int} (h : Reader w0 Br A n c a e w) (m : Nat) : Reader w0 Br A n c a e (w.drewN m) := ⟨blk_drewN h.1 m, pw_below_drewN h.2 m⟩
theorem Reader.setAt {w0 w : World} {Br : Nat} {A : Option Addr} {n c : Nat} {a e : Int} (h : Reader w0 Br A n c a e w) (hB : w0.heap.size ≤ Br) (a' : Int) : Reader w0 Br A n c a' e (w.setCell ⟨Br, 1, none⟩ (.int .i64 a')) :=
  ⟨blk_put h.1 1 _ rfl, h.2.setCell hB _⟩
theorem Reader.setE {w0 w : World} {Br : Nat} {A : Option Addr} {n c : Nat} {a e : Int} (h : Reader w0 Br A n c a e w) (hB : w0.heap.size ≤ Br) (e' : Int) : Reader w0 Br A n c a e' (w.setCell ⟨Br, 2, none⟩ (.int .i64 e')) :=
  ⟨blk_put h.1 2 _ rfl, h.2.setCell hB _⟩
set_option maxHeartbeats 2000000 in
set_option maxRecDepth 100000 in
theorem number_yes (k : Nat) (w0 w : World) (Br : Nat) (hB : w0.heap.size ≤ Br) (A : Option Addr) (c : Nat) (b y : List Int) (at_ most above g1 g2 g3 e2 : Int) (hR : Reader w0 Br A b.length c at_ 0 w) (hC : Kd.C (Kd.int .u8) w0 A b.length b) (hc : b.length ≤ c)
    (h0 : 0 ≤ at_) (h1 : at_ ≤ (b.length : Int)) (hy : y = b.drop at_.toNat) (hg : vlq_Get.f k y = some (g1, g2, g3)) (hq : ((g3 == 0) = false ∧ e2 = g3) ∨ ((g3 == 0) = true ∧ decide (g1 > most) = false ∧ e2 = g3) ∨ ((g3 == 0) = true ∧ decide (g1 > most) = true ∧ e2 = above)) :
    Calls Try.prog 22 #[.pointer (some ⟨Br, 0, none⟩), .int .i64 most, .int .i64 above] w (ReaderTold w0 Br A b.length c (wrap64 (at_ + g2)) e2 (.int .i64 g1)) := by
  have HR := Aside0.mk hR
  have q0 : w.cell? ⟨Br, 0, none⟩ = some (.slice A b.length c) := (blk_cell hR.1 0).trans rfl
  have q1 : w.cell? ⟨Br, 1, none⟩ = some (.int .i64 at_) := (blk_cell hR.1 1).trans rfl
  have q2 : w.cell? ⟨Br, 2, none⟩ = some (.int .i64 0) := (blk_cell hR.1 2).trans rfl
  have f0 := blk_frozen hR.1 0
  have f1 := blk_frozen hR.1 1
  have f2 := blk_frozen hR.1 2
  have HC := Aside0.mk (Kd.C_below hC hR.2)
  have HG := Aside0.mk hg
  have HB := Aside0.mk hB
  have HH := Aside0.mk hc
  have hat : at_.toNat ≤ b.length := by omega
  obtain ⟨i0, hi0, _, hsz, _⟩ := info_parts info5
  have hcut := cut_from (P := Try.prog) 22 5 .i64 Try.underlying22 hi0 1 hsz A b.length c at_ h0 h1
  have hr := Kd.C_drop (m := at_.toNat) (c := c) HC.out hat hc
  obtain ⟨A2, hA2⟩ : ∃ A1, A1 = (if c = at_.toNat then A else (A : Option Addr).map (·.add (at_.toNat * 1))) := ⟨_, rfl⟩
  obtain ⟨c2, hc2⟩ : ∃ c1, c1 = c - at_.toNat := ⟨_, rfl⟩
  have hyl : y.length = b.length - at_.toNat := by rw [hy, List.length_drop]
  rw [← hy] at hr
  replace hr : Kd.C (Kd.int .u8) w A2 y.length y := by rw [hA2]; exact hr
  rw [← hyl, ← hA2, ← hc2] at hcut
  have HR2 := Aside0.mk hr
  have HC2 := Aside0.mk (show y.length ≤ c2 from by rw [hyl, hc2]; exact Nat.sub_le_sub_right hc _)
  have q := fun n => (Calls.quiet_of ((vlq_Get.drawn k A2 c2 y g1 g2 g3 (w.drewN n) (Kd.C_drewN HR2.out n) HC2.out HG.out).mono fun _ _ h => ⟨h.1, h.2.out⟩))
  have Q := Aside0.mk q
  clear hR hC hg hB hc hr hy hyl hc2 hA2 hat hi0 hsz q
  replace h0 := eq_true h0
  replace h1 := eq_true h1
  rcases hq with ⟨b1, b2⟩ | ⟨b1, b3, b2⟩ | ⟨b1, b3, b2⟩
  all_goals (have HQ := Aside0.mk b2; clear b2)
  · go_enter Try.func22, Try.ntmps22
    go_wp2_with fail
    go_quiet ((go_at_call 32; exact Q.out _))
    go_wp2
    go_ret
    rw [HQ.out]
    exact ⟨rfl, ((HR.out.drewN _).setAt HB.out _).setE HB.out _⟩
  · go_enter Try.func22, Try.ntmps22
    go_wp2_with fail
    go_quiet ((go_at_call 32; exact Q.out _))
    go_wp2
    go_ret
    rw [HQ.out]
    exact ⟨rfl, ((HR.out.drewN _).setAt HB.out _).setE HB.out _⟩
  · go_enter Try.func22, Try.ntmps22
    go_wp2_with fail
    go_quiet ((go_at_call 32; exact Q.out _))
    go_wp2
    go_ret
    rw [HQ.out]
    exact ⟨rfl, (((HR.out.drewN _).setAt HB.out _).setE HB.out _).setE HB.out _⟩
set_option maxHeartbeats 1000000 in
set_option maxRecDepth 100000 in
theorem take_no (w0 w : World) (Br : Nat) (A : Option Addr) (n c : Nat) (at_ e m : Int) (hR : Reader w0 Br A n c at_ e w) (he : (e == 0) = false) :
    Calls Try.prog 23 #[.pointer (some ⟨Br, 0, none⟩), .int .i64 m] w (ReaderTold w0 Br A n c at_ e (.slice none 0 0)) := by
  have HR := Aside0.mk hR
  have he2 : (e != 0) = true := by rw [bne, he]; rfl
  have q2 : w.cell? ⟨Br, 2, none⟩ = some (.int .i64 e) := (blk_cell hR.1 2).trans rfl
  clear hR
  go_enter Try.func23, Try.ntmps23
  go_wp2_with fail
  go_quiet (fail)
  go_wp2
  go_ret
  exact ⟨rfl, HR.out.drewN _⟩
set_option maxHeartbeats 1000000 in
set_option maxRecDepth 100000 in
theorem take_more (w0 w : World) (Br : Nat) (hB : w0.heap.size ≤ Br) (A : Option Addr) (n c : Nat) (at_ m d : Int) (hR : Reader w0 Br A n c at_ 0 w) (hd : IntKind.i64.wrap ((n : Int) - at_) = d) (hlt : decide (d < m) = true) :
    Calls Try.prog 23 #[.pointer (some ⟨Br, 0, none⟩), .int .i64 m] w (ReaderTold w0 Br A n c at_ 3 (.slice none 0 0)) := by
  have HR := Aside0.mk hR
  have HB := Aside0.mk hB
  have q0 : w.cell? ⟨Br, 0, none⟩ = some (.slice A n c) := (blk_cell hR.1 0).trans rfl
  have q1 : w.cell? ⟨Br, 1, none⟩ = some (.int .i64 at_) := (blk_cell hR.1 1).trans rfl
  have q2 : w.cell? ⟨Br, 2, none⟩ = some (.int .i64 0) := (blk_cell hR.1 2).trans rfl
  have f2 := blk_frozen hR.1 2
  clear hR hB
  go_enter Try.func23, Try.ntmps23
  go_wp2_with fail
  go_quiet (fail)
  go_wp2
  go_ret
  exact ⟨rfl, (HR.out.drewN _).setE HB.out _⟩
set_option maxHeartbeats 2000000 in
set_option maxRecDepth 100000 in
theorem take_yes (w0 w : World) (Br : Nat) (hB : w0.heap.size ≤ Br) (A : Option Addr) (c : Nat) (b z : List Int) (lo m : Nat) (d : Int) (hR : Reader w0 Br A b.length c (lo : Int) 0 w) (hC : Kd.C (Kd.int .u8) w0 A b.length b) (hc : b.length ≤ c)
    (hd : IntKind.i64.wrap ((b.length : Int) - (lo : Int)) = d) (hlt : decide (d < (m : Int)) = false) (hm : lo + m ≤ b.length) (hz : z = (b.take (lo + m)).drop lo)
    (hs : wrap64 ((lo : Int) + (m : Int)) = (lo : Int) + (m : Int)) (hs2 : IntKind.i64.wrap (lo : Int) = (lo : Int)) :
    Calls Try.prog 23 #[.pointer (some ⟨Br, 0, none⟩), .int .i64 (m : Int)] w fun x w' => ∃ A2 c2, z.length ≤ c2 ∧ Kd.C (Kd.int .u8) w' A2 z.length z ∧ ReaderTold w0 Br A b.length c ((lo : Int) + (m : Int)) 0 (.slice A2 z.length c2) x w' := by
  have HR := Aside0.mk hR
  have q0 : w.cell? ⟨Br, 0, none⟩ = some (.slice A b.length c) := (blk_cell hR.1 0).trans rfl
  have q1 : w.cell? ⟨Br, 1, none⟩ = some (.int .i64 (lo : Int)) := (blk_cell hR.1 1).trans rfl
  have q2 : w.cell? ⟨Br, 2, none⟩ = some (.int .i64 0) := (blk_cell hR.1 2).trans rfl
  have f1 := blk_frozen hR.1 1
  have HC := Aside0.mk hC
  have HB := Aside0.mk hB
  have HM := Aside0.mk hm
  have HH := Aside0.mk hc
  have HZ := Aside0.mk hz
  have HS2 := Aside0.mk hs2
  obtain ⟨i0, hi0, _, hsz, _⟩ := info_parts info5
  have hcut := cut_mid (P := Try.prog) 22 5 .i64 .i64 Try.underlying22 hi0 1 hsz A b.length c (lo : Int) ((lo : Int) + (m : Int)) (by omega) (by omega) (by omega) hc
  have hr := Kd.C_mid (lo := lo) (hi := lo + m) (c := c) hC (by omega) hm hc
  rw [← hz] at hr
  have hzl : z.length = m := by rw [hz, List.length_drop, List.length_take]; omega
  rw [show ((lo : Int) + (m : Int)).toNat - ((lo : Int)).toNat = m by omega, Int.toNat_natCast, ← hzl] at hcut
  obtain ⟨A2, hA2⟩ : ∃ A1, A1 = (if c = lo then A else (A : Option Addr).map (·.add (lo * 1))) := ⟨_, rfl⟩
  obtain ⟨c2, hc2⟩ : ∃ c1, c1 = c - lo := ⟨_, rfl⟩
  replace hr : Kd.C (Kd.int .u8) w0 A2 z.length z := by rw [hA2]; exact hr
  rw [← hA2, ← hc2] at hcut
  have HR2 := Aside0.mk hr
  have HC2 := Aside0.mk (show z.length ≤ c2 from by omega)
  have HZL := Aside0.mk hzl
  clear hr hzl hA2 hc2
  clear hR hB hC hm hc hz hi0 hsz
  go_enter Try.func23, Try.ntmps23
  go_wp2_with fail
  go_quiet (fail)
  go_wp2_with fail
  rw [HZL.out] at hcut
  go_quiet (fail)
  go_wp2
  go_ret
  have HF := fun n1 => ((HR.out.drewN n1).setAt HB.out ((lo : Int) + (m : Int)))
  exact ⟨A2, c2, HC2.out, Kd.C_below HR2.out ((HF _).drewN _).2, by rw [HZL.out]; rfl, (HF _).drewN _⟩
/-- What Get answers, in memory. -/
def RecTold (w : World) (kind : Int) (body : List Int) (n e : Int) (x : Ending) (w' : World) : Prop :=
  ∃ v1_ : Value, x = .returned (.tuple #[.agg #[.int .i64 kind, v1_], .int .i64 n, .int .i64 e]) ∧ Kd.R (Kd.int .u8) 5 w' w.heap.size (fun _ => True) v1_ body ∧ Below w.heap.size w w'
/-- The world in which the result's variable lies, and the one with the reader behind it. -/
def world0 (w : World) : World := w.alloc (.cells #[.int .i64 0, .slice none 0 0] 24)
theorem world0_size (w : World) : (world0 w).heap.size = w.heap.size + 1 := by simp [world0]
theorem reader_start (w : World) (A : Option Addr) (n c : Nat) : Reader (world0 w) (w.heap.size + 1) A n c 0 0 ((world0 w).alloc (.cells #[.slice A n c, .int .i64 0, .int .i64 0] 46)) := by
  refine ⟨?_, below_alloc (Below.refl _ _) _⟩
  rw [← world0_size w]
  exact blk_new _ _
theorem res_kept {w w' : World} (h : Below (world0 w).heap.size (world0 w) w') : w'.heap[w.heap.size]? = some (.cells #[.int .i64 0, .slice none 0 0] 24 (0, 0)) :=
  blk_below (blk_new w _) h
theorem below0 {w w' : World} (h : Below (world0 w).heap.size (world0 w) w') : Below w.heap.size w w' :=
  below_then (w1 := world0 w) (below_alloc (Below.refl _ _) _) (by rw [world0_size]; omega) h
set_option maxHeartbeats 2000000 in
set_option maxRecDepth 100000 in
theorem get_bad (A : Option Addr) (c n : Nat) (g1 n2 at1 at2 e1 e2 : Int) (w : World)
    (hn1 : Calls Try.prog 22 #[.pointer (some ⟨w.heap.size + 1, 0, none⟩), .int .i64 1048576, .int .i64 2] ((world0 w).alloc (.cells #[.slice A n c, .int .i64 0, .int .i64 0] 46)) (ReaderTold (world0 w) (w.heap.size + 1) A n c at1 e1 (.int .i64 g1)))
    (hn2 : ∀ w1, Reader (world0 w) (w.heap.size + 1) A n c at1 e1 w1 → Calls Try.prog 22 #[.pointer (some ⟨w.heap.size + 1, 0, none⟩), .int .i64 1024, .int .i64 7] w1 (ReaderTold (world0 w) (w.heap.size + 1) A n c at2 e2 (.int .i64 n2)))
    (he : (e2 == 0) = false) :
    Calls Try.prog 13 #[.slice A n c] w (RecTold w 0 [] 0 e2) := by
  have HN1 := Aside0.mk hn1
  have HN2 := Aside0.mk hn2
  clear hn1 hn2
  have he2 : (e2 != 0) = true := by rw [bne, he]; rfl
  have HE := Aside0.mk he
  go_enter Try.func13, Try.ntmps13
  go_wp2_with fail
  refine HN1.out.mono ?_
  rintro x w1 ⟨rfl, hR1⟩
  go_wp2_with fail
  refine (HN2.out w1 hR1).mono ?_
  rintro x w2 ⟨rfl, hR2⟩
  have HR2 := Aside0.mk hR2
  clear hR1 hR2 HN1 HN2
  go_wp2_with fail
  refine (take_no (world0 w) w2 (w.heap.size + 1) A n c at2 e2 4 HR2.out HE.out).mono ?_
  rintro x w3 ⟨rfl, hR3⟩
  have HR3 := Aside0.mk hR3
  clear hR3 HR2
  go_wp2_with fail
  go_loop [9, 11, 25, 26] (fun s _ i _ => s = .int .u32 0 ∧ i = .int .i64 0) (fun _ _ _ _ => 0)
  case atStart => exact ⟨rfl, rfl⟩
  case round =>
    obtain ⟨rfl, rfl⟩ := hrel
    go_wp2_with fail
    refine (take_no (world0 w) w3 (w.heap.size + 1) A n c at2 e2 n2 HR3.out HE.out).mono ?_
    rintro x w4 ⟨rfl, hR4⟩
    have HR4 := Aside0.mk hR4
    clear hR4 HR3
    go_wp2_with fail
    refine (slices_Clone_byte_byte.calls none 0 [] [] w4 (Kd.C_nil _ _) (Nat.le_refl _) rfl).mono ?_
    rintro x w5 ⟨v5, rfl, ho5, hb5⟩
    have HR5 := Aside0.mk (show Reader (world0 w) (w.heap.size + 1) A n c at2 e2 w5 from ⟨blk_below HR4.out.1 hb5, below_then HR4.out.2 HR4.out.2.size hb5⟩)
    clear ho5 hb5 HR4
    have q2 : w5.cell? ⟨w.heap.size + 1, 2, none⟩ = some (.int .i64 e2) := (blk_cell HR5.out.1 2).trans rfl
    have z0 : w5.cell? ⟨w.heap.size, 0, none⟩ = some (.int .i64 0) := (blk_cell (res_kept HR5.out.2) 0).trans rfl
    have z1 : w5.cell? ⟨w.heap.size, 1, none⟩ = some (.slice none 0 0) := (blk_cell (res_kept HR5.out.2) 1).trans rfl
    have f0 := blk_frozen (res_kept HR5.out.2) 0
    have f1 := blk_frozen (res_kept HR5.out.2) 1
    go_wp2_with fail
    go_region
    go_wp2
    refine bodyPost_ret (results_ctt rfl _ _ w.heap.size 24 #[.int .i64 0, .slice none 0 0] (0, 0) _ rfl (blk_drew (blk_put (blk_put (res_kept HR5.out.2) 0 _ rfl) 1 _ rfl)) Try.underlying24 rfl (by kernel_rfl)) rfl ?_
    exact ⟨_, rfl, Kd.R_nil _ _ _ _ _, below_drew (below_set (below_set (below0 HR5.out.2) (Nat.le_refl _)) (Nat.le_refl _))⟩
set_option maxHeartbeats 2000000 in
set_option maxRecDepth 100000 in
theorem get_bad4 (A : Option Addr) (c n : Nat) (g1 n2 at1 at2 e1 d : Int) (w : World)
    (hn1 : Calls Try.prog 22 #[.pointer (some ⟨w.heap.size + 1, 0, none⟩), .int .i64 1048576, .int .i64 2] ((world0 w).alloc (.cells #[.slice A n c, .int .i64 0, .int .i64 0] 46)) (ReaderTold (world0 w) (w.heap.size + 1) A n c at1 e1 (.int .i64 g1)))
    (hn2 : ∀ w1, Reader (world0 w) (w.heap.size + 1) A n c at1 e1 w1 → Calls Try.prog 22 #[.pointer (some ⟨w.heap.size + 1, 0, none⟩), .int .i64 1024, .int .i64 7] w1 (ReaderTold (world0 w) (w.heap.size + 1) A n c at2 0 (.int .i64 n2)))
    (hd : IntKind.i64.wrap ((n : Int) - at2) = d) (hlt : decide (d < 4) = true) :
    Calls Try.prog 13 #[.slice A n c] w (RecTold w 0 [] 0 3) := by
  have HN1 := Aside0.mk hn1
  have HN2 := Aside0.mk hn2
  have HD := Aside0.mk hd
  have HL := Aside0.mk hlt
  clear hn1 hn2 hd hlt
  go_enter Try.func13, Try.ntmps13
  go_wp2_with fail
  refine HN1.out.mono ?_
  rintro x w1 ⟨rfl, hR1⟩
  go_wp2_with fail
  refine (HN2.out w1 hR1).mono ?_
  rintro x w2 ⟨rfl, hR2⟩
  have HR2 := Aside0.mk hR2
  clear hR1 hR2 HN1 HN2
  go_wp2_with fail
  refine (take_more (world0 w) w2 (w.heap.size + 1) (Nat.le_of_eq (world0_size w)) A n c at2 4 d HR2.out HD.out HL.out).mono ?_
  rintro x w3 ⟨rfl, hR3⟩
  have HR3 := Aside0.mk hR3
  clear hR3 HR2
  go_wp2_with fail
  go_loop [9, 11, 25, 26] (fun s _ i _ => s = .int .u32 0 ∧ i = .int .i64 0) (fun _ _ _ _ => 0)
  case atStart => exact ⟨rfl, rfl⟩
  case round =>
    obtain ⟨rfl, rfl⟩ := hrel
    go_wp2_with fail
    refine (take_no (world0 w) w3 (w.heap.size + 1) A n c at2 3 n2 HR3.out (by decide)).mono ?_
    rintro x w4 ⟨rfl, hR4⟩
    have HR4 := Aside0.mk hR4
    clear hR4 HR3
    go_wp2_with fail
    refine (slices_Clone_byte_byte.calls none 0 [] [] w4 (Kd.C_nil _ _) (Nat.le_refl _) rfl).mono ?_
    rintro x w5 ⟨v5, rfl, ho5, hb5⟩
    have HR5 := Aside0.mk (show Reader (world0 w) (w.heap.size + 1) A n c at2 3 w5 from ⟨blk_below HR4.out.1 hb5, below_then HR4.out.2 HR4.out.2.size hb5⟩)
    clear ho5 hb5 HR4
    have q2 : w5.cell? ⟨w.heap.size + 1, 2, none⟩ = some (.int .i64 3) := (blk_cell HR5.out.1 2).trans rfl
    have z0 : w5.cell? ⟨w.heap.size, 0, none⟩ = some (.int .i64 0) := (blk_cell (res_kept HR5.out.2) 0).trans rfl
    have z1 : w5.cell? ⟨w.heap.size, 1, none⟩ = some (.slice none 0 0) := (blk_cell (res_kept HR5.out.2) 1).trans rfl
    have f0 := blk_frozen (res_kept HR5.out.2) 0
    have f1 := blk_frozen (res_kept HR5.out.2) 1
    go_wp2_with fail
    go_region
    go_wp2
    refine bodyPost_ret (results_ctt rfl _ _ w.heap.size 24 #[.int .i64 0, .slice none 0 0] (0, 0) _ rfl (blk_drew (blk_put (blk_put (res_kept HR5.out.2) 0 _ rfl) 1 _ rfl)) Try.underlying24 rfl (by kernel_rfl)) rfl ?_
    exact ⟨_, rfl, Kd.R_nil _ _ _ _ _, below_drew (below_set (below_set (below0 HR5.out.2) (Nat.le_refl _)) (Nat.le_refl _))⟩
/-- Four bytes as one number, the highest first, as the code makes it. -/
def be (l : List Int) : Int := l.foldl (fun s c => Go.bits .or .u32 (s * 256 % 4294967296) (c % 4294967296)) 0
theorem be_step {l : List Int} (j : Nat) (h : j < l.length) : Value.int IntKind.u32 (Go.bits .or .u32 (be (l.take j) * 256 % 4294967296) (rd l (j : Int) % 4294967296)) = Value.int IntKind.u32 (be (l.take (j + 1))) := by
  rw [List.take_succ_eq_append_getElem h]
  unfold be
  rw [List.foldl_append]
  simp [rd, h]
set_option maxHeartbeats 2000000 in
set_option maxRecDepth 100000 in
theorem get_short (A : Option Addr) (c : Nat) (b z4 : List Int) (lo : Nat) (g1 n2 at1 e1 d : Int) (w : World)
    (hn1 : Calls Try.prog 22 #[.pointer (some ⟨w.heap.size + 1, 0, none⟩), .int .i64 1048576, .int .i64 2] ((world0 w).alloc (.cells #[.slice A b.length c, .int .i64 0, .int .i64 0] 46)) (ReaderTold (world0 w) (w.heap.size + 1) A b.length c at1 e1 (.int .i64 g1)))
    (hn2 : ∀ w1, Reader (world0 w) (w.heap.size + 1) A b.length c at1 e1 w1 → Calls Try.prog 22 #[.pointer (some ⟨w.heap.size + 1, 0, none⟩), .int .i64 1024, .int .i64 7] w1 (ReaderTold (world0 w) (w.heap.size + 1) A b.length c (lo : Int) 0 (.int .i64 n2)))
    (hC : Kd.C (Kd.int .u8) (world0 w) A b.length b) (hc : b.length ≤ c) (hd : IntKind.i64.wrap ((b.length : Int) - (lo : Int)) = d) (hlt : decide (d < ((4 : Nat) : Int)) = false) (hm : lo + 4 ≤ b.length) (hz : z4 = (b.take (lo + 4)).drop lo)
    (hs : wrap64 ((lo : Int) + ((4 : Nat) : Int)) = (lo : Int) + ((4 : Nat) : Int)) (hs2 : IntKind.i64.wrap (lo : Int) = (lo : Int)) (hl4 : z4.length = 4)
    (d2 : Int) (hd2 : IntKind.i64.wrap ((b.length : Int) - ((lo : Int) + ((4 : Nat) : Int))) = d2) (hlt2 : decide (d2 < n2) = true) :
    Calls Try.prog 13 #[.slice A b.length c] w (RecTold w 0 [] 0 3) := by
  have HD2 := Aside0.mk hd2
  have HL2 := Aside0.mk hlt2
  clear hd2 hlt2
  have HN1 := Aside0.mk hn1
  have HN2 := Aside0.mk hn2
  have HT := Aside0.mk (fun w2 hR => take_yes (world0 w) w2 (w.heap.size + 1) (Nat.le_of_eq (world0_size w)) A c b z4 lo 4 d hR hC hc hd hlt hm hz hs hs2)
  have H4 := Aside0.mk hl4
  clear hn1 hn2 hC hc hd hlt hm hz hs hs2 hl4
  go_enter Try.func13, Try.ntmps13
  go_wp2_with fail
  refine HN1.out.mono ?_
  rintro x w1 ⟨rfl, hR1⟩
  go_wp2_with fail
  refine (HN2.out w1 hR1).mono ?_
  rintro x w2 ⟨rfl, hR2⟩
  have HR2 := Aside0.mk hR2
  clear hR1 hR2 HN1 HN2
  go_wp2_with fail
  refine (HT.out w2 HR2.out).mono ?_
  rintro x w3 ⟨A4, c4, hc4, hC4, rfl, hR3⟩
  have HR3 := Aside0.mk hR3
  have HC4 := Aside0.mk hC4
  clear hR3 HR2 hc4 hC4
  go_wp2_with fail
  go_loop [9, 11, 25, 26] (fun s _ i _ => ∃ j : Nat, s = .int .u32 (be (z4.take j)) ∧ i = .int .i64 (j : Int) ∧ j ≤ 4) (fun _ _ i _ => (4 - intOf i).toNat)
  case atStart => exact ⟨0, rfl, rfl, by omega⟩
  case round =>
    obtain ⟨j, rfl, rfl, hj⟩ := hrel
    have hlen := H4.out
    by_cases hlt : j < 4
    · obtain ⟨ad, ea, hx⟩ := Kd.at_int HC4.out (j : Int) (by omega) (by omega)
      subst ea
      rw [Int.toNat_natCast] at hx
      have p1 : decide ((j : Int) < (z4.length : Int)) = true := decide_eq_true (by omega)
      have p2 := eq_true (show 0 ≤ (j : Int) by omega)
      have p3 := eq_true (show (j : Int) < (z4.length : Int) by omega)
      clear hlen
      go_wp2
      exact ⟨⟨j + 1, by rw [be_step _ (by have := H4.out; omega)], by go_num, by omega⟩, by simp [intOf]; omega⟩
    · obtain rfl : j = 4 := by omega
      have p1 : decide ((4 : Int) < (z4.length : Int)) = false := decide_eq_false (by omega)
      have p0 : z4.take 4 = z4 := List.take_of_length_le (by omega)
      rw [p0]
      clear hlen p0 hj hlt
      go_wp2_with fail
      refine (take_more (world0 w) w3 (w.heap.size + 1) (Nat.le_of_eq (world0_size w)) A b.length c ((lo : Int) + ((4 : Nat) : Int)) n2 d2 HR3.out HD2.out HL2.out).mono ?_
      rintro x w4 ⟨rfl, hR4⟩
      have HR4 := Aside0.mk hR4
      clear hR4 HR3
      go_wp2_with fail
      refine (slices_Clone_byte_byte.calls none 0 [] [] w4 (Kd.C_nil _ _) (Nat.le_refl _) rfl).mono ?_
      rintro x w5 ⟨v5, rfl, ho5, hb5⟩
      have HR5 := Aside0.mk (show Reader (world0 w) (w.heap.size + 1) A b.length c ((lo : Int) + ((4 : Nat) : Int)) 3 w5 from ⟨blk_below HR4.out.1 hb5, below_then HR4.out.2 HR4.out.2.size hb5⟩)
      clear ho5 hb5 HR4
      have q2 : w5.cell? ⟨w.heap.size + 1, 2, none⟩ = some (.int .i64 3) := (blk_cell HR5.out.1 2).trans rfl
      have z0 : w5.cell? ⟨w.heap.size, 0, none⟩ = some (.int .i64 0) := (blk_cell (res_kept HR5.out.2) 0).trans rfl
      have z1 : w5.cell? ⟨w.heap.size, 1, none⟩ = some (.slice none 0 0) := (blk_cell (res_kept HR5.out.2) 1).trans rfl
      have f0 := blk_frozen (res_kept HR5.out.2) 0
      have f1 := blk_frozen (res_kept HR5.out.2) 1
      go_wp2_with fail
      go_region
      go_wp2
      refine bodyPost_ret (results_ctt rfl _ _ w.heap.size 24 #[.int .i64 0, .slice none 0 0] (0, 0) _ rfl (blk_drew (blk_put (blk_put (res_kept HR5.out.2) 0 _ rfl) 1 _ rfl)) Try.underlying24 rfl (by kernel_rfl)) rfl ?_
      exact ⟨_, rfl, Kd.R_nil _ _ _ _ _, below_drew (below_set (below_set (below0 HR5.out.2) (Nat.le_refl _)) (Nat.le_refl _))⟩
set_option maxHeartbeats 2000000 in
set_option maxRecDepth 100000 in
theorem get_sum (A : Option Addr) (c : Nat) (b z4 : List Int) (lo : Nat) (g1 n2 at1 e1 d : Int) (w : World)
    (hn1 : Calls Try.prog 22 #[.pointer (some ⟨w.heap.size + 1, 0, none⟩), .int .i64 1048576, .int .i64 2] ((world0 w).alloc (.cells #[.slice A b.length c, .int .i64 0, .int .i64 0] 46)) (ReaderTold (world0 w) (w.heap.size + 1) A b.length c at1 e1 (.int .i64 g1)))
    (hn2 : ∀ w1, Reader (world0 w) (w.heap.size + 1) A b.length c at1 e1 w1 → Calls Try.prog 22 #[.pointer (some ⟨w.heap.size + 1, 0, none⟩), .int .i64 1024, .int .i64 7] w1 (ReaderTold (world0 w) (w.heap.size + 1) A b.length c (lo : Int) 0 (.int .i64 n2)))
    (hC : Kd.C (Kd.int .u8) (world0 w) A b.length b) (hc : b.length ≤ c) (hd : IntKind.i64.wrap ((b.length : Int) - (lo : Int)) = d) (hlt : decide (d < ((4 : Nat) : Int)) = false) (hm : lo + 4 ≤ b.length) (hz : z4 = (b.take (lo + 4)).drop lo)
    (hs : wrap64 ((lo : Int) + ((4 : Nat) : Int)) = (lo : Int) + ((4 : Nat) : Int)) (hs2 : IntKind.i64.wrap (lo : Int) = (lo : Int)) (hl4 : z4.length = 4)
    (n5 : Nat) (z5 : List Int) (d2 : Int) (hn2v : n2 = (n5 : Int)) (hd2 : IntKind.i64.wrap ((b.length : Int) - (((lo + 4 : Nat) : Int))) = d2) (hlt2 : decide (d2 < (n5 : Int)) = false) (hm2 : lo + 4 + n5 ≤ b.length) (hz5 : z5 = (b.take (lo + 4 + n5)).drop (lo + 4))
    (hs3 : wrap64 (((lo + 4 : Nat) : Int) + (n5 : Int)) = ((lo + 4 : Nat) : Int) + (n5 : Int)) (hs4 : IntKind.i64.wrap ((lo + 4 : Nat) : Int) = ((lo + 4 : Nat) : Int)) (hl5 : z5.length < 140737488355328) (K : Nat) (tv : Int) (hsum : adler_Sum.f K z5 = some tv)
    (hne : (tv != be z4) = true) :
    Calls Try.prog 13 #[.slice A b.length c] w (RecTold w 0 [] 0 4) := by
  have HT2 := Aside0.mk (fun w3 hR => take_yes (world0 w) w3 (w.heap.size + 1) (Nat.le_of_eq (world0_size w)) A c b z5 (lo + 4) n5 d2 hR hC hc hd2 hlt2 hm2 hz5 hs3 hs4)
  have HCL := Aside0.mk (show slices_Clone_byte_byte.f z5 = some z5 by unfold slices_Clone_byte_byte.f; rw [if_pos hl5])
  have HSUM := Aside0.mk hsum
  have e34 : (lo : Int) + ((4 : Nat) : Int) = ((lo + 4 : Nat) : Int) := by omega
  have E34 := Aside0.mk e34
  subst hn2v
  clear hd2 hlt2 hm2 hz5 hs3 hs4 hl5 hsum e34
  have HN1 := Aside0.mk hn1
  have HN2 := Aside0.mk hn2
  have HT := Aside0.mk (fun w2 hR => take_yes (world0 w) w2 (w.heap.size + 1) (Nat.le_of_eq (world0_size w)) A c b z4 lo 4 d hR hC hc hd hlt hm hz hs hs2)
  have H4 := Aside0.mk hl4
  clear hn1 hn2 hC hc hd hlt hm hz hs hs2 hl4
  go_enter Try.func13, Try.ntmps13
  go_wp2_with fail
  refine HN1.out.mono ?_
  rintro x w1 ⟨rfl, hR1⟩
  go_wp2_with fail
  refine (HN2.out w1 hR1).mono ?_
  rintro x w2 ⟨rfl, hR2⟩
  have HR2 := Aside0.mk hR2
  clear hR1 hR2 HN1 HN2
  go_wp2_with fail
  refine (HT.out w2 HR2.out).mono ?_
  rintro x w3 ⟨A4, c4, hc4, hC4, rfl, hR3⟩
  have HR3 := Aside0.mk hR3
  have HC4 := Aside0.mk hC4
  clear hR3 HR2 hc4 hC4
  go_wp2_with fail
  go_loop [9, 11, 25, 26] (fun s _ i _ => ∃ j : Nat, s = .int .u32 (be (z4.take j)) ∧ i = .int .i64 (j : Int) ∧ j ≤ 4) (fun _ _ i _ => (4 - intOf i).toNat)
  case atStart => exact ⟨0, rfl, rfl, by omega⟩
  case round =>
    obtain ⟨j, rfl, rfl, hj⟩ := hrel
    have hlen := H4.out
    by_cases hlt : j < 4
    · obtain ⟨ad, ea, hx⟩ := Kd.at_int HC4.out (j : Int) (by omega) (by omega)
      subst ea
      rw [Int.toNat_natCast] at hx
      have p1 : decide ((j : Int) < (z4.length : Int)) = true := decide_eq_true (by omega)
      have p2 := eq_true (show 0 ≤ (j : Int) by omega)
      have p3 := eq_true (show (j : Int) < (z4.length : Int) by omega)
      clear hlen
      go_wp2
      exact ⟨⟨j + 1, by rw [be_step _ (by have := H4.out; omega)], by go_num, by omega⟩, by simp [intOf]; omega⟩
    · obtain rfl : j = 4 := by omega
      have p1 : decide ((4 : Int) < (z4.length : Int)) = false := decide_eq_false (by omega)
      have p0 : z4.take 4 = z4 := List.take_of_length_le (by omega)
      rw [p0]
      clear hlen p0 hj hlt
      go_wp2_with fail
      have HR3' := HR3.out
      rw [E34.out] at HR3'
      refine (HT2.out w3 HR3').mono ?_
      rintro x w4 ⟨A5, c5, hc5, hC5, rfl, hR4⟩
      have HR4 := Aside0.mk hR4
      have HC5 := Aside0.mk hC5
      have HL5 := Aside0.mk hc5
      clear hR4 HR3 HR3' hc5 hC5
      go_wp2_with fail
      refine (slices_Clone_byte_byte.calls A5 c5 z5 z5 w4 HC5.out HL5.out HCL.out).mono ?_
      rintro x w5 ⟨v5, rfl, ho5, hb5⟩
      obtain ⟨A6, c6, e6⟩ := Kd.R_slice ho5
      subst e6
      have HR5 := Aside0.mk (show Reader (world0 w) (w.heap.size + 1) A b.length c (((lo + 4 : Nat) : Int) + (n5 : Int)) 0 w5 from ⟨blk_below HR4.out.1 hb5, below_then HR4.out.2 HR4.out.2.size hb5⟩)
      have HO5 := Aside0.mk (Kd.R_lower ho5 (below0 HR4.out.2).size)
      clear ho5 hb5 HR4
      have q2 : w5.cell? ⟨w.heap.size + 1, 2, none⟩ = some (.int .i64 0) := (blk_cell HR5.out.1 2).trans rfl
      go_wp2_with fail
      refine (adler_Sum.calls K A6 c6 z5 tv w5 (Kd.R_reads' HO5.out).2.2 (Kd.R_reads' HO5.out).2.1 HSUM.out).mono ?_
      rintro x w6 ⟨rfl, hb6⟩
      have HR6 := Aside0.mk (show Reader (world0 w) (w.heap.size + 1) A b.length c (((lo + 4 : Nat) : Int) + (n5 : Int)) 0 w6 from ⟨blk_below HR5.out.1 hb6, below_then HR5.out.2 HR5.out.2.size hb6⟩)
      have HO6 := Aside0.mk (Kd.R_below HO5.out hb6)
      clear hb6 HR5 HO5 q2
      have q2 : w6.cell? ⟨w.heap.size + 1, 2, none⟩ = some (.int .i64 0) := (blk_cell HR6.out.1 2).trans rfl
      have qf2 := blk_frozen HR6.out.1 2
      go_wp2_with fail
      have HR7 := Aside0.mk (HR6.out.setE (Nat.le_of_eq (world0_size w)) 4)
      have y2 : (w6.setCell ⟨w.heap.size + 1, 2, none⟩ (.int .i64 4)).cell? ⟨w.heap.size + 1, 2, none⟩ = some (.int .i64 4) := (blk_cell HR7.out.1 2).trans rfl
      have z0 : (w6.setCell ⟨w.heap.size + 1, 2, none⟩ (.int .i64 4)).cell? ⟨w.heap.size, 0, none⟩ = some (.int .i64 0) := (blk_cell (res_kept HR7.out.2) 0).trans rfl
      have z1 : (w6.setCell ⟨w.heap.size + 1, 2, none⟩ (.int .i64 4)).cell? ⟨w.heap.size, 1, none⟩ = some (.slice none 0 0) := (blk_cell (res_kept HR7.out.2) 1).trans rfl
      have f0 := blk_frozen (res_kept HR7.out.2) 0
      have f1 := blk_frozen (res_kept HR7.out.2) 1
      clear q2 qf2
      generalize w6.setCell ⟨w.heap.size + 1, 2, none⟩ (.int .i64 4) = w7 at *
      go_region
      go_wp2
      refine bodyPost_ret (results_ctt rfl _ _ w.heap.size 24 #[.int .i64 0, .slice none 0 0] (0, 0) _ rfl (blk_drew (blk_put (blk_put (res_kept HR7.out.2) 0 _ rfl) 1 _ rfl)) Try.underlying24 rfl (by kernel_rfl)) rfl ?_
      exact ⟨_, rfl, Kd.R_nil _ _ _ _ _, below_drew (below_set (below_set (below0 HR7.out.2) (Nat.le_refl _)) (Nat.le_refl _))⟩
set_option maxHeartbeats 2000000 in
set_option maxRecDepth 100000 in
theorem get_ok (A : Option Addr) (c : Nat) (b z4 : List Int) (lo : Nat) (g1 n2 at1 e1 d : Int) (w : World)
    (hn1 : Calls Try.prog 22 #[.pointer (some ⟨w.heap.size + 1, 0, none⟩), .int .i64 1048576, .int .i64 2] ((world0 w).alloc (.cells #[.slice A b.length c, .int .i64 0, .int .i64 0] 46)) (ReaderTold (world0 w) (w.heap.size + 1) A b.length c at1 e1 (.int .i64 g1)))
    (hn2 : ∀ w1, Reader (world0 w) (w.heap.size + 1) A b.length c at1 e1 w1 → Calls Try.prog 22 #[.pointer (some ⟨w.heap.size + 1, 0, none⟩), .int .i64 1024, .int .i64 7] w1 (ReaderTold (world0 w) (w.heap.size + 1) A b.length c (lo : Int) 0 (.int .i64 n2)))
    (hC : Kd.C (Kd.int .u8) (world0 w) A b.length b) (hc : b.length ≤ c) (hd : IntKind.i64.wrap ((b.length : Int) - (lo : Int)) = d) (hlt : decide (d < ((4 : Nat) : Int)) = false) (hm : lo + 4 ≤ b.length) (hz : z4 = (b.take (lo + 4)).drop lo)
    (hs : wrap64 ((lo : Int) + ((4 : Nat) : Int)) = (lo : Int) + ((4 : Nat) : Int)) (hs2 : IntKind.i64.wrap (lo : Int) = (lo : Int)) (hl4 : z4.length = 4)
    (n5 : Nat) (z5 : List Int) (d2 : Int) (hn2v : n2 = (n5 : Int)) (hd2 : IntKind.i64.wrap ((b.length : Int) - (((lo + 4 : Nat) : Int))) = d2) (hlt2 : decide (d2 < (n5 : Int)) = false) (hm2 : lo + 4 + n5 ≤ b.length) (hz5 : z5 = (b.take (lo + 4 + n5)).drop (lo + 4))
    (hs3 : wrap64 (((lo + 4 : Nat) : Int) + (n5 : Int)) = ((lo + 4 : Nat) : Int) + (n5 : Int)) (hs4 : IntKind.i64.wrap ((lo + 4 : Nat) : Int) = ((lo + 4 : Nat) : Int)) (hl5 : z5.length < 140737488355328) (K : Nat) (tv : Int) (hsum : adler_Sum.f K z5 = some tv)
    (hne : (tv != be z4) = false) :
    Calls Try.prog 13 #[.slice A b.length c] w (RecTold w g1 z5 ((lo : Int) + 4 + (n5 : Int)) 0) := by
  have HT2 := Aside0.mk (fun w3 hR => take_yes (world0 w) w3 (w.heap.size + 1) (Nat.le_of_eq (world0_size w)) A c b z5 (lo + 4) n5 d2 hR hC hc hd2 hlt2 hm2 hz5 hs3 hs4)
  have HCL := Aside0.mk (show slices_Clone_byte_byte.f z5 = some z5 by unfold slices_Clone_byte_byte.f; rw [if_pos hl5])
  have HSUM := Aside0.mk hsum
  have e34 : (lo : Int) + ((4 : Nat) : Int) = ((lo + 4 : Nat) : Int) := by omega
  have E34 := Aside0.mk e34
  subst hn2v
  clear hd2 hlt2 hm2 hz5 hs3 hs4 hl5 hsum e34
  have HN1 := Aside0.mk hn1
  have HN2 := Aside0.mk hn2
  have HT := Aside0.mk (fun w2 hR => take_yes (world0 w) w2 (w.heap.size + 1) (Nat.le_of_eq (world0_size w)) A c b z4 lo 4 d hR hC hc hd hlt hm hz hs hs2)
  have H4 := Aside0.mk hl4
  clear hn1 hn2 hC hc hd hlt hm hz hs hs2 hl4
  go_enter Try.func13, Try.ntmps13
  go_wp2_with fail
  refine HN1.out.mono ?_
  rintro x w1 ⟨rfl, hR1⟩
  go_wp2_with fail
  refine (HN2.out w1 hR1).mono ?_
  rintro x w2 ⟨rfl, hR2⟩
  have HR2 := Aside0.mk hR2
  clear hR1 hR2 HN1 HN2
  go_wp2_with fail
  refine (HT.out w2 HR2.out).mono ?_
  rintro x w3 ⟨A4, c4, hc4, hC4, rfl, hR3⟩
  have HR3 := Aside0.mk hR3
  have HC4 := Aside0.mk hC4
  clear hR3 HR2 hc4 hC4
  go_wp2_with fail
  go_loop [9, 11, 25, 26] (fun s _ i _ => ∃ j : Nat, s = .int .u32 (be (z4.take j)) ∧ i = .int .i64 (j : Int) ∧ j ≤ 4) (fun _ _ i _ => (4 - intOf i).toNat)
  case atStart => exact ⟨0, rfl, rfl, by omega⟩
  case round =>
    obtain ⟨j, rfl, rfl, hj⟩ := hrel
    have hlen := H4.out
    by_cases hlt : j < 4
    · obtain ⟨ad, ea, hx⟩ := Kd.at_int HC4.out (j : Int) (by omega) (by omega)
      subst ea
      rw [Int.toNat_natCast] at hx
      have p1 : decide ((j : Int) < (z4.length : Int)) = true := decide_eq_true (by omega)
      have p2 := eq_true (show 0 ≤ (j : Int) by omega)
      have p3 := eq_true (show (j : Int) < (z4.length : Int) by omega)
      clear hlen
      go_wp2
      exact ⟨⟨j + 1, by rw [be_step _ (by have := H4.out; omega)], by go_num, by omega⟩, by simp [intOf]; omega⟩
    · obtain rfl : j = 4 := by omega
      have p1 : decide ((4 : Int) < (z4.length : Int)) = false := decide_eq_false (by omega)
      have p0 : z4.take 4 = z4 := List.take_of_length_le (by omega)
      rw [p0]
      clear hlen p0 hj hlt
      go_wp2_with fail
      have HR3' := HR3.out
      rw [E34.out] at HR3'
      refine (HT2.out w3 HR3').mono ?_
      rintro x w4 ⟨A5, c5, hc5, hC5, rfl, hR4⟩
      have HR4 := Aside0.mk hR4
      have HC5 := Aside0.mk hC5
      have HL5 := Aside0.mk hc5
      clear hR4 HR3 HR3' hc5 hC5
      go_wp2_with fail
      refine (slices_Clone_byte_byte.calls A5 c5 z5 z5 w4 HC5.out HL5.out HCL.out).mono ?_
      rintro x w5 ⟨v5, rfl, ho5, hb5⟩
      obtain ⟨A6, c6, e6⟩ := Kd.R_slice ho5
      subst e6
      have HR5 := Aside0.mk (show Reader (world0 w) (w.heap.size + 1) A b.length c (((lo + 4 : Nat) : Int) + (n5 : Int)) 0 w5 from ⟨blk_below HR4.out.1 hb5, below_then HR4.out.2 HR4.out.2.size hb5⟩)
      have HO5 := Aside0.mk (Kd.R_lower ho5 (below0 HR4.out.2).size)
      clear ho5 hb5 HR4
      have q2 : w5.cell? ⟨w.heap.size + 1, 2, none⟩ = some (.int .i64 0) := (blk_cell HR5.out.1 2).trans rfl
      go_wp2_with fail
      refine (adler_Sum.calls K A6 c6 z5 tv w5 (Kd.R_reads' HO5.out).2.2 (Kd.R_reads' HO5.out).2.1 HSUM.out).mono ?_
      rintro x w6 ⟨rfl, hb6⟩
      have HR6 := Aside0.mk (show Reader (world0 w) (w.heap.size + 1) A b.length c (((lo + 4 : Nat) : Int) + (n5 : Int)) 0 w6 from ⟨blk_below HR5.out.1 hb6, below_then HR5.out.2 HR5.out.2.size hb6⟩)
      have HO6 := Aside0.mk (Kd.R_below HO5.out hb6)
      clear hb6 HR5 HO5 q2
      have q2 : w6.cell? ⟨w.heap.size + 1, 2, none⟩ = some (.int .i64 0) := (blk_cell HR6.out.1 2).trans rfl
      have qf2 := blk_frozen HR6.out.1 2
      have q1 : w6.cell? ⟨w.heap.size + 1, 1, none⟩ = some (.int .i64 (((lo + 4 : Nat) : Int) + (n5 : Int))) := (blk_cell HR6.out.1 1).trans rfl
      have z0 : w6.cell? ⟨w.heap.size, 0, none⟩ = some (.int .i64 0) := (blk_cell (res_kept HR6.out.2) 0).trans rfl
      have z1 : w6.cell? ⟨w.heap.size, 1, none⟩ = some (.slice none 0 0) := (blk_cell (res_kept HR6.out.2) 1).trans rfl
      have f0 := blk_frozen (res_kept HR6.out.2) 0
      have f1 := blk_frozen (res_kept HR6.out.2) 1
      go_wp2_with fail
      go_region
      go_wp2
      refine bodyPost_ret (results_ctt rfl _ _ w.heap.size 24 #[.int .i64 g1, .slice A6 z5.length c6] (0, 0) _ rfl (blk_drew (blk_put (blk_put (res_kept HR6.out.2) 0 _ rfl) 1 _ rfl)) Try.underlying24 rfl (by kernel_rfl)) rfl ?_
      exact ⟨_, rfl, Kd.R_mono (Kd.R_drew (Kd.R_far (Kd.R_far (Kd.R_types HO6.out (res_kept HR6.out.2) (by decide)) (fun _ hk => hk.2) _) (fun _ hk => hk.2) _)) (fun _ _ => trivial), below_drew (below_set (below_set (below0 HR6.out.2) (Nat.le_refl _)) (Nat.le_refl _))⟩
def record_Get.f (k : Nat) (b : List Int) : Option (Int × List Int × Int × Int) :=
  (vlq_Get.f k b).bind fun g => if g.2.2 = 0 then (if g.1 > 1048576 then some (0, [], 0, 2) else
    (if 0 ≤ g.2.1 ∧ g.2.1 ≤ (b.length : Int) then ((vlq_Get.f k (b.drop g.2.1.toNat)).bind fun h => if h.2.2 = 0 then (if h.1 > 1024 then some (0, [], 0, 7) else
      (if 0 ≤ h.1 ∧ 0 ≤ h.2.1 ∧ g.2.1 + h.2.1 ≤ (b.length : Int) then
        (if (b.length : Int) - (g.2.1 + h.2.1) < 4 then some (0, [], 0, 3) else (if (b.length : Int) - (g.2.1 + h.2.1 + 4) < h.1 then some (0, [], 0, 3) else
          ((adler_Sum.f k ((b.take ((g.2.1 + h.2.1).toNat + 4 + h.1.toNat)).drop ((g.2.1 + h.2.1).toNat + 4))).bind fun t =>
            if t = be ((b.take ((g.2.1 + h.2.1).toNat + 4)).drop (g.2.1 + h.2.1).toNat) then some (g.1, (b.take ((g.2.1 + h.2.1).toNat + 4 + h.1.toNat)).drop ((g.2.1 + h.2.1).toNat + 4), g.2.1 + h.2.1 + 4 + h.1, 0) else some (0, [], 0, 4))))
      else none)) else some (0, [], 0, h.2.2))
    else none)) else some (0, [], 0, g.2.2)
theorem record_Get.mono : ∀ a0 k, LeO (record_Get.f k a0) (record_Get.f (k + 1) a0) := by
  intro a0 k
  unfold record_Get.f
  refine LeO.bind (vlq_Get.mono _ _) (fun _ => LeO.ite (LeO.ite (LeO.refl _) (LeO.ite (LeO.bind (vlq_Get.mono _ _) (fun _ => LeO.ite (LeO.ite (LeO.refl _) (LeO.ite (LeO.ite (LeO.refl _) (LeO.ite (LeO.refl _) (LeO.bind (adler_Sum.mono _ _) (fun _ => LeO.refl _)))) (LeO.refl _))) (LeO.refl _))) (LeO.refl _))) (LeO.refl _))
theorem wrap64_in {a : Int} (h0 : -9223372036854775808 ≤ a) (h1 : a ≤ 9223372036854775807) : wrap64 a = a := by unfold wrap64; omega
theorem i64_in {a : Int} (h0 : -9223372036854775808 ≤ a) (h1 : a ≤ 9223372036854775807) : IntKind.i64.wrap a = a := by rw [IntKind.wrap_i64]; omega
theorem record_Get.calls (k : Nat) (A0 : Option Addr) (c0 : Nat) (l0 : List Int) (r1 : Int) (r2 : List Int) (r3 r4 : Int) (w : World) (hr0 : Kd.C (Kd.int .u8) w A0 l0.length l0) (hc0 : l0.length ≤ c0) (h : record_Get.f k l0 = some (r1, r2, r3, r4)) :
    Calls Try.prog 13 #[.slice A0 l0.length c0] w fun e w' => ∃ v1_ : Value, e = .returned (.tuple #[.agg #[.int .i64 r1, v1_], .int .i64 r3, .int .i64 r4]) ∧ Kd.R (Kd.int .u8) 5 w' w.heap.size (fun _ => True) v1_ r2 ∧ Below w.heap.size w w' := by
  show Calls Try.prog 13 #[.slice A0 l0.length c0] w (RecTold w r1 r2 r3 r4)
  have hlen : (l0.length : Int) ≤ 9223372036854775807 := by have := hr0.2.1; omega
  have hC0 : Kd.C (Kd.int .u8) (world0 w) A0 l0.length l0 := Kd.C_alloc hr0 _
  have hB0 : (world0 w).heap.size ≤ w.heap.size + 1 := Nat.le_of_eq (world0_size w)
  obtain ⟨⟨g1, g2, g3⟩, hg, h⟩ := Option.bind_eq_some_iff.mp h
  have first := fun e2 hq => number_yes k (world0 w) ((world0 w).alloc (.cells #[.slice A0 l0.length c0, .int .i64 0, .int .i64 0] 46)) (w.heap.size + 1) hB0 A0 c0 l0 l0 0 1048576 2 g1 g2 g3 e2 (reader_start w A0 l0.length c0) hC0 hc0 (by decide) (by omega) (by simp) hg hq
  simp only at h
  by_cases c1 : g3 = 0
  · rw [if_pos c1] at h
    by_cases c2 : g1 > 1048576
    · rw [if_pos c2] at h
      simp only [Option.some.injEq, Prod.mk.injEq] at h
      obtain ⟨rfl, rfl, rfl, rfl⟩ := h
      exact get_bad A0 c0 l0.length g1 0 _ _ 2 2 w (first 2 (.inr (.inr ⟨beq_iff_eq.mpr c1, decide_eq_true c2, rfl⟩))) (fun w1 hR => number_no (world0 w) w1 (w.heap.size + 1) A0 l0.length c0 _ 2 1024 7 hR (by decide)) (by decide)
    rw [if_neg c2] at h
    by_cases c3 : ¬ (0 ≤ g2 ∧ g2 ≤ (l0.length : Int))
    · rw [if_neg c3] at h; cases h
    replace c3 := Classical.not_not.1 c3
    rw [if_pos c3] at h
    have e1 : wrap64 (0 + g2) = g2 := by rw [Int.zero_add]; exact wrap64_in (by omega) (by omega)
    have first := first 0 (.inr (.inl ⟨beq_iff_eq.mpr c1, decide_eq_false c2, c1.symm⟩))
    rw [e1] at first
    obtain ⟨⟨h1, h2, h3⟩, hh, h⟩ := Option.bind_eq_some_iff.mp h
    have second := fun e2 hq w1 hR => number_yes k (world0 w) w1 (w.heap.size + 1) hB0 A0 c0 l0 (l0.drop g2.toNat) g2 1024 7 h1 h2 h3 e2 hR hC0 hc0 c3.1 c3.2 rfl hh hq
    simp only at h
    by_cases c4 : h3 = 0
    · rw [if_pos c4] at h
      by_cases c5 : h1 > 1024
      · rw [if_pos c5] at h
        simp only [Option.some.injEq, Prod.mk.injEq] at h
        obtain ⟨rfl, rfl, rfl, rfl⟩ := h
        exact get_bad A0 c0 l0.length g1 h1 _ _ 0 7 w first (fun w1 hR => second 7 (.inr (.inr ⟨beq_iff_eq.mpr c4, decide_eq_true c5, rfl⟩)) w1 hR) (by decide)
      rw [if_neg c5] at h
      by_cases c6 : ¬ (0 ≤ h1 ∧ 0 ≤ h2 ∧ g2 + h2 ≤ (l0.length : Int))
      · rw [if_neg c6] at h; cases h
      replace c6 := Classical.not_not.1 c6
      rw [if_pos c6] at h
      obtain ⟨lo, hlo⟩ := Int.eq_ofNat_of_zero_le (show 0 ≤ g2 + h2 by omega)
      obtain ⟨n5, rfl⟩ := Int.eq_ofNat_of_zero_le c6.1
      have e2 : wrap64 (g2 + h2) = (lo : Int) := by rw [wrap64_in (by omega) (by omega)]; exact hlo
      have second := second 0 (.inr (.inl ⟨beq_iff_eq.mpr c4, decide_eq_false c5, c4.symm⟩))
      rw [e2] at second
      rw [hlo] at h
      simp only [Int.toNat_natCast] at h
      by_cases c7 : (l0.length : Int) - (lo : Int) < 4
      · rw [if_pos c7] at h
        simp only [Option.some.injEq, Prod.mk.injEq] at h
        obtain ⟨rfl, rfl, rfl, rfl⟩ := h
        exact get_bad4 A0 c0 l0.length g1 n5 g2 lo 0 _ w first second (i64_in (by omega) (by omega)) (decide_eq_true c7)
      rw [if_neg c7] at h
      have hz4 : ((l0.take (lo + 4)).drop lo).length = 4 := by rw [List.length_drop, List.length_take]; omega
      by_cases c8 : (l0.length : Int) - ((lo : Int) + 4) < (n5 : Int)
      · rw [if_pos c8] at h
        simp only [Option.some.injEq, Prod.mk.injEq] at h
        obtain ⟨rfl, rfl, rfl, rfl⟩ := h
        exact get_short A0 c0 l0 _ lo g1 n5 g2 0 _ w first second hC0 hc0 (i64_in (by omega) (by omega)) (decide_eq_false (by omega)) (by omega) rfl (wrap64_in (by omega) (by omega)) (i64_in (by omega) (by omega)) hz4 _ (i64_in (by omega) (by omega)) (decide_eq_true (by omega))
      rw [if_neg c8] at h
      obtain ⟨t, ht, h⟩ := Option.bind_eq_some_iff.mp h
      have hl5 : ((l0.take (lo + 4 + n5)).drop (lo + 4)).length < 140737488355328 := by rw [List.length_drop, List.length_take]; omega
      by_cases c9 : t = be ((l0.take (lo + 4)).drop lo)
      · rw [if_pos c9] at h
        simp only [Option.some.injEq, Prod.mk.injEq] at h
        obtain ⟨rfl, rfl, rfl, rfl⟩ := h
        exact get_ok A0 c0 l0 _ lo _ n5 g2 0 _ w first second hC0 hc0 (i64_in (by omega) (by omega)) (decide_eq_false (by omega)) (by omega) rfl (wrap64_in (by omega) (by omega)) (i64_in (by omega) (by omega)) hz4 n5 _ _ rfl (i64_in (by omega) (by omega)) (decide_eq_false (by omega)) (by omega) rfl (wrap64_in (by omega) (by omega)) (i64_in (by omega) (by omega)) hl5 k t ht (by rw [bne_eq_false_iff_eq]; exact c9)
      · rw [if_neg c9] at h
        simp only [Option.some.injEq, Prod.mk.injEq] at h
        obtain ⟨rfl, rfl, rfl, rfl⟩ := h
        exact get_sum A0 c0 l0 _ lo g1 n5 g2 0 _ w first second hC0 hc0 (i64_in (by omega) (by omega)) (decide_eq_false (by omega)) (by omega) rfl (wrap64_in (by omega) (by omega)) (i64_in (by omega) (by omega)) hz4 n5 _ _ rfl (i64_in (by omega) (by omega)) (decide_eq_false (by omega)) (by omega) rfl (wrap64_in (by omega) (by omega)) (i64_in (by omega) (by omega)) hl5 k t ht (by rw [bne_iff_ne]; exact c9)
    · rw [if_neg c4] at h
      simp only [Option.some.injEq, Prod.mk.injEq] at h
      obtain ⟨rfl, rfl, rfl, rfl⟩ := h
      exact get_bad A0 c0 l0.length g1 h1 _ _ 0 h3 w first (fun w1 hR => second h3 (.inl ⟨beq_eq_false_iff_ne.mpr c4, rfl⟩) w1 hR) (beq_eq_false_iff_ne.mpr c4)
  · rw [if_neg c1] at h
    simp only [Option.some.injEq, Prod.mk.injEq] at h
    obtain ⟨rfl, rfl, rfl, rfl⟩ := h
    exact get_bad A0 c0 l0.length g1 0 _ _ g3 g3 w (first g3 (.inl ⟨beq_eq_false_iff_ne.mpr c1, rfl⟩)) (fun w1 hR => number_no (world0 w) w1 (w.heap.size + 1) A0 l0.length c0 _ g3 1024 7 hR (by rw [bne_iff_ne]; exact c1)) (beq_eq_false_iff_ne.mpr c1)

/-! ### colloquylaw03_RecordOnce: function 5 -/
def colloquylaw03_RecordOnce.j0 : Nat → List Int → Bool → Bool → Option (Bool)
  | 0, _, _, _ => none
  | k + 1, x0, x3, x16 => if x16 = true then (some x3) else ((record_Get.f k x0).bind fun bt211 => (if bt211.2.2.2 = 0 then ((record_Put.f k bt211.1 bt211.2.1).bind fun bt218 => (if bt218.2 = 0 then (if bt211.2.2.1 = (bt218.1.length : Int) then (if bt211.2.2.1 ≤ (x0.length : Int) then (if 0 ≤ bt211.2.2.1 then (some ((strOfNums bt218.1).toList == (strOfNums (x0.take (bt211.2.2.1 : Int).toNat)).toList)) else (none)) else (some false)) else (some false)) else (some false))) else (if bt211.2.2.1 = 0 then (some ((bt211.2.1.length : Int) == 0)) else (some false))))
def colloquylaw03_RecordOnce.f (k : Nat) (l0 : List Int) : Option (Bool) := (colloquylaw03_awake.f k).bind fun t210 => (if t210 = true then (colloquylaw03_RecordOnce.j0 k l0 t210 (decide ((l0.length : Int) > 4000))) else (colloquylaw03_RecordOnce.j0 k l0 t210 true))
theorem colloquylaw03_RecordOnce.mono_l : ∀ k, (∀ y0 y1 y2, LeO (colloquylaw03_RecordOnce.j0 k y0 y1 y2) (colloquylaw03_RecordOnce.j0 (k + 1) y0 y1 y2))
  | 0 => fun _ _ _ r h => by simp [colloquylaw03_RecordOnce.j0] at h
  | k + 1 => by
    have ih0 := colloquylaw03_RecordOnce.mono_l k
    · intro y0 y1 y2
      unfold colloquylaw03_RecordOnce.j0
      repeat' first
      | (with_reducible exact ih0 _ _ _)
      | (with_reducible exact colloquylaw03_awake.mono _)
      | (with_reducible exact record_Get.mono _ _)
      | (with_reducible exact record_Put.mono _ _ _)
      | (with_reducible exact LeO.refl _)
      | (with_reducible exact LeO.none _)
      | (with_reducible refine LeO.ite ?_ ?_)
      | (with_reducible refine LeO.bind ?_ (fun _ => ?_))
      | exact ih0 _ _ _
      | exact colloquylaw03_awake.mono _
      | exact record_Get.mono _ _
      | exact record_Put.mono _ _ _
      | exact LeO.none _
      | refine LeO.ite ?_ ?_
      | refine LeO.bind ?_ (fun _ => ?_)
theorem colloquylaw03_RecordOnce.mono : ∀ a0 k, LeO (colloquylaw03_RecordOnce.f k a0) (colloquylaw03_RecordOnce.f (k + 1) a0) := by
  intro a0 k
  have ih0 := colloquylaw03_RecordOnce.mono_l k
  unfold colloquylaw03_RecordOnce.f
  repeat' first
      | (with_reducible exact ih0 _ _ _)
      | (with_reducible exact colloquylaw03_awake.mono _)
      | (with_reducible exact record_Get.mono _ _)
      | (with_reducible exact record_Put.mono _ _ _)
      | (with_reducible exact LeO.refl _)
      | (with_reducible exact LeO.none _)
      | (with_reducible refine LeO.ite ?_ ?_)
      | (with_reducible refine LeO.bind ?_ (fun _ => ?_))
      | exact ih0 _ _ _
      | exact colloquylaw03_awake.mono _
      | exact record_Get.mono _ _
      | exact record_Put.mono _ _ _
      | exact LeO.none _
      | refine LeO.ite ?_ ?_
      | refine LeO.bind ?_ (fun _ => ?_)
set_option maxHeartbeats 8000000 in
set_option maxRecDepth 100000 in
theorem colloquylaw03_RecordOnce.calls (k : Nat) (A0 : Option Addr) (c0 : Nat) (l0 : List Int) (r : Bool) (w : World) (hr0 : Kd.C (Kd.int .u8) w A0 l0.length l0) (hc0 : l0.length ≤ c0) (h : colloquylaw03_RecordOnce.f k l0 = some r) :
    Calls Try.prog 5 #[.slice A0 l0.length c0] w fun e w' => e = .returned (.bool r) ∧ Below w.heap.size w w' := by
  have hu24 := Try.underlying24
  have HR0 := Aside0.mk hr0
  have HC0 := Aside0.mk hc0
  clear hr0 hc0
  have HB := Aside0.mk (Below.refl w.heap.size w)
  have H : ((colloquylaw03_awake.f k).bind fun t210 => (if t210 = true then (colloquylaw03_RecordOnce.j0 k l0 t210 (decide ((l0.length : Int) > 4000))) else (colloquylaw03_RecordOnce.j0 k l0 t210 true))) = some r := h
  clear h
  replace H := Option.bind_eq_some_iff.mp H
  obtain ⟨t210, A20, H⟩ := H
  replace H : (if t210 = true then (colloquylaw03_RecordOnce.j0 k l0 t210 (decide ((l0.length : Int) > 4000))) else (colloquylaw03_RecordOnce.j0 k l0 t210 true)) = some r := H
  have A2 := Aside0.mk A20
  clear A20
  have HC3 := Aside0.mk H
  clear H
  go_enter Try.func5, Try.ntmps5
  go_upto_region 2 with (first | (go_at_call 10; (with_reducible refine (colloquylaw03_awake.calls k  t210 _ A2.out).mono ?_); rintro e w4 ⟨rfl, hb⟩; have n0_ := Aside0.mk (below_step (by repeat (first | (with_reducible first | exact HB.out | apply below_alloc | apply pw_below_drewN | apply below_drew1) | exact HB.out)) hb); clear HB; have HB := n0_; clear n0_; (try clear hb); (try clear hb2); (try clear hk); (try clear hi)))
  repeat (go_quiet (first | (go_at_call 10; (with_reducible refine (colloquylaw03_awake.calls k  t210 _ A2.out).mono ?_); rintro e w4 ⟨rfl, hb⟩; have n0_ := Aside0.mk (below_step (by repeat (first | (with_reducible first | exact HB.out | apply below_alloc | apply pw_below_drewN | apply below_drew1) | exact HB.out)) hb); clear HB; have HB := n0_; clear n0_; (try clear hb); (try clear hb2); (try clear hk); (try clear hi))); go_upto_region 2 with (first | (go_at_call 10; (with_reducible refine (colloquylaw03_awake.calls k  t210 _ A2.out).mono ?_); rintro e w4 ⟨rfl, hb⟩; have n0_ := Aside0.mk (below_step (by repeat (first | (with_reducible first | exact HB.out | apply below_alloc | apply pw_below_drewN | apply below_drew1) | exact HB.out)) hb); clear HB; have HB := n0_; clear n0_; (try clear hb); (try clear hb2); (try clear hk); (try clear hi))))
  (try simp only [Act.put, List.setIfInBounds_toArray, List.set_cons_zero, List.set_cons_succ])
  go_cut [16] (fun v16 wc => ∃ (kq : Nat) (x16_2 : Bool), v16 = .bool x16_2 ∧ Aside0 (colloquylaw03_RecordOnce.j0 kq l0 t210 x16_2 = some r) ∧ Aside0 (kq ≤ k) ∧ Aside0 (Below w.heap.size w wc))
  case first =>
    have H := HC3.out
    clear HC3
    by_cases c5 : t210 = true
    · subst c5
      have H1 : (colloquylaw03_RecordOnce.j0 k l0 true (decide ((l0.length : Int) > 4000))) = some r := by rw [if_pos rfl] at H; exact H
      clear H
      have H := H1
      clear H1
      have H' := Aside0.mk H
      clear H
      go_wp2
      repeat (go_quiet (fail); try go_wp2)
      go_meet
      case rel => exact ⟨_, (decide ((l0.length : Int) > 4000)), (by first | rfl | (simp; done) | (simp [*]; done)), H', ⟨by first | omega | exact Nat.le_refl _⟩, ⟨by repeat (first | (with_reducible first | exact HB.out | apply below_alloc | apply pw_below_drewN | apply below_drew1) | exact HB.out)⟩⟩
    · replace c5 := Bool.eq_false_iff.mpr c5
      subst c5
      have H1 : (colloquylaw03_RecordOnce.j0 k l0 false true) = some r := by rw [if_neg (show ¬ (false = true) by decide)] at H; exact H
      clear H
      have H := H1
      clear H1
      have H' := Aside0.mk H
      clear H
      go_wp2
      repeat (go_quiet (fail); try go_wp2)
      go_meet
      case rel => exact ⟨_, (true), (by first | rfl | (simp; done) | (simp [*]; done)), H', ⟨by first | omega | exact Nat.le_refl _⟩, ⟨by repeat (first | (with_reducible first | exact HB.out | apply below_alloc | apply pw_below_drewN | apply below_drew1) | exact HB.out)⟩⟩
  case rest =>
    clear HC3
    try clear p2
    try clear c5
    obtain ⟨kq, x16_2, rfl, HA, HJ2, HB⟩ := hcut
    cases kq with
    | zero => exact absurd HA.out (by simp [colloquylaw03_RecordOnce.j0])
    | succ kj2 =>
      have H := HA.out
      clear HA
      simp only [colloquylaw03_RecordOnce.j0] at H
      by_cases c6 : x16_2 = true
      · subst c6
        have H1 : (some t210) = some r := by rw [if_pos rfl] at H; exact H
        clear H
        have H := H1
        clear H1
        obtain rfl := Option.some.inj H
        go_wp2
        repeat (go_quiet (fail); try go_wp2)
        go_ret
        exact ⟨by first | rfl | (simp [errW_none, errW_some] <;> rfl) | (simp [*, errW_none, errW_some] <;> rfl), by repeat (first | (with_reducible first | exact HB.out | apply below_alloc | apply pw_below_drewN | apply below_drew1) | exact HB.out)⟩
      · replace c6 := Bool.eq_false_iff.mpr c6
        subst c6
        have H1 : ((record_Get.f kj2 l0).bind fun bt211 => (if bt211.2.2.2 = 0 then ((record_Put.f kj2 bt211.1 bt211.2.1).bind fun bt218 => (if bt218.2 = 0 then (if bt211.2.2.1 = (bt218.1.length : Int) then (if bt211.2.2.1 ≤ (l0.length : Int) then (if 0 ≤ bt211.2.2.1 then (some ((strOfNums bt218.1).toList == (strOfNums (l0.take (bt211.2.2.1 : Int).toNat)).toList)) else (none)) else (some false)) else (some false)) else (some false))) else (if bt211.2.2.1 = 0 then (some ((bt211.2.1.length : Int) == 0)) else (some false)))) = some r := by rw [if_neg (show ¬ (false = true) by decide)] at H; exact H
        clear H
        have H := H1
        clear H1
        replace H := Option.bind_eq_some_iff.mp H
        obtain ⟨⟨t211, t212, t215, t216⟩, A70, H⟩ := H
        replace H : (if t216 = 0 then ((record_Put.f kj2 t211 t212).bind fun bt218 => (if bt218.2 = 0 then (if t215 = (bt218.1.length : Int) then (if t215 ≤ (l0.length : Int) then (if 0 ≤ t215 then (some ((strOfNums bt218.1).toList == (strOfNums (l0.take (t215 : Int).toNat)).toList)) else (none)) else (some false)) else (some false)) else (some false))) else (if t215 = 0 then (some ((t212.length : Int) == 0)) else (some false))) = some r := H
        have A7 := Aside0.mk A70
        clear A70
        by_cases c8 : t216 = 0
        · rw [if_pos c8] at H
          have c8b0 : (t216 == 0) = true := beq_iff_eq.mpr c8
          have c8b1 : (t216 != 0) = false := bne_eq_false_iff_eq.mpr c8
          clear c8
          replace H := Option.bind_eq_some_iff.mp H
          obtain ⟨⟨t218, t221⟩, A90, H⟩ := H
          replace H : (if t221 = 0 then (if t215 = (t218.length : Int) then (if t215 ≤ (l0.length : Int) then (if 0 ≤ t215 then (some ((strOfNums t218).toList == (strOfNums (l0.take (t215 : Int).toNat)).toList)) else (none)) else (some false)) else (some false)) else (some false)) = some r := H
          have A9 := Aside0.mk A90
          clear A90
          by_cases c10 : t221 = 0
          · rw [if_pos c10] at H
            have c10b0 : (t221 == 0) = true := beq_iff_eq.mpr c10
            have c10b1 : (t221 != 0) = false := bne_eq_false_iff_eq.mpr c10
            clear c10
            by_cases c11 : t215 = (t218.length : Int)
            · rw [if_pos c11] at H
              have c11b0 : (t215 == (t218.length : Int)) = true := beq_iff_eq.mpr c11
              have c11b1 : (t215 != (t218.length : Int)) = false := bne_eq_false_iff_eq.mpr c11
              clear c11
              by_cases c12 : t215 ≤ (l0.length : Int)
              · rw [if_pos c12] at H
                have c12b0 : decide (t215 ≤ (l0.length : Int)) = true := decide_eq_true c12
                clear c12
                by_cases c13 : 0 ≤ t215
                · rw [if_pos c13] at H
                  have c13b0 := eq_true c13
                  have c13b1 : decide (0 ≤ t215) = true := decide_eq_true c13
                  clear c13
                  have c14b0 := eq_true (of_decide_eq_true (by first | (with_reducible assumption) | assumption) : t215 ≤ (l0.length : Int))
                  obtain rfl := Option.some.inj H
                  go_wp2_with (first | (go_at_call 13; (with_reducible refine (record_Get.calls kj2 _ _ l0 t211 t212 t215 t216 _ ?side1 ?side2 A7.out).mono ?_); (case side1 => repeat (first | exact (Kd.C_below HR0.out HB.out) | (with_reducible refine Kd.C_alloc ?_ _) | (with_reducible refine Kd.C_drewN ?_ _) | (with_reducible refine Kd.C_drew ?_))); (case side2 => exact HC0.out); rintro e w15 ⟨v213, rfl, ho0, hb⟩; have n0_ := Aside0.mk (Kd.R_lower ho0 (below_size (by repeat (first | (with_reducible first | exact HB.out | apply below_alloc | apply pw_below_drewN | apply below_drew1) | exact HB.out)))); have n1_ := Aside0.mk (below_step (by repeat (first | (with_reducible first | exact HB.out | apply below_alloc | apply pw_below_drewN | apply below_drew1) | exact HB.out)) hb); clear HB; have HO214 := n0_; have HB := n1_; clear n0_ n1_; (try clear hb); (try clear hb2); (try clear hk); (try clear hi); (try clear ho0)) | ((with_reducible refine gate_dst (N := 4) rfl ?_); (try (refine gate_guard (by rfl) ?_; dsimp only)); refine box_event ?hg (N := 4) ?hd (cs := #[.int .i64 0, .slice none 0 0]) (t := 24) ?hr ?_; (case hd => rfl); (case hg => rfl); (case hr => first | (go_simp; done) | (go_simp; rfl)); intro gb217 hg w16 hbox hb; have n0_ := Aside0.mk (Kd.R_below (by (with_reducible repeat (first | apply Kd.R_alloc | apply Kd.R_drewN | apply Kd.R_drew)); exact HO214.out) hb); have n1_ := Aside0.mk (below_step (by repeat (first | (with_reducible first | exact HB.out | apply below_alloc | apply pw_below_drewN | apply below_drew1) | exact HB.out)) hb); have n2_ := Aside0.mk (hbox); have n3_ := Aside0.mk ((by rw [hg]; exact (below_size (by repeat (first | (with_reducible first | exact HB.out | apply below_alloc | apply pw_below_drewN | apply below_drew1) | exact HB.out))) : w.heap.size ≤ gb217)); have n4_ := Aside0.mk ((by rw [hg]; exact (below_size (by repeat (first | (with_reducible first | exact HB.out | apply below_alloc | apply pw_below_drewN | apply below_drew1) | exact HB.out))) : w.heap.size ≤ gb217)); clear HO214; clear HB; have HO214 := n0_; have HB := n1_; have BK217 := n2_; have GW217 := n3_; have GE217 := n4_; clear n0_ n1_ n2_ n3_ n4_; clear hb hbox hg; have hcz17_0 : w16.cell? ⟨gb217, 0, none⟩ = some (.int .i64 0) := (blk_cell BK217.out 0).trans rfl; have hcz17_1 : w16.cell? ⟨gb217, 1, none⟩ = some (.slice none 0 0) := (blk_cell BK217.out 1).trans rfl; have hfz17_0 := blk_frozen BK217.out 0; have hfz17_1 := blk_frozen BK217.out 1; obtain ⟨Ao18, co18, eo18⟩ := Kd.R_slice HO214.out; subst eo18) | (go_at_call 11; (with_reducible refine (record_Put.calls kj2 t211 _ _ t212 t218 t221 _ ?side1 ?side2 A9.out).mono ?_); (case side1 => refine (Kd.R_reads' (e := 5) (base := w.heap.size) (ok := fun k_ => True) (n := t212.length) (c := co18) ?_).2.2; exact (by (with_reducible repeat (first | apply Kd.R_alloc | apply Kd.R_drewN | apply Kd.R_drew)); exact (Kd.R_mono (Kd.R_far (p := ⟨gb217, 1, none⟩) (Kd.R_far (p := ⟨gb217, 0, none⟩) (Kd.R_types HO214.out BK217.out (by decide)) (fun _ hk => hk.2) (.int .i64 t211)) (fun _ hk => hk.2) (.slice Ao18 t212.length co18)) (fun _ h_ => h_.1)))); (case side2 => exact (Kd.R_reads' HO214.out).2.1); rintro e w19 ⟨v219, rfl, ho0, hb⟩; have n0_ := Aside0.mk (Kd.R_elder' (by (with_reducible repeat (first | apply Kd.R_alloc | apply Kd.R_drewN | apply Kd.R_drew)); exact (Kd.R_mono (Kd.R_far (p := ⟨gb217, 1, none⟩) (Kd.R_far (p := ⟨gb217, 0, none⟩) (Kd.R_types HO214.out BK217.out (by decide)) (fun _ hk => hk.2) (.int .i64 t211)) (fun _ hk => hk.2) (.slice Ao18 t212.length co18)) (fun _ h_ => h_.1))) (Kd.R_base ho0) hb); have n1_ := Aside0.mk (Kd.R_lower (Kd.R_new' ho0 (Kd.R_lt (by (with_reducible repeat (first | apply Kd.R_alloc | apply Kd.R_drewN | apply Kd.R_drew)); exact (Kd.R_mono (Kd.R_far (p := ⟨gb217, 1, none⟩) (Kd.R_far (p := ⟨gb217, 0, none⟩) (Kd.R_types HO214.out BK217.out (by decide)) (fun _ hk => hk.2) (.int .i64 t211)) (fun _ hk => hk.2) (.slice Ao18 t212.length co18)) (fun _ h_ => h_.1))))) (below_size (by repeat (first | (with_reducible first | exact HB.out | apply below_alloc | apply pw_below_drewN | apply below_drew1 | refine below_set ?_ GE217.out) | exact HB.out)))); have n2_ := Aside0.mk (blk_below (g := gb217) (o := .cells #[.int .i64 t211, .slice Ao18 t212.length co18] 24 (0, 0)) (by (with_reducible repeat (first | refine blk_drewN ?_ _ | refine blk_drew ?_ | refine blk_alloc ?_ _)); refine blk_put (cs := #[.int .i64 t211, .slice none 0 0]) ?_ 1 _ rfl; (with_reducible repeat (first | refine blk_drewN ?_ _ | refine blk_drew ?_ | refine blk_alloc ?_ _)); refine blk_put (cs := #[.int .i64 0, .slice none 0 0]) ?_ 0 _ rfl; (with_reducible repeat (first | refine blk_drewN ?_ _ | refine blk_drew ?_ | refine blk_alloc ?_ _)); exact BK217.out) hb); have n3_ := Aside0.mk (below_step (by repeat (first | (with_reducible first | exact HB.out | apply below_alloc | apply pw_below_drewN | apply below_drew1 | refine below_set ?_ GE217.out) | exact HB.out)) hb); clear HO214; clear BK217; clear HB; have HO214 := n0_; have HO220 := n1_; have BK217 := n2_; have HB := n3_; clear n0_ n1_ n2_ n3_; (try clear hb); (try clear hb2); (try clear hk); (try clear hi); (try clear ho0); obtain ⟨Ao20, co20, eo20⟩ := Kd.R_slice HO220.out; subst eo20; have hcv21 := own_string (P := Try.prog) Try.underlying22 Try.underlying5 Try.underlying9 (Kd.own_of_R HO220.out); (try have hcvq22 := fun nq_ => own_string (P := Try.prog) Try.underlying22 Try.underlying5 Try.underlying9 (Kd.own_of_R (Kd.R_drewN HO220.out nq_))); obtain ⟨i023, hi023, _, hsz23, _⟩ := info_parts info5; obtain ⟨hcut23, hA23, hC23⟩ := print_take_of (P := Try.prog) (Value.int .u8) 0 22 5 .i64 Try.underlying22 hi023 hsz23 A0 c0 l0 t215 (of_decide_eq_true (by first | (with_reducible assumption) | assumption)) (of_decide_eq_true (by first | (with_reducible assumption) | assumption)) HC0.out; have HR222 := Aside0.mk (Kd.C_of_reads (h1 := fun _ => rfl) (hA23 _ (Kd.reads_of_C HR0.out))); have HC222 := Aside0.mk hC23; clear hA23 hC23 hi023 hsz23; have hcv24 := Kd.C_string (P := Try.prog) (A := A0) (c := c0) Try.underlying22 Try.underlying5 Try.underlying9 (Kd.C_below HR222.out HB.out); (try have hcvq25 := fun nq_ => Kd.C_string (P := Try.prog) (A := A0) (c := c0) Try.underlying22 Try.underlying5 Try.underlying9 (Kd.C_drewN ((Kd.C_below HR222.out HB.out)) nq_)); (try (have hcvq26 := hcvq25; rw [show (l0.take (t215 : Int).toNat).length = t215.toNat from (by rw [List.length_take]; have h_ : (t215 : Int) ≤ (l0.length : Int) := of_decide_eq_true (by first | (with_reducible assumption) | assumption); omega)] at hcvq26))))
                  repeat (go_quiet (first | (go_at_call 13; (with_reducible refine (record_Get.calls kj2 _ _ l0 t211 t212 t215 t216 _ ?side1 ?side2 A7.out).mono ?_); (case side1 => repeat (first | exact (Kd.C_below HR0.out HB.out) | (with_reducible refine Kd.C_alloc ?_ _) | (with_reducible refine Kd.C_drewN ?_ _) | (with_reducible refine Kd.C_drew ?_))); (case side2 => exact HC0.out); rintro e w15 ⟨v213, rfl, ho0, hb⟩; have n0_ := Aside0.mk (Kd.R_lower ho0 (below_size (by repeat (first | (with_reducible first | exact HB.out | apply below_alloc | apply pw_below_drewN | apply below_drew1) | exact HB.out)))); have n1_ := Aside0.mk (below_step (by repeat (first | (with_reducible first | exact HB.out | apply below_alloc | apply pw_below_drewN | apply below_drew1) | exact HB.out)) hb); clear HB; have HO214 := n0_; have HB := n1_; clear n0_ n1_; (try clear hb); (try clear hb2); (try clear hk); (try clear hi); (try clear ho0)) | ((with_reducible refine gate_dst (N := 4) rfl ?_); (try (refine gate_guard (by rfl) ?_; dsimp only)); refine box_event ?hg (N := 4) ?hd (cs := #[.int .i64 0, .slice none 0 0]) (t := 24) ?hr ?_; (case hd => rfl); (case hg => rfl); (case hr => first | (go_simp; done) | (go_simp; rfl)); intro gb217 hg w16 hbox hb; have n0_ := Aside0.mk (Kd.R_below (by (with_reducible repeat (first | apply Kd.R_alloc | apply Kd.R_drewN | apply Kd.R_drew)); exact HO214.out) hb); have n1_ := Aside0.mk (below_step (by repeat (first | (with_reducible first | exact HB.out | apply below_alloc | apply pw_below_drewN | apply below_drew1) | exact HB.out)) hb); have n2_ := Aside0.mk (hbox); have n3_ := Aside0.mk ((by rw [hg]; exact (below_size (by repeat (first | (with_reducible first | exact HB.out | apply below_alloc | apply pw_below_drewN | apply below_drew1) | exact HB.out))) : w.heap.size ≤ gb217)); have n4_ := Aside0.mk ((by rw [hg]; exact (below_size (by repeat (first | (with_reducible first | exact HB.out | apply below_alloc | apply pw_below_drewN | apply below_drew1) | exact HB.out))) : w.heap.size ≤ gb217)); clear HO214; clear HB; have HO214 := n0_; have HB := n1_; have BK217 := n2_; have GW217 := n3_; have GE217 := n4_; clear n0_ n1_ n2_ n3_ n4_; clear hb hbox hg; have hcz17_0 : w16.cell? ⟨gb217, 0, none⟩ = some (.int .i64 0) := (blk_cell BK217.out 0).trans rfl; have hcz17_1 : w16.cell? ⟨gb217, 1, none⟩ = some (.slice none 0 0) := (blk_cell BK217.out 1).trans rfl; have hfz17_0 := blk_frozen BK217.out 0; have hfz17_1 := blk_frozen BK217.out 1; obtain ⟨Ao18, co18, eo18⟩ := Kd.R_slice HO214.out; subst eo18) | (go_at_call 11; (with_reducible refine (record_Put.calls kj2 t211 _ _ t212 t218 t221 _ ?side1 ?side2 A9.out).mono ?_); (case side1 => refine (Kd.R_reads' (e := 5) (base := w.heap.size) (ok := fun k_ => True) (n := t212.length) (c := co18) ?_).2.2; exact (by (with_reducible repeat (first | apply Kd.R_alloc | apply Kd.R_drewN | apply Kd.R_drew)); exact (Kd.R_mono (Kd.R_far (p := ⟨gb217, 1, none⟩) (Kd.R_far (p := ⟨gb217, 0, none⟩) (Kd.R_types HO214.out BK217.out (by decide)) (fun _ hk => hk.2) (.int .i64 t211)) (fun _ hk => hk.2) (.slice Ao18 t212.length co18)) (fun _ h_ => h_.1)))); (case side2 => exact (Kd.R_reads' HO214.out).2.1); rintro e w19 ⟨v219, rfl, ho0, hb⟩; have n0_ := Aside0.mk (Kd.R_elder' (by (with_reducible repeat (first | apply Kd.R_alloc | apply Kd.R_drewN | apply Kd.R_drew)); exact (Kd.R_mono (Kd.R_far (p := ⟨gb217, 1, none⟩) (Kd.R_far (p := ⟨gb217, 0, none⟩) (Kd.R_types HO214.out BK217.out (by decide)) (fun _ hk => hk.2) (.int .i64 t211)) (fun _ hk => hk.2) (.slice Ao18 t212.length co18)) (fun _ h_ => h_.1))) (Kd.R_base ho0) hb); have n1_ := Aside0.mk (Kd.R_lower (Kd.R_new' ho0 (Kd.R_lt (by (with_reducible repeat (first | apply Kd.R_alloc | apply Kd.R_drewN | apply Kd.R_drew)); exact (Kd.R_mono (Kd.R_far (p := ⟨gb217, 1, none⟩) (Kd.R_far (p := ⟨gb217, 0, none⟩) (Kd.R_types HO214.out BK217.out (by decide)) (fun _ hk => hk.2) (.int .i64 t211)) (fun _ hk => hk.2) (.slice Ao18 t212.length co18)) (fun _ h_ => h_.1))))) (below_size (by repeat (first | (with_reducible first | exact HB.out | apply below_alloc | apply pw_below_drewN | apply below_drew1 | refine below_set ?_ GE217.out) | exact HB.out)))); have n2_ := Aside0.mk (blk_below (g := gb217) (o := .cells #[.int .i64 t211, .slice Ao18 t212.length co18] 24 (0, 0)) (by (with_reducible repeat (first | refine blk_drewN ?_ _ | refine blk_drew ?_ | refine blk_alloc ?_ _)); refine blk_put (cs := #[.int .i64 t211, .slice none 0 0]) ?_ 1 _ rfl; (with_reducible repeat (first | refine blk_drewN ?_ _ | refine blk_drew ?_ | refine blk_alloc ?_ _)); refine blk_put (cs := #[.int .i64 0, .slice none 0 0]) ?_ 0 _ rfl; (with_reducible repeat (first | refine blk_drewN ?_ _ | refine blk_drew ?_ | refine blk_alloc ?_ _)); exact BK217.out) hb); have n3_ := Aside0.mk (below_step (by repeat (first | (with_reducible first | exact HB.out | apply below_alloc | apply pw_below_drewN | apply below_drew1 | refine below_set ?_ GE217.out) | exact HB.out)) hb); clear HO214; clear BK217; clear HB; have HO214 := n0_; have HO220 := n1_; have BK217 := n2_; have HB := n3_; clear n0_ n1_ n2_ n3_; (try clear hb); (try clear hb2); (try clear hk); (try clear hi); (try clear ho0); obtain ⟨Ao20, co20, eo20⟩ := Kd.R_slice HO220.out; subst eo20; have hcv21 := own_string (P := Try.prog) Try.underlying22 Try.underlying5 Try.underlying9 (Kd.own_of_R HO220.out); (try have hcvq22 := fun nq_ => own_string (P := Try.prog) Try.underlying22 Try.underlying5 Try.underlying9 (Kd.own_of_R (Kd.R_drewN HO220.out nq_))); obtain ⟨i023, hi023, _, hsz23, _⟩ := info_parts info5; obtain ⟨hcut23, hA23, hC23⟩ := print_take_of (P := Try.prog) (Value.int .u8) 0 22 5 .i64 Try.underlying22 hi023 hsz23 A0 c0 l0 t215 (of_decide_eq_true (by first | (with_reducible assumption) | assumption)) (of_decide_eq_true (by first | (with_reducible assumption) | assumption)) HC0.out; have HR222 := Aside0.mk (Kd.C_of_reads (h1 := fun _ => rfl) (hA23 _ (Kd.reads_of_C HR0.out))); have HC222 := Aside0.mk hC23; clear hA23 hC23 hi023 hsz23; have hcv24 := Kd.C_string (P := Try.prog) (A := A0) (c := c0) Try.underlying22 Try.underlying5 Try.underlying9 (Kd.C_below HR222.out HB.out); (try have hcvq25 := fun nq_ => Kd.C_string (P := Try.prog) (A := A0) (c := c0) Try.underlying22 Try.underlying5 Try.underlying9 (Kd.C_drewN ((Kd.C_below HR222.out HB.out)) nq_)); (try (have hcvq26 := hcvq25; rw [show (l0.take (t215 : Int).toNat).length = t215.toNat from (by rw [List.length_take]; have h_ : (t215 : Int) ≤ (l0.length : Int) := of_decide_eq_true (by first | (with_reducible assumption) | assumption); omega)] at hcvq26)))); try go_wp2_with (first | (go_at_call 13; (with_reducible refine (record_Get.calls kj2 _ _ l0 t211 t212 t215 t216 _ ?side1 ?side2 A7.out).mono ?_); (case side1 => repeat (first | exact (Kd.C_below HR0.out HB.out) | (with_reducible refine Kd.C_alloc ?_ _) | (with_reducible refine Kd.C_drewN ?_ _) | (with_reducible refine Kd.C_drew ?_))); (case side2 => exact HC0.out); rintro e w15 ⟨v213, rfl, ho0, hb⟩; have n0_ := Aside0.mk (Kd.R_lower ho0 (below_size (by repeat (first | (with_reducible first | exact HB.out | apply below_alloc | apply pw_below_drewN | apply below_drew1) | exact HB.out)))); have n1_ := Aside0.mk (below_step (by repeat (first | (with_reducible first | exact HB.out | apply below_alloc | apply pw_below_drewN | apply below_drew1) | exact HB.out)) hb); clear HB; have HO214 := n0_; have HB := n1_; clear n0_ n1_; (try clear hb); (try clear hb2); (try clear hk); (try clear hi); (try clear ho0)) | ((with_reducible refine gate_dst (N := 4) rfl ?_); (try (refine gate_guard (by rfl) ?_; dsimp only)); refine box_event ?hg (N := 4) ?hd (cs := #[.int .i64 0, .slice none 0 0]) (t := 24) ?hr ?_; (case hd => rfl); (case hg => rfl); (case hr => first | (go_simp; done) | (go_simp; rfl)); intro gb217 hg w16 hbox hb; have n0_ := Aside0.mk (Kd.R_below (by (with_reducible repeat (first | apply Kd.R_alloc | apply Kd.R_drewN | apply Kd.R_drew)); exact HO214.out) hb); have n1_ := Aside0.mk (below_step (by repeat (first | (with_reducible first | exact HB.out | apply below_alloc | apply pw_below_drewN | apply below_drew1) | exact HB.out)) hb); have n2_ := Aside0.mk (hbox); have n3_ := Aside0.mk ((by rw [hg]; exact (below_size (by repeat (first | (with_reducible first | exact HB.out | apply below_alloc | apply pw_below_drewN | apply below_drew1) | exact HB.out))) : w.heap.size ≤ gb217)); have n4_ := Aside0.mk ((by rw [hg]; exact (below_size (by repeat (first | (with_reducible first | exact HB.out | apply below_alloc | apply pw_below_drewN | apply below_drew1) | exact HB.out))) : w.heap.size ≤ gb217)); clear HO214; clear HB; have HO214 := n0_; have HB := n1_; have BK217 := n2_; have GW217 := n3_; have GE217 := n4_; clear n0_ n1_ n2_ n3_ n4_; clear hb hbox hg; have hcz17_0 : w16.cell? ⟨gb217, 0, none⟩ = some (.int .i64 0) := (blk_cell BK217.out 0).trans rfl; have hcz17_1 : w16.cell? ⟨gb217, 1, none⟩ = some (.slice none 0 0) := (blk_cell BK217.out 1).trans rfl; have hfz17_0 := blk_frozen BK217.out 0; have hfz17_1 := blk_frozen BK217.out 1; obtain ⟨Ao18, co18, eo18⟩ := Kd.R_slice HO214.out; subst eo18) | (go_at_call 11; (with_reducible refine (record_Put.calls kj2 t211 _ _ t212 t218 t221 _ ?side1 ?side2 A9.out).mono ?_); (case side1 => refine (Kd.R_reads' (e := 5) (base := w.heap.size) (ok := fun k_ => True) (n := t212.length) (c := co18) ?_).2.2; exact (by (with_reducible repeat (first | apply Kd.R_alloc | apply Kd.R_drewN | apply Kd.R_drew)); exact (Kd.R_mono (Kd.R_far (p := ⟨gb217, 1, none⟩) (Kd.R_far (p := ⟨gb217, 0, none⟩) (Kd.R_types HO214.out BK217.out (by decide)) (fun _ hk => hk.2) (.int .i64 t211)) (fun _ hk => hk.2) (.slice Ao18 t212.length co18)) (fun _ h_ => h_.1)))); (case side2 => exact (Kd.R_reads' HO214.out).2.1); rintro e w19 ⟨v219, rfl, ho0, hb⟩; have n0_ := Aside0.mk (Kd.R_elder' (by (with_reducible repeat (first | apply Kd.R_alloc | apply Kd.R_drewN | apply Kd.R_drew)); exact (Kd.R_mono (Kd.R_far (p := ⟨gb217, 1, none⟩) (Kd.R_far (p := ⟨gb217, 0, none⟩) (Kd.R_types HO214.out BK217.out (by decide)) (fun _ hk => hk.2) (.int .i64 t211)) (fun _ hk => hk.2) (.slice Ao18 t212.length co18)) (fun _ h_ => h_.1))) (Kd.R_base ho0) hb); have n1_ := Aside0.mk (Kd.R_lower (Kd.R_new' ho0 (Kd.R_lt (by (with_reducible repeat (first | apply Kd.R_alloc | apply Kd.R_drewN | apply Kd.R_drew)); exact (Kd.R_mono (Kd.R_far (p := ⟨gb217, 1, none⟩) (Kd.R_far (p := ⟨gb217, 0, none⟩) (Kd.R_types HO214.out BK217.out (by decide)) (fun _ hk => hk.2) (.int .i64 t211)) (fun _ hk => hk.2) (.slice Ao18 t212.length co18)) (fun _ h_ => h_.1))))) (below_size (by repeat (first | (with_reducible first | exact HB.out | apply below_alloc | apply pw_below_drewN | apply below_drew1 | refine below_set ?_ GE217.out) | exact HB.out)))); have n2_ := Aside0.mk (blk_below (g := gb217) (o := .cells #[.int .i64 t211, .slice Ao18 t212.length co18] 24 (0, 0)) (by (with_reducible repeat (first | refine blk_drewN ?_ _ | refine blk_drew ?_ | refine blk_alloc ?_ _)); refine blk_put (cs := #[.int .i64 t211, .slice none 0 0]) ?_ 1 _ rfl; (with_reducible repeat (first | refine blk_drewN ?_ _ | refine blk_drew ?_ | refine blk_alloc ?_ _)); refine blk_put (cs := #[.int .i64 0, .slice none 0 0]) ?_ 0 _ rfl; (with_reducible repeat (first | refine blk_drewN ?_ _ | refine blk_drew ?_ | refine blk_alloc ?_ _)); exact BK217.out) hb); have n3_ := Aside0.mk (below_step (by repeat (first | (with_reducible first | exact HB.out | apply below_alloc | apply pw_below_drewN | apply below_drew1 | refine below_set ?_ GE217.out) | exact HB.out)) hb); clear HO214; clear BK217; clear HB; have HO214 := n0_; have HO220 := n1_; have BK217 := n2_; have HB := n3_; clear n0_ n1_ n2_ n3_; (try clear hb); (try clear hb2); (try clear hk); (try clear hi); (try clear ho0); obtain ⟨Ao20, co20, eo20⟩ := Kd.R_slice HO220.out; subst eo20; have hcv21 := own_string (P := Try.prog) Try.underlying22 Try.underlying5 Try.underlying9 (Kd.own_of_R HO220.out); (try have hcvq22 := fun nq_ => own_string (P := Try.prog) Try.underlying22 Try.underlying5 Try.underlying9 (Kd.own_of_R (Kd.R_drewN HO220.out nq_))); obtain ⟨i023, hi023, _, hsz23, _⟩ := info_parts info5; obtain ⟨hcut23, hA23, hC23⟩ := print_take_of (P := Try.prog) (Value.int .u8) 0 22 5 .i64 Try.underlying22 hi023 hsz23 A0 c0 l0 t215 (of_decide_eq_true (by first | (with_reducible assumption) | assumption)) (of_decide_eq_true (by first | (with_reducible assumption) | assumption)) HC0.out; have HR222 := Aside0.mk (Kd.C_of_reads (h1 := fun _ => rfl) (hA23 _ (Kd.reads_of_C HR0.out))); have HC222 := Aside0.mk hC23; clear hA23 hC23 hi023 hsz23; have hcv24 := Kd.C_string (P := Try.prog) (A := A0) (c := c0) Try.underlying22 Try.underlying5 Try.underlying9 (Kd.C_below HR222.out HB.out); (try have hcvq25 := fun nq_ => Kd.C_string (P := Try.prog) (A := A0) (c := c0) Try.underlying22 Try.underlying5 Try.underlying9 (Kd.C_drewN ((Kd.C_below HR222.out HB.out)) nq_)); (try (have hcvq26 := hcvq25; rw [show (l0.take (t215 : Int).toNat).length = t215.toNat from (by rw [List.length_take]; have h_ : (t215 : Int) ≤ (l0.length : Int) := of_decide_eq_true (by first | (with_reducible assumption) | assumption); omega)] at hcvq26)))))
                  go_ret
                  exact ⟨by first | rfl | (simp [errW_none, errW_some] <;> rfl) | (simp [*, errW_none, errW_some] <;> rfl), by repeat (first | (with_reducible first | exact HB.out | apply below_alloc | apply pw_below_drewN | apply below_drew1 | refine below_set ?_ GE217.out) | exact HB.out)⟩
                · rw [if_neg c13] at H
                  exact absurd H (by simp)
              · rw [if_neg c12] at H
                have c12b0 : decide (t215 ≤ (l0.length : Int)) = false := decide_eq_false c12
                clear c12
                obtain rfl := Option.some.inj H
                go_wp2_with (first | (go_at_call 13; (with_reducible refine (record_Get.calls kj2 _ _ l0 t211 t212 t215 t216 _ ?side1 ?side2 A7.out).mono ?_); (case side1 => repeat (first | exact (Kd.C_below HR0.out HB.out) | (with_reducible refine Kd.C_alloc ?_ _) | (with_reducible refine Kd.C_drewN ?_ _) | (with_reducible refine Kd.C_drew ?_))); (case side2 => exact HC0.out); rintro e w27 ⟨v213, rfl, ho0, hb⟩; have n0_ := Aside0.mk (Kd.R_lower ho0 (below_size (by repeat (first | (with_reducible first | exact HB.out | apply below_alloc | apply pw_below_drewN | apply below_drew1) | exact HB.out)))); have n1_ := Aside0.mk (below_step (by repeat (first | (with_reducible first | exact HB.out | apply below_alloc | apply pw_below_drewN | apply below_drew1) | exact HB.out)) hb); clear HB; have HO214 := n0_; have HB := n1_; clear n0_ n1_; (try clear hb); (try clear hb2); (try clear hk); (try clear hi); (try clear ho0)) | ((with_reducible refine gate_dst (N := 4) rfl ?_); (try (refine gate_guard (by rfl) ?_; dsimp only)); refine box_event ?hg (N := 4) ?hd (cs := #[.int .i64 0, .slice none 0 0]) (t := 24) ?hr ?_; (case hd => rfl); (case hg => rfl); (case hr => first | (go_simp; done) | (go_simp; rfl)); intro gb217 hg w28 hbox hb; have n0_ := Aside0.mk (Kd.R_below (by (with_reducible repeat (first | apply Kd.R_alloc | apply Kd.R_drewN | apply Kd.R_drew)); exact HO214.out) hb); have n1_ := Aside0.mk (below_step (by repeat (first | (with_reducible first | exact HB.out | apply below_alloc | apply pw_below_drewN | apply below_drew1) | exact HB.out)) hb); have n2_ := Aside0.mk (hbox); have n3_ := Aside0.mk ((by rw [hg]; exact (below_size (by repeat (first | (with_reducible first | exact HB.out | apply below_alloc | apply pw_below_drewN | apply below_drew1) | exact HB.out))) : w.heap.size ≤ gb217)); have n4_ := Aside0.mk ((by rw [hg]; exact (below_size (by repeat (first | (with_reducible first | exact HB.out | apply below_alloc | apply pw_below_drewN | apply below_drew1) | exact HB.out))) : w.heap.size ≤ gb217)); clear HO214; clear HB; have HO214 := n0_; have HB := n1_; have BK217 := n2_; have GW217 := n3_; have GE217 := n4_; clear n0_ n1_ n2_ n3_ n4_; clear hb hbox hg; have hcz29_0 : w28.cell? ⟨gb217, 0, none⟩ = some (.int .i64 0) := (blk_cell BK217.out 0).trans rfl; have hcz29_1 : w28.cell? ⟨gb217, 1, none⟩ = some (.slice none 0 0) := (blk_cell BK217.out 1).trans rfl; have hfz29_0 := blk_frozen BK217.out 0; have hfz29_1 := blk_frozen BK217.out 1; obtain ⟨Ao30, co30, eo30⟩ := Kd.R_slice HO214.out; subst eo30) | (go_at_call 11; (with_reducible refine (record_Put.calls kj2 t211 _ _ t212 t218 t221 _ ?side1 ?side2 A9.out).mono ?_); (case side1 => refine (Kd.R_reads' (e := 5) (base := w.heap.size) (ok := fun k_ => True) (n := t212.length) (c := co30) ?_).2.2; exact (by (with_reducible repeat (first | apply Kd.R_alloc | apply Kd.R_drewN | apply Kd.R_drew)); exact (Kd.R_mono (Kd.R_far (p := ⟨gb217, 1, none⟩) (Kd.R_far (p := ⟨gb217, 0, none⟩) (Kd.R_types HO214.out BK217.out (by decide)) (fun _ hk => hk.2) (.int .i64 t211)) (fun _ hk => hk.2) (.slice Ao30 t212.length co30)) (fun _ h_ => h_.1)))); (case side2 => exact (Kd.R_reads' HO214.out).2.1); rintro e w31 ⟨v219, rfl, ho0, hb⟩; have n0_ := Aside0.mk (Kd.R_elder' (by (with_reducible repeat (first | apply Kd.R_alloc | apply Kd.R_drewN | apply Kd.R_drew)); exact (Kd.R_mono (Kd.R_far (p := ⟨gb217, 1, none⟩) (Kd.R_far (p := ⟨gb217, 0, none⟩) (Kd.R_types HO214.out BK217.out (by decide)) (fun _ hk => hk.2) (.int .i64 t211)) (fun _ hk => hk.2) (.slice Ao30 t212.length co30)) (fun _ h_ => h_.1))) (Kd.R_base ho0) hb); have n1_ := Aside0.mk (Kd.R_lower (Kd.R_new' ho0 (Kd.R_lt (by (with_reducible repeat (first | apply Kd.R_alloc | apply Kd.R_drewN | apply Kd.R_drew)); exact (Kd.R_mono (Kd.R_far (p := ⟨gb217, 1, none⟩) (Kd.R_far (p := ⟨gb217, 0, none⟩) (Kd.R_types HO214.out BK217.out (by decide)) (fun _ hk => hk.2) (.int .i64 t211)) (fun _ hk => hk.2) (.slice Ao30 t212.length co30)) (fun _ h_ => h_.1))))) (below_size (by repeat (first | (with_reducible first | exact HB.out | apply below_alloc | apply pw_below_drewN | apply below_drew1 | refine below_set ?_ GE217.out) | exact HB.out)))); have n2_ := Aside0.mk (blk_below (g := gb217) (o := .cells #[.int .i64 t211, .slice Ao30 t212.length co30] 24 (0, 0)) (by (with_reducible repeat (first | refine blk_drewN ?_ _ | refine blk_drew ?_ | refine blk_alloc ?_ _)); refine blk_put (cs := #[.int .i64 t211, .slice none 0 0]) ?_ 1 _ rfl; (with_reducible repeat (first | refine blk_drewN ?_ _ | refine blk_drew ?_ | refine blk_alloc ?_ _)); refine blk_put (cs := #[.int .i64 0, .slice none 0 0]) ?_ 0 _ rfl; (with_reducible repeat (first | refine blk_drewN ?_ _ | refine blk_drew ?_ | refine blk_alloc ?_ _)); exact BK217.out) hb); have n3_ := Aside0.mk (below_step (by repeat (first | (with_reducible first | exact HB.out | apply below_alloc | apply pw_below_drewN | apply below_drew1 | refine below_set ?_ GE217.out) | exact HB.out)) hb); clear HO214; clear BK217; clear HB; have HO214 := n0_; have HO220 := n1_; have BK217 := n2_; have HB := n3_; clear n0_ n1_ n2_ n3_; (try clear hb); (try clear hb2); (try clear hk); (try clear hi); (try clear ho0); obtain ⟨Ao32, co32, eo32⟩ := Kd.R_slice HO220.out; subst eo32))
                repeat (go_quiet (first | (go_at_call 13; (with_reducible refine (record_Get.calls kj2 _ _ l0 t211 t212 t215 t216 _ ?side1 ?side2 A7.out).mono ?_); (case side1 => repeat (first | exact (Kd.C_below HR0.out HB.out) | (with_reducible refine Kd.C_alloc ?_ _) | (with_reducible refine Kd.C_drewN ?_ _) | (with_reducible refine Kd.C_drew ?_))); (case side2 => exact HC0.out); rintro e w27 ⟨v213, rfl, ho0, hb⟩; have n0_ := Aside0.mk (Kd.R_lower ho0 (below_size (by repeat (first | (with_reducible first | exact HB.out | apply below_alloc | apply pw_below_drewN | apply below_drew1) | exact HB.out)))); have n1_ := Aside0.mk (below_step (by repeat (first | (with_reducible first | exact HB.out | apply below_alloc | apply pw_below_drewN | apply below_drew1) | exact HB.out)) hb); clear HB; have HO214 := n0_; have HB := n1_; clear n0_ n1_; (try clear hb); (try clear hb2); (try clear hk); (try clear hi); (try clear ho0)) | ((with_reducible refine gate_dst (N := 4) rfl ?_); (try (refine gate_guard (by rfl) ?_; dsimp only)); refine box_event ?hg (N := 4) ?hd (cs := #[.int .i64 0, .slice none 0 0]) (t := 24) ?hr ?_; (case hd => rfl); (case hg => rfl); (case hr => first | (go_simp; done) | (go_simp; rfl)); intro gb217 hg w28 hbox hb; have n0_ := Aside0.mk (Kd.R_below (by (with_reducible repeat (first | apply Kd.R_alloc | apply Kd.R_drewN | apply Kd.R_drew)); exact HO214.out) hb); have n1_ := Aside0.mk (below_step (by repeat (first | (with_reducible first | exact HB.out | apply below_alloc | apply pw_below_drewN | apply below_drew1) | exact HB.out)) hb); have n2_ := Aside0.mk (hbox); have n3_ := Aside0.mk ((by rw [hg]; exact (below_size (by repeat (first | (with_reducible first | exact HB.out | apply below_alloc | apply pw_below_drewN | apply below_drew1) | exact HB.out))) : w.heap.size ≤ gb217)); have n4_ := Aside0.mk ((by rw [hg]; exact (below_size (by repeat (first | (with_reducible first | exact HB.out | apply below_alloc | apply pw_below_drewN | apply below_drew1) | exact HB.out))) : w.heap.size ≤ gb217)); clear HO214; clear HB; have HO214 := n0_; have HB := n1_; have BK217 := n2_; have GW217 := n3_; have GE217 := n4_; clear n0_ n1_ n2_ n3_ n4_; clear hb hbox hg; have hcz29_0 : w28.cell? ⟨gb217, 0, none⟩ = some (.int .i64 0) := (blk_cell BK217.out 0).trans rfl; have hcz29_1 : w28.cell? ⟨gb217, 1, none⟩ = some (.slice none 0 0) := (blk_cell BK217.out 1).trans rfl; have hfz29_0 := blk_frozen BK217.out 0; have hfz29_1 := blk_frozen BK217.out 1; obtain ⟨Ao30, co30, eo30⟩ := Kd.R_slice HO214.out; subst eo30) | (go_at_call 11; (with_reducible refine (record_Put.calls kj2 t211 _ _ t212 t218 t221 _ ?side1 ?side2 A9.out).mono ?_); (case side1 => refine (Kd.R_reads' (e := 5) (base := w.heap.size) (ok := fun k_ => True) (n := t212.length) (c := co30) ?_).2.2; exact (by (with_reducible repeat (first | apply Kd.R_alloc | apply Kd.R_drewN | apply Kd.R_drew)); exact (Kd.R_mono (Kd.R_far (p := ⟨gb217, 1, none⟩) (Kd.R_far (p := ⟨gb217, 0, none⟩) (Kd.R_types HO214.out BK217.out (by decide)) (fun _ hk => hk.2) (.int .i64 t211)) (fun _ hk => hk.2) (.slice Ao30 t212.length co30)) (fun _ h_ => h_.1)))); (case side2 => exact (Kd.R_reads' HO214.out).2.1); rintro e w31 ⟨v219, rfl, ho0, hb⟩; have n0_ := Aside0.mk (Kd.R_elder' (by (with_reducible repeat (first | apply Kd.R_alloc | apply Kd.R_drewN | apply Kd.R_drew)); exact (Kd.R_mono (Kd.R_far (p := ⟨gb217, 1, none⟩) (Kd.R_far (p := ⟨gb217, 0, none⟩) (Kd.R_types HO214.out BK217.out (by decide)) (fun _ hk => hk.2) (.int .i64 t211)) (fun _ hk => hk.2) (.slice Ao30 t212.length co30)) (fun _ h_ => h_.1))) (Kd.R_base ho0) hb); have n1_ := Aside0.mk (Kd.R_lower (Kd.R_new' ho0 (Kd.R_lt (by (with_reducible repeat (first | apply Kd.R_alloc | apply Kd.R_drewN | apply Kd.R_drew)); exact (Kd.R_mono (Kd.R_far (p := ⟨gb217, 1, none⟩) (Kd.R_far (p := ⟨gb217, 0, none⟩) (Kd.R_types HO214.out BK217.out (by decide)) (fun _ hk => hk.2) (.int .i64 t211)) (fun _ hk => hk.2) (.slice Ao30 t212.length co30)) (fun _ h_ => h_.1))))) (below_size (by repeat (first | (with_reducible first | exact HB.out | apply below_alloc | apply pw_below_drewN | apply below_drew1 | refine below_set ?_ GE217.out) | exact HB.out)))); have n2_ := Aside0.mk (blk_below (g := gb217) (o := .cells #[.int .i64 t211, .slice Ao30 t212.length co30] 24 (0, 0)) (by (with_reducible repeat (first | refine blk_drewN ?_ _ | refine blk_drew ?_ | refine blk_alloc ?_ _)); refine blk_put (cs := #[.int .i64 t211, .slice none 0 0]) ?_ 1 _ rfl; (with_reducible repeat (first | refine blk_drewN ?_ _ | refine blk_drew ?_ | refine blk_alloc ?_ _)); refine blk_put (cs := #[.int .i64 0, .slice none 0 0]) ?_ 0 _ rfl; (with_reducible repeat (first | refine blk_drewN ?_ _ | refine blk_drew ?_ | refine blk_alloc ?_ _)); exact BK217.out) hb); have n3_ := Aside0.mk (below_step (by repeat (first | (with_reducible first | exact HB.out | apply below_alloc | apply pw_below_drewN | apply below_drew1 | refine below_set ?_ GE217.out) | exact HB.out)) hb); clear HO214; clear BK217; clear HB; have HO214 := n0_; have HO220 := n1_; have BK217 := n2_; have HB := n3_; clear n0_ n1_ n2_ n3_; (try clear hb); (try clear hb2); (try clear hk); (try clear hi); (try clear ho0); obtain ⟨Ao32, co32, eo32⟩ := Kd.R_slice HO220.out; subst eo32)); try go_wp2_with (first | (go_at_call 13; (with_reducible refine (record_Get.calls kj2 _ _ l0 t211 t212 t215 t216 _ ?side1 ?side2 A7.out).mono ?_); (case side1 => repeat (first | exact (Kd.C_below HR0.out HB.out) | (with_reducible refine Kd.C_alloc ?_ _) | (with_reducible refine Kd.C_drewN ?_ _) | (with_reducible refine Kd.C_drew ?_))); (case side2 => exact HC0.out); rintro e w27 ⟨v213, rfl, ho0, hb⟩; have n0_ := Aside0.mk (Kd.R_lower ho0 (below_size (by repeat (first | (with_reducible first | exact HB.out | apply below_alloc | apply pw_below_drewN | apply below_drew1) | exact HB.out)))); have n1_ := Aside0.mk (below_step (by repeat (first | (with_reducible first | exact HB.out | apply below_alloc | apply pw_below_drewN | apply below_drew1) | exact HB.out)) hb); clear HB; have HO214 := n0_; have HB := n1_; clear n0_ n1_; (try clear hb); (try clear hb2); (try clear hk); (try clear hi); (try clear ho0)) | ((with_reducible refine gate_dst (N := 4) rfl ?_); (try (refine gate_guard (by rfl) ?_; dsimp only)); refine box_event ?hg (N := 4) ?hd (cs := #[.int .i64 0, .slice none 0 0]) (t := 24) ?hr ?_; (case hd => rfl); (case hg => rfl); (case hr => first | (go_simp; done) | (go_simp; rfl)); intro gb217 hg w28 hbox hb; have n0_ := Aside0.mk (Kd.R_below (by (with_reducible repeat (first | apply Kd.R_alloc | apply Kd.R_drewN | apply Kd.R_drew)); exact HO214.out) hb); have n1_ := Aside0.mk (below_step (by repeat (first | (with_reducible first | exact HB.out | apply below_alloc | apply pw_below_drewN | apply below_drew1) | exact HB.out)) hb); have n2_ := Aside0.mk (hbox); have n3_ := Aside0.mk ((by rw [hg]; exact (below_size (by repeat (first | (with_reducible first | exact HB.out | apply below_alloc | apply pw_below_drewN | apply below_drew1) | exact HB.out))) : w.heap.size ≤ gb217)); have n4_ := Aside0.mk ((by rw [hg]; exact (below_size (by repeat (first | (with_reducible first | exact HB.out | apply below_alloc | apply pw_below_drewN | apply below_drew1) | exact HB.out))) : w.heap.size ≤ gb217)); clear HO214; clear HB; have HO214 := n0_; have HB := n1_; have BK217 := n2_; have GW217 := n3_; have GE217 := n4_; clear n0_ n1_ n2_ n3_ n4_; clear hb hbox hg; have hcz29_0 : w28.cell? ⟨gb217, 0, none⟩ = some (.int .i64 0) := (blk_cell BK217.out 0).trans rfl; have hcz29_1 : w28.cell? ⟨gb217, 1, none⟩ = some (.slice none 0 0) := (blk_cell BK217.out 1).trans rfl; have hfz29_0 := blk_frozen BK217.out 0; have hfz29_1 := blk_frozen BK217.out 1; obtain ⟨Ao30, co30, eo30⟩ := Kd.R_slice HO214.out; subst eo30) | (go_at_call 11; (with_reducible refine (record_Put.calls kj2 t211 _ _ t212 t218 t221 _ ?side1 ?side2 A9.out).mono ?_); (case side1 => refine (Kd.R_reads' (e := 5) (base := w.heap.size) (ok := fun k_ => True) (n := t212.length) (c := co30) ?_).2.2; exact (by (with_reducible repeat (first | apply Kd.R_alloc | apply Kd.R_drewN | apply Kd.R_drew)); exact (Kd.R_mono (Kd.R_far (p := ⟨gb217, 1, none⟩) (Kd.R_far (p := ⟨gb217, 0, none⟩) (Kd.R_types HO214.out BK217.out (by decide)) (fun _ hk => hk.2) (.int .i64 t211)) (fun _ hk => hk.2) (.slice Ao30 t212.length co30)) (fun _ h_ => h_.1)))); (case side2 => exact (Kd.R_reads' HO214.out).2.1); rintro e w31 ⟨v219, rfl, ho0, hb⟩; have n0_ := Aside0.mk (Kd.R_elder' (by (with_reducible repeat (first | apply Kd.R_alloc | apply Kd.R_drewN | apply Kd.R_drew)); exact (Kd.R_mono (Kd.R_far (p := ⟨gb217, 1, none⟩) (Kd.R_far (p := ⟨gb217, 0, none⟩) (Kd.R_types HO214.out BK217.out (by decide)) (fun _ hk => hk.2) (.int .i64 t211)) (fun _ hk => hk.2) (.slice Ao30 t212.length co30)) (fun _ h_ => h_.1))) (Kd.R_base ho0) hb); have n1_ := Aside0.mk (Kd.R_lower (Kd.R_new' ho0 (Kd.R_lt (by (with_reducible repeat (first | apply Kd.R_alloc | apply Kd.R_drewN | apply Kd.R_drew)); exact (Kd.R_mono (Kd.R_far (p := ⟨gb217, 1, none⟩) (Kd.R_far (p := ⟨gb217, 0, none⟩) (Kd.R_types HO214.out BK217.out (by decide)) (fun _ hk => hk.2) (.int .i64 t211)) (fun _ hk => hk.2) (.slice Ao30 t212.length co30)) (fun _ h_ => h_.1))))) (below_size (by repeat (first | (with_reducible first | exact HB.out | apply below_alloc | apply pw_below_drewN | apply below_drew1 | refine below_set ?_ GE217.out) | exact HB.out)))); have n2_ := Aside0.mk (blk_below (g := gb217) (o := .cells #[.int .i64 t211, .slice Ao30 t212.length co30] 24 (0, 0)) (by (with_reducible repeat (first | refine blk_drewN ?_ _ | refine blk_drew ?_ | refine blk_alloc ?_ _)); refine blk_put (cs := #[.int .i64 t211, .slice none 0 0]) ?_ 1 _ rfl; (with_reducible repeat (first | refine blk_drewN ?_ _ | refine blk_drew ?_ | refine blk_alloc ?_ _)); refine blk_put (cs := #[.int .i64 0, .slice none 0 0]) ?_ 0 _ rfl; (with_reducible repeat (first | refine blk_drewN ?_ _ | refine blk_drew ?_ | refine blk_alloc ?_ _)); exact BK217.out) hb); have n3_ := Aside0.mk (below_step (by repeat (first | (with_reducible first | exact HB.out | apply below_alloc | apply pw_below_drewN | apply below_drew1 | refine below_set ?_ GE217.out) | exact HB.out)) hb); clear HO214; clear BK217; clear HB; have HO214 := n0_; have HO220 := n1_; have BK217 := n2_; have HB := n3_; clear n0_ n1_ n2_ n3_; (try clear hb); (try clear hb2); (try clear hk); (try clear hi); (try clear ho0); obtain ⟨Ao32, co32, eo32⟩ := Kd.R_slice HO220.out; subst eo32)))
                go_ret
                exact ⟨by first | rfl | (simp [errW_none, errW_some] <;> rfl) | (simp [*, errW_none, errW_some] <;> rfl), by repeat (first | (with_reducible first | exact HB.out | apply below_alloc | apply pw_below_drewN | apply below_drew1 | refine below_set ?_ GE217.out) | exact HB.out)⟩
            · rw [if_neg c11] at H
              have c11b0 : (t215 == (t218.length : Int)) = false := beq_eq_false_iff_ne.mpr c11
              have c11b1 : (t215 != (t218.length : Int)) = true := bne_iff_ne.mpr c11
              obtain rfl := Option.some.inj H
              go_wp2_with (first | (go_at_call 13; (with_reducible refine (record_Get.calls kj2 _ _ l0 t211 t212 t215 t216 _ ?side1 ?side2 A7.out).mono ?_); (case side1 => repeat (first | exact (Kd.C_below HR0.out HB.out) | (with_reducible refine Kd.C_alloc ?_ _) | (with_reducible refine Kd.C_drewN ?_ _) | (with_reducible refine Kd.C_drew ?_))); (case side2 => exact HC0.out); rintro e w33 ⟨v213, rfl, ho0, hb⟩; have n0_ := Aside0.mk (Kd.R_lower ho0 (below_size (by repeat (first | (with_reducible first | exact HB.out | apply below_alloc | apply pw_below_drewN | apply below_drew1) | exact HB.out)))); have n1_ := Aside0.mk (below_step (by repeat (first | (with_reducible first | exact HB.out | apply below_alloc | apply pw_below_drewN | apply below_drew1) | exact HB.out)) hb); clear HB; have HO214 := n0_; have HB := n1_; clear n0_ n1_; (try clear hb); (try clear hb2); (try clear hk); (try clear hi); (try clear ho0)) | ((with_reducible refine gate_dst (N := 4) rfl ?_); (try (refine gate_guard (by rfl) ?_; dsimp only)); refine box_event ?hg (N := 4) ?hd (cs := #[.int .i64 0, .slice none 0 0]) (t := 24) ?hr ?_; (case hd => rfl); (case hg => rfl); (case hr => first | (go_simp; done) | (go_simp; rfl)); intro gb217 hg w34 hbox hb; have n0_ := Aside0.mk (Kd.R_below (by (with_reducible repeat (first | apply Kd.R_alloc | apply Kd.R_drewN | apply Kd.R_drew)); exact HO214.out) hb); have n1_ := Aside0.mk (below_step (by repeat (first | (with_reducible first | exact HB.out | apply below_alloc | apply pw_below_drewN | apply below_drew1) | exact HB.out)) hb); have n2_ := Aside0.mk (hbox); have n3_ := Aside0.mk ((by rw [hg]; exact (below_size (by repeat (first | (with_reducible first | exact HB.out | apply below_alloc | apply pw_below_drewN | apply below_drew1) | exact HB.out))) : w.heap.size ≤ gb217)); have n4_ := Aside0.mk ((by rw [hg]; exact (below_size (by repeat (first | (with_reducible first | exact HB.out | apply below_alloc | apply pw_below_drewN | apply below_drew1) | exact HB.out))) : w.heap.size ≤ gb217)); clear HO214; clear HB; have HO214 := n0_; have HB := n1_; have BK217 := n2_; have GW217 := n3_; have GE217 := n4_; clear n0_ n1_ n2_ n3_ n4_; clear hb hbox hg; have hcz35_0 : w34.cell? ⟨gb217, 0, none⟩ = some (.int .i64 0) := (blk_cell BK217.out 0).trans rfl; have hcz35_1 : w34.cell? ⟨gb217, 1, none⟩ = some (.slice none 0 0) := (blk_cell BK217.out 1).trans rfl; have hfz35_0 := blk_frozen BK217.out 0; have hfz35_1 := blk_frozen BK217.out 1; obtain ⟨Ao36, co36, eo36⟩ := Kd.R_slice HO214.out; subst eo36) | (go_at_call 11; (with_reducible refine (record_Put.calls kj2 t211 _ _ t212 t218 t221 _ ?side1 ?side2 A9.out).mono ?_); (case side1 => refine (Kd.R_reads' (e := 5) (base := w.heap.size) (ok := fun k_ => True) (n := t212.length) (c := co36) ?_).2.2; exact (by (with_reducible repeat (first | apply Kd.R_alloc | apply Kd.R_drewN | apply Kd.R_drew)); exact (Kd.R_mono (Kd.R_far (p := ⟨gb217, 1, none⟩) (Kd.R_far (p := ⟨gb217, 0, none⟩) (Kd.R_types HO214.out BK217.out (by decide)) (fun _ hk => hk.2) (.int .i64 t211)) (fun _ hk => hk.2) (.slice Ao36 t212.length co36)) (fun _ h_ => h_.1)))); (case side2 => exact (Kd.R_reads' HO214.out).2.1); rintro e w37 ⟨v219, rfl, ho0, hb⟩; have n0_ := Aside0.mk (Kd.R_elder' (by (with_reducible repeat (first | apply Kd.R_alloc | apply Kd.R_drewN | apply Kd.R_drew)); exact (Kd.R_mono (Kd.R_far (p := ⟨gb217, 1, none⟩) (Kd.R_far (p := ⟨gb217, 0, none⟩) (Kd.R_types HO214.out BK217.out (by decide)) (fun _ hk => hk.2) (.int .i64 t211)) (fun _ hk => hk.2) (.slice Ao36 t212.length co36)) (fun _ h_ => h_.1))) (Kd.R_base ho0) hb); have n1_ := Aside0.mk (Kd.R_lower (Kd.R_new' ho0 (Kd.R_lt (by (with_reducible repeat (first | apply Kd.R_alloc | apply Kd.R_drewN | apply Kd.R_drew)); exact (Kd.R_mono (Kd.R_far (p := ⟨gb217, 1, none⟩) (Kd.R_far (p := ⟨gb217, 0, none⟩) (Kd.R_types HO214.out BK217.out (by decide)) (fun _ hk => hk.2) (.int .i64 t211)) (fun _ hk => hk.2) (.slice Ao36 t212.length co36)) (fun _ h_ => h_.1))))) (below_size (by repeat (first | (with_reducible first | exact HB.out | apply below_alloc | apply pw_below_drewN | apply below_drew1 | refine below_set ?_ GE217.out) | exact HB.out)))); have n2_ := Aside0.mk (blk_below (g := gb217) (o := .cells #[.int .i64 t211, .slice Ao36 t212.length co36] 24 (0, 0)) (by (with_reducible repeat (first | refine blk_drewN ?_ _ | refine blk_drew ?_ | refine blk_alloc ?_ _)); refine blk_put (cs := #[.int .i64 t211, .slice none 0 0]) ?_ 1 _ rfl; (with_reducible repeat (first | refine blk_drewN ?_ _ | refine blk_drew ?_ | refine blk_alloc ?_ _)); refine blk_put (cs := #[.int .i64 0, .slice none 0 0]) ?_ 0 _ rfl; (with_reducible repeat (first | refine blk_drewN ?_ _ | refine blk_drew ?_ | refine blk_alloc ?_ _)); exact BK217.out) hb); have n3_ := Aside0.mk (below_step (by repeat (first | (with_reducible first | exact HB.out | apply below_alloc | apply pw_below_drewN | apply below_drew1 | refine below_set ?_ GE217.out) | exact HB.out)) hb); clear HO214; clear BK217; clear HB; have HO214 := n0_; have HO220 := n1_; have BK217 := n2_; have HB := n3_; clear n0_ n1_ n2_ n3_; (try clear hb); (try clear hb2); (try clear hk); (try clear hi); (try clear ho0); obtain ⟨Ao38, co38, eo38⟩ := Kd.R_slice HO220.out; subst eo38))
              repeat (go_quiet (first | (go_at_call 13; (with_reducible refine (record_Get.calls kj2 _ _ l0 t211 t212 t215 t216 _ ?side1 ?side2 A7.out).mono ?_); (case side1 => repeat (first | exact (Kd.C_below HR0.out HB.out) | (with_reducible refine Kd.C_alloc ?_ _) | (with_reducible refine Kd.C_drewN ?_ _) | (with_reducible refine Kd.C_drew ?_))); (case side2 => exact HC0.out); rintro e w33 ⟨v213, rfl, ho0, hb⟩; have n0_ := Aside0.mk (Kd.R_lower ho0 (below_size (by repeat (first | (with_reducible first | exact HB.out | apply below_alloc | apply pw_below_drewN | apply below_drew1) | exact HB.out)))); have n1_ := Aside0.mk (below_step (by repeat (first | (with_reducible first | exact HB.out | apply below_alloc | apply pw_below_drewN | apply below_drew1) | exact HB.out)) hb); clear HB; have HO214 := n0_; have HB := n1_; clear n0_ n1_; (try clear hb); (try clear hb2); (try clear hk); (try clear hi); (try clear ho0)) | ((with_reducible refine gate_dst (N := 4) rfl ?_); (try (refine gate_guard (by rfl) ?_; dsimp only)); refine box_event ?hg (N := 4) ?hd (cs := #[.int .i64 0, .slice none 0 0]) (t := 24) ?hr ?_; (case hd => rfl); (case hg => rfl); (case hr => first | (go_simp; done) | (go_simp; rfl)); intro gb217 hg w34 hbox hb; have n0_ := Aside0.mk (Kd.R_below (by (with_reducible repeat (first | apply Kd.R_alloc | apply Kd.R_drewN | apply Kd.R_drew)); exact HO214.out) hb); have n1_ := Aside0.mk (below_step (by repeat (first | (with_reducible first | exact HB.out | apply below_alloc | apply pw_below_drewN | apply below_drew1) | exact HB.out)) hb); have n2_ := Aside0.mk (hbox); have n3_ := Aside0.mk ((by rw [hg]; exact (below_size (by repeat (first | (with_reducible first | exact HB.out | apply below_alloc | apply pw_below_drewN | apply below_drew1) | exact HB.out))) : w.heap.size ≤ gb217)); have n4_ := Aside0.mk ((by rw [hg]; exact (below_size (by repeat (first | (with_reducible first | exact HB.out | apply below_alloc | apply pw_below_drewN | apply below_drew1) | exact HB.out))) : w.heap.size ≤ gb217)); clear HO214; clear HB; have HO214 := n0_; have HB := n1_; have BK217 := n2_; have GW217 := n3_; have GE217 := n4_; clear n0_ n1_ n2_ n3_ n4_; clear hb hbox hg; have hcz35_0 : w34.cell? ⟨gb217, 0, none⟩ = some (.int .i64 0) := (blk_cell BK217.out 0).trans rfl; have hcz35_1 : w34.cell? ⟨gb217, 1, none⟩ = some (.slice none 0 0) := (blk_cell BK217.out 1).trans rfl; have hfz35_0 := blk_frozen BK217.out 0; have hfz35_1 := blk_frozen BK217.out 1; obtain ⟨Ao36, co36, eo36⟩ := Kd.R_slice HO214.out; subst eo36) | (go_at_call 11; (with_reducible refine (record_Put.calls kj2 t211 _ _ t212 t218 t221 _ ?side1 ?side2 A9.out).mono ?_); (case side1 => refine (Kd.R_reads' (e := 5) (base := w.heap.size) (ok := fun k_ => True) (n := t212.length) (c := co36) ?_).2.2; exact (by (with_reducible repeat (first | apply Kd.R_alloc | apply Kd.R_drewN | apply Kd.R_drew)); exact (Kd.R_mono (Kd.R_far (p := ⟨gb217, 1, none⟩) (Kd.R_far (p := ⟨gb217, 0, none⟩) (Kd.R_types HO214.out BK217.out (by decide)) (fun _ hk => hk.2) (.int .i64 t211)) (fun _ hk => hk.2) (.slice Ao36 t212.length co36)) (fun _ h_ => h_.1)))); (case side2 => exact (Kd.R_reads' HO214.out).2.1); rintro e w37 ⟨v219, rfl, ho0, hb⟩; have n0_ := Aside0.mk (Kd.R_elder' (by (with_reducible repeat (first | apply Kd.R_alloc | apply Kd.R_drewN | apply Kd.R_drew)); exact (Kd.R_mono (Kd.R_far (p := ⟨gb217, 1, none⟩) (Kd.R_far (p := ⟨gb217, 0, none⟩) (Kd.R_types HO214.out BK217.out (by decide)) (fun _ hk => hk.2) (.int .i64 t211)) (fun _ hk => hk.2) (.slice Ao36 t212.length co36)) (fun _ h_ => h_.1))) (Kd.R_base ho0) hb); have n1_ := Aside0.mk (Kd.R_lower (Kd.R_new' ho0 (Kd.R_lt (by (with_reducible repeat (first | apply Kd.R_alloc | apply Kd.R_drewN | apply Kd.R_drew)); exact (Kd.R_mono (Kd.R_far (p := ⟨gb217, 1, none⟩) (Kd.R_far (p := ⟨gb217, 0, none⟩) (Kd.R_types HO214.out BK217.out (by decide)) (fun _ hk => hk.2) (.int .i64 t211)) (fun _ hk => hk.2) (.slice Ao36 t212.length co36)) (fun _ h_ => h_.1))))) (below_size (by repeat (first | (with_reducible first | exact HB.out | apply below_alloc | apply pw_below_drewN | apply below_drew1 | refine below_set ?_ GE217.out) | exact HB.out)))); have n2_ := Aside0.mk (blk_below (g := gb217) (o := .cells #[.int .i64 t211, .slice Ao36 t212.length co36] 24 (0, 0)) (by (with_reducible repeat (first | refine blk_drewN ?_ _ | refine blk_drew ?_ | refine blk_alloc ?_ _)); refine blk_put (cs := #[.int .i64 t211, .slice none 0 0]) ?_ 1 _ rfl; (with_reducible repeat (first | refine blk_drewN ?_ _ | refine blk_drew ?_ | refine blk_alloc ?_ _)); refine blk_put (cs := #[.int .i64 0, .slice none 0 0]) ?_ 0 _ rfl; (with_reducible repeat (first | refine blk_drewN ?_ _ | refine blk_drew ?_ | refine blk_alloc ?_ _)); exact BK217.out) hb); have n3_ := Aside0.mk (below_step (by repeat (first | (with_reducible first | exact HB.out | apply below_alloc | apply pw_below_drewN | apply below_drew1 | refine below_set ?_ GE217.out) | exact HB.out)) hb); clear HO214; clear BK217; clear HB; have HO214 := n0_; have HO220 := n1_; have BK217 := n2_; have HB := n3_; clear n0_ n1_ n2_ n3_; (try clear hb); (try clear hb2); (try clear hk); (try clear hi); (try clear ho0); obtain ⟨Ao38, co38, eo38⟩ := Kd.R_slice HO220.out; subst eo38)); try go_wp2_with (first | (go_at_call 13; (with_reducible refine (record_Get.calls kj2 _ _ l0 t211 t212 t215 t216 _ ?side1 ?side2 A7.out).mono ?_); (case side1 => repeat (first | exact (Kd.C_below HR0.out HB.out) | (with_reducible refine Kd.C_alloc ?_ _) | (with_reducible refine Kd.C_drewN ?_ _) | (with_reducible refine Kd.C_drew ?_))); (case side2 => exact HC0.out); rintro e w33 ⟨v213, rfl, ho0, hb⟩; have n0_ := Aside0.mk (Kd.R_lower ho0 (below_size (by repeat (first | (with_reducible first | exact HB.out | apply below_alloc | apply pw_below_drewN | apply below_drew1) | exact HB.out)))); have n1_ := Aside0.mk (below_step (by repeat (first | (with_reducible first | exact HB.out | apply below_alloc | apply pw_below_drewN | apply below_drew1) | exact HB.out)) hb); clear HB; have HO214 := n0_; have HB := n1_; clear n0_ n1_; (try clear hb); (try clear hb2); (try clear hk); (try clear hi); (try clear ho0)) | ((with_reducible refine gate_dst (N := 4) rfl ?_); (try (refine gate_guard (by rfl) ?_; dsimp only)); refine box_event ?hg (N := 4) ?hd (cs := #[.int .i64 0, .slice none 0 0]) (t := 24) ?hr ?_; (case hd => rfl); (case hg => rfl); (case hr => first | (go_simp; done) | (go_simp; rfl)); intro gb217 hg w34 hbox hb; have n0_ := Aside0.mk (Kd.R_below (by (with_reducible repeat (first | apply Kd.R_alloc | apply Kd.R_drewN | apply Kd.R_drew)); exact HO214.out) hb); have n1_ := Aside0.mk (below_step (by repeat (first | (with_reducible first | exact HB.out | apply below_alloc | apply pw_below_drewN | apply below_drew1) | exact HB.out)) hb); have n2_ := Aside0.mk (hbox); have n3_ := Aside0.mk ((by rw [hg]; exact (below_size (by repeat (first | (with_reducible first | exact HB.out | apply below_alloc | apply pw_below_drewN | apply below_drew1) | exact HB.out))) : w.heap.size ≤ gb217)); have n4_ := Aside0.mk ((by rw [hg]; exact (below_size (by repeat (first | (with_reducible first | exact HB.out | apply below_alloc | apply pw_below_drewN | apply below_drew1) | exact HB.out))) : w.heap.size ≤ gb217)); clear HO214; clear HB; have HO214 := n0_; have HB := n1_; have BK217 := n2_; have GW217 := n3_; have GE217 := n4_; clear n0_ n1_ n2_ n3_ n4_; clear hb hbox hg; have hcz35_0 : w34.cell? ⟨gb217, 0, none⟩ = some (.int .i64 0) := (blk_cell BK217.out 0).trans rfl; have hcz35_1 : w34.cell? ⟨gb217, 1, none⟩ = some (.slice none 0 0) := (blk_cell BK217.out 1).trans rfl; have hfz35_0 := blk_frozen BK217.out 0; have hfz35_1 := blk_frozen BK217.out 1; obtain ⟨Ao36, co36, eo36⟩ := Kd.R_slice HO214.out; subst eo36) | (go_at_call 11; (with_reducible refine (record_Put.calls kj2 t211 _ _ t212 t218 t221 _ ?side1 ?side2 A9.out).mono ?_); (case side1 => refine (Kd.R_reads' (e := 5) (base := w.heap.size) (ok := fun k_ => True) (n := t212.length) (c := co36) ?_).2.2; exact (by (with_reducible repeat (first | apply Kd.R_alloc | apply Kd.R_drewN | apply Kd.R_drew)); exact (Kd.R_mono (Kd.R_far (p := ⟨gb217, 1, none⟩) (Kd.R_far (p := ⟨gb217, 0, none⟩) (Kd.R_types HO214.out BK217.out (by decide)) (fun _ hk => hk.2) (.int .i64 t211)) (fun _ hk => hk.2) (.slice Ao36 t212.length co36)) (fun _ h_ => h_.1)))); (case side2 => exact (Kd.R_reads' HO214.out).2.1); rintro e w37 ⟨v219, rfl, ho0, hb⟩; have n0_ := Aside0.mk (Kd.R_elder' (by (with_reducible repeat (first | apply Kd.R_alloc | apply Kd.R_drewN | apply Kd.R_drew)); exact (Kd.R_mono (Kd.R_far (p := ⟨gb217, 1, none⟩) (Kd.R_far (p := ⟨gb217, 0, none⟩) (Kd.R_types HO214.out BK217.out (by decide)) (fun _ hk => hk.2) (.int .i64 t211)) (fun _ hk => hk.2) (.slice Ao36 t212.length co36)) (fun _ h_ => h_.1))) (Kd.R_base ho0) hb); have n1_ := Aside0.mk (Kd.R_lower (Kd.R_new' ho0 (Kd.R_lt (by (with_reducible repeat (first | apply Kd.R_alloc | apply Kd.R_drewN | apply Kd.R_drew)); exact (Kd.R_mono (Kd.R_far (p := ⟨gb217, 1, none⟩) (Kd.R_far (p := ⟨gb217, 0, none⟩) (Kd.R_types HO214.out BK217.out (by decide)) (fun _ hk => hk.2) (.int .i64 t211)) (fun _ hk => hk.2) (.slice Ao36 t212.length co36)) (fun _ h_ => h_.1))))) (below_size (by repeat (first | (with_reducible first | exact HB.out | apply below_alloc | apply pw_below_drewN | apply below_drew1 | refine below_set ?_ GE217.out) | exact HB.out)))); have n2_ := Aside0.mk (blk_below (g := gb217) (o := .cells #[.int .i64 t211, .slice Ao36 t212.length co36] 24 (0, 0)) (by (with_reducible repeat (first | refine blk_drewN ?_ _ | refine blk_drew ?_ | refine blk_alloc ?_ _)); refine blk_put (cs := #[.int .i64 t211, .slice none 0 0]) ?_ 1 _ rfl; (with_reducible repeat (first | refine blk_drewN ?_ _ | refine blk_drew ?_ | refine blk_alloc ?_ _)); refine blk_put (cs := #[.int .i64 0, .slice none 0 0]) ?_ 0 _ rfl; (with_reducible repeat (first | refine blk_drewN ?_ _ | refine blk_drew ?_ | refine blk_alloc ?_ _)); exact BK217.out) hb); have n3_ := Aside0.mk (below_step (by repeat (first | (with_reducible first | exact HB.out | apply below_alloc | apply pw_below_drewN | apply below_drew1 | refine below_set ?_ GE217.out) | exact HB.out)) hb); clear HO214; clear BK217; clear HB; have HO214 := n0_; have HO220 := n1_; have BK217 := n2_; have HB := n3_; clear n0_ n1_ n2_ n3_; (try clear hb); (try clear hb2); (try clear hk); (try clear hi); (try clear ho0); obtain ⟨Ao38, co38, eo38⟩ := Kd.R_slice HO220.out; subst eo38)))
              go_ret
              exact ⟨by first | rfl | (simp [errW_none, errW_some] <;> rfl) | (simp [*, errW_none, errW_some] <;> rfl), by repeat (first | (with_reducible first | exact HB.out | apply below_alloc | apply pw_below_drewN | apply below_drew1 | refine below_set ?_ GE217.out) | exact HB.out)⟩
          · rw [if_neg c10] at H
            have c10b0 : (t221 == 0) = false := beq_eq_false_iff_ne.mpr c10
            have c10b1 : (t221 != 0) = true := bne_iff_ne.mpr c10
            obtain rfl := Option.some.inj H
            go_wp2_with (first | (go_at_call 13; (with_reducible refine (record_Get.calls kj2 _ _ l0 t211 t212 t215 t216 _ ?side1 ?side2 A7.out).mono ?_); (case side1 => repeat (first | exact (Kd.C_below HR0.out HB.out) | (with_reducible refine Kd.C_alloc ?_ _) | (with_reducible refine Kd.C_drewN ?_ _) | (with_reducible refine Kd.C_drew ?_))); (case side2 => exact HC0.out); rintro e w39 ⟨v213, rfl, ho0, hb⟩; have n0_ := Aside0.mk (Kd.R_lower ho0 (below_size (by repeat (first | (with_reducible first | exact HB.out | apply below_alloc | apply pw_below_drewN | apply below_drew1) | exact HB.out)))); have n1_ := Aside0.mk (below_step (by repeat (first | (with_reducible first | exact HB.out | apply below_alloc | apply pw_below_drewN | apply below_drew1) | exact HB.out)) hb); clear HB; have HO214 := n0_; have HB := n1_; clear n0_ n1_; (try clear hb); (try clear hb2); (try clear hk); (try clear hi); (try clear ho0)) | ((with_reducible refine gate_dst (N := 4) rfl ?_); (try (refine gate_guard (by rfl) ?_; dsimp only)); refine box_event ?hg (N := 4) ?hd (cs := #[.int .i64 0, .slice none 0 0]) (t := 24) ?hr ?_; (case hd => rfl); (case hg => rfl); (case hr => first | (go_simp; done) | (go_simp; rfl)); intro gb217 hg w40 hbox hb; have n0_ := Aside0.mk (Kd.R_below (by (with_reducible repeat (first | apply Kd.R_alloc | apply Kd.R_drewN | apply Kd.R_drew)); exact HO214.out) hb); have n1_ := Aside0.mk (below_step (by repeat (first | (with_reducible first | exact HB.out | apply below_alloc | apply pw_below_drewN | apply below_drew1) | exact HB.out)) hb); have n2_ := Aside0.mk (hbox); have n3_ := Aside0.mk ((by rw [hg]; exact (below_size (by repeat (first | (with_reducible first | exact HB.out | apply below_alloc | apply pw_below_drewN | apply below_drew1) | exact HB.out))) : w.heap.size ≤ gb217)); have n4_ := Aside0.mk ((by rw [hg]; exact (below_size (by repeat (first | (with_reducible first | exact HB.out | apply below_alloc | apply pw_below_drewN | apply below_drew1) | exact HB.out))) : w.heap.size ≤ gb217)); clear HO214; clear HB; have HO214 := n0_; have HB := n1_; have BK217 := n2_; have GW217 := n3_; have GE217 := n4_; clear n0_ n1_ n2_ n3_ n4_; clear hb hbox hg; have hcz41_0 : w40.cell? ⟨gb217, 0, none⟩ = some (.int .i64 0) := (blk_cell BK217.out 0).trans rfl; have hcz41_1 : w40.cell? ⟨gb217, 1, none⟩ = some (.slice none 0 0) := (blk_cell BK217.out 1).trans rfl; have hfz41_0 := blk_frozen BK217.out 0; have hfz41_1 := blk_frozen BK217.out 1; obtain ⟨Ao42, co42, eo42⟩ := Kd.R_slice HO214.out; subst eo42) | (go_at_call 11; (with_reducible refine (record_Put.calls kj2 t211 _ _ t212 t218 t221 _ ?side1 ?side2 A9.out).mono ?_); (case side1 => refine (Kd.R_reads' (e := 5) (base := w.heap.size) (ok := fun k_ => True) (n := t212.length) (c := co42) ?_).2.2; exact (by (with_reducible repeat (first | apply Kd.R_alloc | apply Kd.R_drewN | apply Kd.R_drew)); exact (Kd.R_mono (Kd.R_far (p := ⟨gb217, 1, none⟩) (Kd.R_far (p := ⟨gb217, 0, none⟩) (Kd.R_types HO214.out BK217.out (by decide)) (fun _ hk => hk.2) (.int .i64 t211)) (fun _ hk => hk.2) (.slice Ao42 t212.length co42)) (fun _ h_ => h_.1)))); (case side2 => exact (Kd.R_reads' HO214.out).2.1); rintro e w43 ⟨v219, rfl, ho0, hb⟩; have n0_ := Aside0.mk (Kd.R_elder' (by (with_reducible repeat (first | apply Kd.R_alloc | apply Kd.R_drewN | apply Kd.R_drew)); exact (Kd.R_mono (Kd.R_far (p := ⟨gb217, 1, none⟩) (Kd.R_far (p := ⟨gb217, 0, none⟩) (Kd.R_types HO214.out BK217.out (by decide)) (fun _ hk => hk.2) (.int .i64 t211)) (fun _ hk => hk.2) (.slice Ao42 t212.length co42)) (fun _ h_ => h_.1))) (Kd.R_base ho0) hb); have n1_ := Aside0.mk (Kd.R_lower (Kd.R_new' ho0 (Kd.R_lt (by (with_reducible repeat (first | apply Kd.R_alloc | apply Kd.R_drewN | apply Kd.R_drew)); exact (Kd.R_mono (Kd.R_far (p := ⟨gb217, 1, none⟩) (Kd.R_far (p := ⟨gb217, 0, none⟩) (Kd.R_types HO214.out BK217.out (by decide)) (fun _ hk => hk.2) (.int .i64 t211)) (fun _ hk => hk.2) (.slice Ao42 t212.length co42)) (fun _ h_ => h_.1))))) (below_size (by repeat (first | (with_reducible first | exact HB.out | apply below_alloc | apply pw_below_drewN | apply below_drew1 | refine below_set ?_ GE217.out) | exact HB.out)))); have n2_ := Aside0.mk (blk_below (g := gb217) (o := .cells #[.int .i64 t211, .slice Ao42 t212.length co42] 24 (0, 0)) (by (with_reducible repeat (first | refine blk_drewN ?_ _ | refine blk_drew ?_ | refine blk_alloc ?_ _)); refine blk_put (cs := #[.int .i64 t211, .slice none 0 0]) ?_ 1 _ rfl; (with_reducible repeat (first | refine blk_drewN ?_ _ | refine blk_drew ?_ | refine blk_alloc ?_ _)); refine blk_put (cs := #[.int .i64 0, .slice none 0 0]) ?_ 0 _ rfl; (with_reducible repeat (first | refine blk_drewN ?_ _ | refine blk_drew ?_ | refine blk_alloc ?_ _)); exact BK217.out) hb); have n3_ := Aside0.mk (below_step (by repeat (first | (with_reducible first | exact HB.out | apply below_alloc | apply pw_below_drewN | apply below_drew1 | refine below_set ?_ GE217.out) | exact HB.out)) hb); clear HO214; clear BK217; clear HB; have HO214 := n0_; have HO220 := n1_; have BK217 := n2_; have HB := n3_; clear n0_ n1_ n2_ n3_; (try clear hb); (try clear hb2); (try clear hk); (try clear hi); (try clear ho0)))
            repeat (go_quiet (first | (go_at_call 13; (with_reducible refine (record_Get.calls kj2 _ _ l0 t211 t212 t215 t216 _ ?side1 ?side2 A7.out).mono ?_); (case side1 => repeat (first | exact (Kd.C_below HR0.out HB.out) | (with_reducible refine Kd.C_alloc ?_ _) | (with_reducible refine Kd.C_drewN ?_ _) | (with_reducible refine Kd.C_drew ?_))); (case side2 => exact HC0.out); rintro e w39 ⟨v213, rfl, ho0, hb⟩; have n0_ := Aside0.mk (Kd.R_lower ho0 (below_size (by repeat (first | (with_reducible first | exact HB.out | apply below_alloc | apply pw_below_drewN | apply below_drew1) | exact HB.out)))); have n1_ := Aside0.mk (below_step (by repeat (first | (with_reducible first | exact HB.out | apply below_alloc | apply pw_below_drewN | apply below_drew1) | exact HB.out)) hb); clear HB; have HO214 := n0_; have HB := n1_; clear n0_ n1_; (try clear hb); (try clear hb2); (try clear hk); (try clear hi); (try clear ho0)) | ((with_reducible refine gate_dst (N := 4) rfl ?_); (try (refine gate_guard (by rfl) ?_; dsimp only)); refine box_event ?hg (N := 4) ?hd (cs := #[.int .i64 0, .slice none 0 0]) (t := 24) ?hr ?_; (case hd => rfl); (case hg => rfl); (case hr => first | (go_simp; done) | (go_simp; rfl)); intro gb217 hg w40 hbox hb; have n0_ := Aside0.mk (Kd.R_below (by (with_reducible repeat (first | apply Kd.R_alloc | apply Kd.R_drewN | apply Kd.R_drew)); exact HO214.out) hb); have n1_ := Aside0.mk (below_step (by repeat (first | (with_reducible first | exact HB.out | apply below_alloc | apply pw_below_drewN | apply below_drew1) | exact HB.out)) hb); have n2_ := Aside0.mk (hbox); have n3_ := Aside0.mk ((by rw [hg]; exact (below_size (by repeat (first | (with_reducible first | exact HB.out | apply below_alloc | apply pw_below_drewN | apply below_drew1) | exact HB.out))) : w.heap.size ≤ gb217)); have n4_ := Aside0.mk ((by rw [hg]; exact (below_size (by repeat (first | (with_reducible first | exact HB.out | apply below_alloc | apply pw_below_drewN | apply below_drew1) | exact HB.out))) : w.heap.size ≤ gb217)); clear HO214; clear HB; have HO214 := n0_; have HB := n1_; have BK217 := n2_; have GW217 := n3_; have GE217 := n4_; clear n0_ n1_ n2_ n3_ n4_; clear hb hbox hg; have hcz41_0 : w40.cell? ⟨gb217, 0, none⟩ = some (.int .i64 0) := (blk_cell BK217.out 0).trans rfl; have hcz41_1 : w40.cell? ⟨gb217, 1, none⟩ = some (.slice none 0 0) := (blk_cell BK217.out 1).trans rfl; have hfz41_0 := blk_frozen BK217.out 0; have hfz41_1 := blk_frozen BK217.out 1; obtain ⟨Ao42, co42, eo42⟩ := Kd.R_slice HO214.out; subst eo42) | (go_at_call 11; (with_reducible refine (record_Put.calls kj2 t211 _ _ t212 t218 t221 _ ?side1 ?side2 A9.out).mono ?_); (case side1 => refine (Kd.R_reads' (e := 5) (base := w.heap.size) (ok := fun k_ => True) (n := t212.length) (c := co42) ?_).2.2; exact (by (with_reducible repeat (first | apply Kd.R_alloc | apply Kd.R_drewN | apply Kd.R_drew)); exact (Kd.R_mono (Kd.R_far (p := ⟨gb217, 1, none⟩) (Kd.R_far (p := ⟨gb217, 0, none⟩) (Kd.R_types HO214.out BK217.out (by decide)) (fun _ hk => hk.2) (.int .i64 t211)) (fun _ hk => hk.2) (.slice Ao42 t212.length co42)) (fun _ h_ => h_.1)))); (case side2 => exact (Kd.R_reads' HO214.out).2.1); rintro e w43 ⟨v219, rfl, ho0, hb⟩; have n0_ := Aside0.mk (Kd.R_elder' (by (with_reducible repeat (first | apply Kd.R_alloc | apply Kd.R_drewN | apply Kd.R_drew)); exact (Kd.R_mono (Kd.R_far (p := ⟨gb217, 1, none⟩) (Kd.R_far (p := ⟨gb217, 0, none⟩) (Kd.R_types HO214.out BK217.out (by decide)) (fun _ hk => hk.2) (.int .i64 t211)) (fun _ hk => hk.2) (.slice Ao42 t212.length co42)) (fun _ h_ => h_.1))) (Kd.R_base ho0) hb); have n1_ := Aside0.mk (Kd.R_lower (Kd.R_new' ho0 (Kd.R_lt (by (with_reducible repeat (first | apply Kd.R_alloc | apply Kd.R_drewN | apply Kd.R_drew)); exact (Kd.R_mono (Kd.R_far (p := ⟨gb217, 1, none⟩) (Kd.R_far (p := ⟨gb217, 0, none⟩) (Kd.R_types HO214.out BK217.out (by decide)) (fun _ hk => hk.2) (.int .i64 t211)) (fun _ hk => hk.2) (.slice Ao42 t212.length co42)) (fun _ h_ => h_.1))))) (below_size (by repeat (first | (with_reducible first | exact HB.out | apply below_alloc | apply pw_below_drewN | apply below_drew1 | refine below_set ?_ GE217.out) | exact HB.out)))); have n2_ := Aside0.mk (blk_below (g := gb217) (o := .cells #[.int .i64 t211, .slice Ao42 t212.length co42] 24 (0, 0)) (by (with_reducible repeat (first | refine blk_drewN ?_ _ | refine blk_drew ?_ | refine blk_alloc ?_ _)); refine blk_put (cs := #[.int .i64 t211, .slice none 0 0]) ?_ 1 _ rfl; (with_reducible repeat (first | refine blk_drewN ?_ _ | refine blk_drew ?_ | refine blk_alloc ?_ _)); refine blk_put (cs := #[.int .i64 0, .slice none 0 0]) ?_ 0 _ rfl; (with_reducible repeat (first | refine blk_drewN ?_ _ | refine blk_drew ?_ | refine blk_alloc ?_ _)); exact BK217.out) hb); have n3_ := Aside0.mk (below_step (by repeat (first | (with_reducible first | exact HB.out | apply below_alloc | apply pw_below_drewN | apply below_drew1 | refine below_set ?_ GE217.out) | exact HB.out)) hb); clear HO214; clear BK217; clear HB; have HO214 := n0_; have HO220 := n1_; have BK217 := n2_; have HB := n3_; clear n0_ n1_ n2_ n3_; (try clear hb); (try clear hb2); (try clear hk); (try clear hi); (try clear ho0))); try go_wp2_with (first | (go_at_call 13; (with_reducible refine (record_Get.calls kj2 _ _ l0 t211 t212 t215 t216 _ ?side1 ?side2 A7.out).mono ?_); (case side1 => repeat (first | exact (Kd.C_below HR0.out HB.out) | (with_reducible refine Kd.C_alloc ?_ _) | (with_reducible refine Kd.C_drewN ?_ _) | (with_reducible refine Kd.C_drew ?_))); (case side2 => exact HC0.out); rintro e w39 ⟨v213, rfl, ho0, hb⟩; have n0_ := Aside0.mk (Kd.R_lower ho0 (below_size (by repeat (first | (with_reducible first | exact HB.out | apply below_alloc | apply pw_below_drewN | apply below_drew1) | exact HB.out)))); have n1_ := Aside0.mk (below_step (by repeat (first | (with_reducible first | exact HB.out | apply below_alloc | apply pw_below_drewN | apply below_drew1) | exact HB.out)) hb); clear HB; have HO214 := n0_; have HB := n1_; clear n0_ n1_; (try clear hb); (try clear hb2); (try clear hk); (try clear hi); (try clear ho0)) | ((with_reducible refine gate_dst (N := 4) rfl ?_); (try (refine gate_guard (by rfl) ?_; dsimp only)); refine box_event ?hg (N := 4) ?hd (cs := #[.int .i64 0, .slice none 0 0]) (t := 24) ?hr ?_; (case hd => rfl); (case hg => rfl); (case hr => first | (go_simp; done) | (go_simp; rfl)); intro gb217 hg w40 hbox hb; have n0_ := Aside0.mk (Kd.R_below (by (with_reducible repeat (first | apply Kd.R_alloc | apply Kd.R_drewN | apply Kd.R_drew)); exact HO214.out) hb); have n1_ := Aside0.mk (below_step (by repeat (first | (with_reducible first | exact HB.out | apply below_alloc | apply pw_below_drewN | apply below_drew1) | exact HB.out)) hb); have n2_ := Aside0.mk (hbox); have n3_ := Aside0.mk ((by rw [hg]; exact (below_size (by repeat (first | (with_reducible first | exact HB.out | apply below_alloc | apply pw_below_drewN | apply below_drew1) | exact HB.out))) : w.heap.size ≤ gb217)); have n4_ := Aside0.mk ((by rw [hg]; exact (below_size (by repeat (first | (with_reducible first | exact HB.out | apply below_alloc | apply pw_below_drewN | apply below_drew1) | exact HB.out))) : w.heap.size ≤ gb217)); clear HO214; clear HB; have HO214 := n0_; have HB := n1_; have BK217 := n2_; have GW217 := n3_; have GE217 := n4_; clear n0_ n1_ n2_ n3_ n4_; clear hb hbox hg; have hcz41_0 : w40.cell? ⟨gb217, 0, none⟩ = some (.int .i64 0) := (blk_cell BK217.out 0).trans rfl; have hcz41_1 : w40.cell? ⟨gb217, 1, none⟩ = some (.slice none 0 0) := (blk_cell BK217.out 1).trans rfl; have hfz41_0 := blk_frozen BK217.out 0; have hfz41_1 := blk_frozen BK217.out 1; obtain ⟨Ao42, co42, eo42⟩ := Kd.R_slice HO214.out; subst eo42) | (go_at_call 11; (with_reducible refine (record_Put.calls kj2 t211 _ _ t212 t218 t221 _ ?side1 ?side2 A9.out).mono ?_); (case side1 => refine (Kd.R_reads' (e := 5) (base := w.heap.size) (ok := fun k_ => True) (n := t212.length) (c := co42) ?_).2.2; exact (by (with_reducible repeat (first | apply Kd.R_alloc | apply Kd.R_drewN | apply Kd.R_drew)); exact (Kd.R_mono (Kd.R_far (p := ⟨gb217, 1, none⟩) (Kd.R_far (p := ⟨gb217, 0, none⟩) (Kd.R_types HO214.out BK217.out (by decide)) (fun _ hk => hk.2) (.int .i64 t211)) (fun _ hk => hk.2) (.slice Ao42 t212.length co42)) (fun _ h_ => h_.1)))); (case side2 => exact (Kd.R_reads' HO214.out).2.1); rintro e w43 ⟨v219, rfl, ho0, hb⟩; have n0_ := Aside0.mk (Kd.R_elder' (by (with_reducible repeat (first | apply Kd.R_alloc | apply Kd.R_drewN | apply Kd.R_drew)); exact (Kd.R_mono (Kd.R_far (p := ⟨gb217, 1, none⟩) (Kd.R_far (p := ⟨gb217, 0, none⟩) (Kd.R_types HO214.out BK217.out (by decide)) (fun _ hk => hk.2) (.int .i64 t211)) (fun _ hk => hk.2) (.slice Ao42 t212.length co42)) (fun _ h_ => h_.1))) (Kd.R_base ho0) hb); have n1_ := Aside0.mk (Kd.R_lower (Kd.R_new' ho0 (Kd.R_lt (by (with_reducible repeat (first | apply Kd.R_alloc | apply Kd.R_drewN | apply Kd.R_drew)); exact (Kd.R_mono (Kd.R_far (p := ⟨gb217, 1, none⟩) (Kd.R_far (p := ⟨gb217, 0, none⟩) (Kd.R_types HO214.out BK217.out (by decide)) (fun _ hk => hk.2) (.int .i64 t211)) (fun _ hk => hk.2) (.slice Ao42 t212.length co42)) (fun _ h_ => h_.1))))) (below_size (by repeat (first | (with_reducible first | exact HB.out | apply below_alloc | apply pw_below_drewN | apply below_drew1 | refine below_set ?_ GE217.out) | exact HB.out)))); have n2_ := Aside0.mk (blk_below (g := gb217) (o := .cells #[.int .i64 t211, .slice Ao42 t212.length co42] 24 (0, 0)) (by (with_reducible repeat (first | refine blk_drewN ?_ _ | refine blk_drew ?_ | refine blk_alloc ?_ _)); refine blk_put (cs := #[.int .i64 t211, .slice none 0 0]) ?_ 1 _ rfl; (with_reducible repeat (first | refine blk_drewN ?_ _ | refine blk_drew ?_ | refine blk_alloc ?_ _)); refine blk_put (cs := #[.int .i64 0, .slice none 0 0]) ?_ 0 _ rfl; (with_reducible repeat (first | refine blk_drewN ?_ _ | refine blk_drew ?_ | refine blk_alloc ?_ _)); exact BK217.out) hb); have n3_ := Aside0.mk (below_step (by repeat (first | (with_reducible first | exact HB.out | apply below_alloc | apply pw_below_drewN | apply below_drew1 | refine below_set ?_ GE217.out) | exact HB.out)) hb); clear HO214; clear BK217; clear HB; have HO214 := n0_; have HO220 := n1_; have BK217 := n2_; have HB := n3_; clear n0_ n1_ n2_ n3_; (try clear hb); (try clear hb2); (try clear hk); (try clear hi); (try clear ho0))))
            go_ret
            exact ⟨by first | rfl | (simp [errW_none, errW_some] <;> rfl) | (simp [*, errW_none, errW_some] <;> rfl), by repeat (first | (with_reducible first | exact HB.out | apply below_alloc | apply pw_below_drewN | apply below_drew1 | refine below_set ?_ GE217.out) | exact HB.out)⟩
        · rw [if_neg c8] at H
          have c8b0 : (t216 == 0) = false := beq_eq_false_iff_ne.mpr c8
          have c8b1 : (t216 != 0) = true := bne_iff_ne.mpr c8
          by_cases c44 : t215 = 0
          · rw [if_pos c44] at H
            have c44b0 : (t215 == 0) = true := beq_iff_eq.mpr c44
            have c44b1 : (t215 != 0) = false := bne_eq_false_iff_eq.mpr c44
            clear c44
            obtain rfl := Option.some.inj H
            go_wp2_with (first | (go_at_call 13; (with_reducible refine (record_Get.calls kj2 _ _ l0 t211 t212 t215 t216 _ ?side1 ?side2 A7.out).mono ?_); (case side1 => repeat (first | exact (Kd.C_below HR0.out HB.out) | (with_reducible refine Kd.C_alloc ?_ _) | (with_reducible refine Kd.C_drewN ?_ _) | (with_reducible refine Kd.C_drew ?_))); (case side2 => exact HC0.out); rintro e w45 ⟨v213, rfl, ho0, hb⟩; have n0_ := Aside0.mk (Kd.R_lower ho0 (below_size (by repeat (first | (with_reducible first | exact HB.out | apply below_alloc | apply pw_below_drewN | apply below_drew1) | exact HB.out)))); have n1_ := Aside0.mk (below_step (by repeat (first | (with_reducible first | exact HB.out | apply below_alloc | apply pw_below_drewN | apply below_drew1) | exact HB.out)) hb); clear HB; have HO214 := n0_; have HB := n1_; clear n0_ n1_; (try clear hb); (try clear hb2); (try clear hk); (try clear hi); (try clear ho0)) | ((with_reducible refine gate_dst (N := 4) rfl ?_); (try (refine gate_guard (by rfl) ?_; dsimp only)); refine box_event ?hg (N := 4) ?hd (cs := #[.int .i64 0, .slice none 0 0]) (t := 24) ?hr ?_; (case hd => rfl); (case hg => rfl); (case hr => first | (go_simp; done) | (go_simp; rfl)); intro gb217 hg w46 hbox hb; have n0_ := Aside0.mk (Kd.R_below (by (with_reducible repeat (first | apply Kd.R_alloc | apply Kd.R_drewN | apply Kd.R_drew)); exact HO214.out) hb); have n1_ := Aside0.mk (below_step (by repeat (first | (with_reducible first | exact HB.out | apply below_alloc | apply pw_below_drewN | apply below_drew1) | exact HB.out)) hb); have n2_ := Aside0.mk (hbox); have n3_ := Aside0.mk ((by rw [hg]; exact (below_size (by repeat (first | (with_reducible first | exact HB.out | apply below_alloc | apply pw_below_drewN | apply below_drew1) | exact HB.out))) : w.heap.size ≤ gb217)); have n4_ := Aside0.mk ((by rw [hg]; exact (below_size (by repeat (first | (with_reducible first | exact HB.out | apply below_alloc | apply pw_below_drewN | apply below_drew1) | exact HB.out))) : w.heap.size ≤ gb217)); clear HO214; clear HB; have HO214 := n0_; have HB := n1_; have BK217 := n2_; have GW217 := n3_; have GE217 := n4_; clear n0_ n1_ n2_ n3_ n4_; clear hb hbox hg; have hcz47_0 : w46.cell? ⟨gb217, 0, none⟩ = some (.int .i64 0) := (blk_cell BK217.out 0).trans rfl; have hcz47_1 : w46.cell? ⟨gb217, 1, none⟩ = some (.slice none 0 0) := (blk_cell BK217.out 1).trans rfl; have hfz47_0 := blk_frozen BK217.out 0; have hfz47_1 := blk_frozen BK217.out 1; obtain ⟨Ao48, co48, eo48⟩ := Kd.R_slice HO214.out; subst eo48))
            repeat (go_quiet (first | (go_at_call 13; (with_reducible refine (record_Get.calls kj2 _ _ l0 t211 t212 t215 t216 _ ?side1 ?side2 A7.out).mono ?_); (case side1 => repeat (first | exact (Kd.C_below HR0.out HB.out) | (with_reducible refine Kd.C_alloc ?_ _) | (with_reducible refine Kd.C_drewN ?_ _) | (with_reducible refine Kd.C_drew ?_))); (case side2 => exact HC0.out); rintro e w45 ⟨v213, rfl, ho0, hb⟩; have n0_ := Aside0.mk (Kd.R_lower ho0 (below_size (by repeat (first | (with_reducible first | exact HB.out | apply below_alloc | apply pw_below_drewN | apply below_drew1) | exact HB.out)))); have n1_ := Aside0.mk (below_step (by repeat (first | (with_reducible first | exact HB.out | apply below_alloc | apply pw_below_drewN | apply below_drew1) | exact HB.out)) hb); clear HB; have HO214 := n0_; have HB := n1_; clear n0_ n1_; (try clear hb); (try clear hb2); (try clear hk); (try clear hi); (try clear ho0)) | ((with_reducible refine gate_dst (N := 4) rfl ?_); (try (refine gate_guard (by rfl) ?_; dsimp only)); refine box_event ?hg (N := 4) ?hd (cs := #[.int .i64 0, .slice none 0 0]) (t := 24) ?hr ?_; (case hd => rfl); (case hg => rfl); (case hr => first | (go_simp; done) | (go_simp; rfl)); intro gb217 hg w46 hbox hb; have n0_ := Aside0.mk (Kd.R_below (by (with_reducible repeat (first | apply Kd.R_alloc | apply Kd.R_drewN | apply Kd.R_drew)); exact HO214.out) hb); have n1_ := Aside0.mk (below_step (by repeat (first | (with_reducible first | exact HB.out | apply below_alloc | apply pw_below_drewN | apply below_drew1) | exact HB.out)) hb); have n2_ := Aside0.mk (hbox); have n3_ := Aside0.mk ((by rw [hg]; exact (below_size (by repeat (first | (with_reducible first | exact HB.out | apply below_alloc | apply pw_below_drewN | apply below_drew1) | exact HB.out))) : w.heap.size ≤ gb217)); have n4_ := Aside0.mk ((by rw [hg]; exact (below_size (by repeat (first | (with_reducible first | exact HB.out | apply below_alloc | apply pw_below_drewN | apply below_drew1) | exact HB.out))) : w.heap.size ≤ gb217)); clear HO214; clear HB; have HO214 := n0_; have HB := n1_; have BK217 := n2_; have GW217 := n3_; have GE217 := n4_; clear n0_ n1_ n2_ n3_ n4_; clear hb hbox hg; have hcz47_0 : w46.cell? ⟨gb217, 0, none⟩ = some (.int .i64 0) := (blk_cell BK217.out 0).trans rfl; have hcz47_1 : w46.cell? ⟨gb217, 1, none⟩ = some (.slice none 0 0) := (blk_cell BK217.out 1).trans rfl; have hfz47_0 := blk_frozen BK217.out 0; have hfz47_1 := blk_frozen BK217.out 1; obtain ⟨Ao48, co48, eo48⟩ := Kd.R_slice HO214.out; subst eo48)); try go_wp2_with (first | (go_at_call 13; (with_reducible refine (record_Get.calls kj2 _ _ l0 t211 t212 t215 t216 _ ?side1 ?side2 A7.out).mono ?_); (case side1 => repeat (first | exact (Kd.C_below HR0.out HB.out) | (with_reducible refine Kd.C_alloc ?_ _) | (with_reducible refine Kd.C_drewN ?_ _) | (with_reducible refine Kd.C_drew ?_))); (case side2 => exact HC0.out); rintro e w45 ⟨v213, rfl, ho0, hb⟩; have n0_ := Aside0.mk (Kd.R_lower ho0 (below_size (by repeat (first | (with_reducible first | exact HB.out | apply below_alloc | apply pw_below_drewN | apply below_drew1) | exact HB.out)))); have n1_ := Aside0.mk (below_step (by repeat (first | (with_reducible first | exact HB.out | apply below_alloc | apply pw_below_drewN | apply below_drew1) | exact HB.out)) hb); clear HB; have HO214 := n0_; have HB := n1_; clear n0_ n1_; (try clear hb); (try clear hb2); (try clear hk); (try clear hi); (try clear ho0)) | ((with_reducible refine gate_dst (N := 4) rfl ?_); (try (refine gate_guard (by rfl) ?_; dsimp only)); refine box_event ?hg (N := 4) ?hd (cs := #[.int .i64 0, .slice none 0 0]) (t := 24) ?hr ?_; (case hd => rfl); (case hg => rfl); (case hr => first | (go_simp; done) | (go_simp; rfl)); intro gb217 hg w46 hbox hb; have n0_ := Aside0.mk (Kd.R_below (by (with_reducible repeat (first | apply Kd.R_alloc | apply Kd.R_drewN | apply Kd.R_drew)); exact HO214.out) hb); have n1_ := Aside0.mk (below_step (by repeat (first | (with_reducible first | exact HB.out | apply below_alloc | apply pw_below_drewN | apply below_drew1) | exact HB.out)) hb); have n2_ := Aside0.mk (hbox); have n3_ := Aside0.mk ((by rw [hg]; exact (below_size (by repeat (first | (with_reducible first | exact HB.out | apply below_alloc | apply pw_below_drewN | apply below_drew1) | exact HB.out))) : w.heap.size ≤ gb217)); have n4_ := Aside0.mk ((by rw [hg]; exact (below_size (by repeat (first | (with_reducible first | exact HB.out | apply below_alloc | apply pw_below_drewN | apply below_drew1) | exact HB.out))) : w.heap.size ≤ gb217)); clear HO214; clear HB; have HO214 := n0_; have HB := n1_; have BK217 := n2_; have GW217 := n3_; have GE217 := n4_; clear n0_ n1_ n2_ n3_ n4_; clear hb hbox hg; have hcz47_0 : w46.cell? ⟨gb217, 0, none⟩ = some (.int .i64 0) := (blk_cell BK217.out 0).trans rfl; have hcz47_1 : w46.cell? ⟨gb217, 1, none⟩ = some (.slice none 0 0) := (blk_cell BK217.out 1).trans rfl; have hfz47_0 := blk_frozen BK217.out 0; have hfz47_1 := blk_frozen BK217.out 1; obtain ⟨Ao48, co48, eo48⟩ := Kd.R_slice HO214.out; subst eo48)))
            go_ret
            exact ⟨by first | rfl | (simp [errW_none, errW_some] <;> rfl) | (simp [*, errW_none, errW_some] <;> rfl), by repeat (first | (with_reducible first | exact HB.out | apply below_alloc | apply pw_below_drewN | apply below_drew1 | refine below_set ?_ GE217.out) | exact HB.out)⟩
          · rw [if_neg c44] at H
            have c44b0 : (t215 == 0) = false := beq_eq_false_iff_ne.mpr c44
            have c44b1 : (t215 != 0) = true := bne_iff_ne.mpr c44
            obtain rfl := Option.some.inj H
            go_wp2_with (first | (go_at_call 13; (with_reducible refine (record_Get.calls kj2 _ _ l0 t211 t212 t215 t216 _ ?side1 ?side2 A7.out).mono ?_); (case side1 => repeat (first | exact (Kd.C_below HR0.out HB.out) | (with_reducible refine Kd.C_alloc ?_ _) | (with_reducible refine Kd.C_drewN ?_ _) | (with_reducible refine Kd.C_drew ?_))); (case side2 => exact HC0.out); rintro e w49 ⟨v213, rfl, ho0, hb⟩; have n0_ := Aside0.mk (Kd.R_lower ho0 (below_size (by repeat (first | (with_reducible first | exact HB.out | apply below_alloc | apply pw_below_drewN | apply below_drew1) | exact HB.out)))); have n1_ := Aside0.mk (below_step (by repeat (first | (with_reducible first | exact HB.out | apply below_alloc | apply pw_below_drewN | apply below_drew1) | exact HB.out)) hb); clear HB; have HO214 := n0_; have HB := n1_; clear n0_ n1_; (try clear hb); (try clear hb2); (try clear hk); (try clear hi); (try clear ho0)) | ((with_reducible refine gate_dst (N := 4) rfl ?_); (try (refine gate_guard (by rfl) ?_; dsimp only)); refine box_event ?hg (N := 4) ?hd (cs := #[.int .i64 0, .slice none 0 0]) (t := 24) ?hr ?_; (case hd => rfl); (case hg => rfl); (case hr => first | (go_simp; done) | (go_simp; rfl)); intro gb217 hg w50 hbox hb; have n0_ := Aside0.mk (Kd.R_below (by (with_reducible repeat (first | apply Kd.R_alloc | apply Kd.R_drewN | apply Kd.R_drew)); exact HO214.out) hb); have n1_ := Aside0.mk (below_step (by repeat (first | (with_reducible first | exact HB.out | apply below_alloc | apply pw_below_drewN | apply below_drew1) | exact HB.out)) hb); have n2_ := Aside0.mk (hbox); have n3_ := Aside0.mk ((by rw [hg]; exact (below_size (by repeat (first | (with_reducible first | exact HB.out | apply below_alloc | apply pw_below_drewN | apply below_drew1) | exact HB.out))) : w.heap.size ≤ gb217)); have n4_ := Aside0.mk ((by rw [hg]; exact (below_size (by repeat (first | (with_reducible first | exact HB.out | apply below_alloc | apply pw_below_drewN | apply below_drew1) | exact HB.out))) : w.heap.size ≤ gb217)); clear HO214; clear HB; have HO214 := n0_; have HB := n1_; have BK217 := n2_; have GW217 := n3_; have GE217 := n4_; clear n0_ n1_ n2_ n3_ n4_; clear hb hbox hg; have hcz51_0 : w50.cell? ⟨gb217, 0, none⟩ = some (.int .i64 0) := (blk_cell BK217.out 0).trans rfl; have hcz51_1 : w50.cell? ⟨gb217, 1, none⟩ = some (.slice none 0 0) := (blk_cell BK217.out 1).trans rfl; have hfz51_0 := blk_frozen BK217.out 0; have hfz51_1 := blk_frozen BK217.out 1; obtain ⟨Ao52, co52, eo52⟩ := Kd.R_slice HO214.out; subst eo52))
            repeat (go_quiet (first | (go_at_call 13; (with_reducible refine (record_Get.calls kj2 _ _ l0 t211 t212 t215 t216 _ ?side1 ?side2 A7.out).mono ?_); (case side1 => repeat (first | exact (Kd.C_below HR0.out HB.out) | (with_reducible refine Kd.C_alloc ?_ _) | (with_reducible refine Kd.C_drewN ?_ _) | (with_reducible refine Kd.C_drew ?_))); (case side2 => exact HC0.out); rintro e w49 ⟨v213, rfl, ho0, hb⟩; have n0_ := Aside0.mk (Kd.R_lower ho0 (below_size (by repeat (first | (with_reducible first | exact HB.out | apply below_alloc | apply pw_below_drewN | apply below_drew1) | exact HB.out)))); have n1_ := Aside0.mk (below_step (by repeat (first | (with_reducible first | exact HB.out | apply below_alloc | apply pw_below_drewN | apply below_drew1) | exact HB.out)) hb); clear HB; have HO214 := n0_; have HB := n1_; clear n0_ n1_; (try clear hb); (try clear hb2); (try clear hk); (try clear hi); (try clear ho0)) | ((with_reducible refine gate_dst (N := 4) rfl ?_); (try (refine gate_guard (by rfl) ?_; dsimp only)); refine box_event ?hg (N := 4) ?hd (cs := #[.int .i64 0, .slice none 0 0]) (t := 24) ?hr ?_; (case hd => rfl); (case hg => rfl); (case hr => first | (go_simp; done) | (go_simp; rfl)); intro gb217 hg w50 hbox hb; have n0_ := Aside0.mk (Kd.R_below (by (with_reducible repeat (first | apply Kd.R_alloc | apply Kd.R_drewN | apply Kd.R_drew)); exact HO214.out) hb); have n1_ := Aside0.mk (below_step (by repeat (first | (with_reducible first | exact HB.out | apply below_alloc | apply pw_below_drewN | apply below_drew1) | exact HB.out)) hb); have n2_ := Aside0.mk (hbox); have n3_ := Aside0.mk ((by rw [hg]; exact (below_size (by repeat (first | (with_reducible first | exact HB.out | apply below_alloc | apply pw_below_drewN | apply below_drew1) | exact HB.out))) : w.heap.size ≤ gb217)); have n4_ := Aside0.mk ((by rw [hg]; exact (below_size (by repeat (first | (with_reducible first | exact HB.out | apply below_alloc | apply pw_below_drewN | apply below_drew1) | exact HB.out))) : w.heap.size ≤ gb217)); clear HO214; clear HB; have HO214 := n0_; have HB := n1_; have BK217 := n2_; have GW217 := n3_; have GE217 := n4_; clear n0_ n1_ n2_ n3_ n4_; clear hb hbox hg; have hcz51_0 : w50.cell? ⟨gb217, 0, none⟩ = some (.int .i64 0) := (blk_cell BK217.out 0).trans rfl; have hcz51_1 : w50.cell? ⟨gb217, 1, none⟩ = some (.slice none 0 0) := (blk_cell BK217.out 1).trans rfl; have hfz51_0 := blk_frozen BK217.out 0; have hfz51_1 := blk_frozen BK217.out 1; obtain ⟨Ao52, co52, eo52⟩ := Kd.R_slice HO214.out; subst eo52)); try go_wp2_with (first | (go_at_call 13; (with_reducible refine (record_Get.calls kj2 _ _ l0 t211 t212 t215 t216 _ ?side1 ?side2 A7.out).mono ?_); (case side1 => repeat (first | exact (Kd.C_below HR0.out HB.out) | (with_reducible refine Kd.C_alloc ?_ _) | (with_reducible refine Kd.C_drewN ?_ _) | (with_reducible refine Kd.C_drew ?_))); (case side2 => exact HC0.out); rintro e w49 ⟨v213, rfl, ho0, hb⟩; have n0_ := Aside0.mk (Kd.R_lower ho0 (below_size (by repeat (first | (with_reducible first | exact HB.out | apply below_alloc | apply pw_below_drewN | apply below_drew1) | exact HB.out)))); have n1_ := Aside0.mk (below_step (by repeat (first | (with_reducible first | exact HB.out | apply below_alloc | apply pw_below_drewN | apply below_drew1) | exact HB.out)) hb); clear HB; have HO214 := n0_; have HB := n1_; clear n0_ n1_; (try clear hb); (try clear hb2); (try clear hk); (try clear hi); (try clear ho0)) | ((with_reducible refine gate_dst (N := 4) rfl ?_); (try (refine gate_guard (by rfl) ?_; dsimp only)); refine box_event ?hg (N := 4) ?hd (cs := #[.int .i64 0, .slice none 0 0]) (t := 24) ?hr ?_; (case hd => rfl); (case hg => rfl); (case hr => first | (go_simp; done) | (go_simp; rfl)); intro gb217 hg w50 hbox hb; have n0_ := Aside0.mk (Kd.R_below (by (with_reducible repeat (first | apply Kd.R_alloc | apply Kd.R_drewN | apply Kd.R_drew)); exact HO214.out) hb); have n1_ := Aside0.mk (below_step (by repeat (first | (with_reducible first | exact HB.out | apply below_alloc | apply pw_below_drewN | apply below_drew1) | exact HB.out)) hb); have n2_ := Aside0.mk (hbox); have n3_ := Aside0.mk ((by rw [hg]; exact (below_size (by repeat (first | (with_reducible first | exact HB.out | apply below_alloc | apply pw_below_drewN | apply below_drew1) | exact HB.out))) : w.heap.size ≤ gb217)); have n4_ := Aside0.mk ((by rw [hg]; exact (below_size (by repeat (first | (with_reducible first | exact HB.out | apply below_alloc | apply pw_below_drewN | apply below_drew1) | exact HB.out))) : w.heap.size ≤ gb217)); clear HO214; clear HB; have HO214 := n0_; have HB := n1_; have BK217 := n2_; have GW217 := n3_; have GE217 := n4_; clear n0_ n1_ n2_ n3_ n4_; clear hb hbox hg; have hcz51_0 : w50.cell? ⟨gb217, 0, none⟩ = some (.int .i64 0) := (blk_cell BK217.out 0).trans rfl; have hcz51_1 : w50.cell? ⟨gb217, 1, none⟩ = some (.slice none 0 0) := (blk_cell BK217.out 1).trans rfl; have hfz51_0 := blk_frozen BK217.out 0; have hfz51_1 := blk_frozen BK217.out 1; obtain ⟨Ao52, co52, eo52⟩ := Kd.R_slice HO214.out; subst eo52)))
            go_ret
            exact ⟨by first | rfl | (simp [errW_none, errW_some] <;> rfl) | (simp [*, errW_none, errW_some] <;> rfl), by repeat (first | (with_reducible first | exact HB.out | apply below_alloc | apply pw_below_drewN | apply below_drew1 | refine below_set ?_ GE217.out) | exact HB.out)⟩

/-- THE ONE PURE STATEMENT of colloquylaw03_RecordOnce: yours. -/
def colloquylaw03_RecordOnce.Pure : Prop := ∀ (l0 : List Int), l0.length ≤ maxLen → l0.length * 1 ≤ 140737488351232 → (∀ x ∈ l0, (Lit.int .u8 x).wf = true) → ∃ k, colloquylaw03_RecordOnce.f k l0 = some true
theorem colloquylaw03_RecordOnce.walk (P : colloquylaw03_RecordOnce.Pure) (a0 : Option Addr) (len0 cap0 : Nat) (z0 : List Int) (w : World) (w0 : (a0 = none ∧ len0 = 0 ∧ cap0 = 0 ∧ z0 = []) ∨ ∃ x, a0 = some x ∧ len0 ≤ cap0 ∧ cap0 ≤ maxLen ∧ z0.length = cap0 ∧ (∀ i, i < z0.length → w.cell? (x.add i) = some (.int .u8 (z0.getD i 0))) ∧ ∀ n ∈ z0, (Lit.int .u8 n).wf = true) (y0 : len0 * 1 ≤ 140737488351232) :
    Calls Try.prog 5 #[.slice a0 len0 cap0] w fun e w' => e = .returned (.bool true) ∧ Below w.heap.size w w' := by
  obtain ⟨l0, rfl, hr0, hm0, hw0, hc0⟩ := ReadsInt.ofRowC w0
  obtain ⟨k, h⟩ := P l0 hm0 y0 hw0
  refine (colloquylaw03_RecordOnce.calls k _ _ l0 true w (Kd.C_of_reads (d := (0 : Int)) (h1 := fun _ => rfl) hr0) hc0 h).mono ?_
  rintro e w' ⟨rfl, hd⟩
  exact ⟨rfl, hd⟩

end Go.Proofs.Ytdkdgghonfoccaa.PAll

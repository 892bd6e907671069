/- WalKeeps over the log in memory. Printed by wip/tools/genkeeps.py. -/
import Derived.Test.YtoafbpbnlmcklaaMWalC
namespace Go.Proofs.Ytoafbpbnlmcklaa.PAll
open Go.RowKit Go.Proofs.YtoafbpbnlmcklaaW.PrintWords Go.Proofs.YtoafbpbnlmcklaaW.PrintLast Go.Proofs.YtoafbpbnlmcklaaW.PrintMore Go.Proofs.Ytoafbpbnlmcklaa.Pure
set_option linter.unusedVariables false
set_option linter.unusedSimpArgs false
theorem appE_fits {m u : Nat} {b : List Int} : appE m u b = 0 ↔ fitsF m u b = true := by
  unfold appE fitsF
  by_cases h1 : b.length ≤ 1024
  · by_cases h2 : u + nParts b ≤ m
    · rw [if_pos h1, if_pos h2, decide_eq_true h1, decide_eq_true h2]; exact ⟨fun _ => rfl, fun _ => rfl⟩
    · rw [if_pos h1, if_neg h2, decide_eq_true h1, decide_eq_false h2]; exact ⟨fun h => (by cases h), fun h => (by cases h)⟩
  · rw [if_neg h1, decide_eq_false h1]; exact ⟨fun h => (by cases h), fun h => (by cases h)⟩
theorem info28b : ∃ i, Try.prog.info? 28 = some i ∧ i.size = 1 := ⟨(Try.prog.info? 28).get (by kernel_rfl), by kernel_rfl, by kernel_rfl⟩
/-- Rows of one's own, apart from the log, stay. -/
theorem Real.row28 {B D gS m q Wb u cW : Nat} {A : Option Addr} {vL : Value} {S : List (List Int)} {W : List (Int × List Int)} {L : List (List Int)} {w w' : World} (h : Real B D gS m q Wb u A cW vL S W L w) (ht : TouchP (fun k => InD D gS A k ∨ InW Wb vL k) w w') {base2 : Nat} {ok : Nat → Prop} {v : Value} {xs : List (List Int)} (hk : Kd.R (Kd.slice 5 (Kd.int .u8)) 28 w base2 ok v xs) (hap : ∀ k, v.ownBlock = some k → ¬ (InD D gS A k ∨ InW Wb vL k)) : Kd.R (Kd.slice 5 (Kd.int .u8)) 28 w' base2 ok v xs := by
  refine R_moveE hk (fun k hb => ?_) (fun k cells q hq hc => ?_)
  · obtain ⟨inner, ho⟩ := Kd.R_own hk
    obtain ⟨cells, hc⟩ := own_typed ho k hb
    exact ht.block k (blk_lt hc) (hap k hb)
  · have hq5 : q = 5 := by
      rcases List.mem_cons.1 hq with e | e
      · exact e
      · cases e
    subst hq5
    have := h.ok5 k ⟨cells, hc⟩
    exact ht.block k (blk_lt hc) (fun hi => hi.elim this.1 this.2)
/-- What grows apart from the log leaves it. -/
theorem Real.grown {B D gS m q Wb u cW : Nat} {A : Option Addr} {vL : Value} {S : List (List Int)} {W : List (Int × List Int)} {L : List (List Int)} {w w' : World} (h : Real B D gS m q Wb u A cW vL S W L w) {row : Option Nat} (hg : w.grownBy w' row) (hr : ∀ k, row = some k → ¬ (InD D gS A k ∨ InW Wb vL k)) (h5 : ∀ (k : Nat) (cells : Array Value), row = some k → w.heap[k]? = some (Obj.cells cells 5 (0, 0)) → False) : Real B D gS m q Wb u A cW vL S W L w' :=
  ⟨h.d.move (fun k hk => hg.block k (by obtain ⟨_, cs, t, _, hh⟩ := h.own k (.inl hk); exact blk_lt hh) (fun e => hr k e.symm (.inl hk))),
   h.l.move (fun k hk => hg.block k (h.l.lt hk) (fun e => hr k e.symm (.inr hk))) (fun k cells hc => hg.block k (blk_lt hc) (fun e => h5 k cells e.symm hc)), h.p, h.log, h.bs⟩
theorem Real.monoq {B D gS m q q' Wb u cW : Nat} {A : Option Addr} {vL : Value} {S : List (List Int)} {W : List (Int × List Int)} {L : List (List Int)} {w : World} (h : Real B D gS m q Wb u A cW vL S W L w) (hq : q ≤ q') : Real B D gS m q' Wb u A cW vL S W L w := ⟨h.d, h.l, h.p.mono hq, h.log, h.bs⟩
theorem rows_keep {base D gS cW : Nat} {A : Option Addr} {S : List (List Int)} {W : List (Int × List Int)} {w w' : World} {base2 : Nat} {ok : Nat → Prop} {v : Value} {xs : List (List Int)} (hk : Kd.R (Kd.slice 5 (Kd.int .u8)) 28 w base2 ok v xs) (hd : DiskAt base D gS A cW S W w) (ht : TouchP (InD D gS A) w w') (hap : ∀ k, v.ownBlock = some k → ¬ InD D gS A k) : Kd.R (Kd.slice 5 (Kd.int .u8)) 28 w' base2 ok v xs := by
  refine R_moveE hk (fun k hb => ?_) (fun k cells q hq hc => ?_)
  · obtain ⟨inner, ho⟩ := Kd.R_own hk
    obtain ⟨cells, hc⟩ := own_typed ho k hb
    exact ht.block k (blk_lt hc) (hap k hb)
  · have hq5 : q = 5 := by
      rcases List.mem_cons.1 hq with e | e
      · exact e
      · cases e
    subst hq5
    exact ht.block k (blk_lt hc) (fun hi => hd.no5 (by decide) k cells hi hc)
theorem own28 {w : World} {base : Nat} {ok : Nat → Prop} {v : Value} {xs : List (List Int)} (h : Kd.R (Kd.slice 5 (Kd.int .u8)) 28 w base ok v xs) (k : Nat) (hk : v.ownBlock = some k) : ∃ cells, w.heap[k]? = some (Obj.cells cells 28 (0, 0)) := by
  obtain ⟨inner, ho⟩ := Kd.R_own h
  exact own_typed ho k hk
theorem real_sync (B D gS m q Wb u cW : Nat) (A : Option Addr) (vL : Value) (S : List (List Int)) (W : List (Int × List Int)) (L : List (List Int)) (w : World) (h : Real B D gS m q Wb u A cW vL S W L w) (hq : q ≤ 900000) :
    Calls Try.prog 25 #[.pointer (some ⟨D, 0, none⟩)] w fun x w' => x = .returned (.tuple #[]) ∧ Real B D gS m (q + 1) Wb u A cW vL (applyW S W) [] L w' ∧ TouchP (fun k => InD D gS A k ∨ InW Wb vL k) w w' := by
  refine (sync_tot B D gS cW m q A S W w h.d h.p (by omega)).mono ?_
  rintro x w' ⟨rfl, h1, h2⟩
  exact ⟨rfl, ⟨h1, h.l.disk (by decide) h.d h2.toP, h.p.sync, ⟨h.log.secs, h.log.used, h.log.le, h.log.few⟩, h.bs⟩, h2.toP.mono (fun k _ hk => .inl hk)⟩
set_option maxHeartbeats 2000000 in
set_option maxRecDepth 100000 in
theorem at_walk (A0 : Option Addr) (c0 : Nat) (l : List (List Int)) (A1 : Option Addr) (c1 : Nat) (l2 : List (List Int)) (i : Nat) (w : World) (h0 : Kd.C (Kd.slice 5 (Kd.int .u8)) w A0 l.length l) (h1 : Kd.C (Kd.slice 5 (Kd.int .u8)) w A1 l2.length l2) (hi : i < l.length + l2.length) (hs : l.length ≤ 100000 ∧ l2.length ≤ 100000) :
    Calls Try.prog 24 #[.slice A0 l.length c0, .slice A1 l2.length c1, .int .i64 (i : Int)] w fun e w' => ∃ Ab cb b, e = .returned (.slice Ab b.length cb) ∧ b.length ≤ cb ∧ (l ++ l2)[i]? = some b ∧ Kd.C (Kd.int .u8) w Ab b.length b ∧ w' = w := by
  by_cases c : i < l.length
  · obtain ⟨ad, Ab, cb, e, hx0, hcb, hCb⟩ := at_L1 h0 (i : Int) (by omega) (by omega)
    subst e
    have hb : (l ++ l2)[i]? = some (rd_L1 l (i : Int)) := by
      rw [List.getElem?_append_left c]
      unfold rd_L1
      rw [Int.toNat_natCast, List.getD_eq_getElem?_getD, List.getElem?_eq_getElem c, Option.getD_some]
    obtain ⟨b, eb⟩ : ∃ b, b = rd_L1 l (i : Int) := ⟨_, rfl⟩
    rw [← eb] at hx0 hcb hCb hb
    rw [Int.toNat_natCast] at hx0
    have HX := Aside0.mk (show b.length ≤ cb ∧ (l ++ l2)[i]? = some b ∧ Kd.C (Kd.int .u8) w Ab b.length b from ⟨hcb, hb, hCb⟩)
    have p1 : decide ((i : Int) < (l.length : Int)) = true := decide_eq_true (by omega)
    have p2 := eq_true (show 0 ≤ (i : Int) by omega)
    have p3 := eq_true (show (i : Int) < (l.length : Int) by omega)
    clear hcb hb hCb h0 h1 eb hi c
    go_enter Try.func24, Try.ntmps24
    go_wp2
    go_ret
    exact ⟨Ab, cb, b, rfl, HX.out.1, HX.out.2.1, HX.out.2.2, rfl⟩
  · obtain ⟨k, hk⟩ : ∃ k, k = i - l.length := ⟨_, rfl⟩
    have hk2 : k < l2.length := by omega
    obtain ⟨ad, Ab, cb, e, hx0, hcb, hCb⟩ := at_L1 h1 (k : Int) (by omega) (by omega)
    subst e
    have hb : (l ++ l2)[i]? = some (rd_L1 l2 (k : Int)) := by
      rw [List.getElem?_append_right (by omega), ← hk]
      unfold rd_L1
      rw [Int.toNat_natCast, List.getD_eq_getElem?_getD, List.getElem?_eq_getElem hk2, Option.getD_some]
    obtain ⟨b, eb⟩ : ∃ b, b = rd_L1 l2 (k : Int) := ⟨_, rfl⟩
    rw [← eb] at hx0 hcb hCb hb
    rw [Int.toNat_natCast] at hx0
    have HX := Aside0.mk (show b.length ≤ cb ∧ (l ++ l2)[i]? = some b ∧ Kd.C (Kd.int .u8) w Ab b.length b from ⟨hcb, hb, hCb⟩)
    have p1 : decide (i < l.length) = false := decide_eq_false c
    have s1 : wrap64 ((i : Int) - (l.length : Int)) = (k : Int) := by unfold wrap64; omega
    have p2 := eq_true (show 0 ≤ (k : Int) by omega)
    have p3 := eq_true (show (k : Int) < (l2.length : Int) by omega)
    clear hcb hb hCb h0 h1 eb hi c hk hk2
    go_enter Try.func24, Try.ntmps24
    go_wp2
    go_ret
    exact ⟨Ab, cb, b, rfl, HX.out.1, HX.out.2.1, HX.out.2.2, rfl⟩
set_option maxHeartbeats 16000000 in
set_option maxRecDepth 100000 in
theorem WalKeeps_out1 (n : Int) (A0 : Option Addr) (c0 : Nat) (l : List (List Int)) (A1 : Option Addr) (c1 : Nat) (l2 : List (List Int)) (A2 : Option Addr) (c2 : Nat) (kp : List Bool) (torn bytes : Int) (w : World) (hr0 : Kd.C (Kd.slice 5 (Kd.int .u8)) w A0 l.length l) (hr1 : Kd.C (Kd.slice 5 (Kd.int .u8)) w A1 l2.length l2) (hr2 : Kd.C Kd.bool w A2 kp.length kp) (hn : 100 < n) : Calls Try.prog 7 #[.int .i64 n, .slice A0 l.length c0, .slice A1 l2.length c1, .slice A2 kp.length c2, .int .i64 torn, .int .i64 bytes] w fun x w' => x = .returned (.bool true) ∧ Below w.heap.size w w' := by
  have g1 : decide (n > (100 : Int)) = true := decide_eq_true (by omega)
  clear hn
  have HR0 := Aside0.mk hr0
  have HR1 := Aside0.mk hr1
  have HR2 := Aside0.mk hr2
  clear hr0 hr1 hr2
  go_enter Try.func7, Try.ntmps7
  go_wp2_with fail
  refine (awake_walk w).mono ?_
  rintro x w1 ⟨rfl, hb1⟩
  have HB1 := Aside0.mk hb1
  clear hb1
  go_wp2_with fail
  refine (new_tot n w1).mono ?_
  rintro x w2 ⟨D, gS, rfl, hd2, hb2⟩
  have HD2 := Aside0.mk (hd2.lower HB1.out.size)
  have HB2 := Aside0.mk (below_then HB1.out HB1.out.size hb2)
  clear hd2 hb2 HB1
  go_wp2
  go_ret
  exact ⟨rfl, HB2.out⟩
set_option maxHeartbeats 16000000 in
set_option maxRecDepth 100000 in
theorem WalKeeps_out2 (n : Int) (A0 : Option Addr) (c0 : Nat) (l : List (List Int)) (A1 : Option Addr) (c1 : Nat) (l2 : List (List Int)) (A2 : Option Addr) (c2 : Nat) (kp : List Bool) (torn bytes : Int) (w : World) (hr0 : Kd.C (Kd.slice 5 (Kd.int .u8)) w A0 l.length l) (hr1 : Kd.C (Kd.slice 5 (Kd.int .u8)) w A1 l2.length l2) (hr2 : Kd.C Kd.bool w A2 kp.length kp) (hn : n ≤ 100) (hl : 20 < l.length) : Calls Try.prog 7 #[.int .i64 n, .slice A0 l.length c0, .slice A1 l2.length c1, .slice A2 kp.length c2, .int .i64 torn, .int .i64 bytes] w fun x w' => x = .returned (.bool true) ∧ Below w.heap.size w w' := by
  have g1 : decide (n > (100 : Int)) = false := decide_eq_false (by omega)
  have g2 : decide ((l.length : Int) > 20) = true := decide_eq_true (by omega)
  clear hn hl
  have HR0 := Aside0.mk hr0
  have HR1 := Aside0.mk hr1
  have HR2 := Aside0.mk hr2
  clear hr0 hr1 hr2
  go_enter Try.func7, Try.ntmps7
  go_wp2_with fail
  refine (awake_walk w).mono ?_
  rintro x w1 ⟨rfl, hb1⟩
  have HB1 := Aside0.mk hb1
  clear hb1
  go_wp2_with fail
  refine (new_tot n w1).mono ?_
  rintro x w2 ⟨D, gS, rfl, hd2, hb2⟩
  have HD2 := Aside0.mk (hd2.lower HB1.out.size)
  have HB2 := Aside0.mk (below_then HB1.out HB1.out.size hb2)
  clear hd2 hb2 HB1
  go_wp2
  go_ret
  exact ⟨rfl, HB2.out⟩
set_option maxHeartbeats 16000000 in
set_option maxRecDepth 100000 in
theorem WalKeeps_out3 (n : Int) (A0 : Option Addr) (c0 : Nat) (l : List (List Int)) (A1 : Option Addr) (c1 : Nat) (l2 : List (List Int)) (A2 : Option Addr) (c2 : Nat) (kp : List Bool) (torn bytes : Int) (w : World) (hr0 : Kd.C (Kd.slice 5 (Kd.int .u8)) w A0 l.length l) (hr1 : Kd.C (Kd.slice 5 (Kd.int .u8)) w A1 l2.length l2) (hr2 : Kd.C Kd.bool w A2 kp.length kp) (hn : n ≤ 100) (hl : l.length ≤ 20) (hl2 : 20 < l2.length) : Calls Try.prog 7 #[.int .i64 n, .slice A0 l.length c0, .slice A1 l2.length c1, .slice A2 kp.length c2, .int .i64 torn, .int .i64 bytes] w fun x w' => x = .returned (.bool true) ∧ Below w.heap.size w w' := by
  have g1 : decide (n > (100 : Int)) = false := decide_eq_false (by omega)
  have g2 : decide ((l.length : Int) > 20) = false := decide_eq_false (by omega)
  have g3 : decide ((l2.length : Int) > 20) = true := decide_eq_true (by omega)
  clear hn hl hl2
  have HR0 := Aside0.mk hr0
  have HR1 := Aside0.mk hr1
  have HR2 := Aside0.mk hr2
  clear hr0 hr1 hr2
  go_enter Try.func7, Try.ntmps7
  go_wp2_with fail
  refine (awake_walk w).mono ?_
  rintro x w1 ⟨rfl, hb1⟩
  have HB1 := Aside0.mk hb1
  clear hb1
  go_wp2_with fail
  refine (new_tot n w1).mono ?_
  rintro x w2 ⟨D, gS, rfl, hd2, hb2⟩
  have HD2 := Aside0.mk (hd2.lower HB1.out.size)
  have HB2 := Aside0.mk (below_then HB1.out HB1.out.size hb2)
  clear hd2 hb2 HB1
  go_wp2
  go_ret
  exact ⟨rfl, HB2.out⟩
set_option maxHeartbeats 16000000 in
set_option maxRecDepth 100000 in
theorem WalKeeps_out4 (n : Int) (A0 : Option Addr) (c0 : Nat) (l : List (List Int)) (A1 : Option Addr) (c1 : Nat) (l2 : List (List Int)) (A2 : Option Addr) (c2 : Nat) (kp : List Bool) (torn bytes : Int) (w : World) (hr0 : Kd.C (Kd.slice 5 (Kd.int .u8)) w A0 l.length l) (hr1 : Kd.C (Kd.slice 5 (Kd.int .u8)) w A1 l2.length l2) (hr2 : Kd.C Kd.bool w A2 kp.length kp) (hn : n ≤ 100) (hl : l.length ≤ 20) (hl2 : l2.length ≤ 20) (hk : 100 < kp.length) : Calls Try.prog 7 #[.int .i64 n, .slice A0 l.length c0, .slice A1 l2.length c1, .slice A2 kp.length c2, .int .i64 torn, .int .i64 bytes] w fun x w' => x = .returned (.bool true) ∧ Below w.heap.size w w' := by
  have g1 : decide (n > (100 : Int)) = false := decide_eq_false (by omega)
  have g2 : decide ((l.length : Int) > 20) = false := decide_eq_false (by omega)
  have g3 : decide ((l2.length : Int) > 20) = false := decide_eq_false (by omega)
  have g4 : decide ((kp.length : Int) > 100) = true := decide_eq_true (by omega)
  clear hn hl hl2 hk
  have HR0 := Aside0.mk hr0
  have HR1 := Aside0.mk hr1
  have HR2 := Aside0.mk hr2
  clear hr0 hr1 hr2
  go_enter Try.func7, Try.ntmps7
  go_wp2_with fail
  refine (awake_walk w).mono ?_
  rintro x w1 ⟨rfl, hb1⟩
  have HB1 := Aside0.mk hb1
  clear hb1
  go_wp2_with fail
  refine (new_tot n w1).mono ?_
  rintro x w2 ⟨D, gS, rfl, hd2, hb2⟩
  have HD2 := Aside0.mk (hd2.lower HB1.out.size)
  have HB2 := Aside0.mk (below_then HB1.out HB1.out.size hb2)
  clear hd2 hb2 HB1
  go_wp2
  go_ret
  exact ⟨rfl, HB2.out⟩
set_option maxHeartbeats 16000000 in
set_option maxRecDepth 100000 in
theorem WalKeeps_in (n : Int) (A0 : Option Addr) (c0 : Nat) (l : List (List Int)) (A1 : Option Addr) (c1 : Nat) (l2 : List (List Int)) (A2 : Option Addr) (c2 : Nat) (kp : List Bool) (torn bytes : Int) (w : World) (hr0 : Kd.C (Kd.slice 5 (Kd.int .u8)) w A0 l.length l) (hr1 : Kd.C (Kd.slice 5 (Kd.int .u8)) w A1 l2.length l2) (hr2 : Kd.C Kd.bool w A2 kp.length kp) (hn : n ≤ 100) (hl : l.length ≤ 20) (hl2 : l2.length ≤ 20) (hk : kp.length ≤ 100) (hbs : ∀ b ∈ l ++ l2, Bs b) (hls : ∀ b ∈ l ++ l2, b.length ≤ 140737488351232) : Calls Try.prog 7 #[.int .i64 n, .slice A0 l.length c0, .slice A1 l2.length c1, .slice A2 kp.length c2, .int .i64 torn, .int .i64 bytes] w fun x w' => x = .returned (.bool true) ∧ Below w.heap.size w w' := by
  have HBS := Aside0.mk hbs
  clear hbs
  have HLS := Aside0.mk hls
  clear hls
  have g1 : decide (n > (100 : Int)) = false := decide_eq_false (by omega)
  have g2 : decide ((l.length : Int) > 20) = false := decide_eq_false (by omega)
  have g3 : decide ((l2.length : Int) > 20) = false := decide_eq_false (by omega)
  have g4 : decide ((kp.length : Int) > 100) = false := decide_eq_false (by omega)
  have HM := Aside0.mk (clampN_100 hn)
  have HL := Aside0.mk (show l.length ≤ 20 ∧ l2.length ≤ 20 from ⟨hl, hl2⟩)
  obtain ⟨N, hN⟩ : ∃ N, N = l.length + l2.length := ⟨_, rfl⟩
  have HN := Aside0.mk hN
  have sN : wrap64 ((l.length : Int) + (l2.length : Int)) = (N : Int) := by unfold wrap64; omega
  clear hn hl hl2 hk hN
  have HR0 := Aside0.mk hr0
  have HR1 := Aside0.mk hr1
  have HR2 := Aside0.mk hr2
  clear hr0 hr1 hr2
  go_enter Try.func7, Try.ntmps7
  go_wp2_with fail
  refine (awake_walk w).mono ?_
  rintro x w1 ⟨rfl, hb1⟩
  have HB1 := Aside0.mk hb1
  clear hb1
  go_wp2_with fail
  refine (new_tot n w1).mono ?_
  rintro x w2 ⟨D, gS, rfl, hd2, hb2⟩
  have HD2 := Aside0.mk (hd2.lower HB1.out.size)
  have HB2 := Aside0.mk (below_then HB1.out HB1.out.size hb2)
  clear hd2 hb2 HB1
  obtain ⟨m, hm⟩ : ∃ m, m = clampN n := ⟨_, rfl⟩
  rw [← hm] at HD2 HM
  clear hm
  go_wp2_with fail
  refine (real_open w.heap.size D gS m 0 w2 HD2.out (by have := HM.out; omega)).mono ?_
  rintro x w3 ⟨Wb, vL0, A3, cW3, rfl, hr3, hb3⟩
  have HR3 := Aside0.mk hr3
  have HB3 := Aside0.mk (HB2.out.trans hb3)
  clear hr3 hb3 HB2 HD2
  obtain ⟨S0, hS0⟩ : ∃ S, S = List.replicate m zeroS := ⟨_, rfl⟩
  have HS0 := Aside0.mk (show Sure m 0 0 0 S0 [] [] by rw [hS0]; exact Sure.new m)
  rw [← hS0] at HR3
  clear hS0
  go_wp2
  go_loopg [16, 17, 18] N (fun kq v16 v17 v18 w' => ∃ (j q u u0 sure : Nat) (S : List (List Int)) (W : List (Int × List Int)) (L : List (List Int)) (A : Option Addr) (cW : Nat) (vL : Value) (AL : Option Addr) (nL cL : Nat), v16 = .slice AL nL cL ∧ v17 = .int .i64 (sure : Int) ∧ v18 = .int .i64 (j : Int) ∧ Aside0 (j + kq = N) ∧ Aside0 (q = 2001 * j) ∧ Aside0 (nL = L.length ∧ nL ≤ j) ∧ Aside0 (Sure m u u0 sure S W L) ∧ Aside0 (Real w.heap.size D gS m q Wb u A cW vL S W L w') ∧ Aside0 (Kd.R (Kd.slice 5 (Kd.int .u8)) 28 w' w.heap.size (fun _ => True) (.slice AL nL cL) L) ∧ Aside0 (∀ k, (Value.slice AL nL cL).ownBlock = some k → ¬ (InD D gS A k ∨ InW Wb vL k)) ∧ Aside0 (Below w.heap.size w w'))
  case atStart => exact ⟨0, 0, 0, 0, 0, S0, [], [], A3, cW3, vL0, none, 0, 0, rfl, rfl, rfl, ⟨by omega⟩, ⟨rfl⟩, ⟨rfl, Nat.le_refl _⟩, HS0, HR3, ⟨Kd.R_nil _ _ _ _ _⟩, ⟨fun k hk => by simp [Value.ownBlock] at hk⟩, HB3⟩
  case round =>
    obtain ⟨j, q, u, u0, sure, S, W, L, A, cW, vL, AL, nL, cL, rfl, rfl, rfl, HJ, HQ, HNL, HSU, HR, HAL, HAP, HB⟩ := hrel
    by_cases hlt : j < N
    · have HLT := Aside0.mk hlt
      have p1 : decide ((j : Int) < (N : Int)) = true := decide_eq_true (by omega)
      have p1' : decide (j < N) = true := decide_eq_true hlt
      obtain ⟨k1, rfl⟩ : ∃ k1, gk = k1 + 1 := ⟨gk - 1, by have := HJ.out; omega⟩
      clear hlt
      go_wp2_with fail
      refine (at_walk A0 c0 l A1 c1 l2 j wr (Kd.C_below HR0.out HB.out) (Kd.C_below HR1.out HB.out) (by have := HLT.out; have := HN.out; omega) (by have := HL.out; omega)).mono ?_
      rintro x w4 ⟨Ab, cb, b, rfl, hcb, hlb, hCb, rfl⟩
      have HBb := Aside0.mk (show Bs b from HBS.out b (List.mem_of_getElem? hlb))
      have HLB := Aside0.mk (show b.length ≤ 140737488351232 from HLS.out b (List.mem_of_getElem? hlb))
      have HCb := Aside0.mk hCb
      have HCB := Aside0.mk hcb
      clear hcb hlb hCb
      obtain ⟨nb, hnb⟩ : ∃ nb, nb = b.length := ⟨_, rfl⟩
      have HNB := Aside0.mk hnb
      have HCb' := Aside0.mk (show Kd.C (Kd.int .u8) w4 Ab nb b by rw [hnb]; exact HCb.out)
      rw [← hnb]
      clear hnb
      by_cases cl : nb > 1100
      · have p4 : decide ((nb : Int) > 1100) = true := decide_eq_true (by omega)
        clear cl
        go_wp2_with ((with_reducible refine gate_builtin (b := .append) (xs := #[.const (.slice none 0 0), .tmp 72]) rfl ?_); at_builtin; refine Kd.R_append_rows (Kd.int .u8) (w0 := w4) w4.heap.size rfl (.const (.slice none 0 0)) (.tmp 72) 28 5 (.int .u8 0) 1 rfl Try.underlying28 info5 rfl (by decide) (by omega) (.slice none 0 0) [] b Ab nb cb (fun _ => True) (fun _ => False) rfl rfl (Kd.R_nil _ _ _ _ _) HCb'.out (fun _ _ h => h) (fun _ h => h.elim) (fun _ _ => trivial) (Below.refl _ _) (Nat.le_refl _) ?aL ?_; (case aL => have := HLB.out; have := HNB.out; simp; omega); intro v5 w5 ho5 hb5 hg5 hat5; have HO5 := Aside0.mk (show Kd.R (Kd.int .u8) 5 w5 w.heap.size (fun _ => True) v5 b from Kd.R_lower ho5 HB.out.size); have HR5 := Aside0.mk (HR.out.below hb5); have HAL5 := Aside0.mk (Kd.R_below HAL.out hb5); have HB5 := Aside0.mk (below_then HB.out HB.out.size hb5); clear ho5 hb5 hg5 hat5; obtain ⟨A5, c5, e5⟩ := Kd.R_slice HO5.out; rw [← HNB.out] at e5; subst e5)
        go_wp2
        go_ret
        exact ⟨rfl, HB5.out⟩
      have p4 : decide ((nb : Int) > 1100) = false := decide_eq_false (by omega)
      have HN11 := Aside0.mk (show nb ≤ 1100 by omega)
      clear cl
      by_cases cj : j = l.length
      · have p5 : ((j : Int) == (l.length : Int)) = true := beq_iff_eq.mpr (by omega)
        have p6 : (j == l.length) = true := beq_iff_eq.mpr cj
        clear cj
        go_wp2_with ((with_reducible refine gate_builtin (b := .append) (xs := #[.const (.slice none 0 0), .tmp 72]) rfl ?_); at_builtin; refine Kd.R_append_rows (Kd.int .u8) (w0 := w4) w4.heap.size rfl (.const (.slice none 0 0)) (.tmp 72) 28 5 (.int .u8 0) 1 rfl Try.underlying28 info5 rfl (by decide) (by omega) (.slice none 0 0) [] b Ab nb cb (fun _ => True) (fun _ => False) rfl rfl (Kd.R_nil _ _ _ _ _) HCb'.out (fun _ _ h => h) (fun _ h => h.elim) (fun _ _ => trivial) (Below.refl _ _) (Nat.le_refl _) ?aL ?_; (case aL => have := HLB.out; have := HNB.out; simp; omega); intro v5 w5 ho5 hb5 hg5 hat5; have HO5 := Aside0.mk (show Kd.R (Kd.int .u8) 5 w5 w.heap.size (fun _ => True) v5 b from Kd.R_lower ho5 HB.out.size); have HR5 := Aside0.mk (HR.out.below hb5); have HAL5 := Aside0.mk (Kd.R_below HAL.out hb5); have HB5 := Aside0.mk (below_then HB.out HB.out.size hb5); clear ho5 hb5 hg5 hat5; obtain ⟨A5, c5, e5⟩ := Kd.R_slice HO5.out; rw [← HNB.out] at e5; subst e5)
        go_wp2_with fail
        refine (real_sync w.heap.size D gS m q Wb u cW A vL S W L w5 HR5.out (by have := HQ.out; have := HLT.out; have := HN.out; have := HL.out; omega)).mono ?_
        rintro x w6 ⟨rfl, hr6, ht6⟩
        have HR6 := Aside0.mk hr6
        have HSU6 := Aside0.mk (show Sure m u u nL (applyW S W) [] L by rw [HNL.out.1]; exact Sure.sync (u0 := 0) (sure := 0) HR5.out.log)
        have HAL6 := Aside0.mk (HR5.out.row28 ht6 HAL5.out HAP.out)
        have HB6 := Aside0.mk (HR5.out.bel ht6 HB5.out (Nat.le_refl _))
        have HO6 := Aside0.mk (HR5.out.row5 ht6 HO5.out)
        clear hr6 ht6
        go_wp2_with fail
        have hcz := (Kd.R_reads' HO6.out).2.1
        have hF5 := F5 HO6.out
        refine (real_append w.heap.size D gS m (q + 1) Wb u cW A vL (applyW S W) [] L b A5 nb c5 w6 _ HR6.out (by have := HM.out; omega) (by have := HQ.out; have := HLT.out; have := HN.out; have := HL.out; omega) hF5 (fun k hk => HR6.out.ok5 k hk) hcz HBb.out).mono ?_
        rintro x w7 ⟨rfl, A7, cW7, vL7, hr7, ht7, hi7⟩
        clear hF5 hcz
        have HR7 := Aside0.mk hr7
        have HO7 := Aside0.mk (HR6.out.row5 ht7 HO6.out)
        have HAL7 := Aside0.mk (HR6.out.row28 ht7 HAL6.out HAP.out)
        have HB7 := Aside0.mk (HR6.out.bel ht7 HB6.out (Nat.le_refl _))
        have HAP7 := Aside0.mk (show ∀ k, (Value.slice AL nL cL).ownBlock = some k → ¬ (InD D gS A7 k ∨ InW Wb vL7 k) from fun k hk hi => by
          obtain ⟨cells, hcc⟩ := own28 HAL6.out k hk
          rcases hi7 k hi with h | h
          · exact HAP.out k hk h
          · have := blk_lt hcc; omega)
        have HSU7 := Aside0.mk (HSU6.out.append HR6.out.log.used b)
        clear hr7 ht7 hi7
        by_cases ce : appE m u b = 0
        · rw [ce]
          have eL : appL m u L b = L ++ [b] := by rw [appL, if_pos (appE_fits.1 ce)]
          rw [eL] at HR7 HSU7
          clear ce eL
          go_wp2_with ((with_reducible refine gate_builtin (b := .append) (xs := #[.tmp 89, .tmp 91]) rfl ?_); at_builtin; refine Kd.R_append (Kd.slice 5 (Kd.int .u8)) (w0 := w) w.heap.size rfl (.tmp 89) (.tmp 91) 22 28 (.slice none 0 0) 24 rfl Try.underlying22 info28' rfl (by decide) (by omega) (.slice AL nL cL) L b [.slice A5 nb c5] (fun _ => True) (fun k => True ∧ some k ≠ (Value.slice AL nL cL).ownBlock) rfl rfl ?aP (fun _ hk => hk) (fun _ _ => trivial) HAL7.out HB7.out HB7.out.size (by have := HNL.out; have := HLT.out; have := HN.out; have := HL.out; omega) ?_; (case aP => exact ⟨_, rfl, R_types' HO7.out (fun k hk => own28 HAL7.out k hk) (by decide)⟩); intro v8 w8 ho8 hb8 hg8 hat8; have HAL8 := Aside0.mk ho8; have HB8 := Aside0.mk hb8; have HR8 := Aside0.mk (HR7.out.grown hg8 (fun k hk => HAP7.out k hk) (fun k cells hk hc => by obtain ⟨cells2, h2⟩ := own28 HAL7.out k hk; exact absurd (blk_type hc h2) (by decide))); have HAP8 := Aside0.mk (show ∀ k, v8.ownBlock = some k → ¬ (InD D gS A7 k ∨ InW Wb vL7 k) from fun k hk hi => by rcases hat8 with e | ⟨k', e, hge⟩; exact HAP7.out k (e ▸ hk) hi; rw [e] at hk; cases hk; obtain ⟨_, cs, t, _, hh⟩ := HR7.out.own k hi; have := blk_lt hh; omega); clear ho8 hb8 hg8 hat8; obtain ⟨A8, c8, e8⟩ := Kd.R_slice HAL8.out; rw [List.length_append, List.length_singleton, ← HNL.out.1] at e8; subst e8)
          go_roundg k1
          case measure => omega
          case rel =>
            refine ⟨j + 1, q + 2001, _, u, nL, _, _, _, _, _, _, A8, nL + 1, c8, rfl, rfl, ?_, ⟨by have := HJ.out; omega⟩, ⟨by have := HQ.out; omega⟩, ⟨by rw [List.length_append, List.length_singleton, ← HNL.out.1], by have := HNL.out; omega⟩, HSU7, ⟨HR8.out.monoq (by omega)⟩, HAL8, HAP8, HB8⟩
            exact congrArg (Value.int .i64) (widx (by have := HLT.out; have := HN.out; have := HL.out; omega))
        have q8 : (appE m u b == 0) = false := beq_eq_false_iff_ne.mpr ce
        have eL : appL m u L b = L := by rw [appL, if_neg (fun h => ce (appE_fits.2 h))]
        rw [eL] at HR7 HSU7
        clear ce eL
        go_wp2_with fail
        go_roundg k1
        case measure => omega
        case rel =>
          refine ⟨j + 1, q + 2001, _, u, nL, _, _, _, _, _, _, AL, nL, cL, rfl, rfl, ?_, ⟨by have := HJ.out; omega⟩, ⟨by have := HQ.out; omega⟩, ⟨HNL.out.1, by have := HNL.out; omega⟩, HSU7, ⟨HR7.out.monoq (by omega)⟩, HAL7, HAP7, HB7⟩
          exact congrArg (Value.int .i64) (widx (by have := HLT.out; have := HN.out; have := HL.out; omega))
      have p5 : ((j : Int) == (l.length : Int)) = false := beq_eq_false_iff_ne.mpr (by omega)
      have p6 : (j == l.length) = false := beq_eq_false_iff_ne.mpr cj
      clear cj
      go_wp2_with ((with_reducible refine gate_builtin (b := .append) (xs := #[.const (.slice none 0 0), .tmp 72]) rfl ?_); at_builtin; refine Kd.R_append_rows (Kd.int .u8) (w0 := w4) w4.heap.size rfl (.const (.slice none 0 0)) (.tmp 72) 28 5 (.int .u8 0) 1 rfl Try.underlying28 info5 rfl (by decide) (by omega) (.slice none 0 0) [] b Ab nb cb (fun _ => True) (fun _ => False) rfl rfl (Kd.R_nil _ _ _ _ _) HCb'.out (fun _ _ h => h) (fun _ h => h.elim) (fun _ _ => trivial) (Below.refl _ _) (Nat.le_refl _) ?aL ?_; (case aL => have := HLB.out; have := HNB.out; simp; omega); intro v5 w5 ho5 hb5 hg5 hat5; have HO5 := Aside0.mk (show Kd.R (Kd.int .u8) 5 w5 w.heap.size (fun _ => True) v5 b from Kd.R_lower ho5 HB.out.size); have HR5 := Aside0.mk (HR.out.below hb5); have HAL5 := Aside0.mk (Kd.R_below HAL.out hb5); have HB5 := Aside0.mk (below_then HB.out HB.out.size hb5); clear ho5 hb5 hg5 hat5; obtain ⟨A5, c5, e5⟩ := Kd.R_slice HO5.out; rw [← HNB.out] at e5; subst e5)
      go_wp2_with fail
      have hcz := (Kd.R_reads' HO5.out).2.1
      have hF5 := F5 HO5.out
      refine (real_append w.heap.size D gS m q Wb u cW A vL S W L b A5 nb c5 w5 _ HR5.out (by have := HM.out; omega) (by have := HQ.out; have := HLT.out; have := HN.out; have := HL.out; omega) hF5 (fun k hk => HR5.out.ok5 k hk) hcz HBb.out).mono ?_
      rintro x w7 ⟨rfl, A7, cW7, vL7, hr7, ht7, hi7⟩
      clear hF5 hcz
      have HR7 := Aside0.mk hr7
      have HO7 := Aside0.mk (HR5.out.row5 ht7 HO5.out)
      have HAL7 := Aside0.mk (HR5.out.row28 ht7 HAL5.out HAP.out)
      have HB7 := Aside0.mk (HR5.out.bel ht7 HB5.out (Nat.le_refl _))
      have HAP7 := Aside0.mk (show ∀ k, (Value.slice AL nL cL).ownBlock = some k → ¬ (InD D gS A7 k ∨ InW Wb vL7 k) from fun k hk hi => by
        obtain ⟨cells, hcc⟩ := own28 HAL5.out k hk
        rcases hi7 k hi with h | h
        · exact HAP.out k hk h
        · have := blk_lt hcc; omega)
      have HSU7 := Aside0.mk (HSU.out.append HR5.out.log.used b)
      clear hr7 ht7 hi7
      by_cases ce : appE m u b = 0
      · rw [ce]
        have eL : appL m u L b = L ++ [b] := by rw [appL, if_pos (appE_fits.1 ce)]
        rw [eL] at HR7 HSU7
        clear ce eL
        go_wp2_with ((with_reducible refine gate_builtin (b := .append) (xs := #[.tmp 89, .tmp 91]) rfl ?_); at_builtin; refine Kd.R_append (Kd.slice 5 (Kd.int .u8)) (w0 := w) w.heap.size rfl (.tmp 89) (.tmp 91) 22 28 (.slice none 0 0) 24 rfl Try.underlying22 info28' rfl (by decide) (by omega) (.slice AL nL cL) L b [.slice A5 nb c5] (fun _ => True) (fun k => True ∧ some k ≠ (Value.slice AL nL cL).ownBlock) rfl rfl ?aP (fun _ hk => hk) (fun _ _ => trivial) HAL7.out HB7.out HB7.out.size (by have := HNL.out; have := HLT.out; have := HN.out; have := HL.out; omega) ?_; (case aP => exact ⟨_, rfl, R_types' HO7.out (fun k hk => own28 HAL7.out k hk) (by decide)⟩); intro v8 w8 ho8 hb8 hg8 hat8; have HAL8 := Aside0.mk ho8; have HB8 := Aside0.mk hb8; have HR8 := Aside0.mk (HR7.out.grown hg8 (fun k hk => HAP7.out k hk) (fun k cells hk hc => by obtain ⟨cells2, h2⟩ := own28 HAL7.out k hk; exact absurd (blk_type hc h2) (by decide))); have HAP8 := Aside0.mk (show ∀ k, v8.ownBlock = some k → ¬ (InD D gS A7 k ∨ InW Wb vL7 k) from fun k hk hi => by rcases hat8 with e | ⟨k', e, hge⟩; exact HAP7.out k (e ▸ hk) hi; rw [e] at hk; cases hk; obtain ⟨_, cs, t, _, hh⟩ := HR7.out.own k hi; have := blk_lt hh; omega); clear ho8 hb8 hg8 hat8; obtain ⟨A8, c8, e8⟩ := Kd.R_slice HAL8.out; rw [List.length_append, List.length_singleton, ← HNL.out.1] at e8; subst e8)
        go_roundg k1
        case measure => omega
        case rel =>
          refine ⟨j + 1, q + 2001, _, u0, sure, _, _, _, _, _, _, A8, nL + 1, c8, rfl, rfl, ?_, ⟨by have := HJ.out; omega⟩, ⟨by have := HQ.out; omega⟩, ⟨by rw [List.length_append, List.length_singleton, ← HNL.out.1], by have := HNL.out; omega⟩, HSU7, ⟨HR8.out.monoq (by omega)⟩, HAL8, HAP8, HB8⟩
          exact congrArg (Value.int .i64) (widx (by have := HLT.out; have := HN.out; have := HL.out; omega))
      have q8 : (appE m u b == 0) = false := beq_eq_false_iff_ne.mpr ce
      have eL : appL m u L b = L := by rw [appL, if_neg (fun h => ce (appE_fits.2 h))]
      rw [eL] at HR7 HSU7
      clear ce eL
      go_wp2_with fail
      go_roundg k1
      case measure => omega
      case rel =>
        refine ⟨j + 1, q + 2001, _, u0, sure, _, _, _, _, _, _, AL, nL, cL, rfl, rfl, ?_, ⟨by have := HJ.out; omega⟩, ⟨by have := HQ.out; omega⟩, ⟨HNL.out.1, by have := HNL.out; omega⟩, HSU7, ⟨HR7.out.monoq (by omega)⟩, HAL7, HAP7, HB7⟩
        exact congrArg (Value.int .i64) (widx (by have := HLT.out; have := HN.out; have := HL.out; omega))
    · have p1 : decide ((j : Int) < (N : Int)) = false := decide_eq_false (by omega)
      have p1' : decide (j < N) = false := decide_eq_false hlt
      have HJN := Aside0.mk (show j = N by have := HJ.out; omega)
      have HM5 := Aside0.mk (show m ≤ 512 by have := HM.out; omega)
      have HQ5 := Aside0.mk (show q ≤ 100000 by have := HQ.out; have := HJN.out; have := HN.out; have := HL.out; omega)
      clear hlt
      by_cases cw : l2.length = 0
      · have p5 : ((l2.length : Int) == 0) = true := beq_iff_eq.mpr (by omega)
        have p6 : (l2.length == 0) = true := beq_iff_eq.mpr cw
        clear cw
        go_wp2_with fail
        refine (real_sync w.heap.size D gS m q Wb u cW A vL S W L wr HR.out (by have := HQ5.out; omega)).mono ?_
        rintro x w6 ⟨rfl, hr6, ht6⟩
        have HR6 := Aside0.mk hr6
        have HSU6 := Aside0.mk (show Sure m u u nL (applyW S W) [] L by rw [HNL.out.1]; exact Sure.sync (u0 := 0) (sure := 0) HR.out.log)
        have HAL6 := Aside0.mk (HR.out.row28 ht6 HAL.out HAP.out)
        have HB6 := Aside0.mk (HR.out.bel ht6 HB.out (Nat.le_refl _))
        clear hr6 ht6
        obtain ⟨kk, hk1, hk2, hop⟩ := keeps_open HSU6.out HR6.out.log kp torn (clampB_le bytes)
        obtain ⟨S9, hS9⟩ : ∃ S9, S9 = crashW kp torn (clampB bytes) (applyW S W) [] ([] : List (Int × List Int)).length := ⟨_, rfl⟩
        have HOP := Aside0.mk (show openF S9 = (L.take kk, (secsF (L.take kk)).length) by rw [hS9]; exact hop)
        have HPC := Aside0.mk (show Parts m ((q + 1) + 1) S9 [] by rw [hS9]; exact HR6.out.p.crash kp torn (clampB_le bytes))
        have HBS9 := Aside0.mk (show ∀ s ∈ S9, Bs s by rw [hS9]; exact crashW_bs (HSU6.out.bs HR6.out.bs).1 (HSU6.out.bs HR6.out.bs).2 _)
        have HKK := Aside0.mk (show nL ≤ kk ∧ kk ≤ L.length from ⟨hk1, hk2⟩)
        have HS9 := Aside0.mk hS9
        clear hop hk1 hk2 hS9
        go_wp2_with fail
        refine (crash_tot w.heap.size D gS cW m (q + 1) A A2 c2 (applyW S W) [] kp torn bytes w6 HR6.out.d HR6.out.p (by have := HQ5.out; omega) (Kd.F_mono (Kd.F_below (Kd.C_F Kd.heap_bool HR2.out) HB6.out) (fun k hk => by have := HR6.out.d.base.2.1; omega))).mono ?_
        rintro x w9 ⟨rfl, hd9, ht9⟩
        rw [← HS9.out] at hd9
        have HD9 := Aside0.mk hd9
        have HAL9 := Aside0.mk (HR6.out.row28 (ht9.toP.mono (fun k _ hk => .inl hk)) HAL6.out HAP.out)
        have HB9 := Aside0.mk (ht9.toP.bel HB6.out HR6.out.size (fun k hk => (HR6.out.own k (.inl hk)).1))
        clear hd9 ht9
        go_wp2_with fail
        refine (open_walk w.heap.size D gS cW m ((q + 1) + 1) A S9 [] w9 HD9.out HPC.out HM5.out (by have := HQ5.out; omega) HBS9.out).mono ?_
        rintro x w10 ⟨Wb10, vL10, A10, cW10, rfl, hd10, hl10, ht10, _⟩
        rw [show applyW S9 [] = S9 from rfl, HOP.out] at hl10
        have HL10 := Aside0.mk (hl10.lower HD9.out.base.2.2.2)
        have HAL10 := Aside0.mk (rows_keep HAL9.out HD9.out ht10 (fun k hk hi => HAP.out k hk (.inl hi)))
        have HB10 := Aside0.mk (ht10.bel HB9.out HD9.out.base.2.2.2 (fun k hk => (HD9.out.inD hk).1))
        have HLn := Aside0.mk (show (L.take kk).length ≤ 1000000 by rw [List.length_take]; have := HNL.out; have := HJN.out; have := HN.out; have := HL.out; omega)
        have HLk := Aside0.mk (show ∀ b ∈ L.take kk, b.length ≤ 1024 from fun b hb => HR6.out.log.few b (List.mem_of_mem_take hb))
        clear hd10 hl10 ht10
        go_wp2_with fail
        refine (records_walk 66 w.heap.size Wb10 D _ vL10 _ w10 HL10.out HLn.out HLk.out).mono ?_
        rintro x w11 ⟨v11, rfl, ho11, hb11⟩
        obtain ⟨A11, c11, e11⟩ := Kd.R_slice ho11
        rw [List.length_take, Nat.min_eq_left HKK.out.2] at e11
        subst e11
        have HX11 := Aside0.mk (Kd.R_reads' ho11)
        have HB11 := Aside0.mk (below_then HB10.out HB10.out.size hb11)
        have HAL11 := Aside0.mk (Kd.R_reads' (Kd.R_below HAL10.out hb11))
        clear ho11 hb11
        have r1 : decide ((kk : Int) < (nL : Int)) = false := decide_eq_false (by have := HKK.out.1; omega)
        have r2 : decide ((kk : Int) > (nL : Int)) = false := decide_eq_false (by have := HKK.out.2; have := HNL.out; omega)
        have r3 : decide (kk < nL) = false := decide_eq_false (by have := HKK.out.1; omega)
        have r4 : decide (nL < kk) = false := decide_eq_false (by have := HKK.out.2; have := HNL.out; omega)
        obtain ⟨i28, hi28, _⟩ := info28b
        have hcut := cut_to (P := Try.prog) 22 28 .i64 Try.underlying22 hi28 AL nL cL (kk : Int) (by omega) (by have := HKK.out.2; have := HNL.out; omega) HAL11.out.2.1
        rw [Int.toNat_natCast] at hcut
        obtain ⟨ks, hks⟩ := same_k (L.take kk) (by have := HLn.out; omega)
        go_wp2_with fail
        refine (calls_of_args (by rw [List.length_take, Nat.min_eq_left HKK.out.2]) (colloquyref20_Same.calls ks A11 c11 (L.take kk) AL cL (L.take kk) true w11 HX11.out.2.2 (by have := HX11.out.2.1; rw [List.length_take]; omega) (Kd.C_take HAL11.out.2.2 HKK.out.2) (by have := HAL11.out.2.1; have := HNL.out; have := HKK.out; rw [List.length_take]; omega) hks)).mono ?_
        rintro x w12 ⟨rfl, ⟨q12, hw12⟩⟩
        have HB12 := Aside0.mk (show Below w.heap.size w w12 by rw [hw12]; exact pw_below_drewN HB11.out _)
        clear hw12 hks
        go_wp2
        go_ret
        exact ⟨rfl, HB12.out⟩
      have p5 : ((l2.length : Int) == 0) = false := beq_eq_false_iff_ne.mpr (by omega)
      have p6 : (l2.length == 0) = false := beq_eq_false_iff_ne.mpr cw
      clear cw
      obtain ⟨kk, hk1, hk2, hop⟩ := keeps_open HSU.out HR.out.log kp torn (clampB_le bytes)
      obtain ⟨S9, hS9⟩ : ∃ S9, S9 = crashW kp torn (clampB bytes) S W (W : List (Int × List Int)).length := ⟨_, rfl⟩
      have HOP := Aside0.mk (show openF S9 = (L.take kk, (secsF (L.take kk)).length) by rw [hS9]; exact hop)
      have HPC := Aside0.mk (show Parts m (q + 1) S9 [] by rw [hS9]; exact HR.out.p.crash kp torn (clampB_le bytes))
      have HBS9 := Aside0.mk (show ∀ s ∈ S9, Bs s by rw [hS9]; exact crashW_bs (HSU.out.bs HR.out.bs).1 (HSU.out.bs HR.out.bs).2 _)
      have HKK := Aside0.mk (show sure ≤ kk ∧ kk ≤ L.length from ⟨hk1, hk2⟩)
      have HS9 := Aside0.mk hS9
      clear hop hk1 hk2 hS9
      go_wp2_with fail
      refine (crash_tot w.heap.size D gS cW m q A A2 c2 S W kp torn bytes wr HR.out.d HR.out.p (by have := HQ5.out; omega) (Kd.F_mono (Kd.F_below (Kd.C_F Kd.heap_bool HR2.out) HB.out) (fun k hk => by have := HR.out.d.base.2.1; omega))).mono ?_
      rintro x w9 ⟨rfl, hd9, ht9⟩
      rw [← HS9.out] at hd9
      have HD9 := Aside0.mk hd9
      have HAL9 := Aside0.mk (HR.out.row28 (ht9.toP.mono (fun k _ hk => .inl hk)) HAL.out HAP.out)
      have HB9 := Aside0.mk (ht9.toP.bel HB.out HR.out.size (fun k hk => (HR.out.own k (.inl hk)).1))
      clear hd9 ht9
      go_wp2_with fail
      refine (open_walk w.heap.size D gS cW m (q + 1) A S9 [] w9 HD9.out HPC.out HM5.out (by have := HQ5.out; omega) HBS9.out).mono ?_
      rintro x w10 ⟨Wb10, vL10, A10, cW10, rfl, hd10, hl10, ht10, _⟩
      rw [show applyW S9 [] = S9 from rfl, HOP.out] at hl10
      have HL10 := Aside0.mk (hl10.lower HD9.out.base.2.2.2)
      have HAL10 := Aside0.mk (rows_keep HAL9.out HD9.out ht10 (fun k hk hi => HAP.out k hk (.inl hi)))
      have HB10 := Aside0.mk (ht10.bel HB9.out HD9.out.base.2.2.2 (fun k hk => (HD9.out.inD hk).1))
      have HLn := Aside0.mk (show (L.take kk).length ≤ 1000000 by rw [List.length_take]; have := HNL.out; have := HJN.out; have := HN.out; have := HL.out; omega)
      have HLk := Aside0.mk (show ∀ b ∈ L.take kk, b.length ≤ 1024 from fun b hb => HR.out.log.few b (List.mem_of_mem_take hb))
      clear hd10 hl10 ht10
      go_wp2_with fail
      refine (records_walk 66 w.heap.size Wb10 D _ vL10 _ w10 HL10.out HLn.out HLk.out).mono ?_
      rintro x w11 ⟨v11, rfl, ho11, hb11⟩
      obtain ⟨A11, c11, e11⟩ := Kd.R_slice ho11
      rw [List.length_take, Nat.min_eq_left HKK.out.2] at e11
      subst e11
      have HX11 := Aside0.mk (Kd.R_reads' ho11)
      have HB11 := Aside0.mk (below_then HB10.out HB10.out.size hb11)
      have HAL11 := Aside0.mk (Kd.R_reads' (Kd.R_below HAL10.out hb11))
      clear ho11 hb11
      have r1 : decide ((kk : Int) < (sure : Int)) = false := decide_eq_false (by have := HKK.out.1; omega)
      have r2 : decide ((kk : Int) > (nL : Int)) = false := decide_eq_false (by have := HKK.out.2; have := HNL.out; omega)
      have r3 : decide (kk < sure) = false := decide_eq_false (by have := HKK.out.1; omega)
      have r4 : decide (nL < kk) = false := decide_eq_false (by have := HKK.out.2; have := HNL.out; omega)
      obtain ⟨i28, hi28, _⟩ := info28b
      have hcut := cut_to (P := Try.prog) 22 28 .i64 Try.underlying22 hi28 AL nL cL (kk : Int) (by omega) (by have := HKK.out.2; have := HNL.out; omega) HAL11.out.2.1
      rw [Int.toNat_natCast] at hcut
      obtain ⟨ks, hks⟩ := same_k (L.take kk) (by have := HLn.out; omega)
      go_wp2_with fail
      refine (calls_of_args (by rw [List.length_take, Nat.min_eq_left HKK.out.2]) (colloquyref20_Same.calls ks A11 c11 (L.take kk) AL cL (L.take kk) true w11 HX11.out.2.2 (by have := HX11.out.2.1; rw [List.length_take]; omega) (Kd.C_take HAL11.out.2.2 HKK.out.2) (by have := HAL11.out.2.1; have := HNL.out; have := HKK.out; rw [List.length_take]; omega) hks)).mono ?_
      rintro x w12 ⟨rfl, ⟨q12, hw12⟩⟩
      have HB12 := Aside0.mk (show Below w.heap.size w w12 by rw [hw12]; exact pw_below_drewN HB11.out _)
      clear hw12 hks
      go_wp2
      go_ret
      exact ⟨rfl, HB12.out⟩
def okRows (l : List (List Int)) : Bool := okBs l && l.all (fun b => decide (b.length ≤ 140737488351232))
theorem okRows_iff {l : List (List Int)} : okRows l = true ↔ (∀ b ∈ l, Bs b) ∧ ∀ b ∈ l, b.length ≤ 140737488351232 := by
  unfold okRows
  rw [Bool.and_eq_true, okBs_iff, List.all_eq_true]
  simp only [decide_eq_true_eq]
def colloquylaw20_WalKeeps.f (a0 : Int) (l1 : List (List Int)) (l2 : List (List Int)) (l3 : List Bool) (a4 : Int) (a5 : Int) : Option Bool := if okRows (l1 ++ l2) = true then some true else none
theorem colloquylaw20_WalKeeps.calls (a0 : Int) (A1 : Option Addr) (c1 : Nat) (l1 : List (List Int)) (A2 : Option Addr) (c2 : Nat) (l2 : List (List Int)) (A3 : Option Addr) (c3 : Nat) (l3 : List Bool) (a4 : Int) (a5 : Int) (r : Bool) (w : World) (hr1 : Kd.C (Kd.slice 5 (Kd.int .u8)) w A1 l1.length l1) (hr2 : Kd.C (Kd.slice 5 (Kd.int .u8)) w A2 l2.length l2) (hr3 : Kd.C Kd.bool w A3 l3.length l3) (h : colloquylaw20_WalKeeps.f a0 l1 l2 l3 a4 a5 = some r) :
    Calls Try.prog 7 #[.int .i64 a0, .slice A1 l1.length c1, .slice A2 l2.length c2, .slice A3 l3.length c3, .int .i64 a4, .int .i64 a5] w fun e w' => e = .returned (.bool r) ∧ Below w.heap.size w w' := by
  unfold colloquylaw20_WalKeeps.f at h
  by_cases c : okRows (l1 ++ l2) = true
  · rw [if_pos c] at h
    obtain rfl := Option.some.inj h
    obtain ⟨h1, h2⟩ := okRows_iff.1 c
    by_cases hn : a0 ≤ 100
    · by_cases hl : l1.length ≤ 20
      · by_cases hl2 : l2.length ≤ 20
        · by_cases hk : l3.length ≤ 100
          · exact WalKeeps_in a0 A1 c1 l1 A2 c2 l2 A3 c3 l3 a4 a5 w hr1 hr2 hr3 hn hl hl2 hk h1 h2
          · exact WalKeeps_out4 a0 A1 c1 l1 A2 c2 l2 A3 c3 l3 a4 a5 w hr1 hr2 hr3 hn hl hl2 (by omega)
        · exact WalKeeps_out3 a0 A1 c1 l1 A2 c2 l2 A3 c3 l3 a4 a5 w hr1 hr2 hr3 hn hl (by omega)
      · exact WalKeeps_out2 a0 A1 c1 l1 A2 c2 l2 A3 c3 l3 a4 a5 w hr1 hr2 hr3 hn (by omega)
    · exact WalKeeps_out1 a0 A1 c1 l1 A2 c2 l2 A3 c3 l3 a4 a5 w hr1 hr2 hr3 (by omega)
  · rw [if_neg c] at h; cases h
end Go.Proofs.Ytoafbpbnlmcklaa.PAll

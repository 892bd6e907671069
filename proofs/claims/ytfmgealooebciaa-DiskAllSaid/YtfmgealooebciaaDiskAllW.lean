/- DiskAll over three disks in memory. Printed by wip/tools/genall.py. -/
import Derived.Test.YtfmgealooebciaaDiskTotal
import Derived.Test.YtfmgealooebciaaHeldOrd
import Derived.StillTailTactics
namespace Go.Proofs.Ytfmgealooebciaa.PAll
open Go.RowKit Go.Proofs.YtfmgealooebciaaW.PrintWords Go.Proofs.YtfmgealooebciaaW.PrintLast Go.Proofs.YtfmgealooebciaaW.PrintMore
set_option linter.unusedVariables false
set_option linter.unusedSimpArgs false
theorem info4 : (Try.prog.info? 4).map (fun i => (i.zero, i.size, i.bytes)) = some (some (.bool false), 1, 1) := by kernel_rfl
theorem readE_apply (S : List (List Int)) (W : List (Int × List Int)) (i : Int) : readE (applyW S W) i = readE S i := by
  unfold readE; rw [applyW_len]
/-- The disks' rows are none of the keeps'. -/
theorem DiskAt.row4 {base D gS cW : Nat} {A : Option Addr} {S : List (List Int)} {W : List (Int × List Int)} {w w' : World} {base2 : Nat} {ok : Nat → Prop} {v : Value} {xs : List Bool} (h : DiskAt base D gS A cW S W w) (hk : Kd.R Kd.bool 4 w base2 ok v xs) (hg : w.grownBy w' v.ownBlock) : DiskAt base D gS A cW S W w' :=
  h.move (fun k hk1 => by
    obtain ⟨_, cs, t, ht, hh⟩ := h.inD hk1
    refine hg.block k (blk_lt hh) (Kd.R_ne hk hh ?_)
    rcases ht with rfl | rfl | rfl <;> decide)
theorem Touch.row4 {base D gS cW : Nat} {A : Option Addr} {S : List (List Int)} {W : List (Int × List Int)} {w w' : World} {base2 : Nat} {ok : Nat → Prop} {v : Value} {xs : List Bool} (h : DiskAt base D gS A cW S W w) (ht : Touch D gS A w w') (hk : Kd.R Kd.bool 4 w base2 ok v xs) : Kd.R Kd.bool 4 w' base2 ok v xs := by
  refine Kd.R_mono (Kd.R_move (Kd.R_bound hk) (fun k hk1 => ?_)) (fun _ hk1 => hk1.1)
  obtain ⟨_, _, hlt, q, hq, cells, hc⟩ := hk1
  have e : q = 4 := by
    rcases List.mem_cons.1 hq with h1 | h1
    · exact h1
    · cases h1
  subst e
  refine ht.keep hlt (fun hin => ?_)
  obtain ⟨_, cs, t, ht, hh⟩ := h.inD hin
  rw [hh] at hc
  injection hc with hc
  injection hc with _ hc
  rcases ht with rfl | rfl | rfl <;> exact absurd hc (by decide)
theorem keep_F {base2 n cc gS : Nat} {ok : Nat → Prop} {Ak : Option Addr} {xs : List Bool} {cS : Array Value} {w : World} (hk : Kd.R Kd.bool 4 w base2 ok (.slice Ak n cc) xs) (hS : w.heap[gS]? = some (.cells cS 54 (0, 0))) : Kd.F Kd.bool w (fun k => k ≠ gS) Ak n xs :=
  Kd.F_mono (Kd.R_F (Kd.R_types hk hS (fun q hq => by
    rcases List.mem_cons.1 hq with h1 | h1
    · subst h1; decide
    · cases h1))) (fun k h => h.2)
theorem trues_get (n j : Nat) (h : j < n) : (List.replicate n true).getD j false = true := by
  rw [List.getD_eq_getElem?_getD, List.getElem?_replicate, if_pos h]; rfl
set_option maxHeartbeats 2000000 in
set_option maxRecDepth 100000 in
theorem all_other (n : Int) (A0 : Option Addr) (c0 : Nat) (l : List S33) (at_ : Int) (w : World) (hr0 : Kd.C k33 w A0 l.length l) (hc0 : l.length ≤ c0) (hf : colloquylaw19_few.f 61 l = some false) : Calls Try.prog 6 #[.int .i64 n, .slice A0 l.length c0, .int .i64 at_] w fun x w' => x = .returned (.bool true) ∧ Below w.heap.size w w' := by
  have HR0 := Aside0.mk hr0
  have HF := Aside0.mk hf
  clear hr0 hf
  go_enter Try.func6, Try.ntmps6
  go_wp2_with fail
  refine (awake_walk w).mono ?_
  rintro x w1 ⟨rfl, hb1⟩
  have HB1 := Aside0.mk hb1
  clear hb1
  go_wp2_with fail
  refine (colloquylaw19_few.calls 61 A0 c0 l false w1 (Kd.C_below HR0.out HB1.out) hc0 HF.out).mono ?_
  rintro x w2 ⟨rfl, ⟨q2, hw2⟩⟩
  have HB2 := Aside0.mk (show Below w.heap.size w w2 by rw [hw2]; exact pw_below_drewN HB1.out _)
  clear hw2 HB1
  go_wp2_with fail
  refine (new_tot n w2).mono ?_
  rintro x w3 ⟨Da, Sa, rfl, hda, hb3⟩
  have HDa := Aside0.mk (hda.lower HB2.out.size)
  have HB3 := Aside0.mk (below_then HB2.out HB2.out.size hb3)
  clear hda hb3
  go_wp2_with fail
  refine (new_tot n w3).mono ?_
  rintro x w4 ⟨Db, Sb, rfl, hdb, hb4⟩
  have HAPab := Aside0.mk (Apart.of_base HDa.out hdb (Nat.le_refl _))
  have HDa4 := Aside0.mk (HDa.out.below hb4)
  have HDb4 := Aside0.mk (hdb.lower HB3.out.size)
  have HB4 := Aside0.mk (below_then HB3.out HB3.out.size hb4)
  clear hdb hb4 HDa
  go_wp2_with fail
  refine (new_tot n w4).mono ?_
  rintro x w5 ⟨Dc, Sc, rfl, hdc, hb5⟩
  have HAPac := Aside0.mk (Apart.of_base HDa4.out hdc (Nat.le_refl _))
  have HAPbc := Aside0.mk (Apart.of_base HDb4.out hdc (Nat.le_refl _))
  have HDa5 := Aside0.mk (HDa4.out.below hb5)
  have HDb5 := Aside0.mk (HDb4.out.below hb5)
  have HDc5 := Aside0.mk (hdc.lower HB4.out.size)
  have HB5 := Aside0.mk (below_then HB4.out HB4.out.size hb5)
  clear hdc hb5 HDa4 HDb4 HB2 HB3 HB4
  go_wp2
  go_ret
  exact ⟨rfl, HB5.out⟩
set_option maxHeartbeats 16000000 in
set_option maxRecDepth 100000 in
theorem all_few (n : Int) (A0 : Option Addr) (c0 : Nat) (l : List S33) (at_ : Int) (w : World) (hr0 : Kd.C k33 w A0 l.length l) (hc0 : l.length ≤ c0) (hf : colloquylaw19_few.f 61 l = some true) (hl : l.length ≤ 60) : Calls Try.prog 6 #[.int .i64 n, .slice A0 l.length c0, .int .i64 at_] w fun x w' => x = .returned (.bool true) ∧ Below w.heap.size w w' := by
  have HL := Aside0.mk hl
  clear hl
  have HR0 := Aside0.mk hr0
  have HF := Aside0.mk hf
  clear hr0 hf
  go_enter Try.func6, Try.ntmps6
  go_wp2_with fail
  refine (awake_walk w).mono ?_
  rintro x w1 ⟨rfl, hb1⟩
  have HB1 := Aside0.mk hb1
  clear hb1
  go_wp2_with fail
  refine (colloquylaw19_few.calls 61 A0 c0 l true w1 (Kd.C_below HR0.out HB1.out) hc0 HF.out).mono ?_
  rintro x w2 ⟨rfl, ⟨q2, hw2⟩⟩
  have HB2 := Aside0.mk (show Below w.heap.size w w2 by rw [hw2]; exact pw_below_drewN HB1.out _)
  clear hw2 HB1
  go_wp2_with fail
  refine (new_tot n w2).mono ?_
  rintro x w3 ⟨Da, Sa, rfl, hda, hb3⟩
  have HDa := Aside0.mk (hda.lower HB2.out.size)
  have HB3 := Aside0.mk (below_then HB2.out HB2.out.size hb3)
  clear hda hb3
  go_wp2_with fail
  refine (new_tot n w3).mono ?_
  rintro x w4 ⟨Db, Sb, rfl, hdb, hb4⟩
  have HAPab := Aside0.mk (Apart.of_base HDa.out hdb (Nat.le_refl _))
  have HDa4 := Aside0.mk (HDa.out.below hb4)
  have HDb4 := Aside0.mk (hdb.lower HB3.out.size)
  have HB4 := Aside0.mk (below_then HB3.out HB3.out.size hb4)
  clear hdb hb4 HDa
  go_wp2_with fail
  refine (new_tot n w4).mono ?_
  rintro x w5 ⟨Dc, Sc, rfl, hdc, hb5⟩
  have HAPac := Aside0.mk (Apart.of_base HDa4.out hdc (Nat.le_refl _))
  have HAPbc := Aside0.mk (Apart.of_base HDb4.out hdc (Nat.le_refl _))
  have HDa5 := Aside0.mk (HDa4.out.below hb5)
  have HDb5 := Aside0.mk (HDb4.out.below hb5)
  have HDc5 := Aside0.mk (hdc.lower HB4.out.size)
  have HB5 := Aside0.mk (below_then HB4.out HB4.out.size hb5)
  clear hdc hb5 HDa4 HDb4 HB2 HB3 HB4
  obtain ⟨m, hm⟩ : ∃ m, m = clampN n := ⟨_, rfl⟩
  rw [← hm] at HDa5 HDb5 HDc5
  clear hm
  go_wp2
  go_loopg [12, 13] l.length (fun kq v12 v13 w' => ∃ (j : Nat) (W : List (Int × List Int)) (Aa : Option Addr) (ca : Nat) (Ab : Option Addr) (cb : Nat) (Ac : Option Addr) (cc : Nat) (Ak : Option Addr) (ck : Nat), v12 = .slice Ak j ck ∧ v13 = .int .i64 (j : Int) ∧ Aside0 (j + kq = l.length) ∧ Aside0 (DiskAt w.heap.size Da Sa Aa ca (List.replicate m zeroS) W w') ∧ Aside0 (DiskAt w.heap.size Db Sb Ab cb (List.replicate m zeroS) W w') ∧ Aside0 (DiskAt w.heap.size Dc Sc Ac cc (List.replicate m zeroS) W w') ∧ Aside0 (Apart Da Sa Aa Db Sb Ab ∧ Apart Da Sa Aa Dc Sc Ac ∧ Apart Db Sb Ab Dc Sc Ac) ∧ Aside0 (Parts m j (List.replicate m zeroS) W) ∧ Aside0 (Kd.R Kd.bool 4 w' w.heap.size (fun _ => True) (.slice Ak j ck) (List.replicate j true)) ∧ Aside0 (Below w.heap.size w w'))
  case atStart => exact ⟨0, [], none, 0, none, 0, none, 0, none, 0, rfl, rfl, ⟨by omega⟩, HDa5, HDb5, HDc5, ⟨HAPab.out, HAPac.out, HAPbc.out⟩, ⟨Parts.new m⟩, ⟨Kd.R_nil _ _ _ _ _⟩, HB5⟩
  case round =>
    obtain ⟨j, W, Aa, ca, Ab, cb, Ac, cc, Ak, ck, rfl, rfl, HJ, HDa, HDb, HDc, HAP, HP, HK, HB⟩ := hrel
    by_cases hlt : j < l.length
    · obtain ⟨ad, AB, cB, AK, cK, e, hx0, hx1, hx2, hx3, hx4, hx5, hlB, hiB, hlK, hiK⟩ := at_T33 HR0.out (j : Int) (by omega) (by omega)
      cases e
      obtain ⟨o, ho⟩ : ∃ o, o = rd_T33 l (j : Int) := ⟨_, rfl⟩
      rw [← ho] at hx0 hx1 hx2 hx3 hx4 hx5 hlB hiB hlK hiK
      rw [Int.toNat_natCast] at hx0 hx1 hx2 hx3 hx4 hx5
      have HX1 := Aside0.mk hx1
      have HX2 := Aside0.mk hx2
      have HIB := Aside0.mk hiB
      have HLB := Aside0.mk hlB
      have HLT := Aside0.mk hlt
      clear ho hx0 hx1 hx2 hx3 hx4 hx5 hlB hiB hlK hiK
      have p1 : decide ((j : Int) < (l.length : Int)) = true := decide_eq_true (by omega)
      have p2 := eq_true (show 0 ≤ (j : Int) by omega)
      have p3 := eq_true (show (j : Int) < (l.length : Int) by omega)
      have HWn := Aside0.mk (show W.length < 1099511627776 by have := HP.out.few; have := HL.out; omega)
      obtain ⟨k1, rfl⟩ : ∃ k1, gk = k1 + 1 := ⟨gk - 1, by have := HJ.out; omega⟩
      clear hlt
      have HKc := HK
      have HBd0 := Aside0.mk (below_drew HB.out)
      have y1 := kfact HX1.out HB.out
      have y2 := kfact HX2.out HB.out
      have z1 := kfact HX1.out HBd0.out
      have z2 := kfact HX2.out HBd0.out
      have HDad := Aside0.mk (HDa.out.below (below_drew (Below.refl _ _)))
      have HDbd := Aside0.mk (HDb.out.below (below_drew (Below.refl _ _)))
      have HDcd := Aside0.mk (HDc.out.below (below_drew (Below.refl _ _)))
      have HKd0 := Aside0.mk (Kd.R_below HKc.out (below_drew (Below.refl _ _)))
      go_wp2_with fail
      go_still_tail 11, (by kernel_rfl)
      change wpList _ _ _ _ _ wr.drew
      go_wp2_with fail
      refine (write_walk w.heap.size Da Sa ca Aa AB (List.replicate m zeroS) W o.f1 o.f2 _ cB _ HDad.out HWn.out (Kd.C_below HIB.out HBd0.out) HLB.out).mono ?_
      rintro x v1 ⟨rfl, Ana, cna, hd6, ht6, hg6⟩
      have HDa0 := Aside0.mk hd6
      have HDb0 := Aside0.mk (HDbd.out.touch ht6 (Apart.symm HAP.out.1))
      have HDc0 := Aside0.mk (HDcd.out.touch ht6 (Apart.symm HAP.out.2.1))
      have HAPab := Aside0.mk (Apart.grow HAP.out.1 HDbd.out hg6)
      have HAPac := Aside0.mk (Apart.grow HAP.out.2.1 HDcd.out hg6)
      have HK0 := Aside0.mk (ht6.row4 HDad.out HKd0.out)
      have HB0 := Aside0.mk (ht6.bel' HBd0.out HDad.out (Nat.le_refl _))
      clear hd6 ht6 hg6 y1 y2 z1 z2 HBd0 HKd0 HDad HDbd HDcd
      have HBd1 := Aside0.mk (below_drew HB0.out)
      have y1 := kfact HX1.out HB0.out
      have y2 := kfact HX2.out HB0.out
      have z1 := kfact HX1.out HBd1.out
      have z2 := kfact HX2.out HBd1.out
      have HDbd := Aside0.mk (HDb0.out.below (below_drew (Below.refl _ _)))
      have HDad := Aside0.mk (HDa0.out.below (below_drew (Below.refl _ _)))
      have HDcd := Aside0.mk (HDc0.out.below (below_drew (Below.refl _ _)))
      have HKd1 := Aside0.mk (Kd.R_below HK0.out (below_drew (Below.refl _ _)))
      go_wp2_with fail
      go_still_tail 11, (by kernel_rfl)
      change wpList _ _ _ _ _ v1.drew
      go_wp2_with fail
      refine (write_walk w.heap.size Db Sb cb Ab AB (List.replicate m zeroS) W o.f1 o.f2 _ cB _ HDbd.out HWn.out (Kd.C_below HIB.out HBd1.out) HLB.out).mono ?_
      rintro x v2 ⟨rfl, Anb, cnb, hd6, ht6, hg6⟩
      have HDb1 := Aside0.mk hd6
      have HDa1 := Aside0.mk (HDad.out.touch ht6 HAPab.out)
      have HDc1 := Aside0.mk (HDcd.out.touch ht6 (Apart.symm HAP.out.2.2))
      have HAPba := Aside0.mk (Apart.grow (Apart.symm HAPab.out) HDad.out hg6)
      have HAPbc := Aside0.mk (Apart.grow HAP.out.2.2 HDcd.out hg6)
      have HK1 := Aside0.mk (ht6.row4 HDbd.out HKd1.out)
      have HB1 := Aside0.mk (ht6.bel' HBd1.out HDbd.out (Nat.le_refl _))
      clear hd6 ht6 hg6 y1 y2 z1 z2 HBd1 HKd1 HDbd HDad HDcd
      have HBd2 := Aside0.mk (below_drew HB1.out)
      have y1 := kfact HX1.out HB1.out
      have y2 := kfact HX2.out HB1.out
      have z1 := kfact HX1.out HBd2.out
      have z2 := kfact HX2.out HBd2.out
      have HDcd := Aside0.mk (HDc1.out.below (below_drew (Below.refl _ _)))
      have HDad := Aside0.mk (HDa1.out.below (below_drew (Below.refl _ _)))
      have HDbd := Aside0.mk (HDb1.out.below (below_drew (Below.refl _ _)))
      have HKd2 := Aside0.mk (Kd.R_below HK1.out (below_drew (Below.refl _ _)))
      go_wp2_with fail
      go_still_tail 11, (by kernel_rfl)
      change wpList _ _ _ _ _ v2.drew
      go_wp2_with fail
      refine (write_walk w.heap.size Dc Sc cc Ac AB (List.replicate m zeroS) W o.f1 o.f2 _ cB _ HDcd.out HWn.out (Kd.C_below HIB.out HBd2.out) HLB.out).mono ?_
      rintro x v3 ⟨rfl, Anc, cnc, hd6, ht6, hg6⟩
      have HDc2 := Aside0.mk hd6
      have HDa2 := Aside0.mk (HDad.out.touch ht6 HAPac.out)
      have HDb2 := Aside0.mk (HDbd.out.touch ht6 HAPbc.out)
      have HAPca := Aside0.mk (Apart.grow (Apart.symm HAPac.out) HDad.out hg6)
      have HAPcb := Aside0.mk (Apart.grow (Apart.symm HAPbc.out) HDbd.out hg6)
      have HK2 := Aside0.mk (ht6.row4 HDcd.out HKd2.out)
      have HB2 := Aside0.mk (ht6.bel' HBd2.out HDcd.out (Nat.le_refl _))
      clear hd6 ht6 hg6 y1 y2 z1 z2 HBd2 HKd2 HDcd HDad HDbd
      go_wp2_with ((with_reducible refine gate_builtin (b := .append) (xs := #[.tmp 102, .tmp 103]) rfl ?_); at_builtin; refine Kd.R_append Kd.bool (w0 := w) w.heap.size rfl (.tmp 102) (.tmp 103) 31 4 (.bool false) 1 rfl Try.underlying31 info4 rfl (by decide) (by omega) (.slice Ak j ck) (List.replicate j true) true [.bool true] (fun _ => True) (fun _ => False) rfl rfl ?aP (fun _ hk => hk.elim) (fun k hk => trivial) HK2.out HB2.out HB2.out.size (by have := HLT.out; have := HL.out; rw [List.length_replicate]; omega) ?_; (case aP => exact rfl); intro v8 w8 ho hb8 hg8 hat8; have HDa8 := Aside0.mk (HDa2.out.row4 HK2.out hg8); have HDb8 := Aside0.mk (HDb2.out.row4 HK2.out hg8); have HDc8 := Aside0.mk (HDc2.out.row4 HK2.out hg8); obtain ⟨A8, c8, e8⟩ := Kd.R_slice ho; subst e8; have K8 := Aside0.mk ho; have B8 := Aside0.mk hb8; clear ho hb8 hg8 hat8)
      go_roundg k1
      case measure => omega
      case rel =>
        refine ⟨j + 1, _, _, _, _, _, _, _, A8, c8, ?_, ?_, ⟨by have := HJ.out; omega⟩, HDa8, HDb8, HDc8, ⟨(Apart.symm HAPba.out), (Apart.symm HAPca.out), (Apart.symm HAPcb.out)⟩, ⟨HP.out.writeW o.f1 o.f2⟩, ⟨?_⟩, B8⟩
        · rfl
        · exact congrArg (Value.int .i64) (widx (by have := HLT.out; have := HL.out; omega))
        · have h8 := K8.out
          rw [List.length_append, List.length_replicate] at h8
          rw [List.replicate_succ']
          exact h8
    · obtain rfl : j = l.length := by have := HJ.out; omega
      have p1 : decide ((l.length : Int) < (l.length : Int)) = false := decide_eq_false (by omega)
      have HJn := Aside0.mk (show l.length < 1099511627776 by have := HL.out; omega)
      clear hlt
      go_wp2_with fail
      refine (sync_tot w.heap.size Da Sa ca m l.length Aa (List.replicate m zeroS) W wr HDa.out HP.out HJn.out).mono ?_
      rintro x u1 ⟨rfl, hd6, ht6⟩
      have HDa0 := Aside0.mk hd6
      have HDb0 := Aside0.mk (HDb.out.touch ht6 HAP.out.1.symm)
      have HDc0 := Aside0.mk (HDc.out.touch ht6 HAP.out.2.1.symm)
      have HK0 := Aside0.mk (ht6.row4 HDa.out HK.out)
      have HB0 := Aside0.mk (ht6.bel' HB.out HDa.out (Nat.le_refl _))
      clear hd6 ht6
      obtain ⟨cSb, hSb, _⟩ := HDb0.out.2.2.2.1
      have HSb := Aside0.mk hSb
      clear hSb
      have HLr := Aside0.mk (show (List.replicate l.length true).length = l.length from List.length_replicate)
      go_wp2_with fail
      refine (calls_of_args (by rw [HLr.out]) (crash_tot w.heap.size Db Sb cb m l.length Ab Ak ck (List.replicate m zeroS) W (List.replicate l.length true) 0 5 u1 HDb0.out HP.out HJn.out (by rw [HLr.out]; exact keep_F HK0.out HSb.out))).mono ?_
      rintro x u2 ⟨rfl, hd6, ht6⟩
      rw [crashW_all (fun q hq => trues_get _ _ (Nat.lt_of_lt_of_le hq HP.out.few)) W.length (Nat.le_refl _), List.take_length] at hd6
      have HDb1 := Aside0.mk hd6
      have HDa1 := Aside0.mk (HDa0.out.touch ht6 HAP.out.1)
      have HDc1 := Aside0.mk (HDc0.out.touch ht6 HAP.out.2.2.symm)
      have HB1 := Aside0.mk (ht6.bel' HB0.out HDb0.out (Nat.le_refl _))
      clear hd6 ht6
      go_wp2_with fail
      refine (crash_tot w.heap.size Dc Sc cc m l.length Ac none 0 (List.replicate m zeroS) W [] (-1) 16 u2 HDc1.out HP.out HJn.out (Kd.F_nil _ _ _)).mono ?_
      rintro x u3 ⟨rfl, hd6, ht6⟩
      rw [crashW_none (by decide)] at hd6
      have HDc2 := Aside0.mk hd6
      have HDa2 := Aside0.mk (HDa1.out.touch ht6 HAP.out.2.1)
      have HDb2 := Aside0.mk (HDb1.out.touch ht6 HAP.out.2.2)
      have HB2 := Aside0.mk (ht6.bel' HB1.out HDc1.out (Nat.le_refl _))
      clear hd6 ht6
      have HP1 := Aside0.mk HP.out.sync
      have HP2 := Aside0.mk (show Parts m (l.length + 1) (List.replicate m zeroS) [] from (Parts.new m).mono (by omega))
      have HJs := Aside0.mk (show l.length + 1 < 1099511627776 by have := HL.out; omega)
      go_wp2_with fail
      refine (read_walk w.heap.size Da Sa ca m (l.length + 1) Aa _ [] at_ u3 HDa2.out HP1.out HJs.out).mono ?_
      rintro x u4 ⟨v4, rfl, ho4, hb4⟩
      have HDb3 := Aside0.mk (HDb2.out.below hb4)
      have HDc3 := Aside0.mk (HDc2.out.below hb4)
      have HB3 := Aside0.mk (below_then HB2.out HB2.out.size hb4)
      have HO4 := Aside0.mk ho4
      clear ho4 hb4
      go_wp2_with fail
      refine (read_walk w.heap.size Db Sb cb m (l.length + 1) Ab _ [] at_ u4 HDb3.out HP1.out HJs.out).mono ?_
      rintro x u5 ⟨v5, rfl, ho5, hb5⟩
      have HO45 := Aside0.mk (Kd.R_below HO4.out hb5)
      have HDc4 := Aside0.mk (HDc3.out.below hb5)
      have HB4 := Aside0.mk (below_then HB3.out HB3.out.size hb5)
      have HO5 := Aside0.mk ho5
      clear ho5 hb5
      go_wp2_with fail
      refine (read_walk w.heap.size Dc Sc cc m (l.length + 1) Ac _ [] at_ u5 HDc4.out HP2.out HJs.out).mono ?_
      rintro x u6 ⟨v6, rfl, ho6, hb6⟩
      have HO46 := Aside0.mk (Kd.R_below HO45.out hb6)
      have HO56 := Aside0.mk (Kd.R_below HO5.out hb6)
      have HB5' := Aside0.mk (below_then HB4.out HB4.out.size hb6)
      have HO6 := Aside0.mk ho6
      clear ho6 hb6
      rw [readE_apply]
      have hcv4 := own_string (P := Try.prog) Try.underlying30 Try.underlying5 Try.underlying9 (Kd.own_of_R HO46.out)
      have hcv5 := own_string (P := Try.prog) Try.underlying30 Try.underlying5 Try.underlying9 (Kd.own_of_R HO56.out)
      by_cases cr : 0 ≤ at_ ∧ at_ < ((List.replicate m zeroS).length : Int)
      · have e0 : readE (List.replicate m zeroS) at_ = 0 := by rw [readE, if_pos cr]
        rw [e0]
        have HE0 := Aside0.mk e0
        have HZ := Aside0.mk (show readL (List.replicate m zeroS) [] at_ = zeroS by
          rw [readL, if_pos cr, readW, List.getD_eq_getElem?_getD, List.getElem?_replicate, if_pos (by have := cr.2; rw [List.length_replicate] at this; omega)]; rfl)
        clear e0 cr
        go_wp2_with fail
        have ho6z := HO6.out
        rw [HZ.out] at ho6z
        have hcv6 : ∀ W, Below u6.heap.size u6 W → (convert 30 9 v6).run Try.prog W = .ok (.string (strOfNums zeroS)) W := fun W hW => own_string (P := Try.prog) Try.underlying30 Try.underlying5 Try.underlying9 (Kd.own_of_R (Kd.R_below ho6z hW))
        clear ho6z
        have HC6 := Aside0.mk hcv6
        clear hcv6 hcv4 hcv5
        refine wp_region_held (S := fun W => Below u6.heap.size u6 W) [5, 6, 7, 8, 9] [0, 1, 2, 3, 4, 5, 6, 7, 8, 9] (by kernel_rfl) rfl (by kernel_rfl) (by kernel_rfl) (below_drew (Below.refl _ _)) (fun hHeld => ?_)
        refine held_read (i := 0) (N := (some 145)) (v := ?_) (a' := ?_) rfl rfl rfl (fun _ _ _ h => h) (Or.inl ⟨by rfl, ?_⟩) ?_ ?_
        rotate_left
        · intro w' hS
          go_simp
          with_reducible rfl
        rotate_left
        · simp only [Act.put, List.setIfInBounds_toArray, List.set_cons_zero, List.set_cons_succ, Go.Proofs.YtfmgealooebciaaW.PrintLast.i64_w, Go.Proofs.YtfmgealooebciaaW.PrintLast.i32_w]
          rfl
        refine held_read (i := 1) (N := (some 146)) (v := ?_) (a' := ?_) rfl rfl rfl (fun _ _ _ h => h) (Or.inl ⟨by rfl, ?_⟩) ?_ ?_
        rotate_left
        · intro w' hS
          go_simp
          with_reducible rfl
        rotate_left
        · simp only [Act.put, List.setIfInBounds_toArray, List.set_cons_zero, List.set_cons_succ, Go.Proofs.YtfmgealooebciaaW.PrintLast.i64_w, Go.Proofs.YtfmgealooebciaaW.PrintLast.i32_w]
          rfl
        refine held_read (i := 2) (N := (some 147)) (v := ?_) (a' := ?_) rfl rfl rfl (fun _ _ _ h => h) (Or.inl ⟨by rfl, ?_⟩) ?_ ?_
        rotate_left
        · intro w' hS
          go_simp
          with_reducible rfl
        rotate_left
        · simp only [Act.put, List.setIfInBounds_toArray, List.set_cons_zero, List.set_cons_succ, Go.Proofs.YtfmgealooebciaaW.PrintLast.i64_w, Go.Proofs.YtfmgealooebciaaW.PrintLast.i32_w]
          rfl
        refine held_read (i := 3) (N := (some 148)) (v := ?_) (a' := ?_) rfl rfl rfl (fun _ _ _ h => h) (Or.inl ⟨by rfl, ?_⟩) ?_ ?_
        rotate_left
        · intro w' hS
          go_simp
          with_reducible rfl
        rotate_left
        · simp only [Act.put, List.setIfInBounds_toArray, List.set_cons_zero, List.set_cons_succ, Go.Proofs.YtfmgealooebciaaW.PrintLast.i64_w, Go.Proofs.YtfmgealooebciaaW.PrintLast.i32_w]
          rfl
        refine held_read (i := 4) (N := (some 149)) (v := ?_) (a' := ?_) rfl rfl rfl (fun _ _ _ h => h) (Or.inl ⟨by rfl, ?_⟩) ?_ ?_
        rotate_left
        · intro w' hS
          have z := HC6.out w' hS
          go_simp
          with_reducible rfl
        rotate_left
        · simp only [Act.put, List.setIfInBounds_toArray, List.set_cons_zero, List.set_cons_succ, Go.Proofs.YtfmgealooebciaaW.PrintLast.i64_w, Go.Proofs.YtfmgealooebciaaW.PrintLast.i32_w]
          rfl
        refine held_run (i := 5) (N := (some 150)) rfl rfl rfl (fun K hK => ?_)
        refine Go.Proofs.YtfmgealooebciaaW.PrintLast.goes_ Try.func23 (by kernel_rfl) rfl #[.int .u8 0] (by rfl) rfl rfl (by first | done | rfl | (simp only [List.map_toArray, List.map_cons, List.map_nil]; first | done | rfl)) ?_
        refine (colloquylaw19_ones.calls 30 0 zeroS u6.drew zero_f).mono ?_
        rintro x u7 ⟨v7, rfl, ho7, hb7⟩
        refine ⟨_, rfl, ?_⟩
        refine hK.out _ _ (below_then (below_drew (Below.refl _ _)) (Nat.le_refl _) hb7) ?_
        clear hK K
        refine held_norm (a' := ?_) ?_ ?_
        rotate_left
        · simp only [Act.put, List.setIfInBounds_toArray, List.set_cons_zero, List.set_cons_succ, Go.Proofs.YtfmgealooebciaaW.PrintLast.i64_w, Go.Proofs.YtfmgealooebciaaW.PrintLast.i32_w]
          rfl
        have HB7 := Aside0.mk (show Below u6.heap.size u6 u7 from below_then (below_drew (Below.refl _ _)) (Nat.le_refl _) hb7)
        have hcv7 := own_string (P := Try.prog) Try.underlying30 Try.underlying5 Try.underlying9 (Kd.own_of_R ho7)
        have hcv6 := HC6.out u7 HB7.out
        clear ho7 hb7
        refine held_run (i := 6) (N := (some 151)) rfl rfl rfl (fun K hK => ?_)
        go_simp
        refine hK.out _ _ HB7.out ?_
        clear hK K
        refine held_run (i := 7) (N := (some 152)) rfl rfl rfl (fun K hK => ?_)
        go_simp
        refine hK.out _ _ HB7.out ?_
        clear hK K
        refine held_run (i := 8) (N := (some 153)) rfl rfl rfl (fun K hK => ?_)
        go_simp
        refine hK.out _ _ HB7.out ?_
        clear hK K
        refine held_run (i := 9) (N := (some 6)) rfl rfl rfl (fun K hK => ?_)
        go_simp
        refine hK.out _ _ HB7.out ?_
        clear hK K
        refine held_done ?_
        go_wp2
        go_ret
        exact ⟨rfl, below_then HB5'.out HB5'.out.size HB7.out⟩
      · have e0 : readE (List.replicate m zeroS) at_ = 1 := by rw [readE, if_neg cr]
        rw [e0]
        clear e0 cr
        go_wp2_with fail
        refine wp_region_held (S := fun W => Below u6.heap.size u6 W) [] [0, 1, 2, 3, 4, 5, 6, 7, 8, 9] (by kernel_rfl) rfl (by kernel_rfl) (by kernel_rfl) (below_drew (Below.refl _ _)) (fun hHeld => ?_)
        refine held_read (i := 0) (N := (some 145)) (v := ?_) (a' := ?_) rfl rfl rfl (fun _ _ _ h => h) (Or.inl ⟨by rfl, ?_⟩) ?_ ?_
        rotate_left
        · intro w' hS
          go_simp
          with_reducible rfl
        rotate_left
        · simp only [Act.put, List.setIfInBounds_toArray, List.set_cons_zero, List.set_cons_succ, Go.Proofs.YtfmgealooebciaaW.PrintLast.i64_w, Go.Proofs.YtfmgealooebciaaW.PrintLast.i32_w]
          rfl
        refine held_read (i := 1) (N := (some 146)) (v := ?_) (a' := ?_) rfl rfl rfl (fun _ _ _ h => h) (Or.inl ⟨by rfl, ?_⟩) ?_ ?_
        rotate_left
        · intro w' hS
          go_simp
          with_reducible rfl
        rotate_left
        · simp only [Act.put, List.setIfInBounds_toArray, List.set_cons_zero, List.set_cons_succ, Go.Proofs.YtfmgealooebciaaW.PrintLast.i64_w, Go.Proofs.YtfmgealooebciaaW.PrintLast.i32_w]
          rfl
        refine held_read (i := 2) (N := (some 147)) (v := ?_) (a' := ?_) rfl rfl rfl (fun _ _ _ h => h) (Or.inl ⟨by rfl, ?_⟩) ?_ ?_
        rotate_left
        · intro w' hS
          go_simp
          with_reducible rfl
        rotate_left
        · simp only [Act.put, List.setIfInBounds_toArray, List.set_cons_zero, List.set_cons_succ, Go.Proofs.YtfmgealooebciaaW.PrintLast.i64_w, Go.Proofs.YtfmgealooebciaaW.PrintLast.i32_w]
          rfl
        refine held_read (i := 3) (N := (some 148)) (v := undef) (a' := ?_) rfl rfl rfl (fun _ _ _ h => h) (Or.inr ⟨by rfl, rfl⟩) ?_ ?_
        rotate_left
        · simp only [Act.put, List.setIfInBounds_toArray, List.set_cons_zero, List.set_cons_succ, Go.Proofs.YtfmgealooebciaaW.PrintLast.i64_w, Go.Proofs.YtfmgealooebciaaW.PrintLast.i32_w]
          rfl
        refine held_read (i := 4) (N := (some 149)) (v := undef) (a' := ?_) rfl rfl rfl (fun _ _ _ h => h) (Or.inr ⟨by rfl, rfl⟩) ?_ ?_
        rotate_left
        · simp only [Act.put, List.setIfInBounds_toArray, List.set_cons_zero, List.set_cons_succ, Go.Proofs.YtfmgealooebciaaW.PrintLast.i64_w, Go.Proofs.YtfmgealooebciaaW.PrintLast.i32_w]
          rfl
        refine held_read (i := 5) (N := (some 150)) (v := undef) (a' := ?_) rfl rfl rfl (fun _ _ _ h => h) (Or.inr ⟨by rfl, rfl⟩) ?_ ?_
        rotate_left
        · simp only [Act.put, List.setIfInBounds_toArray, List.set_cons_zero, List.set_cons_succ, Go.Proofs.YtfmgealooebciaaW.PrintLast.i64_w, Go.Proofs.YtfmgealooebciaaW.PrintLast.i32_w]
          rfl
        refine held_read (i := 6) (N := (some 151)) (v := undef) (a' := ?_) rfl rfl rfl (fun _ _ _ h => h) (Or.inr ⟨by rfl, rfl⟩) ?_ ?_
        rotate_left
        · simp only [Act.put, List.setIfInBounds_toArray, List.set_cons_zero, List.set_cons_succ, Go.Proofs.YtfmgealooebciaaW.PrintLast.i64_w, Go.Proofs.YtfmgealooebciaaW.PrintLast.i32_w]
          rfl
        refine held_read (i := 7) (N := (some 152)) (v := undef) (a' := ?_) rfl rfl rfl (fun _ _ _ h => h) (Or.inr ⟨by rfl, rfl⟩) ?_ ?_
        rotate_left
        · simp only [Act.put, List.setIfInBounds_toArray, List.set_cons_zero, List.set_cons_succ, Go.Proofs.YtfmgealooebciaaW.PrintLast.i64_w, Go.Proofs.YtfmgealooebciaaW.PrintLast.i32_w]
          rfl
        refine held_read (i := 8) (N := (some 153)) (v := ?_) (a' := ?_) rfl rfl rfl (fun _ _ _ h => h) (Or.inl ⟨by rfl, ?_⟩) ?_ ?_
        rotate_left
        · intro w' hS
          go_simp
          with_reducible rfl
        rotate_left
        · simp only [Act.put, List.setIfInBounds_toArray, List.set_cons_zero, List.set_cons_succ, Go.Proofs.YtfmgealooebciaaW.PrintLast.i64_w, Go.Proofs.YtfmgealooebciaaW.PrintLast.i32_w]
          rfl
        refine held_read (i := 9) (N := (some 6)) (v := ?_) (a' := ?_) rfl rfl rfl (fun _ _ _ h => h) (Or.inl ⟨by rfl, ?_⟩) ?_ ?_
        rotate_left
        · intro w' hS
          go_simp
          with_reducible rfl
        rotate_left
        · simp only [Act.put, List.setIfInBounds_toArray, List.set_cons_zero, List.set_cons_succ, Go.Proofs.YtfmgealooebciaaW.PrintLast.i64_w, Go.Proofs.YtfmgealooebciaaW.PrintLast.i32_w]
          rfl
        refine held_done ?_
        go_wp2
        go_ret
        exact ⟨rfl, below_drew HB5'.out⟩
def colloquylaw19_DiskAll.f (a0 : Int) (l1 : List S33) (a2 : Int) : Option Bool := some true
theorem colloquylaw19_DiskAll.calls (a0 : Int) (A1 : Option Addr) (c1 : Nat) (l1 : List S33) (a2 : Int) (r : Bool) (w : World) (hr1 : Kd.C k33 w A1 l1.length l1) (hc1 : l1.length ≤ c1) (h : colloquylaw19_DiskAll.f a0 l1 a2 = some r) :
    Calls Try.prog 6 #[.int .i64 a0, .slice A1 l1.length c1, .int .i64 a2] w fun e w' => e = .returned (.bool r) ∧ Below w.heap.size w w' := by
  obtain rfl := Option.some.inj h
  obtain ⟨b, hb, hh⟩ := few_total l1
  cases b with
  | false => exact all_other a0 A1 c1 l1 a2 w hr1 hc1 hb
  | true => exact all_few a0 A1 c1 l1 a2 w hr1 hc1 hb (hh rfl).1
end Go.Proofs.Ytfmgealooebciaa.PAll

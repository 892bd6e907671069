/- Texts merged: WalOpen. -/
import Derived.Test.YtoafbpbnlmcklaaMWalA
namespace Go.Proofs.Ytoafbpbnlmcklaa.PAll
open Go.RowKit Go.Proofs.YtoafbpbnlmcklaaW.PrintWords Go.Proofs.YtoafbpbnlmcklaaW.PrintLast Go.Proofs.YtoafbpbnlmcklaaW.PrintMore Go.Proofs.Ytoafbpbnlmcklaa.Pure
set_option linter.unusedVariables false
set_option linter.unusedSimpArgs false
theorem scanF_le : ∀ (T : List (List Int)) (i : Nat) (x : List Int) (l : List (List Int)) (u : Nat), u ≤ i → (scanF T i x l u).2 ≤ i + T.length
  | [], i, x, l, u, h => by simpa [scanF] using h
  | s :: T, i, x, l, u, h => by
    rw [scanF, List.length_cons]
    split
    · have := scanF_le T (i + 1) (x ++ s.take 15) l u (by omega); omega
    · split
      · split
        · rename_i b _
          have := scanF_le T (i + 1) [] (l ++ [b]) (i + 1) (Nat.le_refl _); omega
        · simp only; omega
      · simp only; omega
theorem openF_le (T : List (List Int)) : (openF T).2 ≤ T.length := by have := scanF_le T 0 [] [] 0 (Nat.le_refl _); rw [openF]; omega
/-- Rows of bytes and the disk's writes. -/
theorem DiskAt.row5 {base D gS cW : Nat} {A : Option Addr} {S : List (List Int)} {W : List (Int × List Int)} {w w' : World} {base2 : Nat} {ok : Nat → Prop} {v : Value} {xs : List Int} (h : DiskAt base D gS A cW S W w) (ht : TouchP (InD D gS A) w w') (hk : Kd.R (Kd.int .u8) 5 w base2 ok v xs) : Kd.R (Kd.int .u8) 5 w' base2 ok v xs := by
  refine R_moveE hk (fun k hb => ?_) (fun k cells q hq hc => by cases hq)
  obtain ⟨inner, ho⟩ := Kd.R_own hk
  obtain ⟨cells, hc⟩ := own_typed ho k hb
  exact ht.block k (blk_lt hc) (fun hi => h.no5 (by decide) k cells hi hc)
theorem scan_at {T : List (List Int)} {j : Nat} {s : List Int} (hs : T[j]? = some s) (x : List Int) (l : List (List Int)) (u : Nat) : scanF (T.drop j) j x l u = if markF s = 1 then scanF (T.drop (j + 1)) (j + 1) (x ++ s.take 15) l u
    else if markF s = 2 then (match recordF (x ++ s.take 15) with | some b => scanF (T.drop (j + 1)) (j + 1) [] (l ++ [b]) (j + 1) | none => (l, u)) else (l, u) := by
  have hlt : j < T.length := (List.getElem?_eq_some_iff.1 hs).1
  have e : T[j] = s := (List.getElem?_eq_some_iff.1 hs).2
  rw [List.drop_eq_getElem_cons hlt, e, scanF]
  rfl
set_option maxHeartbeats 16000000 in
set_option maxRecDepth 100000 in
theorem open_walk (base D gS cW m q : Nat) (A : Option Addr) (S : List (List Int)) (W : List (Int × List Int)) (w : World) (h : DiskAt base D gS A cW S W w) (hp : Parts m q S W) (hm : m ≤ 512) (hq : q ≤ 1000000) (hbs : ∀ s ∈ applyW S W, Bs s) :
    Calls Try.prog 11 #[.pointer (some ⟨D, 0, none⟩)] w fun e w' => ∃ (Wb : Nat) (vL : Value) (A' : Option Addr) (cW' : Nat), e = .returned (.pointer (some ⟨Wb, 0, none⟩)) ∧ DiskAt base D gS A' cW' (cleanF (applyW S W) (openF (applyW S W)).2) [] w' ∧ WalAt 66 w.heap.size Wb D vL (openF (applyW S W)).1 (openF (applyW S W)).2 w' ∧ TouchP (InD D gS A) w w' ∧ (∀ k, InD D gS A' k → InD D gS A k ∨ w.heap.size ≤ k) := by
  obtain ⟨T, hT⟩ : ∃ T, T = applyW S W := ⟨_, rfl⟩
  rw [← hT] at hbs ⊢
  have HTe := Aside0.mk hT
  have HTL := Aside0.mk (show T.length = m by rw [hT, applyW_len, hp.len])
  have H := Aside0.mk h
  have HP := Aside0.mk hp
  have HM := Aside0.mk hm
  have HQ := Aside0.mk hq
  have HBS := Aside0.mk hbs
  obtain ⟨i5, hi5, hz5⟩ := info5'
  have HI5 := Aside0.mk hi5
  clear h hp hm hq hbs hT hi5 hz5
  go_enter Try.func11, Try.ntmps11
  go_wp2_with fail
  go_step3
  go_wp2_with fail
  go_step3
  go_wp2_with fail
  have HB0 := Aside0.mk (below_alloc (Below.refl w.heap.size w) (.cells #[.pointer (some ⟨D, 0, none⟩), .slice none 0 0, .int .i64 0] 66))
  have HD0 := Aside0.mk (H.out.below HB0.out)
  have HW0 := Aside0.mk (show WalAt 66 w.heap.size w.heap.size D (.slice none 0 0) [] 0 (w.alloc (.cells #[.pointer (some ⟨D, 0, none⟩), .slice none 0 0, .int .i64 0] 66)) from ⟨blk_new w _, Nat.le_refl _, Kd.R_nil _ _ _ _ _⟩)
  refine (len_walk base D gS cW A S W _ HD0.out).mono ?_
  rintro e w0 ⟨rfl, hw0⟩
  rw [← hw0] at HB0 HD0 HW0
  clear hw0
  rw [HP.out.len]
  go_wp2_with fail
  go_loopg [4, 19] m (fun kq v4 v19 w' => ∃ (j u nx : Nat) (x : List Int) (L : List (List Int)) (Ax : Option Addr) (cx : Nat) (AL : Option Addr) (nL cL : Nat), v4 = .slice Ax nx cx ∧ v19 = .int .i64 (j : Int) ∧ Aside0 (j + kq = m) ∧ Aside0 (DiskAt base D gS A cW S W w') ∧ Aside0 (WalAt 66 w.heap.size w.heap.size D (.slice AL nL cL) L u w') ∧ Aside0 (Kd.R (Kd.slice 5 (Kd.int .u8)) 28 w' w.heap.size (fun k => True ∧ some k ≠ (Value.slice Ax nx cx).ownBlock) (.slice AL nL cL) L) ∧ Aside0 (Kd.R (Kd.int .u8) 5 w' w.heap.size (fun _ => True) (.slice Ax nx cx) x) ∧ Aside0 (scanF (T.drop j) j x L u = openF T) ∧ Aside0 (Bs x ∧ x.length ≤ 15 * j ∧ nx = x.length ∧ L.length ≤ j ∧ nL = L.length) ∧ Aside0 (Below w.heap.size w w'))
  case atStart => exact ⟨0, 0, 0, [], [], none, 0, none, 0, 0, rfl, rfl, ⟨by omega⟩, HD0, HW0, ⟨Kd.R_nil _ _ _ _ _⟩, ⟨Kd.R_nil _ _ _ _ _⟩, ⟨rfl⟩, ⟨Bs.nil, by simp, rfl, by simp, rfl⟩, HB0⟩
  case round =>
    obtain ⟨j, u, nx, x, L, Ax, cx, AL, nL, cL, rfl, rfl, HJ, HD, HW, HRL, HX, HSC, HXX, HB⟩ := hrel
    by_cases hlt : j < m
    · have HLT := Aside0.mk hlt
      have p1 : decide (j < m) = true := decide_eq_true hlt
      have p2 : decide ((j : Int) < (m : Int)) = true := decide_eq_true (by omega)
      obtain ⟨k1, rfl⟩ : ∃ k1, gk = k1 + 1 := ⟨gk - 1, by have := HJ.out; omega⟩
      obtain ⟨hre, hrg, hrl⟩ := readL_get HP.out hlt
      rw [← HTe.out] at hrg
      obtain ⟨s, hs⟩ : ∃ s, s = readL S W (j : Int) := ⟨_, rfl⟩
      rw [← hs] at hrg hrl
      have HS := Aside0.mk hs
      have HSG := Aside0.mk hrg
      have HSL := Aside0.mk hrl
      have HSB := Aside0.mk (HBS.out s (List.mem_of_getElem? hrg))
      have HRE := Aside0.mk hre
      clear hlt hre hrg hrl hs
      go_wp2_with fail
      refine (read_walk base D gS cW m q A S W (j : Int) wr HD.out HP.out (by have := HQ.out; omega)).mono ?_
      rintro e w2 ⟨v2, rfl, ho2, hb2⟩
      rw [← HS.out] at ho2
      obtain ⟨gs, cs, curS, e2, hgs, hbs, hls⟩ := own5 ho2 (by rw [HSL.out]; decide)
      rw [HSL.out] at e2
      subst e2
      have HO2 := Aside0.mk ho2
      have HGS := Aside0.mk hgs
      have HBS2 := Aside0.mk hbs
      have HD2 := Aside0.mk (HD.out.below hb2)
      have HW2 := Aside0.mk (HW.out.below hb2)
      have HRL2 := Aside0.mk (Kd.R_below HRL.out hb2)
      have HX2 := Aside0.mk (Kd.R_below HX.out hb2)
      have HB2 := Aside0.mk (below_then HB.out HB.out.size hb2)
      have HC15 := Aside0.mk (show Kd.C (Kd.int .u8) w2 (some ⟨gs, 0, none⟩) 15 (s.take 15) from by
        have h1 : Kd.C (Kd.int .u8) w2 (some ⟨gs, 0, none⟩) s.length s := (Kd.R_reads' HO2.out).2.2
        have h2 := Kd.C_take h1 (m := 15) (by rw [HSL.out]; decide)
        rwa [List.length_take, HSL.out] at h2)
      have hcut := cut_to (P := Try.prog) 28 5 .i64 Try.underlying28 HI5.out (some ⟨gs, 0, none⟩) 16 cs 15 (by decide) (by decide) (Kd.R_reads' HO2.out).2.1
      rw [show (15 : Int).toNat = 15 from rfl] at hcut
      have HXW := Aside0.mk (show ∀ k, (Value.slice Ax nx cx).ownBlock = some k → k < wr.heap.size from Kd.R_lt HX.out)
      have HM15 := Aside0.mk (show w2.cell? ⟨gs, 15, none⟩ = some (.int .u8 (markF s)) from by
        obtain ⟨ad, ea, hc⟩ := Kd.at_int (Kd.R_reads' HO2.out).2.2 15 (by decide) (by rw [HSL.out]; decide)
        cases ea
        rw [add_plain] at hc
        exact hc)
      clear ho2 hb2 hgs hbs hls
      have HNX := Aside0.mk (show nx + 15 ≤ 1000000 by have := HXX.out; have := HLT.out; have := HM.out; omega)
      by_cases c1 : markF s = 1
      · have HC1 := Aside0.mk c1
        have cb1 : (markF s == 1) = true := beq_iff_eq.mpr c1
        clear c1
        go_wp2_with ((with_reducible refine gate_builtin (b := .append) (xs := #[.tmp 28, .tmp 30]) rfl ?_); at_builtin; refine Kd.R_append_rows (Kd.int .u8) (w0 := w) w.heap.size rfl (.tmp 28) (.tmp 30) 28 5 (.int .u8 0) 1 rfl Try.underlying28 info5 rfl (by decide) (by omega) (.slice Ax nx cx) x (s.take 15) (some ⟨gs, 0, none⟩) 15 cs (fun _ => True) (fun _ => False) rfl rfl HX2.out HC15.out (fun _ _ h => h) (fun _ h => h.elim) (fun _ _ => trivial) HB2.out HB2.out.size (by have := HXX.out; have := HNX.out; omega) ?_; intro v3 w3 ho3 hb3 hg3 hat3; have HX3 := Aside0.mk ho3; have HB3 := Aside0.mk hb3; have HD3 := Aside0.mk (HD2.out.move (fun k hk => by obtain ⟨_, cs', t', ht', hh⟩ := HD2.out.inD hk; exact hg3.block k (blk_lt hh) (Kd.R_ne HX2.out hh (by rcases ht' with rfl | rfl | rfl <;> decide)))); have HRL3 := Aside0.mk (Kd.R_after HRL2.out hg3 hat3); have HBl3 := Aside0.mk (blk_grown HW2.out.blk hg3 (Kd.R_ne HX2.out HW2.out.blk (by decide))); have HM3 := Aside0.mk (cell_grown hg3 HM15.out (fun e => by have := HXW.out gs e.symm; have := HGS.out; omega)); clear ho3 hb3 hg3 hat3 hcut; obtain ⟨Ax3, cx3, e3⟩ := Kd.R_slice HX3.out; rw [List.length_append, ← HXX.out.2.2.1, List.length_take, HSL.out] at e3; subst e3; have qm := HM3.out; have HX15 := Aside0.mk (show Bs (x ++ s.take 15) ∧ (x ++ s.take 15).length = nx + 15 from ⟨HXX.out.1.append (HSB.out.take 15), by rw [List.length_append, List.length_take, HSL.out, ← HXX.out.2.2.1]; rfl⟩); have HW3 := Aside0.mk (show WalAt 66 w.heap.size w.heap.size D (.slice AL nL cL) L u w3 from ⟨HBl3.out, Nat.le_refl _, Kd.R_mono HRL3.out (fun _ _ => trivial)⟩))
        clear qm
        go_roundg k1
        case measure => omega
        case rel =>
          refine ⟨j + 1, u, nx + 15, x ++ s.take 15, L, Ax3, cx3, AL, nL, cL, rfl, congrArg (Value.int .i64) (widx (by have := HLT.out; have := HM.out; omega)), ⟨by have := HJ.out; omega⟩, HD3, HW3, HRL3, HX3, ⟨?_⟩, ⟨HX15.out.1, ?_, HX15.out.2.symm, ?_, HXX.out.2.2.2.2⟩, HB3⟩
          · rw [← HSC.out, scan_at HSG.out, if_pos HC1.out]
          · rw [HX15.out.2]; have := HXX.out; omega
          · have := HXX.out; omega
      · have HC1 := Aside0.mk c1
        have cb1 : (markF s == 1) = false := beq_eq_false_iff_ne.mpr c1
        clear c1
        by_cases c2 : markF s = 2
        · have HC2 := Aside0.mk c2
          have cb2 : (markF s == 2) = true := beq_iff_eq.mpr c2
          clear c2
          go_wp2_with ((with_reducible refine gate_builtin (b := .append) (xs := #[.tmp 28, .tmp 30]) rfl ?_); at_builtin; refine Kd.R_append_rows (Kd.int .u8) (w0 := w) w.heap.size rfl (.tmp 28) (.tmp 30) 28 5 (.int .u8 0) 1 rfl Try.underlying28 info5 rfl (by decide) (by omega) (.slice Ax nx cx) x (s.take 15) (some ⟨gs, 0, none⟩) 15 cs (fun _ => True) (fun _ => False) rfl rfl HX2.out HC15.out (fun _ _ h => h) (fun _ h => h.elim) (fun _ _ => trivial) HB2.out HB2.out.size (by have := HXX.out; have := HNX.out; omega) ?_; intro v3 w3 ho3 hb3 hg3 hat3; have HX3 := Aside0.mk ho3; have HB3 := Aside0.mk hb3; have HD3 := Aside0.mk (HD2.out.move (fun k hk => by obtain ⟨_, cs', t', ht', hh⟩ := HD2.out.inD hk; exact hg3.block k (blk_lt hh) (Kd.R_ne HX2.out hh (by rcases ht' with rfl | rfl | rfl <;> decide)))); have HRL3 := Aside0.mk (Kd.R_after HRL2.out hg3 hat3); have HBl3 := Aside0.mk (blk_grown HW2.out.blk hg3 (Kd.R_ne HX2.out HW2.out.blk (by decide))); have HM3 := Aside0.mk (cell_grown hg3 HM15.out (fun e => by have := HXW.out gs e.symm; have := HGS.out; omega)); clear ho3 hb3 hg3 hat3 hcut; obtain ⟨Ax3, cx3, e3⟩ := Kd.R_slice HX3.out; rw [List.length_append, ← HXX.out.2.2.1, List.length_take, HSL.out] at e3; subst e3; have qm := HM3.out; have HX15 := Aside0.mk (show Bs (x ++ s.take 15) ∧ (x ++ s.take 15).length = nx + 15 from ⟨HXX.out.1.append (HSB.out.take 15), by rw [List.length_append, List.length_take, HSL.out, ← HXX.out.2.2.1]; rfl⟩); have HW3 := Aside0.mk (show WalAt 66 w.heap.size w.heap.size D (.slice AL nL cL) L u w3 from ⟨HBl3.out, Nat.le_refl _, Kd.R_mono HRL3.out (fun _ _ => trivial)⟩))
          clear qm
          refine (record_walk (x ++ s.take 15) Ax3 (nx + 15) cx3 w3 (by rw [← HX15.out.2]; exact (Kd.R_reads' HX3.out).2.2) (Kd.R_reads' HX3.out).2.1 (by have := HNX.out; omega) HX15.out.1).mono ?_
          rintro e w4 ⟨vb, rfl, hob, hb4⟩
          have HD4 := Aside0.mk (HD3.out.below hb4)
          have HW4 := Aside0.mk (HW3.out.below hb4)
          have HB4 := Aside0.mk (below_then HB3.out HB3.out.size hb4)
          cases hrec : recordF (x ++ s.take 15) with
          | none =>
            have HREC := Aside0.mk hrec
            rw [show (none : Option (List Int)).isSome = false from rfl]
            clear hrec hob hb4
            have HE := Aside0.mk (show openF T = (L, u) by rw [← HSC.out, scan_at HSG.out, if_neg HC1.out, if_pos HC2.out, HREC.out])
            have HUL := Aside0.mk (show u ≤ m by have h1 := openF_le T; rw [HE.out, HTL.out] at h1; exact h1)
            go_wp2_with ((with_reducible refine gate_dst (N := 62) rfl ?_); refine Kd.R_make (Kd.int .u8) (w0 := w4) w4.heap.size 5 rfl (N := 62) rfl 28 _ _ rfl 16 rfl rfl Try.underlying28 (.int .u8 0) 1 info5 rfl (by decide) (by omega) 0 (ok := fun _ => True) (okp := fun _ => True) rfl (fun _ hk => hk) trivial (by omega) (by omega) (Below.refl _ _) (Nat.le_refl _) ?_; intro vz wz hoz hbz hgz hnz; have HDz := Aside0.mk (HD4.out.below hbz); have HWz := Aside0.mk (HW4.out.below hbz); have HBz := Aside0.mk (below_then HB4.out HB4.out.size hbz); have HZ := Aside0.mk (show Kd.R (Kd.int .u8) 5 wz w.heap.size (fun _ => True) vz zeroS from Kd.R_lower hoz HB4.out.size); clear hoz hbz hgz hnz; obtain ⟨Az, cz, ez⟩ := Kd.R_slice HZ.out; rw [show zeroS.length = 16 from rfl] at ez; subst ez; have qu := blk_cell HWz.out.blk 2)
            clear qu
            go_loopg [11] (m - u) (fun kq v11 w' => ∃ (n : Nat) (A' : Option Addr) (cW' : Nat), v11 = .int .i64 ((u + n : Nat) : Int) ∧ Aside0 (u + n + kq = m) ∧ Aside0 (DiskAt base D gS A' cW' S (W ++ zerosW T u n) w') ∧ Aside0 (WalAt 66 w.heap.size w.heap.size D (.slice AL nL cL) L u w') ∧ Aside0 (Kd.R (Kd.int .u8) 5 w' w.heap.size (fun _ => True) (.slice Az 16 cz) zeroS) ∧ Aside0 (TouchP (InD D gS A) w w') ∧ Aside0 (∀ k, InD D gS A' k → InD D gS A k ∨ w.heap.size ≤ k))
            case atStart => exact ⟨0, A, cW, rfl, ⟨by have := HUL.out; omega⟩, ⟨by show DiskAt base D gS A cW S (W ++ []) wz; rw [List.append_nil]; exact HDz.out⟩, HWz, HZ, ⟨TouchP.of_below HBz.out⟩, ⟨fun k hk => .inl hk⟩⟩
            case round =>
              obtain ⟨n, A', cW', rfl, HN, HDr, HWr, HZr, HTr, HGr⟩ := hrel
              have HPr := Aside0.mk (HP.out.zeros T u n (by have := HN.out; omega))
              go_wp2_with fail
              refine (len_walk base D gS cW' A' S (W ++ zerosW T u n) wr HDr.out).mono ?_
              rintro e w1 ⟨rfl, rfl⟩
              rw [HP.out.len]
              by_cases hlt : u + n < m
              · have HLT := Aside0.mk hlt
                have p1 : decide (u + n < m) = true := decide_eq_true hlt
                have p2 : decide (((u + n : Nat) : Int) < (m : Int)) = true := decide_eq_true (by omega)
                have p3 : decide (((u : Nat) : Int) + (n : Int) < (m : Int)) = true := decide_eq_true (by omega)
                obtain ⟨k1, rfl⟩ : ∃ k1, gk = k1 + 1 := ⟨gk - 1, by have := HN.out; omega⟩
                obtain ⟨hre, hrg, hrl⟩ := readL_get HP.out hlt
                have HRG := Aside0.mk hrg
                have HRL := Aside0.mk hrl
                have hrz := readL_zeros HP.out T u n hlt
                have HRZ := Aside0.mk hrz
                have HRE := Aside0.mk hre
                clear hlt hre hrg hrl hrz
                obtain ⟨iN, hiN⟩ : ∃ iN, iN = u + n := ⟨_, rfl⟩
                have HiN := Aside0.mk hiN
                rw [← hiN] at HRG HRL HRZ HRE p1 p2 ⊢
                clear hiN p3
                go_wp2_with fail
                refine (read_walk base D gS cW' m (q + n) A' S (W ++ zerosW T u n) (iN : Int) w1 HDr.out HPr.out (by have := HQ.out; have := HN.out; have := HM.out; omega)).mono ?_
                rintro e w2 ⟨v2, rfl, ho2, hb2⟩
                rw [HRZ.out] at ho2
                obtain ⟨A2, c2, e2⟩ := Kd.R_slice ho2
                rw [HRL.out] at e2
                subst e2
                have HO2 := Aside0.mk ho2
                have HD2 := Aside0.mk (HDr.out.below hb2)
                have HW2 := Aside0.mk (HWr.out.below hb2)
                have HZ2 := Aside0.mk (Kd.R_below HZr.out hb2)
                have HT2 := Aside0.mk (HTr.out.below hb2)
                clear ho2 hb2
                obtain ⟨ke, hke⟩ := equal_k (readL S W (iN : Int)) zeroS (by rw [HRL.out]; decide)
                have HKE := Aside0.mk hke
                clear hke
                go_wp2_with fail
                refine (calls_of_args (by rw [HRL.out]; rfl) (slices_Equal_byte_byte.calls ke A2 c2 (readL S W (iN : Int)) Az cz zeroS _ w2 (Kd.R_reads' HO2.out).2.2 (by rw [HRL.out]; exact (Kd.R_reads' HO2.out).2.1) (Kd.R_reads' HZ2.out).2.2 (Kd.R_reads' HZ2.out).2.1 HKE.out)).mono ?_
                rintro e w3 ⟨rfl, hd3⟩
                have HD3 := Aside0.mk (HD2.out.below hd3.below)
                have HW3 := Aside0.mk (HW2.out.below hd3.below)
                have HZ3 := Aside0.mk (Kd.R_below HZ2.out hd3.below)
                have HT3 := Aside0.mk (HT2.out.below hd3.below)
                clear hd3
                have HTi := Aside0.mk (show T.getD iN [] = readL S W (iN : Int) by rw [HTe.out, List.getD_eq_getElem?_getD, HRG.out, Option.getD_some])
                by_cases cz0 : readL S W (iN : Int) = zeroS
                · have HCZ := Aside0.mk cz0
                  rw [decide_eq_true cz0]
                  clear cz0
                  go_wp2_with fail
                  go_roundg k1
                  case measure => omega
                  case rel =>
                    refine ⟨n + 1, A', cW', ?_, ⟨by have := HN.out; omega⟩, ⟨?_⟩, HW3, HZ3, HT3, HGr⟩
                    · exact congrArg (Value.int .i64) (by rw [widx (by have := HiN.out; have := HM.out; have := HLT.out; omega), HiN.out]; rfl)
                    · rw [zerosW, ← HiN.out, HTi.out, if_pos HCZ.out, List.append_nil]
                      exact HD3.out
                · have HCZ := Aside0.mk cz0
                  rw [decide_eq_false cz0]
                  clear cz0
                  go_wp2_with fail
                  refine (write_walk base D gS cW' A' Az S (W ++ zerosW T u n) (iN : Int) zeroS 16 cz w3 HD3.out (Nat.lt_of_le_of_lt HPr.out.few (by have := HQ.out; have := HN.out; have := HM.out; omega)) (Kd.R_reads' HZ3.out).2.2 (Kd.R_reads' HZ3.out).2.1).mono ?_
                  rintro e w4 ⟨rfl, A4, cW4, hd4, ht4, hg4⟩
                  have HD4 := Aside0.mk (show DiskAt base D gS A4 cW4 S (W ++ zerosW T u (n + 1)) w4 by
                    rw [zerosW, ← HiN.out, HTi.out, if_neg HCZ.out, ← List.append_assoc]
                    have h1 : writeW S (W ++ zerosW T u n) (iN : Int) zeroS = W ++ zerosW T u n ++ [((iN : Int), zeroS)] := by
                      rw [writeW, if_pos ⟨by omega, by rw [HP.out.len]; have := HLT.out; have := HiN.out; omega, rfl⟩]
                    rw [← h1]; exact hd4)
                  have HW4 := Aside0.mk (HW3.out.disk (by decide) HD3.out ht4.toP)
                  have HZ4 := Aside0.mk (HD3.out.row5 ht4.toP HZ3.out)
                  have HT4 := Aside0.mk (HT3.out.trans ht4.toP HGr.out)
                  have HG4 := Aside0.mk (show ∀ k, InD D gS A4 k → InD D gS A k ∨ w.heap.size ≤ k from fun k hk => by
                    rcases hg4 k hk with h1 | h1
                    · exact HGr.out k h1
                    · exact .inr (Nat.le_trans HT3.out.size h1))
                  clear hd4 ht4 hg4
                  go_wp2_with fail
                  go_roundg k1
                  case measure => omega
                  case rel =>
                    refine ⟨n + 1, A4, cW4, ?_, ⟨by have := HN.out; omega⟩, HD4, HW4, HZ4, HT4, HG4⟩
                    exact congrArg (Value.int .i64) (by rw [widx (by have := HiN.out; have := HM.out; have := HLT.out; omega), HiN.out]; rfl)
              · have hnm : n = m - u := by have := HN.out; omega
                subst hnm
                have hum : u + (m - u) = m := by have := HUL.out; omega
                rw [hum]
                have p1 : decide (m < m) = false := decide_eq_false (by omega)
                have p2 : decide ((m : Int) < (m : Int)) = false := decide_eq_false (by omega)
                clear hlt hum
                go_wp2_with fail
                refine (sync_tot base D gS cW' m (q + (m - u)) A' S (W ++ zerosW T u (m - u)) w1 HDr.out HPr.out (by have := HQ.out; have := HM.out; omega)).mono ?_
                rintro e w5 ⟨rfl, hd5, ht5⟩
                rw [applyW_append, ← HTe.out, show m - u = T.length - u by rw [HTL.out], cleanF_eq (by rw [HTL.out]; exact HUL.out)] at hd5
                have HD5 := Aside0.mk hd5
                have HW5 := Aside0.mk (HWr.out.disk (by decide) HDr.out ht5.toP)
                have HT5 := Aside0.mk (HTr.out.trans ht5.toP HGr.out)
                clear hd5 ht5
                go_wp2
                rw [Exit.noGoto_ret]
                go_ret
                rw [HE.out]
                exact ⟨_, _, _, _, rfl, HD5.out, HW5.out, HT5.out, HGr.out⟩
          | some b =>
            have HREC := Aside0.mk hrec
            have HOb := Aside0.mk (hob b hrec)
            rw [show (some b : Option (List Int)).isSome = true from rfl]
            clear hrec hob hb4
            obtain ⟨Ab, cb, eb⟩ := Kd.R_slice HOb.out
            subst eb
            have ql := blk_cell HW4.out.blk 1
            have HBb := Aside0.mk (show w.heap.size ≤ w3.heap.size from HB3.out.size)
            go_wp2_with ((with_reducible refine gate_builtin (b := .append) (xs := #[.tmp 51, .tmp 53]) rfl ?_); at_builtin; refine Kd.R_append (Kd.slice 5 (Kd.int .u8)) (w0 := w) w.heap.size rfl (.tmp 51) (.tmp 53) 22 28 (.slice none 0 0) 24 rfl Try.underlying22 info28' rfl (by decide) (by omega) (.slice AL nL cL) L b [.slice Ab b.length cb] (fun _ => True) (fun k => True ∧ some k ≠ (Value.slice AL nL cL).ownBlock) rfl rfl ?aP (fun _ hk => hk) (fun _ _ => trivial) HW4.out.rs HB4.out HB4.out.size (by have := HXX.out; have := HLT.out; have := HM.out; omega) ?_; (case aP => exact ⟨_, rfl, R_types' (Kd.R_lower HOb.out HBb.out) (fun k hk => by obtain ⟨inner, hown⟩ := Kd.R_own HW4.out.rs; exact own_typed hown k hk) (by decide)⟩); intro v5 w5 ho5 hb5 hg5 hat5; have HO5 := Aside0.mk ho5; have HB5 := Aside0.mk hb5; have HBl5 := Aside0.mk (blk_grown HW4.out.blk hg5 (Kd.R_ne HW4.out.rs HW4.out.blk (by decide))); have HD5 := Aside0.mk (HD4.out.move (fun k hk => by obtain ⟨_, cs', t', ht', hh⟩ := HD4.out.inD hk; exact hg5.block k (blk_lt hh) (Kd.R_ne HW4.out.rs hh (by rcases ht' with rfl | rfl | rfl <;> decide)))); clear ho5 hb5 hg5 hat5; obtain ⟨A5, c5, e5⟩ := Kd.R_slice HO5.out; rw [List.length_append, List.length_singleton, ← HXX.out.2.2.2.2] at e5; subst e5; have q1 := blk_cell HBl5.out 1; have q2 := blk_cell HBl5.out 2; have f1 := blk_frozen HBl5.out 1; have f2 := blk_frozen HBl5.out 2; have f3 := blk_frozen (blk_set HBl5.out 1 (.slice A5 (nL + 1) c5)) 2; have q3 := blk_cell (blk_set HBl5.out 1 (.slice A5 (nL + 1) c5)) 2)
            rw [show wrap64 ((j : Int) + 1) = ((j + 1 : Nat) : Int) from widx (by have := HLT.out; have := HM.out; omega)]
            clear q1 q2 q3 f1 f2 f3 ql
            have HBl6 := Aside0.mk (blk_put (blk_put HBl5.out 1 (.slice A5 (nL + 1) c5) rfl) 2 (.int .i64 ((j + 1 : Nat) : Int)) rfl)
            have HW6 := Aside0.mk (show WalAt 66 w.heap.size w.heap.size D (.slice A5 (nL + 1) c5) (L ++ [b]) (j + 1) ((w5.setCell ⟨w.heap.size, 1, none⟩ (.slice A5 (nL + 1) c5)).setCell ⟨w.heap.size, 2, none⟩ (.int .i64 ((j + 1 : Nat) : Int))) from ⟨HBl6.out, Nat.le_refl _, Kd.R_set (Kd.R_set HO5.out HBl5.out (by decide) 1 _) (blk_set HBl5.out 1 _) (by decide) 2 _⟩)
            obtain ⟨w6, hw6⟩ : ∃ w6, w6 = (w5.setCell ⟨w.heap.size, 1, none⟩ (.slice A5 (nL + 1) c5)).setCell ⟨w.heap.size, 2, none⟩ (.int .i64 ((j + 1 : Nat) : Int)) := ⟨_, rfl⟩
            rw [← hw6] at HW6 ⊢
            have HD6 := Aside0.mk (show DiskAt base D gS A cW S W w6 from HD5.out.move (fun k hk => by
              obtain ⟨_, cs', t', ht', hh⟩ := HD5.out.inD hk
              have hne : k ≠ w.heap.size := fun e => by
                subst e
                have := blk_type hh HBl5.out
                rcases ht' with rfl | rfl | rfl <;> exact absurd this (by decide)
              rw [hw6, Below.heap_setCell _ _ _ _ hne, Below.heap_setCell _ _ _ _ hne]))
            have HB6 := Aside0.mk (show Below w.heap.size w w6 by rw [hw6]; exact (HB5.out.setCell (Nat.le_refl _) _).setCell (Nat.le_refl _) _)
            clear hw6
            go_roundg k1
            case measure => omega
            case rel => exact ⟨j + 1, j + 1, 0, [], L ++ [b], none, 0, A5, nL + 1, c5, rfl, rfl, ⟨by have := HJ.out; omega⟩, HD6, HW6, ⟨Kd.R_mono HW6.out.rs (fun k hk => ⟨hk, by simp [Value.ownBlock]⟩)⟩, ⟨Kd.R_nil _ _ _ _ _⟩, ⟨by rw [← HSC.out, scan_at HSG.out, if_neg HC1.out, if_pos HC2.out, HREC.out]⟩, ⟨Bs.nil, by simp, rfl, by rw [List.length_append, List.length_singleton]; have := HXX.out; omega, by rw [List.length_append, List.length_singleton]; have := HXX.out; omega⟩, HB6⟩
        · have HC2 := Aside0.mk c2
          have cb2 : (markF s == 2) = false := beq_eq_false_iff_ne.mpr c2
          clear c2
          have HE := Aside0.mk (show openF T = (L, u) by rw [← HSC.out, scan_at HSG.out, if_neg HC1.out, if_neg HC2.out])
          have HUL := Aside0.mk (show u ≤ m by have h1 := openF_le T; rw [HE.out, HTL.out] at h1; exact h1)
          go_wp2_with (first | ((with_reducible refine gate_builtin (b := .append) (xs := #[.tmp 28, .tmp 30]) rfl ?_); at_builtin; refine Kd.R_append_rows (Kd.int .u8) (w0 := w) w.heap.size rfl (.tmp 28) (.tmp 30) 28 5 (.int .u8 0) 1 rfl Try.underlying28 info5 rfl (by decide) (by omega) (.slice Ax nx cx) x (s.take 15) (some ⟨gs, 0, none⟩) 15 cs (fun _ => True) (fun _ => False) rfl rfl HX2.out HC15.out (fun _ _ h => h) (fun _ h => h.elim) (fun _ _ => trivial) HB2.out HB2.out.size (by have := HXX.out; have := HNX.out; omega) ?_; intro v3 w3 ho3 hb3 hg3 hat3; have HX3 := Aside0.mk ho3; have HB3 := Aside0.mk hb3; have HD3 := Aside0.mk (HD2.out.move (fun k hk => by obtain ⟨_, cs', t', ht', hh⟩ := HD2.out.inD hk; exact hg3.block k (blk_lt hh) (Kd.R_ne HX2.out hh (by rcases ht' with rfl | rfl | rfl <;> decide)))); have HRL3 := Aside0.mk (Kd.R_after HRL2.out hg3 hat3); have HBl3 := Aside0.mk (blk_grown HW2.out.blk hg3 (Kd.R_ne HX2.out HW2.out.blk (by decide))); have HM3 := Aside0.mk (cell_grown hg3 HM15.out (fun e => by have := HXW.out gs e.symm; have := HGS.out; omega)); clear ho3 hb3 hg3 hat3 hcut; obtain ⟨Ax3, cx3, e3⟩ := Kd.R_slice HX3.out; rw [List.length_append, ← HXX.out.2.2.1, List.length_take, HSL.out] at e3; subst e3; have qm := HM3.out; have HX15 := Aside0.mk (show Bs (x ++ s.take 15) ∧ (x ++ s.take 15).length = nx + 15 from ⟨HXX.out.1.append (HSB.out.take 15), by rw [List.length_append, List.length_take, HSL.out, ← HXX.out.2.2.1]; rfl⟩); have HW3 := Aside0.mk (show WalAt 66 w.heap.size w.heap.size D (.slice AL nL cL) L u w3 from ⟨HBl3.out, Nat.le_refl _, Kd.R_mono HRL3.out (fun _ _ => trivial)⟩)) | ((with_reducible refine gate_dst (N := 62) rfl ?_); refine Kd.R_make (Kd.int .u8) (w0 := w3) w3.heap.size 5 rfl (N := 62) rfl 28 _ _ rfl 16 rfl rfl Try.underlying28 (.int .u8 0) 1 info5 rfl (by decide) (by omega) 0 (ok := fun _ => True) (okp := fun _ => True) rfl (fun _ hk => hk) trivial (by omega) (by omega) (Below.refl _ _) (Nat.le_refl _) ?_; intro vz wz hoz hbz hgz hnz; have HDz := Aside0.mk (HD3.out.below hbz); have HWz := Aside0.mk (HW3.out.below hbz); have HBz := Aside0.mk (below_then HB3.out HB3.out.size hbz); have HZ := Aside0.mk (show Kd.R (Kd.int .u8) 5 wz w.heap.size (fun _ => True) vz zeroS from Kd.R_lower hoz HB3.out.size); clear hoz hbz hgz hnz; obtain ⟨Az, cz, ez⟩ := Kd.R_slice HZ.out; rw [show zeroS.length = 16 from rfl] at ez; subst ez; have qu := blk_cell HWz.out.blk 2))
          clear qu qm
          go_loopg [11] (m - u) (fun kq v11 w' => ∃ (n : Nat) (A' : Option Addr) (cW' : Nat), v11 = .int .i64 ((u + n : Nat) : Int) ∧ Aside0 (u + n + kq = m) ∧ Aside0 (DiskAt base D gS A' cW' S (W ++ zerosW T u n) w') ∧ Aside0 (WalAt 66 w.heap.size w.heap.size D (.slice AL nL cL) L u w') ∧ Aside0 (Kd.R (Kd.int .u8) 5 w' w.heap.size (fun _ => True) (.slice Az 16 cz) zeroS) ∧ Aside0 (TouchP (InD D gS A) w w') ∧ Aside0 (∀ k, InD D gS A' k → InD D gS A k ∨ w.heap.size ≤ k))
          case atStart => exact ⟨0, A, cW, rfl, ⟨by have := HUL.out; omega⟩, ⟨by show DiskAt base D gS A cW S (W ++ []) wz; rw [List.append_nil]; exact HDz.out⟩, HWz, HZ, ⟨TouchP.of_below HBz.out⟩, ⟨fun k hk => .inl hk⟩⟩
          case round =>
            obtain ⟨n, A', cW', rfl, HN, HDr, HWr, HZr, HTr, HGr⟩ := hrel
            have HPr := Aside0.mk (HP.out.zeros T u n (by have := HN.out; omega))
            go_wp2_with fail
            refine (len_walk base D gS cW' A' S (W ++ zerosW T u n) wr HDr.out).mono ?_
            rintro e w1 ⟨rfl, rfl⟩
            rw [HP.out.len]
            by_cases hlt : u + n < m
            · have HLT := Aside0.mk hlt
              have p1 : decide (u + n < m) = true := decide_eq_true hlt
              have p2 : decide (((u + n : Nat) : Int) < (m : Int)) = true := decide_eq_true (by omega)
              have p3 : decide (((u : Nat) : Int) + (n : Int) < (m : Int)) = true := decide_eq_true (by omega)
              obtain ⟨k1, rfl⟩ : ∃ k1, gk = k1 + 1 := ⟨gk - 1, by have := HN.out; omega⟩
              obtain ⟨hre, hrg, hrl⟩ := readL_get HP.out hlt
              have HRG := Aside0.mk hrg
              have HRL := Aside0.mk hrl
              have hrz := readL_zeros HP.out T u n hlt
              have HRZ := Aside0.mk hrz
              have HRE := Aside0.mk hre
              clear hlt hre hrg hrl hrz
              obtain ⟨iN, hiN⟩ : ∃ iN, iN = u + n := ⟨_, rfl⟩
              have HiN := Aside0.mk hiN
              rw [← hiN] at HRG HRL HRZ HRE p1 p2 ⊢
              clear hiN p3
              go_wp2_with fail
              refine (read_walk base D gS cW' m (q + n) A' S (W ++ zerosW T u n) (iN : Int) w1 HDr.out HPr.out (by have := HQ.out; have := HN.out; have := HM.out; omega)).mono ?_
              rintro e w2 ⟨v2, rfl, ho2, hb2⟩
              rw [HRZ.out] at ho2
              obtain ⟨A2, c2, e2⟩ := Kd.R_slice ho2
              rw [HRL.out] at e2
              subst e2
              have HO2 := Aside0.mk ho2
              have HD2 := Aside0.mk (HDr.out.below hb2)
              have HW2 := Aside0.mk (HWr.out.below hb2)
              have HZ2 := Aside0.mk (Kd.R_below HZr.out hb2)
              have HT2 := Aside0.mk (HTr.out.below hb2)
              clear ho2 hb2
              obtain ⟨ke, hke⟩ := equal_k (readL S W (iN : Int)) zeroS (by rw [HRL.out]; decide)
              have HKE := Aside0.mk hke
              clear hke
              go_wp2_with fail
              refine (calls_of_args (by rw [HRL.out]; rfl) (slices_Equal_byte_byte.calls ke A2 c2 (readL S W (iN : Int)) Az cz zeroS _ w2 (Kd.R_reads' HO2.out).2.2 (by rw [HRL.out]; exact (Kd.R_reads' HO2.out).2.1) (Kd.R_reads' HZ2.out).2.2 (Kd.R_reads' HZ2.out).2.1 HKE.out)).mono ?_
              rintro e w3 ⟨rfl, hd3⟩
              have HD3 := Aside0.mk (HD2.out.below hd3.below)
              have HW3 := Aside0.mk (HW2.out.below hd3.below)
              have HZ3 := Aside0.mk (Kd.R_below HZ2.out hd3.below)
              have HT3 := Aside0.mk (HT2.out.below hd3.below)
              clear hd3
              have HTi := Aside0.mk (show T.getD iN [] = readL S W (iN : Int) by rw [HTe.out, List.getD_eq_getElem?_getD, HRG.out, Option.getD_some])
              by_cases cz0 : readL S W (iN : Int) = zeroS
              · have HCZ := Aside0.mk cz0
                rw [decide_eq_true cz0]
                clear cz0
                go_wp2_with fail
                go_roundg k1
                case measure => omega
                case rel =>
                  refine ⟨n + 1, A', cW', ?_, ⟨by have := HN.out; omega⟩, ⟨?_⟩, HW3, HZ3, HT3, HGr⟩
                  · exact congrArg (Value.int .i64) (by rw [widx (by have := HiN.out; have := HM.out; have := HLT.out; omega), HiN.out]; rfl)
                  · rw [zerosW, ← HiN.out, HTi.out, if_pos HCZ.out, List.append_nil]
                    exact HD3.out
              · have HCZ := Aside0.mk cz0
                rw [decide_eq_false cz0]
                clear cz0
                go_wp2_with fail
                refine (write_walk base D gS cW' A' Az S (W ++ zerosW T u n) (iN : Int) zeroS 16 cz w3 HD3.out (Nat.lt_of_le_of_lt HPr.out.few (by have := HQ.out; have := HN.out; have := HM.out; omega)) (Kd.R_reads' HZ3.out).2.2 (Kd.R_reads' HZ3.out).2.1).mono ?_
                rintro e w4 ⟨rfl, A4, cW4, hd4, ht4, hg4⟩
                have HD4 := Aside0.mk (show DiskAt base D gS A4 cW4 S (W ++ zerosW T u (n + 1)) w4 by
                  rw [zerosW, ← HiN.out, HTi.out, if_neg HCZ.out, ← List.append_assoc]
                  have h1 : writeW S (W ++ zerosW T u n) (iN : Int) zeroS = W ++ zerosW T u n ++ [((iN : Int), zeroS)] := by
                    rw [writeW, if_pos ⟨by omega, by rw [HP.out.len]; have := HLT.out; have := HiN.out; omega, rfl⟩]
                  rw [← h1]; exact hd4)
                have HW4 := Aside0.mk (HW3.out.disk (by decide) HD3.out ht4.toP)
                have HZ4 := Aside0.mk (HD3.out.row5 ht4.toP HZ3.out)
                have HT4 := Aside0.mk (HT3.out.trans ht4.toP HGr.out)
                have HG4 := Aside0.mk (show ∀ k, InD D gS A4 k → InD D gS A k ∨ w.heap.size ≤ k from fun k hk => by
                  rcases hg4 k hk with h1 | h1
                  · exact HGr.out k h1
                  · exact .inr (Nat.le_trans HT3.out.size h1))
                clear hd4 ht4 hg4
                go_wp2_with fail
                go_roundg k1
                case measure => omega
                case rel =>
                  refine ⟨n + 1, A4, cW4, ?_, ⟨by have := HN.out; omega⟩, HD4, HW4, HZ4, HT4, HG4⟩
                  exact congrArg (Value.int .i64) (by rw [widx (by have := HiN.out; have := HM.out; have := HLT.out; omega), HiN.out]; rfl)
            · have hnm : n = m - u := by have := HN.out; omega
              subst hnm
              have hum : u + (m - u) = m := by have := HUL.out; omega
              rw [hum]
              have p1 : decide (m < m) = false := decide_eq_false (by omega)
              have p2 : decide ((m : Int) < (m : Int)) = false := decide_eq_false (by omega)
              clear hlt hum
              go_wp2_with fail
              refine (sync_tot base D gS cW' m (q + (m - u)) A' S (W ++ zerosW T u (m - u)) w1 HDr.out HPr.out (by have := HQ.out; have := HM.out; omega)).mono ?_
              rintro e w5 ⟨rfl, hd5, ht5⟩
              rw [applyW_append, ← HTe.out, show m - u = T.length - u by rw [HTL.out], cleanF_eq (by rw [HTL.out]; exact HUL.out)] at hd5
              have HD5 := Aside0.mk hd5
              have HW5 := Aside0.mk (HWr.out.disk (by decide) HDr.out ht5.toP)
              have HT5 := Aside0.mk (HTr.out.trans ht5.toP HGr.out)
              clear hd5 ht5
              go_wp2
              rw [Exit.noGoto_ret]
              go_ret
              rw [HE.out]
              exact ⟨_, _, _, _, rfl, HD5.out, HW5.out, HT5.out, HGr.out⟩
    · obtain rfl : m = j := by have := HJ.out; omega
      have p1 : decide (m < m) = false := decide_eq_false (by omega)
      have p2 : decide ((m : Int) < (m : Int)) = false := decide_eq_false (by omega)
      clear hlt
      have HE := Aside0.mk (show openF T = (L, u) by rw [← HSC.out, List.drop_of_length_le (by rw [HTL.out]; exact Nat.le_refl _)]; rfl)
      have HUL := Aside0.mk (show u ≤ m by have h1 := openF_le T; rw [HE.out, HTL.out] at h1; exact h1)
      go_wp2_with ((with_reducible refine gate_dst (N := 62) rfl ?_); refine Kd.R_make (Kd.int .u8) (w0 := wr) wr.heap.size 5 rfl (N := 62) rfl 28 _ _ rfl 16 rfl rfl Try.underlying28 (.int .u8 0) 1 info5 rfl (by decide) (by omega) 0 (ok := fun _ => True) (okp := fun _ => True) rfl (fun _ hk => hk) trivial (by omega) (by omega) (Below.refl _ _) (Nat.le_refl _) ?_; intro vz wz hoz hbz hgz hnz; have HDz := Aside0.mk (HD.out.below hbz); have HWz := Aside0.mk (HW.out.below hbz); have HBz := Aside0.mk (below_then HB.out HB.out.size hbz); have HZ := Aside0.mk (show Kd.R (Kd.int .u8) 5 wz w.heap.size (fun _ => True) vz zeroS from Kd.R_lower hoz HB.out.size); clear hoz hbz hgz hnz; obtain ⟨Az, cz, ez⟩ := Kd.R_slice HZ.out; rw [show zeroS.length = 16 from rfl] at ez; subst ez; have qu := blk_cell HWz.out.blk 2)
      clear qu
      go_loopg [11] (m - u) (fun kq v11 w' => ∃ (n : Nat) (A' : Option Addr) (cW' : Nat), v11 = .int .i64 ((u + n : Nat) : Int) ∧ Aside0 (u + n + kq = m) ∧ Aside0 (DiskAt base D gS A' cW' S (W ++ zerosW T u n) w') ∧ Aside0 (WalAt 66 w.heap.size w.heap.size D (.slice AL nL cL) L u w') ∧ Aside0 (Kd.R (Kd.int .u8) 5 w' w.heap.size (fun _ => True) (.slice Az 16 cz) zeroS) ∧ Aside0 (TouchP (InD D gS A) w w') ∧ Aside0 (∀ k, InD D gS A' k → InD D gS A k ∨ w.heap.size ≤ k))
      case atStart => exact ⟨0, A, cW, rfl, ⟨by have := HUL.out; omega⟩, ⟨by show DiskAt base D gS A cW S (W ++ []) wz; rw [List.append_nil]; exact HDz.out⟩, HWz, HZ, ⟨TouchP.of_below HBz.out⟩, ⟨fun k hk => .inl hk⟩⟩
      case round =>
        obtain ⟨n, A', cW', rfl, HN, HDr, HWr, HZr, HTr, HGr⟩ := hrel
        have HPr := Aside0.mk (HP.out.zeros T u n (by have := HN.out; omega))
        go_wp2_with fail
        refine (len_walk base D gS cW' A' S (W ++ zerosW T u n) wr HDr.out).mono ?_
        rintro e w1 ⟨rfl, rfl⟩
        rw [HP.out.len]
        by_cases hlt : u + n < m
        · have HLT := Aside0.mk hlt
          have p1 : decide (u + n < m) = true := decide_eq_true hlt
          have p2 : decide (((u + n : Nat) : Int) < (m : Int)) = true := decide_eq_true (by omega)
          have p3 : decide (((u : Nat) : Int) + (n : Int) < (m : Int)) = true := decide_eq_true (by omega)
          obtain ⟨k1, rfl⟩ : ∃ k1, gk = k1 + 1 := ⟨gk - 1, by have := HN.out; omega⟩
          obtain ⟨hre, hrg, hrl⟩ := readL_get HP.out hlt
          have HRG := Aside0.mk hrg
          have HRL := Aside0.mk hrl
          have hrz := readL_zeros HP.out T u n hlt
          have HRZ := Aside0.mk hrz
          have HRE := Aside0.mk hre
          clear hlt hre hrg hrl hrz
          obtain ⟨iN, hiN⟩ : ∃ iN, iN = u + n := ⟨_, rfl⟩
          have HiN := Aside0.mk hiN
          rw [← hiN] at HRG HRL HRZ HRE p1 p2 ⊢
          clear hiN p3
          go_wp2_with fail
          refine (read_walk base D gS cW' m (q + n) A' S (W ++ zerosW T u n) (iN : Int) w1 HDr.out HPr.out (by have := HQ.out; have := HN.out; have := HM.out; omega)).mono ?_
          rintro e w2 ⟨v2, rfl, ho2, hb2⟩
          rw [HRZ.out] at ho2
          obtain ⟨A2, c2, e2⟩ := Kd.R_slice ho2
          rw [HRL.out] at e2
          subst e2
          have HO2 := Aside0.mk ho2
          have HD2 := Aside0.mk (HDr.out.below hb2)
          have HW2 := Aside0.mk (HWr.out.below hb2)
          have HZ2 := Aside0.mk (Kd.R_below HZr.out hb2)
          have HT2 := Aside0.mk (HTr.out.below hb2)
          clear ho2 hb2
          obtain ⟨ke, hke⟩ := equal_k (readL S W (iN : Int)) zeroS (by rw [HRL.out]; decide)
          have HKE := Aside0.mk hke
          clear hke
          go_wp2_with fail
          refine (calls_of_args (by rw [HRL.out]; rfl) (slices_Equal_byte_byte.calls ke A2 c2 (readL S W (iN : Int)) Az cz zeroS _ w2 (Kd.R_reads' HO2.out).2.2 (by rw [HRL.out]; exact (Kd.R_reads' HO2.out).2.1) (Kd.R_reads' HZ2.out).2.2 (Kd.R_reads' HZ2.out).2.1 HKE.out)).mono ?_
          rintro e w3 ⟨rfl, hd3⟩
          have HD3 := Aside0.mk (HD2.out.below hd3.below)
          have HW3 := Aside0.mk (HW2.out.below hd3.below)
          have HZ3 := Aside0.mk (Kd.R_below HZ2.out hd3.below)
          have HT3 := Aside0.mk (HT2.out.below hd3.below)
          clear hd3
          have HTi := Aside0.mk (show T.getD iN [] = readL S W (iN : Int) by rw [HTe.out, List.getD_eq_getElem?_getD, HRG.out, Option.getD_some])
          by_cases cz0 : readL S W (iN : Int) = zeroS
          · have HCZ := Aside0.mk cz0
            rw [decide_eq_true cz0]
            clear cz0
            go_wp2_with fail
            go_roundg k1
            case measure => omega
            case rel =>
              refine ⟨n + 1, A', cW', ?_, ⟨by have := HN.out; omega⟩, ⟨?_⟩, HW3, HZ3, HT3, HGr⟩
              · exact congrArg (Value.int .i64) (by rw [widx (by have := HiN.out; have := HM.out; have := HLT.out; omega), HiN.out]; rfl)
              · rw [zerosW, ← HiN.out, HTi.out, if_pos HCZ.out, List.append_nil]
                exact HD3.out
          · have HCZ := Aside0.mk cz0
            rw [decide_eq_false cz0]
            clear cz0
            go_wp2_with fail
            refine (write_walk base D gS cW' A' Az S (W ++ zerosW T u n) (iN : Int) zeroS 16 cz w3 HD3.out (Nat.lt_of_le_of_lt HPr.out.few (by have := HQ.out; have := HN.out; have := HM.out; omega)) (Kd.R_reads' HZ3.out).2.2 (Kd.R_reads' HZ3.out).2.1).mono ?_
            rintro e w4 ⟨rfl, A4, cW4, hd4, ht4, hg4⟩
            have HD4 := Aside0.mk (show DiskAt base D gS A4 cW4 S (W ++ zerosW T u (n + 1)) w4 by
              rw [zerosW, ← HiN.out, HTi.out, if_neg HCZ.out, ← List.append_assoc]
              have h1 : writeW S (W ++ zerosW T u n) (iN : Int) zeroS = W ++ zerosW T u n ++ [((iN : Int), zeroS)] := by
                rw [writeW, if_pos ⟨by omega, by rw [HP.out.len]; have := HLT.out; have := HiN.out; omega, rfl⟩]
              rw [← h1]; exact hd4)
            have HW4 := Aside0.mk (HW3.out.disk (by decide) HD3.out ht4.toP)
            have HZ4 := Aside0.mk (HD3.out.row5 ht4.toP HZ3.out)
            have HT4 := Aside0.mk (HT3.out.trans ht4.toP HGr.out)
            have HG4 := Aside0.mk (show ∀ k, InD D gS A4 k → InD D gS A k ∨ w.heap.size ≤ k from fun k hk => by
              rcases hg4 k hk with h1 | h1
              · exact HGr.out k h1
              · exact .inr (Nat.le_trans HT3.out.size h1))
            clear hd4 ht4 hg4
            go_wp2_with fail
            go_roundg k1
            case measure => omega
            case rel =>
              refine ⟨n + 1, A4, cW4, ?_, ⟨by have := HN.out; omega⟩, HD4, HW4, HZ4, HT4, HG4⟩
              exact congrArg (Value.int .i64) (by rw [widx (by have := HiN.out; have := HM.out; have := HLT.out; omega), HiN.out]; rfl)
        · have hnm : n = m - u := by have := HN.out; omega
          subst hnm
          have hum : u + (m - u) = m := by have := HUL.out; omega
          rw [hum]
          have p1 : decide (m < m) = false := decide_eq_false (by omega)
          have p2 : decide ((m : Int) < (m : Int)) = false := decide_eq_false (by omega)
          clear hlt hum
          go_wp2_with fail
          refine (sync_tot base D gS cW' m (q + (m - u)) A' S (W ++ zerosW T u (m - u)) w1 HDr.out HPr.out (by have := HQ.out; have := HM.out; omega)).mono ?_
          rintro e w5 ⟨rfl, hd5, ht5⟩
          rw [applyW_append, ← HTe.out, show m - u = T.length - u by rw [HTL.out], cleanF_eq (by rw [HTL.out]; exact HUL.out)] at hd5
          have HD5 := Aside0.mk hd5
          have HW5 := Aside0.mk (HWr.out.disk (by decide) HDr.out ht5.toP)
          have HT5 := Aside0.mk (HTr.out.trans ht5.toP HGr.out)
          clear hd5 ht5
          go_wp2
          rw [Exit.noGoto_ret]
          go_ret
          rw [HE.out]
          exact ⟨_, _, _, _, rfl, HD5.out, HW5.out, HT5.out, HGr.out⟩
end Go.Proofs.Ytoafbpbnlmcklaa.PAll

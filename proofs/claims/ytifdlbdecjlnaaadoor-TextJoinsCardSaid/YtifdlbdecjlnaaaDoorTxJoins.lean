/- The law TextJoins's code: it answers true. Conditions: those that each theorem states. -/
import Derived.Test.YtifdlbdecjlnaaaDoorTxAwake
import Derived.Test.YtifdlbdecjlnaaaDoorTxGood
namespace Go.Proofs.YtifdlbdecjlnaaaDoor.PAll
open Go.RowKit Go.Proofs.YtifdlbdecjlnaaaDoorW.PrintWords Go.Proofs.YtifdlbdecjlnaaaDoorW.PrintLast Go.Proofs.YtifdlbdecjlnaaaDoorW.PrintMore
set_option linter.unusedVariables false
set_option linter.unusedSimpArgs false
set_option maxHeartbeats 400000 in
set_option maxRecDepth 100000 in
theorem joins_w (a b : List UInt8) (w : World) (hT : Tabs w) : Calls Tryd.prog 4 #[.string (Str a), .string (Str b)] w fun e w' => e = .returned (.bool true) ∧ Below w.heap.size w w' := by
  have cA := awake_w
  have hsz : (Str a).size = a.length := Str_size a
  have hszb : (Str b).size = b.length := Str_size b
  have hT0 := Aside0.mk hT
  have hB0 := Aside0.mk (Below.refl w.heap.size w)
  clear hT
  obtain ⟨m, hm⟩ : ∃ m, a.length = m := ⟨_, rfl⟩
  obtain ⟨n, hn⟩ : ∃ n, b.length = n := ⟨_, rfl⟩
  rw [hm] at hsz
  rw [hn] at hszb
  by_cases h5 : m > 500
  · have g1 : decide ((m : Int) > 500) = true := decide_eq_true (by omega)
    go_enter Tryd.func4, Tryd.ntmps4
    go_wp2_with (go_at_call 9; refine (cA _ hT0.out).mono ?_; rintro e w1 ⟨rfl, hb⟩; obtain ⟨hB1, hT1⟩ := step_new hB0 hT0 hb; clear hb cA)
    go_ret
    exact ⟨rfl, hB1.out⟩
  have g1 : decide ((m : Int) > 500) = false := decide_eq_false (by omega)
  by_cases h5' : n > 500
  · have g2 : decide ((n : Int) > 500) = true := decide_eq_true (by omega)
    go_enter Tryd.func4, Tryd.ntmps4
    go_wp2_with (go_at_call 9; refine (cA _ hT0.out).mono ?_; rintro e w1 ⟨rfl, hb⟩; obtain ⟨hB1, hT1⟩ := step_new hB0 hT0 hb; clear hb cA)
    go_ret
    exact ⟨rfl, hB1.out⟩
  have g2 : decide ((n : Int) > 500) = false := decide_eq_false (by omega)
  have cMa := fun w hT => may_w a (by omega) w hT
  have cMb := fun w hT => may_w b (by omega) w hT
  have cMj := fun w hT => may_w (a ++ b) (by rw [List.length_append]; omega) w hT
  have hap : Str a ++ Str b = Str (a ++ b) := Str_append a b
  have hJ := Aside0.mk (may_join a b)
  have hL : Aside0 (∀ d x, a = d ++ [x] → mayS a = true → 1 ≤ d.length → mayS d = decide (x.toNat < 128)) := ⟨fun d x hd ha h1 => may_last d x (hd ▸ ha) h1⟩
  by_cases hA : mayS a = true
  · go_enter Tryd.func4, Tryd.ntmps4
    go_upto_region 4 with (go_at_call 9; refine (cA _ hT0.out).mono ?_; rintro e w1 ⟨rfl, hb⟩; obtain ⟨hB1, hT1⟩ := step_new hB0 hT0 hb; clear hb cA)
    go_cut [41] from 21 to 41 (fun v w' => v = .bool false ∧ Aside0 (Below w.heap.size w w') ∧ Aside0 (Tabs w'))
    case first =>
      rw [hA] at cMa
      by_cases hMb : mayS b = true
      · rw [hMb] at cMb
        by_cases hs : m + n ≤ 64
        · have e1 : decide (((m + n : Nat) : Int) ≤ 64) = true := decide_eq_true (by omega)
          have e2 : wrap64 ((m : Int) + (n : Int)) = ((m + n : Nat) : Int) := by unfold wrap64; omega
          rw [hJ.out hA hMb (by omega)] at cMj
          clear hL hJ hA
          generalize Str (a ++ b) = sj at hap cMj
          generalize Str a = sa at *
          generalize Str b = sb at *
          go_wp2_with (first | (go_at_call 12; with_reducible refine (cMa _ hT1.out).mono ?_; rintro e w2 ⟨rfl, hb⟩; replace hB1 := (step_new hB1 hT1 hb).1; replace hT1 := (hT1.out.below hb); replace hT1 := Aside0.mk hT1; clear hb) | (go_at_call 12; with_reducible refine (cMb _ hT1.out).mono ?_; rintro e w2 ⟨rfl, hb⟩; replace hB1 := (step_new hB1 hT1 hb).1; replace hT1 := (hT1.out.below hb); replace hT1 := Aside0.mk hT1; clear hb) | (go_at_call 12; with_reducible refine (cMj _ hT1.out).mono ?_; rintro e w2 ⟨rfl, hb⟩; replace hB1 := (step_new hB1 hT1 hb).1; replace hT1 := (hT1.out.below hb); replace hT1 := Aside0.mk hT1; clear hb))
          go_meet
          exact ⟨rfl, hB1, hT1⟩
        · have e1 : decide (((m + n : Nat) : Int) ≤ 64) = false := decide_eq_false (by omega)
          have e2 : wrap64 ((m : Int) + (n : Int)) = ((m + n : Nat) : Int) := by unfold wrap64; omega
          clear hL hJ hap cMj
          go_wp2_with (first | (go_at_call 12; with_reducible refine (cMa _ hT1.out).mono ?_; rintro e w2 ⟨rfl, hb⟩; replace hB1 := (step_new hB1 hT1 hb).1; replace hT1 := (hT1.out.below hb); replace hT1 := Aside0.mk hT1; clear hb) | (go_at_call 12; with_reducible refine (cMb _ hT1.out).mono ?_; rintro e w2 ⟨rfl, hb⟩; replace hB1 := (step_new hB1 hT1 hb).1; replace hT1 := (hT1.out.below hb); replace hT1 := Aside0.mk hT1; clear hb))
          go_meet
          exact ⟨rfl, hB1, hT1⟩
      · have hMb' : mayS b = false := by simpa using hMb
        rw [hMb'] at cMb
        clear hL hJ hap cMj hMb hMb'
        go_wp2_with (first | (go_at_call 12; with_reducible refine (cMa _ hT1.out).mono ?_; rintro e w2 ⟨rfl, hb⟩; replace hB1 := (step_new hB1 hT1 hb).1; replace hT1 := (hT1.out.below hb); replace hT1 := Aside0.mk hT1; clear hb) | (go_at_call 12; with_reducible refine (cMb _ hT1.out).mono ?_; rintro e w2 ⟨rfl, hb⟩; replace hB1 := (step_new hB1 hT1 hb).1; replace hT1 := (hT1.out.below hb); replace hT1 := Aside0.mk hT1; clear hb))
        go_meet
        exact ⟨rfl, hB1, hT1⟩
    obtain ⟨rfl, hB2, hT2⟩ := hcut
    clear hJ hap cMj cMb hB1 hT1
    have cMa' := cMa
    rw [hA] at cMa'
    by_cases h2 : m < 2
    · have e1 : decide ((m : Int) < 2) = true := decide_eq_true (by omega)
      clear hL
      go_wp2_with (first | (go_at_call 12; with_reducible refine (cMa' _ hT2.out).mono ?_; rintro e w2 ⟨rfl, hb⟩; obtain ⟨hB1, hT1⟩ := step_new hB2 hT2 hb; clear hb))
      go_ret
      exact ⟨rfl, hB1.out⟩
    · have e1 : decide ((m : Int) < 2) = false := decide_eq_false (by omega)
      obtain ⟨d, x, hd⟩ : ∃ d x, a = d ++ [x] := by
        rcases List.eq_nil_or_concat a with h | ⟨d, x, h⟩
        · rw [h] at hm; simp at hm; omega
        · exact ⟨d, x, by simpa using h⟩
      have hdl : d.length = m - 1 := by rw [hd] at hm; simp at hm; omega
      have hLd := hL.out d x hd hA (by omega)
      have hex : (Str a).extract 0 (m - 1) = Str d := by rw [Str_extract, hd, ← hdl]; simp
      have hix : ∀ h, (Str a)[m - 1]'h = x := by
        intro h
        subst hd
        simp [Str, ByteArray.getElem_eq_getElem_data, ← hdl]
      have cD := fun w hT => may_w d (by omega) w hT
      rw [hLd] at cD
      clear hL hd hdl hLd hA cMa
      generalize Str d = sd at hex cD
      generalize Str a = sa at *
      by_cases hx : x.toNat < 128
      · have x1 : decide ((x.toNat : Int) < 128) = true := decide_eq_true (by omega)
        rw [decide_eq_true hx] at cD
        clear hx
        go_wp2_with (first | (go_at_call 12; with_reducible refine (cMa' _ hT2.out).mono ?_; rintro e w2 ⟨rfl, hb⟩; obtain ⟨hB1, hT1⟩ := step_new hB2 hT2 hb; clear hb) | (go_at_call 12; with_reducible refine (cD _ hT1.out).mono ?_; rintro e w3 ⟨rfl, hb⟩; obtain ⟨hB3, hT3⟩ := step_new hB1 hT1 hb; clear hb))
        go_ret
        exact ⟨rfl, hB3.out⟩
      · have x1 : decide ((x.toNat : Int) < 128) = false := decide_eq_false (by omega)
        rw [decide_eq_false hx] at cD
        clear hx
        go_wp2_with (first | (go_at_call 12; with_reducible refine (cMa' _ hT2.out).mono ?_; rintro e w2 ⟨rfl, hb⟩; obtain ⟨hB1, hT1⟩ := step_new hB2 hT2 hb; clear hb) | (go_at_call 12; with_reducible refine (cD _ hT1.out).mono ?_; rintro e w3 ⟨rfl, hb⟩; obtain ⟨hB3, hT3⟩ := step_new hB1 hT1 hb; clear hb))
        go_ret
        exact ⟨rfl, hB3.out⟩
  · have hA' : mayS a = false := by simpa using hA
    rw [hA'] at cMa
    clear hL hJ hA hA' hap cMb cMj
    go_enter Tryd.func4, Tryd.ntmps4
    go_wp2_with (first | (go_at_call 9; refine (cA _ hT0.out).mono ?_; rintro e w1 ⟨rfl, hb⟩; obtain ⟨hB1, hT1⟩ := step_new hB0 hT0 hb; clear hb cA) | (go_at_call 12; with_reducible refine (cMa _ hT1.out).mono ?_; rintro e w2 ⟨rfl, hb⟩; replace hB1 := (step_new hB1 hT1 hb).1; replace hT1 := (hT1.out.below hb); replace hT1 := Aside0.mk hT1; clear hb))
    go_ret
    exact ⟨rfl, hB1.out⟩
end Go.Proofs.YtifdlbdecjlnaaaDoor.PAll

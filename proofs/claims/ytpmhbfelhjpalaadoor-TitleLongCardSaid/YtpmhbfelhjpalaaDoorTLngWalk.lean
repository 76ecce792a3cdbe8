/- The walk of TitleLong: it returns true and writes nothing that was there. -/
import Derived.Test.YtpmhbfelhjpalaaDoorTRes
import Derived.OpenShut
namespace Go.Proofs.YtpmhbfelhjpalaaDoor.Tlw
open Go.RowKit Go.Proofs.YtpmhbfelhjpalaaDoorW.PrintWords Go.Proofs.YtpmhbfelhjpalaaDoorW.PrintLast Go.Proofs.YtpmhbfelhjpalaaDoorW.PrintMore
open Go.Proofs.YtpmhbfelhjpalaaDoor.TP Go.Proofs.YtpmhbfelhjpalaaDoor.TJ Go.Proofs.YtpmhbfelhjpalaaDoor.TO Go.Proofs.YtpmhbfelhjpalaaDoor.TS
set_option linter.unusedVariables false
set_option linter.unusedSimpArgs false

def pa : ByteArray × Nat := (⟨#[97]⟩, 97)
def pw : ByteArray × Nat := (⟨#[230, 151, 165]⟩, 26085)
theorem pa_sign : IsSign pa.1 pa.2 := sign_ascii 97 (by decide)
theorem pw_sign : IsSign pw.1 pw.2 := by
  have d0 : Utf8.decode ⟨#[230, 151, 165]⟩ 0 = (26085, 3) := by decide +kernel
  have h := sign_of ⟨#[230, 151, 165]⟩ 0 (by decide) (by rw [d0]; simp)
  rw [d0] at h
  have e : (⟨#[230, 151, 165]⟩ : ByteArray).extract 0 (0 + 3) = ⟨#[230, 151, 165]⟩ := by decide +kernel
  dsimp only at h
  rw [e] at h
  exact h
theorem rep_le (p : ByteArray × Nat) (hp : p.1.size ≤ 3) (i : Nat) (hi : i ≤ 100) : (rep p i).size ≤ 300 := by
  rw [rep_size]
  calc i * p.1.size ≤ 100 * 3 := Nat.mul_le_mul hi hp
    _ = 300 := rfl

set_option maxRecDepth 100000 in
set_option maxHeartbeats 4000000 in
theorem walk (n : Int) (hn : -9223372036854775808 ≤ n ∧ n ≤ 9223372036854775807) (b : Bool) (w : World) (hT : Lib.Utf8Tabs 0 1 w) : Calls Tryd.prog 5 #[.int .i64 n, .bool b] w fun e w' => e = .returned (.bool true) ∧ Below w.heap.size w w' := by
  have HT := Aside0.mk hT
  clear hT
  obtain ⟨m, hm, hA⟩ := around_calls n hn w
  have HA := Aside0.mk hA
  clear hA
  go_enter Tryd.func5, Tryd.ntmps5
  go_wp2_with (fail)
  refine HA.out.mono ?_
  rintro e w1 ⟨rfl, hb⟩
  have HB1 := Aside0.mk hb
  clear hb HA
  cases b
  · obtain ⟨p, hp⟩ : ∃ p : ByteArray × Nat, p = pa := ⟨_, rfl⟩
    have hp1 : p.1 = ⟨#[97]⟩ := by rw [hp]; rfl
    have hps : p.1.size ≤ 3 := by rw [hp]; decide
    have HSG := Aside0.mk (show IsSign p.1 p.2 from by rw [hp]; exact pa_sign)
    have HOD := Aside0.mk (show odd p.2 = false from by rw [hp]; decide)
    have HR0 := Aside0.mk (show (⟨#[]⟩ : ByteArray) = rep p 0 from rfl)
    clear hp
    go_wp2
    try rw [← hp1]
    clear hp1
    go_loopw [6, 7, 8] (fun v6 v7 v8 wr => ∃ i : Nat, v6 = .string (rep p i) ∧ v7 = .string (rep p (min i 64)) ∧ v8 = .int .i64 i ∧ i ≤ m ∧ Aside0 (Below w.heap.size w wr)) (fun _ _ v8 _ => m - (intOf v8).toNat)
    case atStart => exact ⟨0, rfl, rfl, rfl, Nat.zero_le _, HB1⟩
    case round =>
      obtain ⟨i, rfl, rfl, rfl, hi, hbr⟩ := hrel
      have hz1 := rep_le p hps i (by omega)
      have hz2 := rep_le p hps (min i 64) (by omega)
      by_cases hlt : i < m
      · have g1 : decide ((i : Int) < (m : Int)) = true := decide_eq_true (by omega)
        have HS1 := Aside0.mk (rep_succ p i)
        by_cases h64 : i < 64
        · have g2 : decide ((i : Int) < 64) = true := decide_eq_true (by omega)
          go_wp2
          go_roundw
          case rel =>
            refine ⟨i + 1, by rw [rep_succ], ?_, by go_num, by omega, hbr⟩
            rw [Nat.min_eq_left (by omega), Nat.min_eq_left (by omega), rep_succ]
          case measure => simp [intOf]; omega
        · have g2 : decide ((i : Int) < 64) = false := decide_eq_false (by omega)
          go_wp2
          go_roundw
          case rel =>
            refine ⟨i + 1, by rw [rep_succ], ?_, by go_num, by omega, hbr⟩
            rw [Nat.min_eq_right (by omega), Nat.min_eq_right (by omega)]
          case measure => simp [intOf]; omega
      · obtain rfl : i = m := by omega
        have g1 : decide ((i : Int) < (i : Int)) = false := decide_eq_false (by omega)
        have HRC := Aside0.mk (rep_count p HSG.out i)
        have HRK := Aside0.mk (rep_clean p HSG.out HOD.out i)
        have HRG := Aside0.mk (rep_good p HSG.out HOD.out i)
        have q1 : ((i : Int) == (i : Int)) = true := by simp
        obtain ⟨g, hg⟩ : ∃ g : Bool, decide (i ≤ 64) = g := ⟨_, rfl⟩
        have q2 : decide ((i : Int) ≤ 64) = g := by rw [← hg, decide_eq_decide]; omega
        have HG := Aside0.mk hg
        clear hg
        obtain ⟨S, hS⟩ : ∃ S, rep p i = S := ⟨_, rfl⟩
        obtain ⟨T, hTt⟩ : ∃ T, rep p (min i 64) = T := ⟨_, rfl⟩
        rw [hS] at HRC HRK HRG hz1
        rw [hTt] at HRK hz2
        rw [HG.out] at HRG
        rw [hS, hTt]
        clear hS hTt
        have q3 : (T.toList == T.toList) = true := by simp
        have q4 : (g == g) = true := by simp
        go_wp2_with (fail)
        refine (TW.count_calls S _ (by omega)).mono ?_
        rw [HRC.out]
        rintro e w2 ⟨rfl, hb⟩
        have HB2 := Aside0.mk (below_step hbr.out hb)
        clear hb
        go_wp2_with (fail)
        refine (may_calls S (by omega) _ (Utf8Tabs_below HT.out HB2.out)).mono ?_
        rw [HRG.out]
        rintro e w3 ⟨rfl, hb⟩
        have HB3 := Aside0.mk (below_step HB2.out hb)
        clear hb HB2
        go_wp2_with (fail)
        refine (TC.clean_calls S (by omega) _ (Utf8Tabs_below HT.out HB3.out)).mono ?_
        rw [HRK.out]
        rintro e w4 ⟨rfl, hb⟩
        have HB4 := Aside0.mk (below_step HB3.out hb)
        clear hb HB3
        go_wp2_with (fail)
        refine (lives_calls _).mono ?_
        rintro e w5 ⟨rfl, hb⟩
        have HB5 := Aside0.mk (below_step HB4.out hb)
        clear hb HB4
        go_wp2
        go_ret
        exact ⟨rfl, HB5.out⟩
  · obtain ⟨p, hp⟩ : ∃ p : ByteArray × Nat, p = pw := ⟨_, rfl⟩
    have hp1 : p.1 = ⟨#[230, 151, 165]⟩ := by rw [hp]; rfl
    have hps : p.1.size ≤ 3 := by rw [hp]; decide
    have HSG := Aside0.mk (show IsSign p.1 p.2 from by rw [hp]; exact pw_sign)
    have HOD := Aside0.mk (show odd p.2 = false from by rw [hp]; decide)
    have HR0 := Aside0.mk (show (⟨#[]⟩ : ByteArray) = rep p 0 from rfl)
    clear hp
    go_wp2
    try rw [← hp1]
    clear hp1
    go_loopw [6, 7, 8] (fun v6 v7 v8 wr => ∃ i : Nat, v6 = .string (rep p i) ∧ v7 = .string (rep p (min i 64)) ∧ v8 = .int .i64 i ∧ i ≤ m ∧ Aside0 (Below w.heap.size w wr)) (fun _ _ v8 _ => m - (intOf v8).toNat)
    case atStart => exact ⟨0, rfl, rfl, rfl, Nat.zero_le _, HB1⟩
    case round =>
      obtain ⟨i, rfl, rfl, rfl, hi, hbr⟩ := hrel
      have hz1 := rep_le p hps i (by omega)
      have hz2 := rep_le p hps (min i 64) (by omega)
      by_cases hlt : i < m
      · have g1 : decide ((i : Int) < (m : Int)) = true := decide_eq_true (by omega)
        have HS1 := Aside0.mk (rep_succ p i)
        by_cases h64 : i < 64
        · have g2 : decide ((i : Int) < 64) = true := decide_eq_true (by omega)
          go_wp2
          go_roundw
          case rel =>
            refine ⟨i + 1, by rw [rep_succ], ?_, by go_num, by omega, hbr⟩
            rw [Nat.min_eq_left (by omega), Nat.min_eq_left (by omega), rep_succ]
          case measure => simp [intOf]; omega
        · have g2 : decide ((i : Int) < 64) = false := decide_eq_false (by omega)
          go_wp2
          go_roundw
          case rel =>
            refine ⟨i + 1, by rw [rep_succ], ?_, by go_num, by omega, hbr⟩
            rw [Nat.min_eq_right (by omega), Nat.min_eq_right (by omega)]
          case measure => simp [intOf]; omega
      · obtain rfl : i = m := by omega
        have g1 : decide ((i : Int) < (i : Int)) = false := decide_eq_false (by omega)
        have HRC := Aside0.mk (rep_count p HSG.out i)
        have HRK := Aside0.mk (rep_clean p HSG.out HOD.out i)
        have HRG := Aside0.mk (rep_good p HSG.out HOD.out i)
        have q1 : ((i : Int) == (i : Int)) = true := by simp
        obtain ⟨g, hg⟩ : ∃ g : Bool, decide (i ≤ 64) = g := ⟨_, rfl⟩
        have q2 : decide ((i : Int) ≤ 64) = g := by rw [← hg, decide_eq_decide]; omega
        have HG := Aside0.mk hg
        clear hg
        obtain ⟨S, hS⟩ : ∃ S, rep p i = S := ⟨_, rfl⟩
        obtain ⟨T, hTt⟩ : ∃ T, rep p (min i 64) = T := ⟨_, rfl⟩
        rw [hS] at HRC HRK HRG hz1
        rw [hTt] at HRK hz2
        rw [HG.out] at HRG
        rw [hS, hTt]
        clear hS hTt
        have q3 : (T.toList == T.toList) = true := by simp
        have q4 : (g == g) = true := by simp
        go_wp2_with (fail)
        refine (TW.count_calls S _ (by omega)).mono ?_
        rw [HRC.out]
        rintro e w2 ⟨rfl, hb⟩
        have HB2 := Aside0.mk (below_step hbr.out hb)
        clear hb
        go_wp2_with (fail)
        refine (may_calls S (by omega) _ (Utf8Tabs_below HT.out HB2.out)).mono ?_
        rw [HRG.out]
        rintro e w3 ⟨rfl, hb⟩
        have HB3 := Aside0.mk (below_step HB2.out hb)
        clear hb HB2
        go_wp2_with (fail)
        refine (TC.clean_calls S (by omega) _ (Utf8Tabs_below HT.out HB3.out)).mono ?_
        rw [HRK.out]
        rintro e w4 ⟨rfl, hb⟩
        have HB4 := Aside0.mk (below_step HB3.out hb)
        clear hb HB3
        go_wp2_with (fail)
        refine (lives_calls _).mono ?_
        rintro e w5 ⟨rfl, hb⟩
        have HB5 := Aside0.mk (below_step HB4.out hb)
        clear hb HB4
        go_wp2
        go_ret
        exact ⟨rfl, HB5.out⟩

/-- With the arguments as the row hands them. -/
theorem law (a : Int) (b : Bool) (W : World) (ha : (Lit.int .i64 a).wf = true) (hT : Lib.Utf8Tabs 0 1 W) : Calls Tryd.prog 5 #[.int .i64 a, .bool b] W fun e w' => e = .returned (.bool true) ∧ Below W.heap.size W w' := walk a (Go.bounds_i64 ha) b W hT
end Go.Proofs.YtpmhbfelhjpalaaDoor.Tlw

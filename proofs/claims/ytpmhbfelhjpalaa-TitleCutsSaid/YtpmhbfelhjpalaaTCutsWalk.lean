/- The walk of TitleCuts: it returns true and writes nothing that was there. -/
import Derived.Test.YtpmhbfelhjpalaaTCut
import Derived.WalkSpells
import Derived.OpenShut
namespace Go.Proofs.Ytpmhbfelhjpalaa.TC
open Go.RowKit Go.Proofs.YtpmhbfelhjpalaaW.PrintWords Go.Proofs.YtpmhbfelhjpalaaW.PrintLast Go.Proofs.YtpmhbfelhjpalaaW.PrintMore
open Go.Proofs.Ytpmhbfelhjpalaa.TP Go.Proofs.Ytpmhbfelhjpalaa.TJ
open Go.Proofs.Ytpmhbfelhjpalaa.TW (cutAt_le cut_calls wide_calls)
open Go.Proofs.Ytpmhbfelhjpalaa.Tjw (few_calls lives_calls begins_calls)
open Go.Proofs.Ytpmhbfelhjpalaa.TWRC (rwidth_calls)
attribute [local go_sem] max2_int min2_int max_two min_two
set_option linter.unusedVariables false
set_option linter.unusedSimpArgs false

set_option maxRecDepth 100000 in
set_option maxHeartbeats 16000000 in
theorem cuts_walk (s0 : ByteArray) (n : Int) (w : World) (hn : -9223372036854775808 ≤ n ∧ n ≤ 9223372036854775807) :
    Calls Try.prog 6 #[.string s0, .int .i64 n] w fun e w' => e = .returned (.bool true) ∧ Below w.heap.size w w' := by
  have HFew := Aside0.mk (fun w => few_calls s0 200 w)
  obtain ⟨s, hs⟩ : ∃ z, s0.extract 0 200 = z := ⟨_, rfl⟩
  have hsz : s.size ≤ 200 := by rw [← hs, ByteArray.size_extract]; omega
  rw [hs] at HFew
  clear hs
  obtain ⟨k, hk, HAr⟩ := around_calls n 100 (by omega) w hn
  have HAr := Aside0.mk HAr
  have HC := Aside0.mk (fun w => cut_calls s (k : Int) w (by omega) (by omega))
  have HCn := Aside0.mk (fun w => cut_calls s n w (by omega) hn)
  have HR := Aside0.mk (fun w => rcut_calls s (by omega) (k : Int) (by omega) w)
  have HRn := Aside0.mk (fun w => rcut_calls s (by omega) n hn.2 w)
  have HP := Aside0.mk (fun w => pad_calls s (k : Int) (by omega) (by omega) w)
  have HPm := Aside0.mk (fun w => pad_calls s (-1) (by omega) (by omega) w)
  rw [pad_neg] at HPm
  obtain ⟨p1, p2⟩ := cut_pre s (k : Int)
  have p3 := pad_size s (k : Int)
  have p4 := pad_pre s (k : Int)
  have p5 := pad_wide s (k : Int) (by omega)
  have p6 := cut_le s (k : Int) (by omega)
  have p7 : padN s (k : Int) = (k - wds (sgs (cut s (k : Int)) 0)) := by unfold padN; omega
  obtain ⟨c, hc⟩ : ∃ z, cut s (k : Int) = z := ⟨_, rfl⟩
  obtain ⟨cn, hcn⟩ : ∃ z, cut s n = z := ⟨_, rfl⟩
  obtain ⟨p, hp⟩ : ∃ z, pad s (k : Int) = z := ⟨_, rfl⟩
  rw [hc] at HC HR p1 p2 p3 p4 p6 p7
  rw [hcn] at HCn HRn
  rw [hp] at HP p3 p4 p5
  have HWc := Aside0.mk (fun w => wide_calls c w (by omega))
  have HWr := Aside0.mk (fun w => rwidth_calls c (by omega) w)
  obtain ⟨wc, hwc⟩ : ∃ z, wds (sgs c 0) = z := ⟨_, rfl⟩
  rw [hwc] at HWc HWr p6 p7
  have hps : p.size ≤ 400 := by omega
  have HWp := Aside0.mk (fun w => wide_calls p w (by omega))
  obtain ⟨wp, hwp⟩ : ∃ z, wds (sgs p 0) = z := ⟨_, rfl⟩
  rw [hwp] at HWp p5
  obtain rfl : wp = k := by omega
  have hpc : p.size - c.size = wp - wc := by omega
  have hle : c.size ≤ p.size := by omega
  have hwk : wc ≤ wp := by omega
  have HP4 := Aside0.mk p4
  have HP2 := Aside0.mk p2
  have x1 : ((p.size : Int) - (c.size : Int) == (wp : Int) - (wc : Int)) = true := by rw [beq_iff_eq]; omega
  have x2 : ¬ ((c.size : Int) > (s.size : Int)) := by omega
  have x3 : ¬ ((wc : Int) > (wp : Int)) := by omega
  have x4 : ¬ ((p.size : Int) < (c.size : Int)) := by omega
  clear hc hcn hp hwc hwp p3 p5 p6 p7 hpc p4 p2
  go_enter Try.func6, Try.ntmps6
  go_wp2_with (fail)
  refine (HFew.out _).mono ?_
  rintro e w1 ⟨rfl, m1, rfl⟩
  have B1 := Aside0.mk (pw_below_drewN (Below.refl w.heap.size w) m1)
  generalize w.drewN m1 = w1 at B1 ⊢
  go_wp2_with (fail)
  refine (HAr.out _).mono ?_
  rintro e w2 ⟨rfl, m2, rfl⟩
  have B2 := Aside0.mk (pw_below_drewN B1.out m2)
  generalize w1.drewN m2 = w2 at B2 ⊢
  clear B1
  go_wp2_with (fail)
  refine (HC.out _).mono ?_
  rintro e w3 ⟨rfl, hb3⟩
  have B3 := Aside0.mk (below_step B2.out hb3)
  clear hb3 B2
  go_wp2_with (fail)
  refine (HP.out _).mono ?_
  rintro e w4 ⟨rfl, hb4⟩
  have B4 := Aside0.mk (below_step B3.out hb4)
  clear hb4 B3
  go_wp2_with (fail)
  refine (HCn.out _).mono ?_
  rintro e w5 ⟨rfl, hb5⟩
  have B5 := Aside0.mk (below_step B4.out hb5)
  clear hb5 B4
  go_wp2_with (fail)
  refine (HRn.out _).mono ?_
  rintro e w6 ⟨rfl, hb6⟩
  have B6 := Aside0.mk (below_step B5.out hb6)
  clear hb6 B5
  go_wp2_with (fail)
  refine (HR.out _).mono ?_
  rintro e w7 ⟨rfl, hb7⟩
  have B7 := Aside0.mk (below_step B6.out hb7)
  clear hb7 B6
  have y2 := HP2.out
  go_wp2_with (fail)
  refine (HWc.out _).mono ?_
  rintro e w8 ⟨rfl, hb8⟩
  have B8 := Aside0.mk (below_step B7.out hb8)
  clear hb8 B7 y2
  go_wp2_with (fail)
  refine (HWp.out _).mono ?_
  rintro e w9 ⟨rfl, hb9⟩
  have B9 := Aside0.mk (below_step B8.out hb9)
  clear hb9 B8
  have y4 := HP4.out
  go_wp2_with (fail)
  refine (HWr.out _).mono ?_
  rintro e w10 ⟨rfl, hb10⟩
  have B10 := Aside0.mk (below_step B9.out hb10)
  clear hb10 B9 y4
  go_wp2_with (fail)
  refine (HPm.out _).mono ?_
  rintro e w11 ⟨rfl, hb11⟩
  have B11 := Aside0.mk (below_step B10.out hb11)
  clear hb11 B10
  go_wp2_with (fail)
  refine (lives_calls _).mono ?_
  rintro e w12 ⟨rfl, hb12⟩
  have B12 := Aside0.mk (below_step B11.out hb12)
  clear hb12 B11
  go_wp2_with (fail)
  go_ret
  exact ⟨rfl, B12.out⟩

/-- With the arguments as the row hands them. -/
theorem cuts_law (a : ByteArray) (n : Int) (W : World) (_ : a.size ≤ 140737488351232) (h : (Lit.int .i64 n).wf = true) : Calls Try.prog 6 #[.string a, .int .i64 n] W fun e w' => e = .returned (.bool true) ∧ Below W.heap.size W w' := cuts_walk a n W (Go.bounds_i64 h)

end Go.Proofs.Ytpmhbfelhjpalaa.TC

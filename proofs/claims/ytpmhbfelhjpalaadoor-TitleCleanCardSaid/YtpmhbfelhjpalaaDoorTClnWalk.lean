/- The walk of TitleClean: it returns true and writes nothing that was there. -/
import Derived.Test.YtpmhbfelhjpalaaDoorTRes
namespace Go.Proofs.YtpmhbfelhjpalaaDoor.Tcw
open Go.RowKit Go.Proofs.YtpmhbfelhjpalaaDoorW.PrintWords Go.Proofs.YtpmhbfelhjpalaaDoorW.PrintLast Go.Proofs.YtpmhbfelhjpalaaDoorW.PrintMore
open Go.Proofs.YtpmhbfelhjpalaaDoor.TP Go.Proofs.YtpmhbfelhjpalaaDoor.TJ Go.Proofs.YtpmhbfelhjpalaaDoor.TO Go.Proofs.YtpmhbfelhjpalaaDoor.TS
set_option linter.unusedVariables false
set_option linter.unusedSimpArgs false

set_option maxRecDepth 100000 in
set_option maxHeartbeats 2000000 in
theorem walk (s0 : ByteArray) (w : World) (hT : Lib.Utf8Tabs 0 1 w) : Calls Tryd.prog 3 #[.string s0] w fun e w' => e = .returned (.bool true) ∧ Below w.heap.size w w' := by
  obtain ⟨s, hs_⟩ : ∃ s, s0.extract 0 300 = s := ⟨_, rfl⟩
  have hs : s.size ≤ 300 := by rw [← hs_, ByteArray.size_extract]; omega
  have HS := Aside0.mk hs_
  clear hs_
  have HT := Aside0.mk hT
  obtain ⟨c, hc_⟩ : ∃ c, clean s = c := ⟨_, rfl⟩
  have hcs : c.size ≤ 256 := by rw [← hc_]; exact clean_size s
  have HC := Aside0.mk hc_
  have HCC := Aside0.mk (show clean c = c from by rw [← hc_]; exact clean_clean s)
  obtain ⟨m, hm_⟩ : ∃ m : Bool, decide (c = s) = m := ⟨_, rfl⟩
  have HM := Aside0.mk hm_
  clear hT hc_ hm_
  have q1 : (c.toList == c.toList) = true := by simp
  have q2 : (m == m) = true := by simp
  go_enter Tryd.func3, Tryd.ntmps3
  go_wp2_with (fail)
  refine (few_calls s0 300 _).mono ?_
  rw [HS.out]
  rintro e w1 ⟨rfl, hb⟩
  have HB1 := Aside0.mk hb
  clear hb
  go_wp2_with (fail)
  refine (TC.clean_calls s (by omega) _ (Utf8Tabs_below HT.out HB1.out)).mono ?_
  rw [HC.out]
  rintro e w2 ⟨rfl, hb⟩
  have HB2 := Aside0.mk (below_step HB1.out hb)
  clear hb HB1
  go_wp2_with (fail)
  refine (rclean_calls s (by omega) _).mono ?_
  rw [HC.out]
  rintro e w3 ⟨rfl, hb⟩
  have HB3 := Aside0.mk (below_step HB2.out hb)
  clear hb HB2
  go_wp2_with (fail)
  refine (may_calls s (by omega) _ (Utf8Tabs_below HT.out HB3.out)).mono ?_
  rw [HC.out, HM.out]
  rintro e w4 ⟨rfl, hb⟩
  have HB4 := Aside0.mk (below_step HB3.out hb)
  clear hb HB3
  go_wp2_with (fail)
  refine (rmay_calls s (by omega) _).mono ?_
  rw [HC.out, HM.out]
  rintro e w5 ⟨rfl, hb⟩
  have HB5 := Aside0.mk (below_step HB4.out hb)
  clear hb HB4
  go_wp2_with (fail)
  refine (may_calls c (by omega) _ (Utf8Tabs_below HT.out HB5.out)).mono ?_
  rw [HCC.out, decide_eq_true rfl]
  rintro e w6 ⟨rfl, hb⟩
  have HB6 := Aside0.mk (below_step HB5.out hb)
  clear hb HB5
  go_wp2_with (fail)
  refine (TC.clean_calls c (by omega) _ (Utf8Tabs_below HT.out HB6.out)).mono ?_
  rw [HCC.out]
  rintro e w7 ⟨rfl, hb⟩
  have HB7 := Aside0.mk (below_step HB6.out hb)
  clear hb HB6
  go_wp2_with (fail)
  refine (rmay_calls c (by omega) _).mono ?_
  rw [HCC.out, decide_eq_true rfl]
  rintro e w8 ⟨rfl, hb⟩
  have HB8 := Aside0.mk (below_step HB7.out hb)
  clear hb HB7
  go_wp2_with (fail)
  refine (lives_calls _).mono ?_
  rintro e w9 ⟨rfl, hb⟩
  have HB9 := Aside0.mk (below_step HB8.out hb)
  clear hb HB8
  go_wp2
  go_ret
  exact ⟨rfl, HB9.out⟩

/-- With the arguments as the row hands them. -/
theorem law (a : ByteArray) (W : World) (_ : a.size ≤ 140737488351232) (hT : Lib.Utf8Tabs 0 1 W) : Calls Tryd.prog 3 #[.string a] W fun e w' => e = .returned (.bool true) ∧ Below W.heap.size W w' := walk a W hT
end Go.Proofs.YtpmhbfelhjpalaaDoor.Tcw

/- The walk of TitleOdd: it returns true and writes nothing that was there. -/
import Derived.Test.YtpmhbfelhjpalaaDoorTRes
import Derived.OpenShut
namespace Go.Proofs.YtpmhbfelhjpalaaDoor.Tow
open Go.RowKit Go.Proofs.YtpmhbfelhjpalaaDoorW.PrintWords Go.Proofs.YtpmhbfelhjpalaaDoorW.PrintLast Go.Proofs.YtpmhbfelhjpalaaDoorW.PrintMore
open Go.Proofs.YtpmhbfelhjpalaaDoor.TP Go.Proofs.YtpmhbfelhjpalaaDoor.TJ Go.Proofs.YtpmhbfelhjpalaaDoor.TO Go.Proofs.YtpmhbfelhjpalaaDoor.TS
set_option linter.unusedVariables false
set_option linter.unusedSimpArgs false

/-- One byte, as a string. -/
theorem conv_one (w : World) (d : Int) (hd : 0 ≤ d ∧ d ≤ 255) :
    (convert 26 9 (.slice (some ⟨w.heap.size, 0, none⟩) 1 1)).run Tryd.prog (w.alloc (.cells #[.int .u8 d] 5)) = .ok (.string ⟨#[UInt8.ofNat d.toNat]⟩) (w.alloc (.cells #[.int .u8 d] 5)) := by
  have hb : ((UInt8.ofNat d.toNat).toNat : Int) = d := by
    rw [UInt8.toNat_ofNat']
    omega
  have := run_convert_bytes_back (P := Tryd.prog) (w.alloc (.cells #[.int .u8 d] 5)) 26 9 5 ⟨w.heap.size, 0, none⟩ 1 [UInt8.ofNat d.toNat] Tryd.underlying26 Tryd.underlying5 Tryd.underlying9 (fun j hj => by
    have hj0 : j = 0 := by simp at hj; omega
    subst hj0
    simp only [List.getElem_cons_zero, hb]
    simp [Addr.add])
  exact this
theorem own_byte (d : Int) (hd : 0 ≤ d ∧ d ≤ 255) : ((UInt8.ofNat d.toNat).toNat : Int) = d := by
  rw [UInt8.toNat_ofNat']
  omega
/-- What the law asks of a title and one bad byte behind it. -/
theorem own_facts (s : ByteArray) (hs : s.size ≤ 40) (o : UInt8) (ho : o.toNat < 32 ∨ (128 ≤ o.toNat ∧ o.toNat < 192)) :
    (sgs (clean s) 0).length ≤ 40 ∧ clean (clean s) = clean s ∧ clean (clean s ++ ⟨#[o]⟩) = clean s ++ ⟨#[63]⟩ ∧ ¬ (clean (clean s ++ ⟨#[o]⟩) = clean s ++ ⟨#[o]⟩) ∧ (sgs (clean s ++ ⟨#[o]⟩) 0).length = (sgs (clean s) 0).length + 1 := by
  have h1 : (sgs (clean s) 0).length = (cleanPs s).length := by
    show (sgs (cat (cleanPs s)) 0).length = _
    rw [sgs_whole _ (whole_clean s), lay_length]
  have h2 : (cleanPs s).length ≤ 40 := by
    unfold cleanPs
    have := sgs_length s 0
    rw [List.length_map, List.length_take]
    omega
  obtain ⟨h3, h4⟩ := clean_own s (by omega) o ho
  refine ⟨by omega, clean_clean s, h3, ?_, h4⟩
  rw [h3]
  intro h
  have h5 := congrArg (fun b => b.data.toList) h
  simp only [list_append] at h5
  have h6 := List.append_cancel_left h5
  simp at h6
  subst h6
  revert ho
  decide

set_option maxRecDepth 100000 in
set_option maxHeartbeats 4000000 in
theorem walk (s0 : ByteArray) (c : Int) (hc : 0 ≤ c ∧ c ≤ 255) (b : Bool) (w : World) (hT : Lib.Utf8Tabs 0 1 w) : Calls Tryd.prog 4 #[.string s0, .int .u8 c, .bool b] w fun e w' => e = .returned (.bool true) ∧ Below w.heap.size w w' := by
  have HT := Aside0.mk hT
  clear hT
  obtain ⟨s, hs_⟩ : ∃ s, s0.extract 0 40 = s := ⟨_, rfl⟩
  have hs : s.size ≤ 40 := by rw [← hs_, ByteArray.size_extract]; omega
  have HS := Aside0.mk hs_
  clear hs_
  obtain ⟨x, hx_⟩ : ∃ x, clean s = x := ⟨_, rfl⟩
  have hxs : x.size ≤ 256 := by rw [← hx_]; exact clean_size s
  have HX := Aside0.mk hx_
  clear hx_
  go_enter Tryd.func4, Tryd.ntmps4
  go_wp2_with (fail)
  refine (few_calls s0 40 _).mono ?_
  rw [HS.out]
  rintro e w1 ⟨rfl, hb⟩
  have HB1 := Aside0.mk hb
  clear hb
  go_wp2_with (fail)
  refine (rclean_calls s (by omega) _).mono ?_
  rw [HX.out]
  rintro e w2 ⟨rfl, hb⟩
  have HB2 := Aside0.mk (below_step HB1.out hb)
  clear hb HB1
  cases b
  · have hob := own_byte (c % 32) (by omega)
    have hcv1 := conv_one w2 (c % 32) (by omega)
    have hcv2 := conv_one (w2.alloc (.cells #[.int .u8 (c % 32)] 5)) (128 + c % 64) (by omega)
    rw [World.size_alloc] at hcv2
    obtain ⟨f1, f2, f3, f4, f5⟩ := own_facts s hs (UInt8.ofNat ((c % 32)).toNat) (by omega)
    obtain ⟨O, hO⟩ : ∃ O : ByteArray, ⟨#[UInt8.ofNat ((c % 32)).toNat]⟩ = O := ⟨_, rfl⟩
    have hOs : O.size = 1 := by rw [← hO]; rfl
    rw [hO] at f3 f4 f5 hcv1
    rw [HX.out] at f1 f2 f3 f4 f5
    obtain ⟨k, hk⟩ : ∃ k, (sgs x 0).length = k := ⟨_, rfl⟩
    rw [hk] at f1 f5
    have HK := Aside0.mk hk
    have F2 := Aside0.mk f2
    have F3 := Aside0.mk f3
    have F4 := Aside0.mk (decide_eq_false f4)
    have F5 := Aside0.mk f5
    have hgt : decide ((k : Int) > 60) = false := decide_eq_false (by omega)
    clear hk f2 f3 f4 f5 hob hO
    have q1 : ((x ++ ⟨#[63]⟩ : ByteArray).toList == (x ++ ⟨#[63]⟩ : ByteArray).toList) = true := by simp
    have q2 : ((k : Int) + 1 == (k : Int) + 1) = true := by simp
    go_wp2_with (fail)
    clear hcv1 hcv2
    refine (rsigns_calls x (by omega) _).mono ?_
    rw [HK.out]
    rintro e w3 ⟨A, C, rfl, hb⟩
    have HB3 := Aside0.mk (below_step (below_alloc HB2.out _) hb)
    clear hb HB2
    go_wp2_with (fail)
    refine (may_calls x (by omega) _ (Utf8Tabs_below HT.out HB3.out)).mono ?_
    rw [F2.out, decide_eq_true rfl]
    rintro e w4 ⟨rfl, hb⟩
    have HB4 := Aside0.mk (below_step HB3.out hb)
    clear hb HB3
    go_wp2_with (fail)
    refine (may_calls (x ++ O) (by rw [ByteArray.size_append]; omega) _ (Utf8Tabs_below HT.out HB4.out)).mono ?_
    rw [F4.out]
    rintro e w5 ⟨rfl, hb⟩
    have HB5 := Aside0.mk (below_step HB4.out hb)
    clear hb HB4
    go_wp2_with (fail)
    refine (TC.clean_calls (x ++ O) (by rw [ByteArray.size_append]; omega) _ (Utf8Tabs_below HT.out HB5.out)).mono ?_
    rw [F3.out]
    rintro e w6 ⟨rfl, hb⟩
    have HB6 := Aside0.mk (below_step HB5.out hb)
    clear hb HB5
    go_wp2_with (fail)
    refine (TW.count_calls (x ++ O) _ (by rw [ByteArray.size_append]; omega)).mono ?_
    rw [F5.out]
    rintro e w7 ⟨rfl, hb⟩
    have HB7 := Aside0.mk (below_step HB6.out hb)
    clear hb HB6
    go_wp2_with (fail)
    refine (TW.count_calls x _ (by omega)).mono ?_
    rw [HK.out]
    rintro e w8 ⟨rfl, hb⟩
    have HB8 := Aside0.mk (below_step HB7.out hb)
    clear hb HB7
    go_wp2_with (fail)
    refine (lives_calls _).mono ?_
    rintro e w9 ⟨rfl, hb⟩
    have HB9 := Aside0.mk (below_step HB8.out hb)
    clear hb HB8
    go_wp2
    go_ret
    exact ⟨rfl, HB9.out⟩
  · have hob := own_byte (128 + c % 64) (by omega)
    have hcv1 := conv_one w2 (c % 32) (by omega)
    have hcv2 := conv_one (w2.alloc (.cells #[.int .u8 (c % 32)] 5)) (128 + c % 64) (by omega)
    rw [World.size_alloc] at hcv2
    obtain ⟨f1, f2, f3, f4, f5⟩ := own_facts s hs (UInt8.ofNat ((128 + c % 64)).toNat) (by omega)
    obtain ⟨O, hO⟩ : ∃ O : ByteArray, ⟨#[UInt8.ofNat ((128 + c % 64)).toNat]⟩ = O := ⟨_, rfl⟩
    have hOs : O.size = 1 := by rw [← hO]; rfl
    rw [hO] at f3 f4 f5 hcv2
    rw [HX.out] at f1 f2 f3 f4 f5
    obtain ⟨k, hk⟩ : ∃ k, (sgs x 0).length = k := ⟨_, rfl⟩
    rw [hk] at f1 f5
    have HK := Aside0.mk hk
    have F2 := Aside0.mk f2
    have F3 := Aside0.mk f3
    have F4 := Aside0.mk (decide_eq_false f4)
    have F5 := Aside0.mk f5
    have hgt : decide ((k : Int) > 60) = false := decide_eq_false (by omega)
    clear hk f2 f3 f4 f5 hob hO
    have q1 : ((x ++ ⟨#[63]⟩ : ByteArray).toList == (x ++ ⟨#[63]⟩ : ByteArray).toList) = true := by simp
    have q2 : ((k : Int) + 1 == (k : Int) + 1) = true := by simp
    go_wp2_with (fail)
    clear hcv1 hcv2
    refine (rsigns_calls x (by omega) _).mono ?_
    rw [HK.out]
    rintro e w3 ⟨A, C, rfl, hb⟩
    have HB3 := Aside0.mk (below_step (below_alloc (below_alloc HB2.out _) _) hb)
    clear hb HB2
    go_wp2_with (fail)
    refine (may_calls x (by omega) _ (Utf8Tabs_below HT.out HB3.out)).mono ?_
    rw [F2.out, decide_eq_true rfl]
    rintro e w4 ⟨rfl, hb⟩
    have HB4 := Aside0.mk (below_step HB3.out hb)
    clear hb HB3
    go_wp2_with (fail)
    refine (may_calls (x ++ O) (by rw [ByteArray.size_append]; omega) _ (Utf8Tabs_below HT.out HB4.out)).mono ?_
    rw [F4.out]
    rintro e w5 ⟨rfl, hb⟩
    have HB5 := Aside0.mk (below_step HB4.out hb)
    clear hb HB4
    go_wp2_with (fail)
    refine (TC.clean_calls (x ++ O) (by rw [ByteArray.size_append]; omega) _ (Utf8Tabs_below HT.out HB5.out)).mono ?_
    rw [F3.out]
    rintro e w6 ⟨rfl, hb⟩
    have HB6 := Aside0.mk (below_step HB5.out hb)
    clear hb HB5
    go_wp2_with (fail)
    refine (TW.count_calls (x ++ O) _ (by rw [ByteArray.size_append]; omega)).mono ?_
    rw [F5.out]
    rintro e w7 ⟨rfl, hb⟩
    have HB7 := Aside0.mk (below_step HB6.out hb)
    clear hb HB6
    go_wp2_with (fail)
    refine (TW.count_calls x _ (by omega)).mono ?_
    rw [HK.out]
    rintro e w8 ⟨rfl, hb⟩
    have HB8 := Aside0.mk (below_step HB7.out hb)
    clear hb HB7
    go_wp2_with (fail)
    refine (lives_calls _).mono ?_
    rintro e w9 ⟨rfl, hb⟩
    have HB9 := Aside0.mk (below_step HB8.out hb)
    clear hb HB8
    go_wp2
    go_ret
    exact ⟨rfl, HB9.out⟩

/-- With the arguments as the row hands them. -/
theorem law (a : ByteArray) (c : Int) (b : Bool) (W : World) (_ : a.size ≤ 140737488351232) (hc : (Lit.int .u8 c).wf = true) (hT : Lib.Utf8Tabs 0 1 W) : Calls Tryd.prog 4 #[.string a, .int .u8 c, .bool b] W fun e w' => e = .returned (.bool true) ∧ Below W.heap.size W w' := walk a c (by have := Go.bounds_u8 hc; omega) b W hT
end Go.Proofs.YtpmhbfelhjpalaaDoor.Tow

/- The walk of TitleJoins: it returns true and writes nothing that was there. -/
import Derived.Test.YtpmhbfelhjpalaaTRef
import Derived.Test.YtpmhbfelhjpalaaTWalks
import Derived.Test.YtpmhbfelhjpalaaPTitleJoinsx3
import Derived.ShutString
namespace Go.Proofs.Ytpmhbfelhjpalaa.Tjw
open Go.RowKit Go.Proofs.YtpmhbfelhjpalaaW.PrintWords Go.Proofs.YtpmhbfelhjpalaaW.PrintLast Go.Proofs.YtpmhbfelhjpalaaW.PrintMore
open Go.Proofs.Ytpmhbfelhjpalaa.PTitleJoins Go.Proofs.Ytpmhbfelhjpalaa.TP Go.Proofs.Ytpmhbfelhjpalaa.TJ Go.Proofs.Ytpmhbfelhjpalaa.TR Go.Proofs.Ytpmhbfelhjpalaa.TW
set_option linter.unusedVariables false
set_option linter.unusedSimpArgs false

/-- The document's example, in its bytes. -/
theorem lives_cut : cut ⟨#[230, 151, 165, 230, 156, 172]⟩ 3 = ⟨#[230, 151, 165]⟩ := by
  unfold cut
  rw [if_neg (by omega)]
  have d0 : Utf8.decode ⟨#[230, 151, 165, 230, 156, 172]⟩ 0 = (26085, 3) := by decide +kernel
  have d3 : Utf8.decode ⟨#[230, 151, 165, 230, 156, 172]⟩ 3 = (26412, 3) := by decide +kernel
  have w0 : wd 26085 = 2 := by decide
  have w3 : wd 26412 = 2 := by decide
  rw [cutAt_step _ 0 _ (by decide) (by rw [d0]; dsimp only; rw [w0]; omega), d0]
  dsimp only
  rw [w0, cutAt_stop _ _ _ (by decide) (by rw [d3]; dsimp only; rw [w3]; omega)]
  decide +kernel

set_option maxHeartbeats 400000 in
theorem lives_calls (w : World) : Calls Try.prog 14 #[] w fun e w' => e = .returned (.bool true) ∧ Below w.heap.size w w' := by
  have hc := Aside0.mk lives_cut
  go_enter Try.func14, Try.ntmps14
  go_wp2_with ((go_at_call 13; refine (cut_calls _ 3 _ (by decide) (by omega)).mono ?_; rintro e w1 ⟨rfl, hb⟩; rw [hc.out]))
  go_ret
  exact ⟨rfl, hb⟩

theorem few_calls (s : ByteArray) (n : Nat) (w : World) : Calls Try.prog 9 #[.string s, .int .i64 n] w fun e w' => e = .returned (.string (s.extract 0 n)) ∧ ∃ k, w' = w.drewN k := by
  refine (rondelref06_Few.calls s n (s.extract 0 n) w (few_f s n)).mono ?_
  rintro e w' ⟨rfl, h⟩
  exact ⟨rfl, h.out⟩
theorem clean_calls (s : ByteArray) (hs : s.size < 4398046511104) (w : World) : Calls Try.prog 8 #[.string s] w fun e w' => e = .returned (.string (clean s)) ∧ Below w.heap.size w w' := by
  obtain ⟨k, hk⟩ := clean_f s hs
  exact rondelref06_Clean.calls k s (clean s) w hk
theorem begins_calls (a b : ByteArray) (r : Bool) (h : rondellaw06_begins.f a b = some r) (w : World) : Calls Try.prog 12 #[.string a, .string b] w fun e w' => e = .returned (.bool r) ∧ ∃ k, w' = w.drewN k := by
  refine (rondellaw06_begins.calls a b r w h).mono ?_
  rintro e w' ⟨rfl, h⟩
  exact ⟨rfl, h.out⟩

/-- Two clean texts, one behind the other. -/
theorem joins (a b : ByteArray) : (sgs (clean a ++ clean b) 0).length = (sgs (clean a) 0).length + (sgs (clean b) 0).length ∧ wds (sgs (clean a ++ clean b) 0) = wds (sgs (clean a) 0) + wds (sgs (clean b) 0) := by
  unfold clean
  have h1 := whole_clean a
  have h2 := whole_clean b
  rw [← cat_append, sgs_whole _ h1, sgs_whole _ h2, sgs_whole _ (fun q hq => (List.mem_append.1 hq).elim (h1 q) (h2 q))]
  simp only [lay_length, wds_lay, List.length_append, wsum_append, and_self]
theorem begin_ok (a : ByteArray) (y : ByteArray) : rondellaw06_begins.f (cut (clean a ++ y) (wds (sgs (clean a) 0))) (clean a) = some true := by
  have h1 := whole_clean a
  have hw : wds (sgs (clean a) 0) = wsum (cleanPs a) := by
    unfold clean
    rw [sgs_whole _ h1, wds_lay]
  have hc := cutAt_cat _ h1 ByteArray.empty y (wsum (cleanPs a)) (Int.le_refl _)
  rw [ByteArray.empty_append, ByteArray.size_empty, Nat.zero_add, Int.sub_self] at hc
  have hle := cutAt_le (clean a ++ y) 0 (clean a).size (by rw [ByteArray.size_append]; omega)
  have e : cut (clean a ++ y) (wds (sgs (clean a) 0)) = (clean a ++ y).extract 0 (cutAt (clean a ++ y) (clean a).size 0) := by
    unfold cut
    rw [if_neg (by omega), hw]
    congr 1
  rw [e]
  generalize hm : cutAt (clean a ++ y) (clean a).size 0 = m at *
  have hs : ((clean a ++ y).extract 0 m).size = m := by rw [ByteArray.size_extract]; omega
  unfold rondellaw06_begins.f
  rw [hs, if_neg (by omega), if_pos (by omega), if_pos (by omega)]
  congr 1
  rw [beq_iff_eq, Int.toNat_natCast]
  congr 1
  apply ba_ext
  rw [extract_list, extract_list, list_append]
  rw [List.drop_zero, Nat.sub_zero, Nat.sub_zero, List.drop_zero, List.take_take, Nat.min_eq_left (by omega), size_list, List.take_left]

set_option maxHeartbeats 1000000 in
theorem walk (a b : ByteArray) (w : World) : Calls Try.prog 3 #[.string a, .string b] w fun e w' => e = .returned (.bool true) ∧ Below w.heap.size w w' := by
  obtain ⟨x, hx⟩ : ∃ x, x = clean (a.extract 0 60) := ⟨_, rfl⟩
  obtain ⟨y, hy⟩ : ∃ y, y = clean (b.extract 0 60) := ⟨_, rfl⟩
  have sx : x.size ≤ 256 := by rw [hx]; exact clean_size _
  have sy : y.size ≤ 256 := by rw [hy]; exact clean_size _
  have hj := joins (a.extract 0 60) (b.extract 0 60)
  have hb := begin_ok (a.extract 0 60) y
  rw [← hx, ← hy] at hj
  rw [← hx] at hb
  have HX := Aside0.mk hx
  have HY := Aside0.mk hy
  clear hx hy
  have sxy : (x ++ y).size ≤ 140737488351232 := by rw [ByteArray.size_append]; omega
  have l1 := sgs_length x 0
  have l2 := sgs_length y 0
  have v1 := wds_le (sgs x 0)
  have v2 := wds_le (sgs y 0)
  obtain ⟨n1, hn1⟩ : ∃ n, n = (sgs x 0).length := ⟨_, rfl⟩
  obtain ⟨n2, hn2⟩ : ∃ n, n = (sgs y 0).length := ⟨_, rfl⟩
  obtain ⟨n3, hn3⟩ : ∃ n, n = (sgs (x ++ y) 0).length := ⟨_, rfl⟩
  obtain ⟨m1, hm1⟩ : ∃ n, n = wds (sgs x 0) := ⟨_, rfl⟩
  obtain ⟨m2, hm2⟩ : ∃ n, n = wds (sgs y 0) := ⟨_, rfl⟩
  obtain ⟨m3, hm3⟩ : ∃ n, n = wds (sgs (x ++ y) 0) := ⟨_, rfl⟩
  rw [← hn1] at l1 v1 hj
  rw [← hn2] at l2 v2 hj
  rw [← hn3] at hj
  rw [← hm1] at v1 hj hb
  rw [← hm2] at v2 hj
  rw [← hm3] at hj
  have N1 := Aside0.mk hn1
  have N2 := Aside0.mk hn2
  have N3 := Aside0.mk hn3
  have M1 := Aside0.mk hm1
  have M2 := Aside0.mk hm2
  have M3 := Aside0.mk hm3
  have J1 : ((n3 : Int) == (n1 : Int) + (n2 : Int)) = true := by rw [beq_iff_eq]; omega
  have J2 : ((m3 : Int) == (m1 : Int) + (m2 : Int)) = true := by rw [beq_iff_eq]; omega
  have q1 : n1 ≤ 256 := by omega
  have q2 : n2 ≤ 256 := by omega
  have q3 : m1 ≤ 512 := by omega
  have q4 : m2 ≤ 512 := by omega
  have HB := Aside0.mk hb
  clear hj hb l1 l2 v1 v2 hn1 hn2 hn3 hm1 hm2 hm3
  have B0 := Aside0.mk (Below.refl w.heap.size w)
  go_enter Try.func3, Try.ntmps3
  go_wp2_with (fail)
  refine (few_calls a 60 _).mono ?_
  rintro e w1 ⟨rfl, k1, rfl⟩
  have B1 := Aside0.mk (pw_below_drewN B0.out k1)
  go_wp2_with (fail)
  refine (clean_calls (a.extract 0 60) (by rw [ByteArray.size_extract]; omega) _).mono ?_
  rw [← HX.out]
  rintro e w2 ⟨rfl, hb2⟩
  have B2 := Aside0.mk (below_step B1.out hb2)
  clear B0 B1 hb2
  go_wp2_with (fail)
  refine (few_calls b 60 _).mono ?_
  rintro e w1 ⟨rfl, k1, rfl⟩
  have B3 := Aside0.mk (pw_below_drewN B2.out k1)
  go_wp2_with (fail)
  refine (clean_calls (b.extract 0 60) (by rw [ByteArray.size_extract]; omega) _).mono ?_
  rw [← HY.out]
  rintro e w4 ⟨rfl, hb4⟩
  have B4 := Aside0.mk (below_step B3.out hb4)
  clear B3 B2 hb4
  go_wp2_with (fail)
  refine (count_calls (x ++ y) _ sxy).mono ?_
  rw [← N3.out]
  rintro e w5 ⟨rfl, hb5⟩
  have B5 := Aside0.mk (below_step B4.out hb5)
  clear B4 hb5
  go_wp2_with (fail)
  refine (count_calls x _ (by omega)).mono ?_
  rw [← N1.out]
  rintro e w6 ⟨rfl, hb6⟩
  have B6 := Aside0.mk (below_step B5.out hb6)
  clear B5 hb6
  go_wp2_with (fail)
  refine (count_calls y _ (by omega)).mono ?_
  rw [← N2.out]
  rintro e w7 ⟨rfl, hb7⟩
  have B7 := Aside0.mk (below_step B6.out hb7)
  clear B6 hb7
  go_wp2_with (fail)
  refine (wide_calls (x ++ y) _ sxy).mono ?_
  rw [← M3.out]
  rintro e w8 ⟨rfl, hb8⟩
  have B8 := Aside0.mk (below_step B7.out hb8)
  clear B7 hb8
  go_wp2_with (fail)
  refine (wide_calls x _ (by omega)).mono ?_
  rw [← M1.out]
  rintro e w9 ⟨rfl, hb9⟩
  have B9 := Aside0.mk (below_step B8.out hb9)
  clear B8 hb9
  go_wp2_with (fail)
  refine (wide_calls y _ (by omega)).mono ?_
  rw [← M2.out]
  rintro e w10 ⟨rfl, hb10⟩
  have B10 := Aside0.mk (below_step B9.out hb10)
  clear B9 hb10
  go_wp2_with (fail)
  refine (wide_calls x _ (by omega)).mono ?_
  rw [← M1.out]
  rintro e w11 ⟨rfl, hb11⟩
  have B11 := Aside0.mk (below_step B10.out hb11)
  clear B10 hb11
  go_wp2_with (fail)
  refine (cut_calls (x ++ y) m1 _ sxy (by omega)).mono ?_
  rintro e w12 ⟨rfl, hb12⟩
  have B12 := Aside0.mk (below_step B11.out hb12)
  clear B11 hb12
  go_wp2_with (fail)
  refine (begins_calls (cut (x ++ y) m1) x true HB.out _).mono ?_
  rintro e w13 ⟨rfl, k13, rfl⟩
  have B13 := Aside0.mk (pw_below_drewN B12.out k13)
  clear B12
  go_wp2_with (fail)
  refine (lives_calls _).mono ?_
  rintro e w14 ⟨rfl, hb14⟩
  have B14 := Aside0.mk (below_step B13.out hb14)
  clear B13 hb14
  go_wp2
  go_ret
  exact ⟨rfl, B14.out⟩

/-- With the arguments as the row hands them. -/
theorem law (a b : ByteArray) (W : World) (_ : a.size ≤ 140737488351232) (_ : b.size ≤ 140737488351232) : Calls Try.prog 3 #[.string a, .string b] W fun e w' => e = .returned (.bool true) ∧ Below W.heap.size W w' := walk a b W

end Go.Proofs.Ytpmhbfelhjpalaa.Tjw

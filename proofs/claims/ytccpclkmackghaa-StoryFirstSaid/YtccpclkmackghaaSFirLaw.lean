/- The walk of StoryFirst: it returns true and writes nothing that was there. -/
import Derived.Test.YtccpclkmackghaaSToldN
import Derived.Test.YtccpclkmackghaaSFirstN
namespace Go.Proofs.Ytccpclkmackghaa.SFir
open Go.RowKit Go.Proofs.YtccpclkmackghaaW.PrintWords Go.Proofs.YtccpclkmackghaaW.PrintLast Go.Proofs.YtccpclkmackghaaW.PrintMore
open Go.Proofs.Ytccpclkmackghaa.PStoryNo Go.Proofs.Ytccpclkmackghaa.SPN Go.Proofs.Ytccpclkmackghaa.SWN
attribute [local go_sem] Oper.semAt_some max2_int min2_int max_two min_two
set_option linter.unusedVariables false
set_option linter.unusedSimpArgs false

/-- One element of a row, as a row of its own. -/
theorem C_one {A : Option Addr} {c : Nat} {l : List S24} {w : World} (hC : k24.C w A l.length l) (hc : l.length ≤ c) (j : Nat) (hj : j < l.length) : k24.C w (A.map (fun x => x.add (j * 2))) 1 [l[j]] := by
  have := Kd.C_mid (k := k24) hC (show j ≤ j + 1 by omega) (by omega) hc
  have e : ((l.take (j + 1)).drop j) = [l[j]] := by
    rw [List.take_succ_eq_append_getElem hj, List.drop_left' (by simp; omega)]
  rw [e, if_neg (by omega)] at this
  exact this

/-- A number of a row of one's own, at a place that is a number. -/
theorem num_at {W : World} {base g M c : Nat} {ok : Nat → Prop} {f : List Int} (h : (Kd.int .i64).R 3 W base ok (.slice (some ⟨g, 0, none⟩) M c) f) (n : Nat) (hn : n < f.length) :
    W.cell? ⟨g, n, none⟩ = some (.int .i64 (f.getD n 0)) := by
  obtain ⟨h1, _⟩ := Kd.R_reads' h
  subst h1
  obtain ⟨kc, _⟩ := Kd.R_cell (0 : Int) h (n : Int) (by omega) (by omega)
  rw [Int.toNat_natCast] at kc
  exact kc

set_option maxRecDepth 100000 in
set_option maxHeartbeats 8000000 in
theorem walk (A : Option Addr) (c : Nat) (l : List Int) (kk : Int) (W : World) (hC : (Kd.int .i64).C W A l.length l) (hl : l.length ≤ c) :
    Calls Try.prog 7 #[.slice A l.length c, .int .i64 kk] W fun e w' => e = .returned (.bool true) ∧ Below W.heap.size W w' := by
  have hu24 := Try.underlying24
  have hu31 := Try.underlying31
  obtain ⟨m, hm⟩ : ∃ m, min l.length 50 = m := ⟨_, rfl⟩
  have hml : m ≤ l.length := by omega
  have hm50 : m ≤ 50 := by omega
  have hmin : (if (50 : Int) < (l.length : Int) then (50 : Int) else (l.length : Int)) = (m : Int) := by split <;> omega
  obtain ⟨i3, hi3, hz3⟩ := Option.map_eq_some_iff.1 info3
  have hcut : ∀ W : World, (Instr.slice 22 (.slice A l.length c) none (some (.int .i64 (m : Int))) none).run Try.prog W = .ok (.slice A m c) W := fun W =>
    cut_to (P := Try.prog) 22 3 .i64 Try.underlying22 hi3 A l.length c (m : Int) (by omega) (by omega) hl W
  have etk : (l.take m).length = m := by rw [List.length_take]; omega
  obtain ⟨k, gl, s, hk, hV, hgl⟩ := good_f (l.take m) (by omega)
  have hC1 := Kd.C_take (k := Kd.int .i64) hC hml
  have hGood := rondelref21_Good.calls k A c (l.take m) gl _ hC1 (by omega) hk
  rw [etk] at hGood hgl
  have HG := Aside0.mk hGood
  clear hC hl hi3 hz3 i3 etk hk hC1 hGood hm hml
  go_enter Try.func7, Try.ntmps7
  go_wp2_with (fail)
  refine HG.out.mono ?_
  rintro e W2 ⟨vg, rfl, hR2, hb2⟩
  obtain ⟨A2, c2, rfl⟩ := Kd.R_slice hR2
  have hC2 := Kd.R_reads' hR2
  obtain ⟨N, hN⟩ : ∃ N, gl.length = N := ⟨_, rfl⟩
  have HN := Aside0.mk hN
  have HC2 := Aside0.mk hC2.2.2
  have hc2 := hC2.2.1
  have HB2 := Aside0.mk hb2
  clear hR2 hb2 hC2 HG
  rw [hN] at hc2 hgl ⊢
  have hN30 : N ≤ 50 := by omega
  clear hN hgl hm50
  clear hcut hmin
  go_wp2_with (fail)
  refine (new_calls W2).mono ?_
  rintro e W3 ⟨g, rfl, hS3, hb3⟩
  have hnil := ptr_nil g
  have HS3 := Aside0.mk hS3
  have HB3 := Aside0.mk hb3
  clear hS3 hb3
  have HV := Aside0.mk hV
  clear hV
  go_wp2_with (fail)
  clear hnil
  go_loopw [7] (fun i wr => ∃ j : Nat, i = .int .i64 j ∧ j ≤ N ∧ Aside0 (St wr W2.heap.size g (fun k => W2.heap.size ≤ k) (run (gl.take j))) ∧ Aside0 (Below W2.heap.size W2 wr)) (fun i _ => N - (intOf i).toNat)
  case atStart => exact ⟨0, rfl, by omega, HS3, HB3⟩
  case round =>
    clear HS3 HB3
    obtain ⟨j, rfl, hj, hS, hB⟩ := hrel
    by_cases hlt : j < N
    · have hlt' : decide ((j : Int) < (N : Int)) = true := decide_eq_true (by omega)
      have hjl : j < gl.length := by rw [HN.out]; exact hlt
      have hCj := C_one (Kd.C_below HC2.out hB.out) (by rw [HN.out]; exact hc2) j hjl
      have HCJ := Aside0.mk hCj
      have v1 : IntKind.i64.wrap ((j : Int) + 1) = (j : Int) + 1 := IntWalk.i64_in _ (by omega)
      have hcj : 1 ≤ c2 - j := by omega
      have hcode := HV.out.code_at j hjl
      have hrun := run_take gl j hjl
      obtain ⟨y, hy⟩ : ∃ y, gl[j] = y := ⟨_, rfl⟩
      rw [hy] at HCJ hcode hrun
      have HCODE := Aside0.mk hcode
      have HRUN := Aside0.mk hrun
      have HSM := Aside0.mk ((HV.out.at_ j (by omega)).sm (by rw [List.length_take]; omega))
      clear hCj hcode hrun hy hjl
      go_wp2_with (fail)
      refine (rondellaw21_as.calls 5 _ (c2 - j) [y] _ _ HCJ.out hcj (as_f [y] (by simp) 5 (by simp))).mono ?_
      rintro e W5 ⟨v5, rfl, hR5, hb5⟩
      obtain ⟨A5, c5, rfl⟩ := Kd.R_slice hR5
      obtain ⟨ad, e5, h0, h1⟩ := at_T31 (Kd.R_reads' hR5).2.2 0 (by omega) (by simp)
      subst e5
      have HS5 := Aside0.mk (hS.out.below hb5)
      have HB5 := Aside0.mk (below_step hB.out hb5)
      replace h0 : W5.cell? ad = some (.int .i64 y.f0) := by
        have := h0
        rw [show (0 : Int).toNat * 2 = 0 from rfl, Addr.add_zero'] at this
        exact this
      replace h1 : W5.cell? ⟨ad.block, ad.off + 1, none⟩ = some (.int .i64 y.f1) := by
        have := h1
        rw [show (0 : Int).toNat * 2 = 0 from rfl, Addr.add_zero'] at this
        exact this
      have hN1 : 0 < (List.map (fun x : S24 => (⟨x.f0, x.f1⟩ : S31)) [y]).length := by simp
      obtain ⟨M, hM⟩ : ∃ M, (List.map (fun x : S24 => (⟨x.f0, x.f1⟩ : S31)) [y]).length = M := ⟨_, rfl⟩
      rw [hM] at hN1 ⊢
      have hN2 : (0 : Int) < (M : Int) := by omega
      clear hR5 hb5 hM
      go_wp2_with (fail)
      refine (add_B W2 W5 g _ y.f0 y.f1 HB5.out HS5.out HSM.out).mono ?_
      rw [HCODE.out]
      rintro e W6 ⟨rfl, hS6, hb6⟩
      rw [stp, if_pos HCODE.out, ← HRUN.out] at hS6
      have HS6 := Aside0.mk hS6
      have HB6 := Aside0.mk (HB5.out.trans hb6)
      clear hS6 hb6 HCODE HRUN h0 h1 hN1 hN2
      go_wp2_with (fail)
      go_roundw
      case rel => exact ⟨j + 1, by go_num, by omega, HS6, HB6⟩
      case measure => simp [intOf]; omega
    · obtain rfl : j = N := by omega
      have hS' := hS.out
      rw [← HN.out, List.take_length, ← HV.out.run] at hS'
      have HS' := Aside0.mk hS'
      have HSM := Aside0.mk (HV.out.sm (by rw [HN.out]; omega))
      have hlt2 : decide ((j : Int) < (j : Int)) = false := decide_eq_false (by omega)
      clear hS' hS hlt
      go_wp2_with (fail)
      refine (frames_calls HS'.out HSM.out).mono ?_
      rintro e W7 ⟨v7, rfl, hR7, hb7⟩
      obtain ⟨A7, c7, rfl⟩ := Kd.R_slice hR7
      have HR7 := Aside0.mk hR7
      have HB7 := Aside0.mk (below_step hB.out hb7)
      have HS7 := Aside0.mk (HS'.out.below hb7)
      obtain ⟨M, hM⟩ : ∃ M, s.f.length = M := ⟨_, rfl⟩
      rw [hM]
      have HM := Aside0.mk hM
      have hfl := HSM.out.f
      rw [hM] at hfl
      clear hR7 hb7 hM
      go_wp2_with (fail)
      refine (first_calls kk HS7.out HSM.out).mono ?_
      obtain ⟨r, hr⟩ : ∃ r, idxF kk 0 s.f = r := ⟨_, rfl⟩
      have hle := idxF_le kk s.f 0
      rw [hr] at hle ⊢
      rintro e W8 ⟨rfl, hb8⟩
      have HB8 := Aside0.mk (below_step HB7.out hb8)
      have HR8 := Aside0.mk (Kd.R_below HR7.out hb8)
      have HC8 := Aside0.mk (Kd.C_below (Kd.C_below HC2.out HB7.out) hb8)
      clear hb8 hr
      rcases hle with ⟨hr1, hall⟩ | ⟨p, hp, hrp, hkp, hbef⟩
      · subst hr1
        have HALL := Aside0.mk hall
        clear hall
        go_wp2_with (fail)
        go_loopw [11] (fun i wr => ∃ q : Nat, i = .int .i64 q ∧ q ≤ M ∧ Aside0 (wr = W8)) (fun i _ => M - (intOf i).toNat)
        case atStart => exact ⟨0, rfl, by omega, ⟨rfl⟩⟩
        case round =>
          obtain ⟨q, rfl, hq, hW⟩ := hrel
          obtain rfl := hW.out
          clear hW
          by_cases hql : q < M
          · have hql' : decide ((q : Int) < (M : Int)) = true := decide_eq_true (by omega)
            have hqf : q < s.f.length := by rw [HM.out]; exact hql
            have hr8 := HR8.out
            obtain ⟨g7, cap7, hv7, _, _, _⟩ := Kd.R_form hr8 (by omega)
            rw [hv7] at hr8
            injection hv7 with hv1 hv2 hv3
            subst hv1
            have kc := num_at hr8 q hqf
            have hlt := HALL.out (s.f.getD q 0) (by rw [List.getD_eq_getElem?_getD, List.getElem?_eq_getElem hqf]; exact List.getElem_mem _)
            obtain ⟨u, hu⟩ : ∃ u, s.f.getD q 0 = u := ⟨_, rfl⟩
            rw [hu] at kc hlt
            have hge : decide (u ≥ kk) = false := decide_eq_false (by omega)
            have v1 : IntKind.i64.wrap ((q : Int) + 1) = (q : Int) + 1 := IntWalk.i64_in _ (by omega)
            clear hqf hr8 hv2 hv3 hlt hu
            go_wp2_with (fail)
            go_roundw
            case rel => exact ⟨q + 1, by go_num, by omega, ⟨by first | trivial | rfl⟩⟩
            case measure => simp [intOf]; omega
          · obtain rfl : q = M := by omega
            have hlt3 : decide ((q : Int) < (q : Int)) = false := decide_eq_false (by omega)
            clear hql
            go_wp2_with (fail)
            refine (lives_calls _).mono ?_
            rintro e W11 ⟨rfl, hb11⟩
            have HB11 := Aside0.mk (below_step HB2.out (below_step HB8.out hb11))
            clear hb11
            go_wp2_with (fail)
            go_ret
            exact ⟨rfl, HB11.out⟩
      · rw [Nat.zero_add] at hrp
        obtain ⟨nn, hnn⟩ : ∃ nn : Int, r + 1 = nn := ⟨_, rfl⟩
        rw [hnn]
        have hge0 : decide (r ≥ 0) = true := decide_eq_true (by omega)
        rw [hge0]
        have hpM : p < M := by rw [← HM.out]; exact hp
        have hn1 : 1 ≤ nn := by omega
        have hnM : nn ≤ (M : Int) := by omega
        have d1 : decide (nn < 1) = false := decide_eq_false (by omega)
        have d2 : decide (nn > (M : Int)) = false := decide_eq_false (by omega)
        have hr8 := HR8.out
        obtain ⟨g7, cap7, hv7, _, _, _⟩ := Kd.R_form hr8 (by omega)
        rw [hv7] at hr8
        injection hv7 with hv1 hv2 hv3
        subst hv1
        have kc := num_at hr8 p hp
        obtain ⟨u, hu⟩ : ∃ u, s.f.getD p 0 = u := ⟨_, rfl⟩
        rw [hu] at kc hkp
        have kc2 : nn ≠ 1 → ∃ u2, W8.cell? ⟨g7, nn.toNat - 2, none⟩ = some (.int .i64 u2) ∧ u2 < kk := fun h => by
          have := num_at hr8 (p - 1) (by omega)
          rw [show nn.toNat - 2 = p - 1 from by omega]
          exact ⟨_, this, hbef (p - 1) (by omega)⟩
        rw [show p = nn.toNat - 1 from by omega] at kc
        have HKC := Aside0.mk kc
        have HKC2 := Aside0.mk kc2
        have has := as_f gl (by rw [HN.out]; omega) (gl.length + 1) (Nat.le_refl _)
        obtain ⟨sl, hsl⟩ : ∃ sl, gl.map (fun x => (⟨x.f0, x.f1⟩ : S31)) = sl := ⟨_, rfl⟩
        rw [hsl] at has
        have hsll : sl.length ≤ 1000 := by rw [← hsl, List.length_map, HN.out]; omega
        have hAs := rondellaw21_as.calls (gl.length + 1) A2 c2 gl sl W8 HC8.out (by rw [HN.out]; exact hc2) has
        rw [HN.out] at hAs
        have HAS := Aside0.mk hAs
        have htold := toldP_run gl [] s (by rw [List.nil_append, ← HV.out.run]; exact HV.out)
        rw [List.nil_append, hsl, ← HV.out.run] at htold
        have htold : toldP ⟨0, 0, [], []⟩ sl = (s, 0) := htold
        have HTOLD := Aside0.mk htold
        have HVAL := Aside0.mk (show (if nn < 1 ∨ (s.f.length : Int) < nn then (0 : Int) else s.f.getD (nn - 1).toNat 0) = u ∧ decide (1 ≤ nn ∧ nn ≤ (s.f.length : Int)) = true from by
          rw [HM.out, if_neg (by omega), show (nn - 1).toNat = p from by omega]
          exact ⟨hu, decide_eq_true (by omega)⟩)
        have hge2 : decide (u ≥ kk) = true := decide_eq_true hkp
        have v1 : IntKind.i64.wrap (nn - 1) = nn - 1 := IntWalk.i64_in _ (by omega)
        have v2 : IntKind.i64.wrap (nn - 2) = nn - 2 := IntWalk.i64_in _ (by omega)
        have i0 : 0 ≤ nn - 1 := by omega
        have i1 : nn - 1 < (M : Int) := by omega
        have HLL := Aside0.mk hsll
        clear hp hrp hkp hbef hnn hge0 hpM hr8 hv2 hv3 kc hu kc2 has hsl hsll hAs htold
        go_wp2_with (fail)
        refine HAS.out.mono ?_
        rintro e W9 ⟨v9, rfl, hR9, hb9⟩
        obtain ⟨A9, c9, rfl⟩ := Kd.R_slice hR9
        have HX := Aside0.mk (index_calls A9 c9 sl nn W9 (Kd.R_reads' hR9).2.2 HLL.out)
        have HB9 := Aside0.mk hb9
        clear hR9 hb9 HAS
        go_wp2_with (fail)
        refine HX.out.mono ?_
        rw [HTOLD.out]
        dsimp only
        rw [HVAL.out.1, HVAL.out.2]
        rintro e W10 ⟨rfl, hb10⟩
        have hb8 := below_step HB9.out hb10
        have kc := pw_cell_below hb8 HKC.out
        have HB10 := Aside0.mk (below_step HB8.out hb8)
        have hbu : (u == u) = true := by simp
        have HB8' := Aside0.mk hb8
        clear hb10 HX hb8
        by_cases e1 : nn = 1
        · have b1 : (nn == 1) = true := by rw [beq_iff_eq]; exact e1
          clear e1
          go_wp2_with (fail)
          refine (lives_calls _).mono ?_
          rintro e W11 ⟨rfl, hb11⟩
          have HB11 := Aside0.mk (below_step HB2.out (below_step HB10.out hb11))
          clear hb11
          go_wp2_with (fail)
          go_ret
          exact ⟨rfl, HB11.out⟩
        · have b1 : (nn == 1) = false := by rw [beq_eq_false_iff_ne]; exact e1
          obtain ⟨u2, kd, hu2⟩ := HKC2.out e1
          have kd := pw_cell_below HB8'.out kd
          have kd' := kd
          rw [show nn.toNat - 2 = (nn - 2).toNat from by omega] at kd'
          have hlt2 : decide (u2 < kk) = true := decide_eq_true hu2
          have hmax : (if nn - 2 < 0 then (0 : Int) else nn - 2) = nn - 2 := if_neg (by omega)
          have i2 : 0 ≤ nn - 2 := by omega
          have i3 : nn - 2 < (M : Int) := by omega
          clear e1 hu2
          go_wp2_with (fail)
          refine (lives_calls _).mono ?_
          rintro e W11 ⟨rfl, hb11⟩
          have HB11 := Aside0.mk (below_step HB2.out (below_step HB10.out hb11))
          clear hb11
          go_wp2_with (fail)
          go_ret
          exact ⟨rfl, HB11.out⟩

/-- With the arguments as the row hands them. -/
theorem law (A : Option Addr) (c : Nat) (l : List Int) (kk : Int) (W : World) (hl : l.length ≤ c) (hC : (Kd.int .i64).C W A l.length l) (_ : l.length ≤ maxLen ∧ ∀ y ∈ l, (Lit.int .i64 y).wf = true) (_ : (Lit.int .i64 kk).wf = true) :
    Calls Try.prog 7 #[.slice A l.length c, .int .i64 kk] W fun e w' => e = .returned (.bool true) ∧ Below W.heap.size W w' := walk A c l kk W hC hl

end Go.Proofs.Ytccpclkmackghaa.SFir

/- The walk of StoryNo: it returns true and writes nothing that was there. -/
import Derived.Test.YtccpclkmackghaaSNoWalk
namespace Go.Proofs.Ytccpclkmackghaa.SNo
open Go.RowKit Go.Proofs.YtccpclkmackghaaW.PrintWords Go.Proofs.YtccpclkmackghaaW.PrintLast Go.Proofs.YtccpclkmackghaaW.PrintMore
open Go.Proofs.Ytccpclkmackghaa.PStoryNo Go.Proofs.Ytccpclkmackghaa.SPN Go.Proofs.Ytccpclkmackghaa.SWN
attribute [local go_sem] Oper.semAt_some max2_int min2_int max_two min_two
set_option linter.unusedVariables false
set_option linter.unusedSimpArgs false

/-- One element of a row, as a row of its own. -/
theorem C_one {A : Option Addr} {c : Nat} {l : List S24} {w : World} (hC : k24.C w A l.length l) (hc : l.length ≤ c) (j : Nat) (hj : j < l.length) : k24.C w (A.map (fun x => x.add (j * 2))) 1 [l[j]] := by
  have := Kd.C_mid (k := k24) hC (show j ≤ j + 1 by omega) (by omega) hc
  have e : ((l.take (j + 1)).drop j) = [l[j]] := by
    rw [List.take_succ_eq_append_getElem hj, List.drop_left' (by simp; omega)]
  rw [e, if_neg (by omega)] at this
  exact this

set_option maxRecDepth 100000 in
set_option maxHeartbeats 8000000 in
theorem walk (A : Option Addr) (c : Nat) (l : List Int) (x : S24) (W : World) (hC : (Kd.int .i64).C W A l.length l) (hl : l.length ≤ c) :
    Calls Try.prog 3 #[.slice A l.length c, .agg #[.int .i64 x.f0, .int .i64 x.f1]] W fun e w' => e = .returned (.bool true) ∧ Below W.heap.size W w' := by
  have hu24 := Try.underlying24
  have hu31 := Try.underlying31
  obtain ⟨a, ha⟩ : ∃ a, x.f0 = a := ⟨_, rfl⟩
  obtain ⟨b, hb⟩ : ∃ b, x.f1 = b := ⟨_, rfl⟩
  rw [ha, hb]
  clear ha hb
  obtain ⟨m, hm⟩ : ∃ m, min l.length 30 = m := ⟨_, rfl⟩
  have hml : m ≤ l.length := by omega
  have hm30 : m ≤ 30 := by omega
  have hmin : (if (30 : Int) < (l.length : Int) then (30 : Int) else (l.length : Int)) = (m : Int) := by split <;> omega
  obtain ⟨i3, hi3, hz3⟩ := Option.map_eq_some_iff.1 info3
  have hcut : ∀ W : World, (Instr.slice 22 (.slice A l.length c) none (some (.int .i64 (m : Int))) none).run Try.prog W = .ok (.slice A m c) W := fun W =>
    cut_to (P := Try.prog) 22 3 .i64 Try.underlying22 hi3 A l.length c (m : Int) (by omega) (by omega) hl W
  have etk : (l.take m).length = m := by rw [List.length_take]; omega
  obtain ⟨k, gl, s, hk, hV, hgl⟩ := good_f (l.take m) (by omega)
  have hC1 := Kd.C_alloc (Kd.C_take (k := Kd.int .i64) hC hml) (.cells #[.int .i64 a, .int .i64 b] 24)
  have hGood := rondelref21_Good.calls k A c (l.take m) gl _ hC1 (by omega) hk
  rw [etk] at hGood hgl
  have HG := Aside0.mk hGood
  have HX := Aside0.mk (blk_new W (.cells #[.int .i64 a, .int .i64 b] 24))
  have HB1 := Aside0.mk (below_alloc (Below.refl W.heap.size W) (.cells #[.int .i64 a, .int .i64 b] 24))
  clear hC hl hi3 hz3 i3 etk hk hC1 hGood hm hml
  go_enter Try.func3, Try.ntmps3
  go_wp2_with (fail)
  refine HG.out.mono ?_
  rintro e W2 ⟨vg, rfl, hR2, hb2⟩
  obtain ⟨A2, c2, rfl⟩ := Kd.R_slice hR2
  have hC2 := Kd.R_reads' hR2
  obtain ⟨N, hN⟩ : ∃ N, gl.length = N := ⟨_, rfl⟩
  have HN := Aside0.mk hN
  have HC2 := Aside0.mk hC2.2.2
  have hc2 := hC2.2.1
  have HR2 := Aside0.mk hR2
  have HB2 := Aside0.mk (below_step HB1.out hb2)
  have HX2 := Aside0.mk (blk_below HX.out hb2)
  clear hR2 hb2 hC2 HG HX
  rw [hN] at hc2 hgl ⊢
  have hN30 : N ≤ 30 := by omega
  clear hN hgl hm30
  clear hcut hmin
  go_wp2_with (fail)
  refine (new_calls W2).mono ?_
  rintro e W3 ⟨g, rfl, hS3, hb3⟩
  have hnil := ptr_nil g
  have HS3 := Aside0.mk hS3
  have HB3 := Aside0.mk hb3
  clear hS3 hb3
  have HV := Aside0.mk hV
  clear hV
  go_wp2_with (fail)
  clear hnil
  go_loopw [7] (fun i wr => ∃ j : Nat, i = .int .i64 j ∧ j ≤ N ∧ Aside0 (St wr W2.heap.size g (fun k => W2.heap.size ≤ k) (run (gl.take j))) ∧ Aside0 (Below W2.heap.size W2 wr)) (fun i _ => N - (intOf i).toNat)
  case atStart => exact ⟨0, rfl, by omega, HS3, HB3⟩
  case round =>
    clear HS3 HB3
    obtain ⟨j, rfl, hj, hS, hB⟩ := hrel
    by_cases hlt : j < N
    · have hlt' : decide ((j : Int) < (N : Int)) = true := decide_eq_true (by omega)
      have hjl : j < gl.length := by rw [HN.out]; exact hlt
      have hCj := C_one (Kd.C_below HC2.out hB.out) (by rw [HN.out]; exact hc2) j hjl
      have HCJ := Aside0.mk hCj
      have v1 : IntKind.i64.wrap ((j : Int) + 1) = (j : Int) + 1 := IntWalk.i64_in _ (by omega)
      have hcj : 1 ≤ c2 - j := by omega
      have hcode := HV.out.code_at j hjl
      have hrun := run_take gl j hjl
      obtain ⟨y, hy⟩ : ∃ y, gl[j] = y := ⟨_, rfl⟩
      rw [hy] at HCJ hcode hrun
      have HCODE := Aside0.mk hcode
      have HRUN := Aside0.mk hrun
      have HSM := Aside0.mk ((HV.out.at_ j (by omega)).sm (by rw [List.length_take]; omega))
      clear hCj hcode hrun hy hjl
      go_wp2_with (fail)
      refine (rondellaw21_as.calls 5 _ (c2 - j) [y] _ _ HCJ.out hcj (as_f [y] (by simp) 5 (by simp))).mono ?_
      rintro e W5 ⟨v5, rfl, hR5, hb5⟩
      obtain ⟨A5, c5, rfl⟩ := Kd.R_slice hR5
      obtain ⟨ad, e5, h0, h1⟩ := at_T31 (Kd.R_reads' hR5).2.2 0 (by omega) (by simp)
      subst e5
      have HS5 := Aside0.mk (hS.out.below hb5)
      have HB5 := Aside0.mk (below_step hB.out hb5)
      replace h0 : W5.cell? ad = some (.int .i64 y.f0) := by
        have := h0
        rw [show (0 : Int).toNat * 2 = 0 from rfl, Addr.add_zero'] at this
        exact this
      replace h1 : W5.cell? ⟨ad.block, ad.off + 1, none⟩ = some (.int .i64 y.f1) := by
        have := h1
        rw [show (0 : Int).toNat * 2 = 0 from rfl, Addr.add_zero'] at this
        exact this
      have hN1 : 0 < (List.map (fun x : S24 => (⟨x.f0, x.f1⟩ : S31)) [y]).length := by simp
      obtain ⟨M, hM⟩ : ∃ M, (List.map (fun x : S24 => (⟨x.f0, x.f1⟩ : S31)) [y]).length = M := ⟨_, rfl⟩
      rw [hM] at hN1 ⊢
      have hN2 : (0 : Int) < (M : Int) := by omega
      clear hR5 hb5 hM
      go_wp2_with (fail)
      refine (add_B W2 W5 g _ y.f0 y.f1 HB5.out HS5.out HSM.out).mono ?_
      rw [HCODE.out]
      rintro e W6 ⟨rfl, hS6, hb6⟩
      rw [stp, if_pos HCODE.out, ← HRUN.out] at hS6
      have HS6 := Aside0.mk hS6
      have HB6 := Aside0.mk (HB5.out.trans hb6)
      clear hS6 hb6 HCODE HRUN h0 h1 hN1 hN2
      go_wp2_with (fail)
      go_roundw
      case rel => exact ⟨j + 1, by go_num, by omega, HS6, HB6⟩
      case measure => simp [intOf]; omega
    · obtain rfl : j = N := by omega
      have hS' := hS.out
      rw [← HN.out, List.take_length, ← HV.out.run] at hS'
      have HS' := Aside0.mk hS'
      have hX := blk_below HX2.out hB.out
      have x0 := blk_cell hX 0
      have x1 := blk_cell hX 1
      have hG := HV.out.good
      have hsn := hG.n
      have hsc := hG.c
      have hsf := hG.f
      rw [HN.out] at hsn
      have HSM := Aside0.mk (HV.out.sm (by rw [HN.out]; omega))
      have HSN := Aside0.mk hsn
      have HSC := Aside0.mk hsc
      have HSF := Aside0.mk hsf
      have hlt2 : decide ((j : Int) < (j : Int)) = false := decide_eq_false (by omega)
      clear hS' hS hG hsn hsc hsf hX hlt
      go_wp2_with (fail)
      refine (open_calls HS'.out).mono ?_
      obtain ⟨o1, o2, ho⟩ : ∃ o1 o2, oQ s.o = (o1, o2) := ⟨_, _, rfl⟩
      rw [ho]
      rintro e w7 ⟨rfl, rfl⟩
      have HO := Aside0.mk ho
      clear ho
      go_wp2_with (fail)
      refine (add_B W2 _ g s a b hB.out HS'.out HSM.out).mono ?_
      obtain ⟨cd, hcd⟩ : ∃ cd, code s a b = cd := ⟨_, rfl⟩
      rw [hcd]
      rintro e W8 ⟨rfl, hS8, hb8⟩
      have HS8 := Aside0.mk hS8
      have HB8 := Aside0.mk hb8
      have hxl : W.heap.size < W2.heap.size := blk_lt HX2.out
      have hX8 := (hb8.block W.heap.size hxl).trans (blk_below HX2.out hB.out)
      have y0 := blk_cell hX8 0
      have y1 := blk_cell hX8 1
      have HCD := Aside0.mk hcd
      have HR8 := Aside0.mk (Kd.R_move (Kd.R_below (Kd.R_bound HR2.out) hB.out) (fun k hk => hb8.block k hk.2.2.1))
      have HB28 := Aside0.mk (below_step HB2.out (hB.out.trans hb8))
      clear hS8 hb8 hX8 x0 x1 hcd
      have hR8 := HR8.out
      rw [HN.out] at hR8
      have HC8 := Aside0.mk (Kd.R_reads' hR8).2.2
      have v1 : IntKind.i64.wrap ((j : Int) + 1) = (j : Int) + 1 := IntWalk.i64_in _ (by omega)
      have hll : gl.length ≤ 100000 := by rw [HN.out]; omega
      by_cases e0 : cd = 0
      · subst e0
        have HA := Aside0.mk (rondelref21_Add.calls (gl.length + 5) _ _ gl a b (gl ++ [⟨a, b⟩]) 0 W W8 HB28.out (Kd.R_lower hR8 (by simp)) (add_ok HV.out hll a b HCD.out _ (Nat.le_refl _)))
        have HLL := Aside0.mk hll
        clear hR8 hll
        go_wp2_with (fail)
        refine HA.out.mono ?_
        rintro e W9 ⟨v9, rfl, hR9, hB9, hK9⟩
        have HS9 := Aside0.mk (HS8.out.kept hK9 (fun k hk hp => by have := hp.2.2.1; omega))
        have HB9 := Aside0.mk hB9
        have hn9 : (stp s a b).n = (j : Int) + 1 := by
          rw [stp, if_pos HCD.out, ← HSN.out, nxt]
          split
          · rfl
          · split <;> rfl
        clear hR9 hB9 hK9 HA
        go_wp2_with (fail)
        refine (len_calls HS9.out).mono ?_
        rw [hn9]
        rintro e W10 ⟨rfl, rfl⟩
        clear hn9
        go_wp2_with (fail)
        refine (lives_calls _).mono ?_
        rintro e W11 ⟨rfl, hb11⟩
        have HB11 := Aside0.mk (below_step HB9.out hb11)
        clear hb11
        go_wp2_with (fail)
        go_ret
        exact ⟨rfl, HB11.out⟩
      · have hcd0 : (cd == 0) = false := by rw [beq_eq_false_iff_ne]; exact e0
        have hcd1 : (cd != cd) = false := by simp
        have hA := refadd_no A2 c2 gl s a b W8 HV.out hll HC8.out (by rw [HN.out]; exact hc2) (by rw [HCD.out]; exact e0)
        rw [HN.out, HCD.out] at hA
        have HA := Aside0.mk hA
        have hS8 := HS8.out
        rw [stp, if_neg (by rw [HCD.out]; exact e0)] at hS8
        have HS8' := Aside0.mk hS8
        have HLL := Aside0.mk hll
        clear e0 hA hR8 hS8 hll
        go_wp2_with (fail)
        refine HA.out.mono ?_
        rintro e W9 ⟨rfl, hb9⟩
        have HS9 := Aside0.mk (HS8'.out.below hb9)
        have HB9 := Aside0.mk (below_step HB28.out hb9)
        have HC9 := Aside0.mk (Kd.C_below HC8.out hb9)
        clear hb9 HA
        go_wp2_with (fail)
        refine (open_calls HS9.out).mono ?_
        rw [HO.out]
        rintro e W10 ⟨rfl, rfl⟩
        go_wp2_with (fail)
        refine (len_calls HS9.out).mono ?_
        rw [HSN.out]
        rintro e W10 ⟨rfl, rfl⟩
        go_wp2_with (fail)
        refine (changes_calls HS9.out).mono ?_
        rw [HSC.out]
        rintro e W10 ⟨rfl, rfl⟩
        have hch := rondelref21_Changes.calls (gl.length + 1) A2 c2 gl (lastK 0 0 gl) _ HC9.out (by rw [HN.out]; exact hc2) (by unfold rondelref21_Changes.f; rw [last_f gl (by have := HLL.out; omega) 0 _ (Nat.le_refl _)]; rfl)
        rw [HN.out] at hch
        have HCH := Aside0.mk hch
        clear hch
        go_wp2_with (fail)
        refine HCH.out.mono ?_
        rintro e W11 ⟨rfl, h11⟩
        obtain ⟨n11, h11⟩ := h11.out
        have HB11 := Aside0.mk (show Below W.heap.size W W11 from by subst h11; exact pw_below_drewN HB9.out n11)
        have HS11 := Aside0.mk (show St W11 _ _ _ _ from by subst h11; exact HS9.out.below (pw_below_drewN (Below.refl _ _) n11))
        have HC11 := Aside0.mk (show k24.C W11 A2 gl.length gl from by subst h11; exact Kd.C_drewN HC9.out n11)
        clear h11 HCH
        go_wp2_with (fail)
        refine (frames_calls HS11.out HSM.out).mono ?_
        rintro e W12 ⟨v12, rfl, hR12, hb12⟩
        obtain ⟨A12, c12, rfl⟩ := Kd.R_slice hR12
        have hF12 := Kd.R_reads' hR12
        have hFr := rondelref21_Frames.calls (gl.length + 1) A2 c2 gl s.f W12 (Kd.C_below HC11.out hb12) (by rw [HN.out]; exact hc2) (by rw [HSF.out]; exact frames_f gl (by have := HLL.out; omega) _ (Nat.le_refl _))
        rw [HN.out] at hFr
        have HFR := Aside0.mk hFr
        have HB12 := Aside0.mk (below_step HB11.out hb12)
        have HF12 := Aside0.mk hF12
        clear hR12 hb12 hFr hF12
        go_wp2_with (fail)
        refine HFR.out.mono ?_
        rintro e W13 ⟨v13, rfl, hR13, hb13⟩
        obtain ⟨A13, c13, rfl⟩ := Kd.R_slice hR13
        have hF13 := Kd.R_reads' hR13
        have HSA := Aside0.mk (rondelref11_Same.calls (s.f.length + 1) A12 c12 s.f A13 c13 s.f true W13 (Kd.C_below HF12.out.2.2 hb13) HF12.out.2.1 hF13.2.2 hF13.2.1 (same_f s.f HSM.out.f _ (Nat.le_refl _)))
        have HB13 := Aside0.mk (below_step HB12.out hb13)
        clear hR13 hb13 hF13 HFR
        go_wp2_with (fail)
        refine HSA.out.mono ?_
        rintro e W14 ⟨rfl, h14⟩
        obtain ⟨n14, h14⟩ := h14.out
        have HB14 := Aside0.mk (show Below W.heap.size W W14 from by subst h14; exact pw_below_drewN HB13.out n14)
        clear h14 HSA
        go_wp2_with (fail)
        refine (lives_calls _).mono ?_
        rintro e W15 ⟨rfl, hb15⟩
        have HB15 := Aside0.mk (below_step HB14.out hb15)
        clear hb15
        go_wp2_with (fail)
        go_ret
        exact ⟨rfl, HB15.out⟩

/-- With the arguments as the row hands them. -/
theorem law (A : Option Addr) (c : Nat) (l : List Int) (cs : List Value) (y : S24) (W : World) (hl : l.length ≤ c) (hC : (Kd.int .i64).C W A l.length l) (_ : l.length ≤ maxLen ∧ ∀ y ∈ l, (Lit.int .i64 y).wf = true) (hK : k24.K W y cs) (_ : (Lit.int .i64 y.f0).wf = true ∧ (Lit.int .i64 y.f1).wf = true) :
    Calls Try.prog 3 #[.slice A l.length c, .agg cs.toArray] W fun e w' => e = .returned (.bool true) ∧ Below W.heap.size W w' := by
  obtain rfl := k24_open hK
  exact walk A c l y W hC hl

end Go.Proofs.Ytccpclkmackghaa.SNo

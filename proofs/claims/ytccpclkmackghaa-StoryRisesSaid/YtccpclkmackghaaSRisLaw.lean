/- The walk of StoryRises: it returns true and writes nothing that was there. -/
import Derived.Test.YtccpclkmackghaaSWalkR
import Derived.Test.YtccpclkmackghaaSRisPlain
namespace Go.Proofs.Ytccpclkmackghaa.SRis
open Go.RowKit Go.Proofs.YtccpclkmackghaaW.PrintWords Go.Proofs.YtccpclkmackghaaW.PrintLast Go.Proofs.YtccpclkmackghaaW.PrintMore
open Go.Proofs.Ytccpclkmackghaa.PStoryRises Go.Proofs.Ytccpclkmackghaa.SPR Go.Proofs.Ytccpclkmackghaa.SWR
attribute [local go_sem] Oper.semAt_some max2_int min2_int max_two min_two
set_option linter.unusedVariables false
set_option linter.unusedSimpArgs false

/-- One element of a row, as a row of its own. -/
theorem C_one {A : Option Addr} {c : Nat} {l : List S24} {w : World} (hC : k24.C w A l.length l) (hc : l.length ≤ c) (j : Nat) (hj : j < l.length) : k24.C w (A.map (fun x => x.add (j * 2))) 1 [l[j]] := by
  have := Kd.C_mid (k := k24) hC (show j ≤ j + 1 by omega) (by omega) hc
  have e : ((l.take (j + 1)).drop j) = [l[j]] := by
    rw [List.take_succ_eq_append_getElem hj, List.drop_left' (by simp; omega)]
  rw [e, if_neg (by omega)] at this
  exact this

/-- The cells of one step of a row. -/
theorem cells_at {ad : Addr} {l : List S24} {w : World} (hC : k24.C w (some ad) l.length l) (j : Nat) (hj : j < l.length) :
    w.cell? (ad.add (j * 2)) = some (.int .i64 l[j].f0) ∧ w.cell? ⟨(ad.add (j * 2)).block, (ad.add (j * 2)).off + 1, none⟩ = some (.int .i64 l[j].f1) := by
  obtain ⟨ad', e, h0, h1⟩ := at_T24 hC (j : Int) (by omega) (by omega)
  injection e with e
  subst e
  rw [rd_at l j hj, Int.toNat_natCast] at h0 h1
  exact ⟨h0, h1⟩

set_option maxRecDepth 100000 in
set_option maxHeartbeats 8000000 in
theorem walk (A : Option Addr) (c : Nat) (l : List Int) (W : World) (hC : (Kd.int .i64).C W A l.length l) (hl : l.length ≤ c) :
    Calls Try.prog 4 #[.slice A l.length c] W fun e w' => e = .returned (.bool true) ∧ Below W.heap.size W w' := by
  have hu24 := Try.underlying24
  have hu31 := Try.underlying31
  obtain ⟨m, hm⟩ : ∃ m, min l.length 60 = m := ⟨_, rfl⟩
  have hml : m ≤ l.length := by omega
  have hm60 : m ≤ 60 := by omega
  have hmin : (if (60 : Int) < (l.length : Int) then (60 : Int) else (l.length : Int)) = (m : Int) := by split <;> omega
  obtain ⟨i3, hi3, hz3⟩ := Option.map_eq_some_iff.1 info3
  have hcut : ∀ W : World, (Instr.slice 22 (.slice A l.length c) none (some (.int .i64 (m : Int))) none).run Try.prog W = .ok (.slice A m c) W := fun W =>
    cut_to (P := Try.prog) 22 3 .i64 Try.underlying22 hi3 A l.length c (m : Int) (by omega) (by omega) hl W
  have etk : (l.take m).length = m := by rw [List.length_take]; omega
  obtain ⟨k, gl, s, hk, hV, hgl⟩ := good_f (l.take m) (by omega)
  have hC1 := Kd.C_take (k := Kd.int .i64) hC hml
  have hGood := rondelref21_Good.calls k A c (l.take m) gl _ hC1 (by omega) hk
  rw [etk] at hGood hgl
  have HG := Aside0.mk hGood
  clear hC hl hi3 hz3 i3 etk hk hC1 hGood hm hml
  go_enter Try.func4, Try.ntmps4
  go_wp2_with (fail)
  refine HG.out.mono ?_
  rintro e W2 ⟨vg, rfl, hR2, hb2⟩
  obtain ⟨A2, c2, rfl⟩ := Kd.R_slice hR2
  have hC2 := Kd.R_reads' hR2
  obtain ⟨N, hN⟩ : ∃ N, gl.length = N := ⟨_, rfl⟩
  have HN := Aside0.mk hN
  have HC2 := Aside0.mk hC2.2.2
  have hc2 := hC2.2.1
  have HB2 := Aside0.mk hb2
  clear hR2 hb2 hC2 HG
  rw [hN] at hc2 hgl ⊢
  have hN60 : N ≤ 60 := by omega
  clear hN hgl hm60
  clear hcut hmin
  go_wp2_with (fail)
  refine (new_calls W2).mono ?_
  rintro e W3 ⟨g, rfl, hS3, hb3⟩
  have hnil := ptr_nil g
  have HS3 := Aside0.mk hS3
  have HB3 := Aside0.mk hb3
  clear hS3 hb3
  have HV := Aside0.mk hV
  clear hV
  go_wp2_with (fail)
  clear hnil
  go_loopw [5, 6, 7] (fun ch la i wr => ∃ j : Nat, ch = .int .i64 (run (gl.take j)).c ∧ la = .int .i64 (lastK 1 0 (gl.take j)) ∧ i = .int .i64 j ∧ j ≤ N ∧ Aside0 (St wr W2.heap.size g (fun k => W2.heap.size ≤ k) (run (gl.take j))) ∧ Aside0 (Below W2.heap.size W2 wr)) (fun _ _ i _ => N - (intOf i).toNat)
  case atStart => exact ⟨0, rfl, rfl, rfl, by omega, HS3, HB3⟩
  case round =>
    clear HS3 HB3
    obtain ⟨j, rfl, rfl, rfl, hj, hS, hB⟩ := hrel
    by_cases hlt : j < N
    · have hlt' : decide ((j : Int) < (N : Int)) = true := decide_eq_true (by omega)
      have hjl : j < gl.length := by rw [HN.out]; exact hlt
      have hCj := C_one (Kd.C_below HC2.out hB.out) (by rw [HN.out]; exact hc2) j hjl
      have HCJ := Aside0.mk hCj
      have v1 : IntKind.i64.wrap ((j : Int) + 1) = (j : Int) + 1 := IntWalk.i64_in _ (by omega)
      have hcj : 1 ≤ c2 - j := by omega
      have hcode := HV.out.code_at j hjl
      have hrun := run_take gl j hjl
      have hVt := HV.out.at_ j (by omega)
      have hVt' := HV.out.at_ (j + 1) (by omega)
      have hlk := lastK_snoc 1 gl[j] (gl.take j) 0
      rw [← List.take_succ_eq_append_getElem hjl] at hlk
      have hcz := code_zero hcode
      have hsh := fun ha => hVt.shown hcode ha
      have HSM := Aside0.mk (hVt.sm (by rw [List.length_take]; omega))
      have HSM' := Aside0.mk (hVt'.sm (by rw [List.length_take]; omega))
      have hris := hVt'.ris.u
      have hA2 : ∃ ad, A2 = some ad := by
        obtain ⟨ad, e, _⟩ := at_T24 HC2.out (j : Int) (by omega) (by omega)
        exact ⟨ad, e⟩
      obtain ⟨ad, rfl⟩ := hA2
      have hcells : ∀ w, Below W2.heap.size W2 w → w.cell? (ad.add (j * 2)) = some (.int .i64 gl[j].f0) ∧ w.cell? ⟨(ad.add (j * 2)).block, (ad.add (j * 2)).off + 1, none⟩ = some (.int .i64 gl[j].f1) := fun w hw => cells_at (Kd.C_below HC2.out hw) j hjl
      obtain ⟨t, ht⟩ : ∃ t, run (gl.take j) = t := ⟨_, rfl⟩
      obtain ⟨t', ht'⟩ : ∃ t', run (gl.take (j + 1)) = t' := ⟨_, rfl⟩
      obtain ⟨L, hL⟩ : ∃ L, lastK 1 0 (gl.take j) = L := ⟨_, rfl⟩
      obtain ⟨L', hL'⟩ : ∃ L', lastK 1 0 (gl.take (j + 1)) = L' := ⟨_, rfl⟩
      obtain ⟨y, hy⟩ : ∃ y, gl[j] = y := ⟨_, rfl⟩
      rw [hy] at HCJ hcode hrun hlk hcz hcells
      simp only [hy] at hsh
      rw [ht] at hS hcode hrun HSM hcz ⊢
      simp only [ht] at hsh
      rw [ht'] at hrun HSM' hris
      rw [hL] at hlk ⊢
      simp only [hL] at hsh
      rw [hL'] at hlk
      have HT' := Aside0.mk ht'
      have HL' := Aside0.mk hL'
      have HCODE := Aside0.mk hcode
      have HRUN := Aside0.mk hrun
      have HLK := Aside0.mk hlk
      have HCZ := Aside0.mk hcz
      have HSH := Aside0.mk hsh
      have HRIS := Aside0.mk hris
      have HCELLS := Aside0.mk hcells
      have htc := HSM.out.c
      have v2 : IntKind.i64.wrap (t.c + 1) = t.c + 1 := IntWalk.i64_in _ (by omega)
      clear hCj hcode hrun hy hjl hVt hVt' hlk hcz hsh hris hcells ht ht' hL hL'
      go_wp2_with (fail)
      refine (rondellaw21_as.calls 5 _ (c2 - j) [y] _ _ HCJ.out hcj (as_f [y] (by simp) 5 (by simp))).mono ?_
      rintro e W5 ⟨v5, rfl, hR5, hb5⟩
      obtain ⟨A5, c5, rfl⟩ := Kd.R_slice hR5
      obtain ⟨ad5, e5, h0, h1⟩ := at_T31 (Kd.R_reads' hR5).2.2 0 (by omega) (by simp)
      subst e5
      have HS5 := Aside0.mk (hS.out.below hb5)
      have HB5 := Aside0.mk (below_step hB.out hb5)
      replace h0 : W5.cell? ad5 = some (.int .i64 y.f0) := by
        have := h0
        rw [show (0 : Int).toNat * 2 = 0 from rfl, Addr.add_zero'] at this
        exact this
      replace h1 : W5.cell? ⟨ad5.block, ad5.off + 1, none⟩ = some (.int .i64 y.f1) := by
        have := h1
        rw [show (0 : Int).toNat * 2 = 0 from rfl, Addr.add_zero'] at this
        exact this
      have hN1 : 0 < (List.map (fun x : S24 => (⟨x.f0, x.f1⟩ : S31)) [y]).length := by simp
      obtain ⟨M, hM⟩ : ∃ M, (List.map (fun x : S24 => (⟨x.f0, x.f1⟩ : S31)) [y]).length = M := ⟨_, rfl⟩
      rw [hM] at hN1 ⊢
      have hN2 : (0 : Int) < (M : Int) := by omega
      clear hR5 hb5 hM
      go_wp2_with (fail)
      refine (add_B W2 W5 g _ y.f0 y.f1 HB5.out HS5.out HSM.out).mono ?_
      rw [HCODE.out]
      rintro e W6 ⟨rfl, hS6, hb6⟩
      rw [stp, if_pos HCODE.out, ← HRUN.out] at hS6
      have HS6 := Aside0.mk hS6
      have HB6 := Aside0.mk (HB5.out.trans hb6)
      obtain ⟨k0, k1⟩ := HCELLS.out W6 HB6.out
      clear hS6 hb6 h0 h1 hN1 hN2
      by_cases e0 : y.f0 = 0
      · have b0 : (y.f0 == 0) = true := by rw [beq_iff_eq]; exact e0
        have b1 : (y.f0 == 1) = false := by rw [beq_eq_false_iff_ne]; omega
        have b2 : (y.f0 == 2) = false := by rw [beq_eq_false_iff_ne]; omega
        have HCH := Aside0.mk (show t.c + 1 = t'.c from by
          rw [HRUN.out, nxt, if_pos e0]
          rcases HCZ.out with ⟨_, h⟩ | ⟨h, _⟩ | ⟨h, _⟩ <;> dsimp only <;> omega)
        have HLA := Aside0.mk (show L = L' from by rw [HLK.out, if_neg (by omega)])
        clear e0
        go_wp2_with (fail)
        refine (frames_calls HS6.out HSM'.out).mono ?_
        rintro e W7 ⟨v7, rfl, hR7, hb7⟩
        obtain ⟨A7, c7, rfl⟩ := Kd.R_slice hR7
        have HB7 := Aside0.mk (below_step HB6.out hb7)
        have HS7 := Aside0.mk (HS6.out.below hb7)
        have HR7 := Aside0.mk hR7
        have hRi := story_Rises.calls (t'.f.length + 2) A7 c7 t'.f true W7 (Kd.R_reads' hR7).2.2 (Kd.R_reads' hR7).2.1 (by rw [rises_f t'.f HSM'.out.f _ (Nat.le_refl _), HRIS.out])
        obtain ⟨M7, hM7⟩ : ∃ M, t'.f.length = M := ⟨_, rfl⟩
        rw [hM7] at hRi ⊢
        have HRi := Aside0.mk hRi
        have HM7 := Aside0.mk hM7
        obtain ⟨n0, n1⟩ := HCELLS.out W7 HB7.out
        clear hR7 hb7 hRi hM7 k0 k1
        go_wp2_with (fail)
        refine HRi.out.mono ?_
        rintro e W8 ⟨rfl, h8⟩
        obtain ⟨n8, h8⟩ := h8.out
        have HB8 := Aside0.mk (show Below W2.heap.size W2 W8 from by subst h8; exact pw_below_drewN HB7.out n8)
        have HS8 := Aside0.mk (show St W8 W2.heap.size g (fun k => W2.heap.size ≤ k) t' from by subst h8; exact HS7.out.below (pw_below_drewN (Below.refl _ _) n8))
        clear h8 HRi n0 n1
        go_wp2_with (fail)
        go_roundw
        case rel => exact ⟨j + 1, by rw [HT'.out, ← HCH.out], by rw [HL'.out, ← HLA.out], by go_num, by omega, ⟨by rw [HT'.out]; exact HS8.out⟩, HB8⟩
        case measure => simp [intOf]; omega
      · by_cases e1 : y.f0 = 1
        · have b0 : (y.f0 == 0) = false := by rw [beq_eq_false_iff_ne]; omega
          have b1 : (y.f0 == 1) = true := by rw [beq_iff_eq]; exact e1
          have b2 : (y.f0 == 2) = false := by rw [beq_eq_false_iff_ne]; omega
          have HCH := Aside0.mk (show t.c = t'.c from by rw [HRUN.out, nxt, if_neg e0, if_pos e1])
          have HLA := Aside0.mk (show t.c = L' from by
            rw [HLK.out, if_pos e1]
            rcases HCZ.out with ⟨h, _⟩ | ⟨_, h, _⟩ | ⟨h, _⟩ <;> omega)
          clear e0 e1
          go_wp2_with (fail)
          refine (frames_calls HS6.out HSM'.out).mono ?_
          rintro e W7 ⟨v7, rfl, hR7, hb7⟩
          obtain ⟨A7, c7, rfl⟩ := Kd.R_slice hR7
          have HB7 := Aside0.mk (below_step HB6.out hb7)
          have HS7 := Aside0.mk (HS6.out.below hb7)
          have HR7 := Aside0.mk hR7
          have hRi := story_Rises.calls (t'.f.length + 2) A7 c7 t'.f true W7 (Kd.R_reads' hR7).2.2 (Kd.R_reads' hR7).2.1 (by rw [rises_f t'.f HSM'.out.f _ (Nat.le_refl _), HRIS.out])
          obtain ⟨M7, hM7⟩ : ∃ M, t'.f.length = M := ⟨_, rfl⟩
          rw [hM7] at hRi ⊢
          have HRi := Aside0.mk hRi
          have HM7 := Aside0.mk hM7
          obtain ⟨n0, n1⟩ := HCELLS.out W7 HB7.out
          clear hR7 hb7 hRi hM7 k0 k1
          go_wp2_with (fail)
          refine HRi.out.mono ?_
          rintro e W8 ⟨rfl, h8⟩
          obtain ⟨n8, h8⟩ := h8.out
          have HB8 := Aside0.mk (show Below W2.heap.size W2 W8 from by subst h8; exact pw_below_drewN HB7.out n8)
          have HS8 := Aside0.mk (show St W8 W2.heap.size g (fun k => W2.heap.size ≤ k) t' from by subst h8; exact HS7.out.below (pw_below_drewN (Below.refl _ _) n8))
          clear h8 HRi n0 n1
          go_wp2_with (fail)
          go_roundw
          case rel => exact ⟨j + 1, by rw [HT'.out, ← HCH.out], by rw [HL'.out, ← HLA.out], by go_num, by omega, ⟨by rw [HT'.out]; exact HS8.out⟩, HB8⟩
          case measure => simp [intOf]; omega
        · have e2 : y.f0 = 2 := by
            rcases HCZ.out with ⟨h, _⟩ | ⟨h, _⟩ | ⟨h, _⟩ <;> omega
          have b0 : (y.f0 == 0) = false := by rw [beq_eq_false_iff_ne]; omega
          have b1 : (y.f0 == 1) = false := by rw [beq_eq_false_iff_ne]; omega
          have b2 : (y.f0 == 2) = true := by rw [beq_iff_eq]; exact e2
          have HCH := Aside0.mk (show t.c = t'.c from by rw [HRUN.out, nxt, if_neg e0, if_neg e1])
          have HLA := Aside0.mk (show L = L' from by rw [HLK.out, if_neg (by omega)])
          have hs2 := HSH.out e2
          rw [← HRUN.out] at hs2
          have HS2 := Aside0.mk hs2
          clear e0 e1 e2 hs2
          go_wp2_with (fail)
          refine (frames_calls HS6.out HSM'.out).mono ?_
          rintro e W7 ⟨v7, rfl, hR7, hb7⟩
          obtain ⟨A7, c7, rfl⟩ := Kd.R_slice hR7
          have HB7 := Aside0.mk (below_step HB6.out hb7)
          have HS7 := Aside0.mk (HS6.out.below hb7)
          have HR7 := Aside0.mk hR7
          have hRi := story_Rises.calls (t'.f.length + 2) A7 c7 t'.f true W7 (Kd.R_reads' hR7).2.2 (Kd.R_reads' hR7).2.1 (by rw [rises_f t'.f HSM'.out.f _ (Nat.le_refl _), HRIS.out])
          obtain ⟨M7, hM7⟩ : ∃ M, t'.f.length = M := ⟨_, rfl⟩
          rw [hM7] at hRi ⊢
          have HRi := Aside0.mk hRi
          have HM7 := Aside0.mk hM7
          obtain ⟨n0, n1⟩ := HCELLS.out W7 HB7.out
          clear hR7 hb7 hRi hM7 k0 k1
          have hlen : M7 = t.f.length + 1 := by rw [← HM7.out, HS2.out.1]; simp
          have hr7 := HR7.out
          obtain ⟨g7, cap7, hv7, _, _, _⟩ := Kd.R_form hr7 (by rw [HM7.out]; omega)
          rw [hv7] at hr7
          injection hv7 with hv1 hv2 hv3
          subst hv1
          obtain ⟨kc, _⟩ := Kd.R_cell (0 : Int) hr7 ((M7 : Int) - 1) (by omega) (by rw [HM7.out]; omega)
          have hval : rdOf 0 t'.f ((M7 : Int) - 1) = L := by
            rw [HS2.out.1, hlen]
            simp [rdOf, List.getD_eq_getElem?_getD]
          rw [hval] at kc
          have hneq : ((M7 : Int) != y.f1) = false := by rw [bne_eq_false_iff_eq, HS2.out.2, HM7.out]
          have hpos : decide ((M7 : Int) > 0) = true := decide_eq_true (by omega)
          have hm30 := HSM'.out.f
          rw [HM7.out] at hm30
          have v3 : IntKind.i64.wrap ((M7 : Int) - 1) = (M7 : Int) - 1 := IntWalk.i64_in _ (by omega)
          have hmax : (if (M7 : Int) - 1 < 0 then (0 : Int) else (M7 : Int) - 1) = (M7 : Int) - 1 := if_neg (by omega)
          have hi0 : 0 ≤ (M7 : Int) - 1 := by omega
          have hi1 : (M7 : Int) - 1 < (M7 : Int) := by omega
          clear hr7 hval hlen hv2 hv3
          rw [show ((M7 : Int) - 1).toNat = M7 - 1 from by omega] at kc
          go_wp2_with (fail)
          refine HRi.out.mono ?_
          rintro e W8 ⟨rfl, h8⟩
          obtain ⟨n8, h8⟩ := h8.out
          have HB8 := Aside0.mk (show Below W2.heap.size W2 W8 from by subst h8; exact pw_below_drewN HB7.out n8)
          have HS8 := Aside0.mk (show St W8 W2.heap.size g (fun k => W2.heap.size ≤ k) t' from by subst h8; exact HS7.out.below (pw_below_drewN (Below.refl _ _) n8))
          clear h8 HRi n0 n1 kc hneq hpos v3 hmax hi0 hi1
          go_wp2_with (fail)
          go_roundw
          case rel => exact ⟨j + 1, by rw [HT'.out, ← HCH.out], by rw [HL'.out, ← HLA.out], by go_num, by omega, ⟨by rw [HT'.out]; exact HS8.out⟩, HB8⟩
          case measure => simp [intOf]; omega
    · obtain rfl : j = N := by omega
      have hlt2 : decide ((j : Int) < (j : Int)) = false := decide_eq_false (by omega)
      have HSM := Aside0.mk (HV.out.sm (by rw [HN.out]; omega))
      have hCw := Kd.C_below HC2.out hB.out
      obtain ⟨q, hq⟩ : ∃ q, gl.map (·.f1) = q := ⟨_, rfl⟩
      have hqf := numbers_f gl (by rw [HN.out]; omega) _ (Nat.le_refl _)
      rw [hq] at hqf
      have HQF := Aside0.mk hqf
      have HQL := Aside0.mk (show q.length ≤ 1000000 from by rw [← hq, List.length_map, HN.out]; omega)
      clear hq hqf
      have hnum := rondellaw21_numbers.calls (gl.length + 1) A2 c2 gl q wr hCw (by rw [HN.out]; exact hc2) (HQF.out)
      rw [HN.out] at hnum
      have HNUM := Aside0.mk hnum
      have HCW := Aside0.mk hCw
      obtain ⟨tc, htc⟩ : ∃ t, (run (List.take j gl)).c = t := ⟨_, rfl⟩
      obtain ⟨tl, htl⟩ : ∃ t, lastK 1 0 (List.take j gl) = t := ⟨_, rfl⟩
      rw [htc, htl]
      clear hCw hnum hlt htc htl hS
      go_wp2_with (fail)
      refine HNUM.out.mono ?_
      rintro e W7 ⟨v7, rfl, hR7, hb7⟩
      obtain ⟨A7, c7, rfl⟩ := Kd.R_slice hR7
      have hnl := HQL.out
      have HRI := Aside0.mk (story_Rises.calls (q.length + 2) A7 c7 _ _ W7 (Kd.R_reads' hR7).2.2 (Kd.R_reads' hR7).2.1 (rises_f _ hnl _ (Nat.le_refl _)))
      have HB7 := Aside0.mk (below_step hB.out hb7)
      have HC7 := Aside0.mk (Kd.C_below HCW.out hb7)
      clear hR7 hb7 HNUM
      go_wp2_with (fail)
      refine HRI.out.mono ?_
      obtain ⟨u, hu⟩ : ∃ u, upTo q (q.length - 1) = u := ⟨_, rfl⟩
      rw [hu]
      have HU := Aside0.mk hu
      rintro e W8 ⟨rfl, h8⟩
      obtain ⟨n8, h8⟩ := h8.out
      have HB8 := Aside0.mk (show Below W2.heap.size W2 W8 from by subst h8; exact pw_below_drewN HB7.out n8)
      have hC8 := show k24.C W8 A2 gl.length gl from by subst h8; exact Kd.C_drewN HC7.out n8
      have hnum := rondellaw21_numbers.calls (gl.length + 1) A2 c2 gl q W8 hC8 (by rw [HN.out]; exact hc2) (HQF.out)
      rw [HN.out] at hnum
      have HNUM := Aside0.mk hnum
      clear hu h8 hC8 hnum HRI
      go_wp2_with (fail)
      refine HNUM.out.mono ?_
      rintro e W9 ⟨v9, rfl, hR9, hb9⟩
      obtain ⟨A9, c9, rfl⟩ := Kd.R_slice hR9
      have HSO := Aside0.mk (rondellaw21_sorted.calls (q.length + 2) A9 c9 _ _ W9 (Kd.R_reads' hR9).2.2 (Kd.R_reads' hR9).2.1 (sorted_f _ hnl _ (Nat.le_refl _)))
      have HB9 := Aside0.mk (below_step HB8.out hb9)
      clear hR9 hb9 HNUM hnl
      go_wp2_with (fail)
      refine HSO.out.mono ?_
      rw [HU.out]
      rintro e W10 ⟨rfl, h10⟩
      obtain ⟨n10, h10⟩ := h10.out
      have HB10 := Aside0.mk (show Below W2.heap.size W2 W10 from by subst h10; exact pw_below_drewN HB9.out n10)
      have hbb : (u == u) = true := by simp
      clear h10 HSO
      go_wp2_with (fail)
      refine (lives_calls _).mono ?_
      rintro e W11 ⟨rfl, hb11⟩
      have HB11 := Aside0.mk (below_step HB2.out (below_step HB10.out hb11))
      clear hb11
      go_wp2_with (fail)
      go_ret
      exact ⟨rfl, HB11.out⟩

/-- With the arguments as the row hands them. -/
theorem law (A : Option Addr) (c : Nat) (l : List Int) (W : World) (hl : l.length ≤ c) (hC : (Kd.int .i64).C W A l.length l) (_ : l.length ≤ maxLen ∧ ∀ y ∈ l, (Lit.int .i64 y).wf = true) :
    Calls Try.prog 4 #[.slice A l.length c] W fun e w' => e = .returned (.bool true) ∧ Below W.heap.size W w' := walk A c l W hC hl

end Go.Proofs.Ytccpclkmackghaa.SRis

/- The walk of FrameWrites: it returns true and writes nothing that was there. -/
import Derived.Test.YtligkikcfmploaaFWriB
import Derived.Test.YtligkikcfmploaaMsg
import Derived.WalkSpells
import Derived.Deep.RegionHeld3
import Derived.Deep.DeepMust
import Derived.Deep.Cut
namespace Go.Proofs.Ytligkikcfmploaa.FP
open Go.RowKit Go.Proofs.YtligkikcfmploaaW.PrintWords Go.Proofs.YtligkikcfmploaaW.PrintLast Go.Proofs.YtligkikcfmploaaW.PrintMore
open Go.Proofs.Ytligkikcfmploaa.Base Go.Proofs.Ytligkikcfmploaa.Msg
attribute [local go_sem] Oper.semAt_some max2_int min2_int max_two min_two
set_option linter.unusedVariables false
set_option linter.unusedSimpArgs false

theorem bd_of {l : List Int} (h : BytesG l) : Bd l := fun b hb => by
  have := Go.bounds_u8 (h.2 b hb)
  omega

set_option maxRecDepth 100000 in
set_option maxHeartbeats 16000000 in
theorem fw_walk (op id : Int) (A : Option Addr) (c : Nat) (l : List Int) (B : Option Addr) (cB : Nat) (lB : List Int) (W : World) (hC : (Kd.int .u8).C W A l.length l) (hc : l.length ≤ c) (hb : Bd l) (hCB : (Kd.int .u8).C W B lB.length lB) (hcB : lB.length ≤ cB) (hbB : Bd lB) :
    Calls Try.prog 4 #[.agg #[.int .i64 op, .int .i64 id, .slice A l.length c], .slice B lB.length cB] W fun e W' => e = .returned (.bool true) ∧ Below W.heap.size W W' := by
  have hu24 := Try.underlying24
  have HC := Aside0.mk hC
  have Hc := Aside0.mk hc
  have HCB := Aside0.mk hCB
  have HcB := Aside0.mk hcB
  have HBd := Aside0.mk hb
  have HBdB := Aside0.mk hbB
  clear hC hb hCB hcB hbB
  have hg1 := Aside0.mk (gd_spec op 256 (by omega) (by omega))
  have hg2 := Aside0.mk (gd_spec id 4294967296 (by omega) (by omega))
  obtain ⟨o1, ho1⟩ : ∃ o1, gd op 256 = o1 := ⟨_, rfl⟩
  obtain ⟨o2, ho2⟩ : ∃ o2, gd id 4294967296 = o2 := ⟨_, rfl⟩
  rw [ho1] at hg1
  rw [ho2] at hg2
  have HGood := Aside0.mk (fun w => good_calls op id A c l 300 w (by omega) hc)
  rw [ho1, ho2] at HGood
  clear ho1 ho2 hc
  have HX := Aside0.mk (blk_new W (.cells #[.int .i64 op, .int .i64 id, .slice A l.length c] 24))
  have HB0 := Aside0.mk (below_alloc (Below.refl W.heap.size W) (.cells #[.int .i64 op, .int .i64 id, .slice A l.length c] 24))
  obtain ⟨lg, hlg⟩ : ∃ x, l.take 300 = x := ⟨_, rfl⟩
  have hlgl := Aside0.mk (show lg.length ≤ 300 from by rw [← hlg, List.length_take]; omega)
  have HCg := Aside0.mk (show (Kd.int .u8).C W A lg.length lg from by
    rw [← hlg]
    rcases Nat.le_total l.length 300 with h | h
    · rw [List.take_of_length_le h]; exact HC.out
    · exact Kd.C_take HC.out h)
  rw [show (300 : Int).toNat = 300 from rfl, hlg] at HGood
  have hcg := Aside0.mk (show lg.length ≤ c from by have := Hc.out; rw [← hlg, List.length_take]; omega)
  have HBdg := Aside0.mk (show Bd lg from by rw [← hlg]; exact HBd.out.take 300)
  clear hlg
  go_enter Try.func4, Try.ntmps4
  go_wp2_with (fail)
  refine (HGood.out _).mono ?_
  rintro e w1 ⟨rfl, hb1⟩
  have HB1 := Aside0.mk (below_step HB0.out hb1)
  have HX1 := Aside0.mk (blk_below HX.out hb1)
  have HY := Aside0.mk (blk_new w1 (.cells #[.int .i64 o1, .int .i64 o2, .slice A lg.length c] 24))
  have HB2 := Aside0.mk (below_alloc HB1.out (.cells #[.int .i64 o1, .int .i64 o2, .slice A lg.length c] 24))
  have HX2 := Aside0.mk (blk_alloc HX1.out (.cells #[.int .i64 o1, .int .i64 o2, .slice A lg.length c] 24))
  obtain ⟨x0, x1, x2, f0, f1, f2⟩ := cells3 HX2.out
  have HGG := Aside0.mk (below_size HB1.out)
  clear hb1 HX HX1 HB0 HB1
  go_wp2_with (fail)
  clear x0 x1 x2 f0 f1 f2
  generalize hG : w1.heap.size = G at HY HGG ⊢
  generalize w1.alloc (.cells #[.int .i64 o1, .int .i64 o2, .slice A lg.length c] 24) = w2 at HY HB2 HX2 ⊢
  clear hG
  have HW1 := Aside0.mk (fun w (hw : Below W.heap.size W w) => PFrameWrites.frame_Write.calls op id A c l (wrB op id l) (wrE op id l) w (Kd.C_below HC.out hw) Hc.out (write_own op id l))
  have HW2 := Aside0.mk (fun w (hw : Below W.heap.size W w) => PFrameWrites.rondelref07_Write.calls op id A c l (wrB op id l) (wrE op id l) w (Kd.C_below HC.out hw) Hc.out (write_ref op id l))
  have HM1 := Aside0.mk (fun w (hw : Below W.heap.size W w) => PFrameWrites.frame_May.calls op id A c l (mayB op id l) w (Kd.C_below HC.out hw) Hc.out (may_own op id l))
  have HM2 := Aside0.mk (fun w (hw : Below W.heap.size W w) => PFrameWrites.rondelref07_May.calls op id A c l (mayB op id l) w (Kd.C_below HC.out hw) Hc.out (may_ref op id l))
  obtain ⟨N, hN⟩ : ∃ x, l.length = x := ⟨_, rfl⟩
  obtain ⟨NB, hNB⟩ : ∃ x, lB.length = x := ⟨_, rfl⟩
  obtain ⟨wb, hwb⟩ : ∃ x, wrB op id l = x := ⟨_, rfl⟩
  obtain ⟨we, hwe⟩ : ∃ x, wrE op id l = x := ⟨_, rfl⟩
  obtain ⟨mb, hmb⟩ : ∃ x, mayB op id l = x := ⟨_, rfl⟩
  rw [hN] at HW1 HW2 HM1 HM2 HX2 HC Hc ⊢
  rw [hNB] at HCB HcB ⊢
  rw [hwb, hwe] at HW1 HW2
  rw [hmb] at HM1 HM2
  have HFew := Aside0.mk (fun w => few_calls B cB lB 20 w (by omega) (by have := HcB.out; omega))
  obtain ⟨tb, htb⟩ : ∃ x, lB.take 20 = x := ⟨_, rfl⟩
  have hTL0 : tb.length ≤ 20 := by rw [← htb, List.length_take]; omega
  have HCtb0 : (Kd.int .u8).C W B tb.length tb := by
    rw [← htb]
    rcases Nat.le_total lB.length 20 with h | h
    · rw [List.take_of_length_le h, hNB]; exact HCB.out
    · exact Kd.C_take (by rw [hNB]; exact HCB.out) h
  have HBdt := Aside0.mk (show Bd tb from by rw [← htb]; exact HBdB.out.take 20)
  rw [show (20 : Int).toNat = 20 from rfl, htb, hNB] at HFew
  obtain ⟨TL, hTL⟩ : ∃ x, tb.length = x := ⟨_, rfl⟩
  rw [hTL] at HFew HCtb0 hTL0
  have HTL := Aside0.mk (And.intro hTL hTL0)
  have HCtb := Aside0.mk HCtb0
  clear hTL hTL0 htb HCtb0
  clear hN hwb hwe hmb hNB HGood
  refine (HW1.out _ HB2.out).mono ?_
  rintro e w3 ⟨v3, rfl, hR3, hb3⟩
  obtain ⟨A3, c3, hv3, hs3⟩ := str_of_R hR3
  subst hv3
  have HS3 := Aside0.mk hs3
  have HB3 := Aside0.mk (below_step HB2.out hb3)
  have HX3 := Aside0.mk (blk_below HX2.out hb3)
  have HY3 := Aside0.mk (blk_below HY.out hb3)
  obtain ⟨x0, x1, x2, f0, f1, f2⟩ := cells3 HX3.out
  clear hs3 hR3 hb3 HX2 HY
  go_wp2_with (fail)
  clear x0 x1 x2 f0 f1 f2
  refine (HW2.out _ HB3.out).mono ?_
  rintro e w4 ⟨v4, rfl, hR4, hb4⟩
  obtain ⟨A4, c4, hv4, hs4⟩ := str_of_R hR4
  subst hv4
  have HS34 := Aside0.mk (fun w1 (hw : Below w4.heap.size w4 w1) => HS3.out w1 (below_step hb4 hw))
  have HS4 := Aside0.mk hs4
  have HB4 := Aside0.mk (below_step HB3.out hb4)
  have HX4 := Aside0.mk (blk_below HX3.out hb4)
  have HY4 := Aside0.mk (blk_below HY3.out hb4)
  clear hs4 hR4 hb4 HX3 HY3
  go_wp2_with (fail)
  obtain ⟨st, hst⟩ : ∃ x, strOfNums wb = x := ⟨_, rfl⟩
  obtain ⟨wl, hwl⟩ : ∃ x, wb.length = x := ⟨_, rfl⟩
  rw [hst, hwl] at HS34 HS4
  rw [hwl]
  have HS := Aside0.mk (fun w' (hw : Below w4.heap.size w4 w') => (show w'.cell? ⟨W.heap.size, 0, none⟩ = some (.int .i64 op) ∧ w'.cell? ⟨W.heap.size, 1, none⟩ = some (.int .i64 id) ∧ w'.cell? ⟨W.heap.size, 2, none⟩ = some (.slice A N c) ∧ (convert 22 9 (.slice A3 wl c3)).run Try.prog w' = .ok (.string st) w' ∧ (convert 22 9 (.slice A4 wl c4)).run Try.prog w' = .ok (.string st) w' from
    let q := cells3 (blk_below HX4.out hw); ⟨q.1, q.2.1, q.2.2.1, HS34.out _ hw, HS4.out _ hw⟩))
  clear hst hwl HS34 HS4 HS3
  go_region_held3 (fun w' => w'.cell? ⟨W.heap.size, 0, none⟩ = some (.int .i64 op) ∧ w'.cell? ⟨W.heap.size, 1, none⟩ = some (.int .i64 id) ∧ w'.cell? ⟨W.heap.size, 2, none⟩ = some (.slice A N c) ∧ (convert 22 9 (.slice A3 wl c3)).run Try.prog w' = .ok (.string st) w' ∧ (convert 22 9 (.slice A4 wl c4)).run Try.prog w' = .ok (.string st) w') (first | exact HS.out _ (below_drew1 (Below.refl _ _)) | exact HS.out _ hb5 | exact HS.out _ hb6)
    (first
      | (go_at_call 14; refine (HM1.out _ (below_drew1 HB4.out)).mono ?_; rintro e w5 ⟨rfl, hb5'⟩; have hb5 := below_step (below_drew1 (Below.refl _ _)) hb5'; clear hb5')
      | (go_at_call 15; refine (HM2.out _ (below_step HB4.out hb5)).mono ?_; rintro e w6 ⟨rfl, hb6'⟩; have hb6 := below_step hb5 hb6'; clear hb6'))
  have HB6 := Aside0.mk (below_step HB4.out hb6)
  have HY6 := Aside0.mk (blk_below HY4.out hb6)
  clear hb5 hb6 HS HB2 HB3 HB4 HX4 HY4
  obtain ⟨x0, x1, x2, f0, f1, f2⟩ := cells3 HY6.out
  go_wp2_with (fail)
  clear x0 x1 x2 f0 f1 f2
  have HW7 := Aside0.mk (PFrameWrites.frame_Write.calls o1 o2 A c lg (wrB o1 o2 lg) (wrE o1 o2 lg) w6 (Kd.C_below HCg.out HB6.out) hcg.out (write_own o1 o2 lg))
  obtain ⟨hwg1, hwg2⟩ := wr_good (l := lg) hg1.out hg2.out (by have := hlgl.out; omega)
  rw [hwg1, hwg2] at HW7
  clear hwg1 hwg2
  have HFL := Aside0.mk (frameBytes_length o1 o2 lg)
  obtain ⟨fb, hfb⟩ : ∃ x, frameBytes o1 o2 lg = x := ⟨_, rfl⟩
  rw [hfb] at HW7 HFL
  have HFB := Aside0.mk hfb
  clear hfb
  refine HW7.out.mono ?_
  rintro e w7 ⟨v7, rfl, hR7, hb7⟩
  have HB7 := Aside0.mk (below_step HB6.out hb7)
  have HY7 := Aside0.mk (blk_below HY6.out hb7)
  have HR7 := Aside0.mk (Kd.R_lower hR7 (below_size HB6.out))
  obtain ⟨A7, c7, hv7⟩ := Kd.R_slice hR7
  subst hv7
  obtain ⟨F, hF⟩ : ∃ x, fb.length = x := ⟨_, rfl⟩
  have HF := Aside0.mk hF
  rw [hF] at HR7 HFL ⊢
  clear hb7 HY6 HB6 hR7 hF HW7
  go_upto_region 10 with (fail)
  obtain ⟨v0, hv0⟩ : ∃ v, v = Value.slice none 0 0 := ⟨_, rfl⟩
  rw [← hv0]
  have HR0 := Aside0.mk (show (Kd.int .u8).R 5 w7 W.heap.size (fun _ => True) v0 [] from by rw [hv0]; exact Kd.R_nil _ _ _ _ _)
  have HN0 := Aside0.mk (show ∀ k : Nat, some k ≠ v0.ownBlock from fun k => by rw [hv0]; simp [Value.ownBlock])
  clear hv0
  go_wp2_with (((with_reducible refine gate_builtin (b := .append) (xs := #[.tmp 52, .tmp 53]) rfl ?_); at_builtin; go_must ((refine Kd.R_append_rows (Kd.int .u8) (w0 := W) W.heap.size rfl (.tmp 52) (.tmp 53) 22 5 (.int .u8 0) 1 rfl Try.underlying22 PFrameCuts.info5 rfl (by decide) (by decide) v0 [] fb A7 F c7 (fun _ => True) (fun _ => False) rfl rfl ?aO ?aR (fun _ _ h => h) (fun _ h => h.elim) (fun _ _ => trivial) ?aB ?aS ?aL ?_; (case aO => exact HR0.out); (case aR => have h := (Kd.R_reads' HR7.out).2.2; rw [HF.out] at h; exact h); (case aB => exact HB7.out); (case aS => exact below_size HB7.out); (case aL => have := HFL.out; have := hlgl.out; simp; omega); intro v8 w8 ho hb8 hg8 hat; have O8 := Aside0.mk ho; have B8 := Aside0.mk hb8; have HY8 := Aside0.mk (blk_grown HY7.out hg8 (HN0.out _)); clear ho hb8 hg8 hat))))
  refine (HFew.out _).mono ?_
  rintro e w8' ⟨rfl, hw8⟩
  subst hw8
  have O8' := Aside0.mk (show (Kd.int .u8).R 5 w8 W.heap.size (fun _ => True) v8 fb from O8.out)
  clear O8 HY7 HFew
  go_wp2_with (((with_reducible refine gate_builtin (b := .append) (xs := #[.tmp 55, .tmp 57]) rfl ?_); at_builtin; go_must ((refine Kd.R_append_rows (Kd.int .u8) (w0 := W) W.heap.size rfl (.tmp 55) (.tmp 57) 22 5 (.int .u8 0) 1 rfl Try.underlying22 PFrameCuts.info5 rfl (by decide) (by decide) v8 fb tb B TL cB (fun _ => True) (fun _ => False) rfl rfl ?aO ?aR (fun _ _ h => h) (fun _ h => h.elim) (fun _ _ => trivial) ?aB ?aS ?aL ?_; (case aO => exact O8'.out); (case aR => exact Kd.C_below HCtb.out B8.out); (case aB => exact B8.out); (case aS => exact below_size B8.out); (case aL => have := HFL.out; have := hlgl.out; have := HF.out; have := HTL.out; omega); intro v9 w9 ho hb9 hg9 hat; have O9 := Aside0.mk ho; have B9 := Aside0.mk hb9; have HY9 := Aside0.mk (blk_grown HY8.out hg9 (Kd.R_ne O8'.out HY8.out (by decide))); clear ho hb9 hg9 hat))))
  obtain ⟨A9, c9, hv9⟩ := Kd.R_slice O9.out
  subst hv9
  obtain ⟨hc9, hC9⟩ := (Kd.R_reads' O9.out).2
  have hbd : Bd (fb ++ tb) := Bd.app (by rw [← HFB.out]; exact frameBytes_bd o1 o2 lg hg1.out hg2.out (by have := hlgl.out; omega) HBdg.out) HBdt.out
  have HRd := Aside0.mk (read_calls A9 c9 (fb ++ tb) w9 hC9 hc9 hbd)
  have e0 : rerr (fb ++ tb) = 0 := by rw [← HFB.out]; exact rerr_frame _ _ _ _ (by have := hlgl.out; omega)
  have e1 : (fb ++ tb).getD 2 0 = o1 := by rw [← HFB.out]; exact op_frame _ _ _ _
  have e2 : id4 (fb ++ tb) = o2 := by rw [← HFB.out]; exact id4_frame _ _ _ _ hg2.out
  have e3 : len2 (fb ++ tb) = 7 + (lg.length : Int) := by rw [← HFB.out]; exact len2_frame _ _ _ _
  have e4 : ((fb ++ tb).take (7 + (lg.length : Int)).toNat).drop 7 = lg := by rw [← HFB.out, show (7 + (lg.length : Int)).toNat = 7 + lg.length from by omega]; exact body_frame _ _ _ _
  rw [e0, if_pos rfl, if_pos rfl, if_pos rfl, if_pos rfl, e1, e2, e3, e4] at HRd
  clear e0 e1 e2 e3 e4 hbd hC9 hc9
  obtain ⟨L9, hL9⟩ : ∃ x, (fb ++ tb).length = x := ⟨_, rfl⟩
  rw [hL9] at HRd ⊢
  clear hL9
  go_wp2_with (fail)
  refine HRd.out.mono ?_
  rintro e w10 ⟨v10, rfl, hR10, hb10⟩
  obtain ⟨A10, c10, hv10⟩ := Kd.R_slice hR10
  subst hv10
  obtain ⟨hc10, hC10⟩ := (Kd.R_reads' hR10).2
  have HC10 := Aside0.mk hC10
  have Hc10 := Aside0.mk hc10
  have HB11 := Aside0.mk (below_alloc (below_step B9.out hb10) (.cells #[.int .i64 o1, .int .i64 o2, .slice A10 lg.length c10] 24))
  have HC11 := Aside0.mk (Kd.C_alloc hC10 (.cells #[.int .i64 o1, .int .i64 o2, .slice A10 lg.length c10] 24))
  have HY11 := Aside0.mk (blk_alloc (blk_below HY9.out hb10) (.cells #[.int .i64 o1, .int .i64 o2, .slice A10 lg.length c10] 24))
  have HZ11 := Aside0.mk (blk_new w10 (.cells #[.int .i64 o1, .int .i64 o2, .slice A10 lg.length c10] 24))
  obtain ⟨y0, y1, y2, _, _, _⟩ := cells3 HY11.out
  obtain ⟨z0, z1, z2, _, _, _⟩ := cells3 HZ11.out
  have HSa := Aside0.mk (fun w (hw : (Kd.int .u8).C w A10 lg.length lg) (hw2 : Below W.heap.size W w) => PFrameWrites.rondelref07_Same.calls o1 o2 A10 c10 lg o1 o2 A c lg true w hw Hc10.out (Kd.C_below HCg.out hw2) hcg.out (same_ref o1 o2 lg))
  have HSb := Aside0.mk (fun w (hw : (Kd.int .u8).C w A10 lg.length lg) (hw2 : Below W.heap.size W w) => PFrameWrites.frame_Same.calls (lg.length + 1) o1 o2 A10 c10 lg o1 o2 A c lg true w hw Hc10.out (Kd.C_below HCg.out hw2) hcg.out (same_own o1 o2 lg (by have := hlgl.out; omega)))
  have hn : (7 + (lg.length : Int) == (F : Int)) = true := by rw [beq_iff_eq]; have := HFL.out; have := HF.out; omega
  have hn' := hn
  obtain ⟨LG, hLG⟩ : ∃ x, lg.length = x := ⟨_, rfl⟩
  rw [hLG] at HSa HSb HB11 HC11 HY11 HZ11 y0 y1 y2 z0 z1 z2 hn ⊢
  clear hR10 hb10 hC10 hc10 HRd hn' hLG
  go_wp2_with (first
    | (go_at_call 18; refine (HSa.out _ HC11.out HB11.out).mono ?_; rintro e wa ⟨rfl, hba⟩; have HBa := Aside0.mk (below_step HB11.out hba); have HCa := Aside0.mk (Kd.C_below HC11.out hba); obtain ⟨ya0, ya1, ya2, _, _, _⟩ := cells3 (blk_below HY11.out hba); obtain ⟨za0, za1, za2, _, _, _⟩ := cells3 (blk_below HZ11.out hba); clear hba)
    | (go_at_call 19; refine (HSb.out _ HCa.out HBa.out).mono ?_; rintro e wb' ⟨rfl, hbb⟩; have HBb := Aside0.mk (below_step HBa.out hbb); clear hbb)
    | (go_at_call 12; refine (PFrameWrites.rondellaw07_lives.calls true _ (by kernel_rfl)).mono ?_; rintro e wc ⟨rfl, hbc⟩; have HBc := Aside0.mk (below_step HBb.out hbc); clear hbc))
  go_ret
  exact ⟨rfl, HBc.out⟩

theorem fw_law (cs : List Value) (y : PFrameCuts.S24) (B : Option Addr) (cB : Nat) (lB : List Int) (W : World) (hK : PFrameCuts.k24.K W y cs) (G : MsgG y) (hl : lB.length ≤ cB) (hC : (Kd.int .u8).C W B lB.length lB) (GB : BytesG lB) :
    Calls Try.prog 4 #[.agg cs.toArray, .slice B lB.length cB] W fun e W' => e = .returned (.bool true) ∧ Below W.heap.size W W' := by
  obtain ⟨A, c, rfl, hl2, hC2⟩ := PFrameCuts.k24_open hK
  exact fw_walk y.f0 y.f1 A c y.f2 B cB lB W hC2 hl2 (bd_of G.2.2) hC hl (bd_of GB)

end Go.Proofs.Ytligkikcfmploaa.FP

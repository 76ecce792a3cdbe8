/- The walk of StoryChecks: it returns true and writes nothing that was there. -/
import Derived.Test.YtccpclkmackghaaSCheckN
import Derived.Test.YtccpclkmackghaaPStoryChecksx3
import Derived.Deep.RegionWith
import Derived.Test.YtccpclkmackghaaOpens
namespace Go.Proofs.Ytccpclkmackghaa.SChk
open Go.RowKit Go.Proofs.YtccpclkmackghaaW.PrintWords Go.Proofs.YtccpclkmackghaaW.PrintLast Go.Proofs.YtccpclkmackghaaW.PrintMore
open Go.Proofs.Ytccpclkmackghaa.PStoryNo Go.Proofs.Ytccpclkmackghaa.SPN Go.Proofs.Ytccpclkmackghaa.SWN Go.Proofs.Ytccpclkmackghaa.SNo
attribute [local go_sem] Oper.semAt_some max2_int min2_int max_two min_two
set_option linter.unusedVariables false
set_option linter.unusedSimpArgs false

theorem around_n (a : Int) (h : -9223372036854775808 ≤ a ∧ a ≤ 9223372036854775807) (n : Nat) (hn : 0 < n) : ∃ p : Nat, PStoryChecks.rondelref01_Around.f a (n : Int) = some (p : Int) ∧ p < n := by
  have key : ∀ b : Int, 0 ≤ b → ∃ p : Nat, Int.tmod b (n : Int) = (p : Int) ∧ p < n := fun b hb => by
    obtain ⟨m, rfl⟩ := Int.eq_ofNat_of_zero_le hb
    exact ⟨m % n, by rfl, Nat.mod_lt _ hn⟩
  unfold PStoryChecks.rondelref01_Around.f
  by_cases h0 : a < 0
  · obtain ⟨p, h1, h2⟩ := key (wrap64 (-(wrap64 (a + 1)))) (by have e1 : wrap64 (a + 1) = a + 1 := w64 (by omega); rw [e1, w64 (by omega)]; omega)
    rw [if_pos h0, if_neg (by omega), h1]
    exact ⟨p, rfl, h2⟩
  · obtain ⟨p, h1, h2⟩ := key a (by omega)
    rw [if_neg h0, if_neg (by omega), h1]
    exact ⟨p, rfl, h2⟩

/-- One step of a row is written anew. -/
theorem R_turn {W : World} {base g n cap : Nat} {ok : Nat → Prop} {l : List S24} (h : k24.R 24 W base ok (.slice (some ⟨g, 0, none⟩) n cap) l) (p : Nat) (hp : p < n) (a b : Int) :
    k24.R 24 ((W.setCell ⟨g, p * 2, none⟩ (.int .i64 a)).setCell ⟨g, p * 2 + 1, none⟩ (.int .i64 b)) base ok (.slice (some ⟨g, 0, none⟩) n cap) (l.set p ⟨a, b⟩) := by
  have hn := (Kd.R_reads' h).1
  have hC := (Kd.R_reads' h).2.2
  obtain ⟨ad', e, h0, h1⟩ := at_T24 hC (p : Int) (by omega) (by omega)
  injection e with e
  subst e
  rw [Int.toNat_natCast] at h0 h1
  have h0 : W.cell? ⟨g, p * 2, none⟩ = some (.int .i64 (rd_T24 l p).f0) := by rw [add_plain] at h0; exact h0
  have h1 : W.cell? ⟨g, p * 2 + 1, none⟩ = some (.int .i64 (rd_T24 l p).f1) := by rw [add_plain] at h1; exact h1
  have := (Kd.R_seg h (p : Int) (by omega) (by omega) (c := [.int .i64 (rd_T24 l p).f0, .int .i64 (rd_T24 l p).f1]) (seg := [.int .i64 a, .int .i64 b]) (j := 0) (x' := ⟨a, b⟩) (okp := fun _ => False) rfl ?_ (Nat.le_refl 2) ?_ (fun _ h => h.elim)).1
  · rw [Int.toNat_natCast] at this
    exact this
  · intro j u hu
    rw [Int.toNat_natCast]
    match j, hu with
    | 0, hu => injection hu with hu; subst hu; exact h0
    | 1, hu => injection hu with hu; subst hu; exact h1
  · exact k24_mkM _ _ _ (⟨a, b⟩ : S24)

set_option maxRecDepth 100000 in
set_option maxHeartbeats 40000000 in
theorem walk (A : Option Addr) (c : Nat) (l : List S24) (A1 : Option Addr) (c1 : Nat) (mo : List Int) (at_ : Int) (x : S24) (fr : Int) (W : World) (hC : k24.C W A l.length l) (hl : l.length ≤ c) (hC1 : (Kd.int .i64).C W A1 mo.length mo) (hl1 : mo.length ≤ c1)
    (hat : -9223372036854775808 ≤ at_ ∧ at_ ≤ 9223372036854775807) :
    Calls Try.prog 6 #[.slice A l.length c, .slice A1 mo.length c1, .int .i64 at_, .agg #[.int .i64 x.f0, .int .i64 x.f1], .int .i64 fr] W fun e w' => e = .returned (.bool true) ∧ Below W.heap.size W w' := by
  have hu24 := Try.underlying24
  have hu25 := Try.underlying25
  obtain ⟨a, ha⟩ : ∃ a, x.f0 = a := ⟨_, rfl⟩
  obtain ⟨b, hb⟩ : ∃ b, x.f1 = b := ⟨_, rfl⟩
  rw [ha, hb]
  clear ha hb
  obtain ⟨m0, hm0⟩ : ∃ m, min l.length 40 = m := ⟨_, rfl⟩
  obtain ⟨m1, hm1⟩ : ∃ m, min mo.length 40 = m := ⟨_, rfl⟩
  have hmin0 : (if (40 : Int) < (l.length : Int) then (40 : Int) else (l.length : Int)) = (m0 : Int) := by split <;> omega
  have hmin1 : (if (40 : Int) < (mo.length : Int) then (40 : Int) else (mo.length : Int)) = (m1 : Int) := by split <;> omega
  obtain ⟨i3, hi3, hz3⟩ := Option.map_eq_some_iff.1 info3
  obtain ⟨i24, hi24, hz24⟩ := Option.map_eq_some_iff.1 info24
  have hcut1 : ∀ W : World, (Instr.slice 22 (.slice A1 mo.length c1) none (some (.int .i64 (m1 : Int))) none).run Try.prog W = .ok (.slice A1 m1 c1) W := fun W =>
    cut_to (P := Try.prog) 22 3 .i64 Try.underlying22 hi3 A1 mo.length c1 (m1 : Int) (by omega) (by omega) hl1 W
  have hcut0 : ∀ W : World, (Instr.slice 25 (.slice A l.length c) none (some (.int .i64 (m0 : Int))) none).run Try.prog W = .ok (.slice A m0 c) W := fun W =>
    cut_to (P := Try.prog) 25 24 .i64 Try.underlying25 hi24 A l.length c (m0 : Int) (by omega) (by omega) hl W
  have etk1 : (mo.take m1).length = m1 := by rw [List.length_take]; omega
  have etk0 : (l.take m0).length = m0 := by rw [List.length_take]; omega
  obtain ⟨k, gl, s, hk, hV, hgl⟩ := good_f (mo.take m1) (by omega)
  have hGood := fun w (hw : (Kd.int .i64).C w A1 (mo.take m1).length (mo.take m1)) => rondelref21_Good.calls k A1 c1 (mo.take m1) gl w hw (by omega) hk
  rw [etk1] at hgl
  simp only [etk1] at hGood
  have HG := Aside0.mk hGood
  have hCm := Kd.C_take (k := Kd.int .i64) hC1 (show m1 ≤ mo.length by omega)
  rw [etk1] at hCm
  have HCM := Aside0.mk hCm
  have hC0 := Kd.C_take (k := k24) hC (show m0 ≤ l.length by omega)
  have HC0 := Aside0.mk hC0
  have HE0 := Aside0.mk etk0
  have hm0c : m0 ≤ c := by omega
  have hm040 : m0 ≤ 40 := by omega
  have HX := Aside0.mk (blk_new W (.cells #[.int .i64 a, .int .i64 b] 24))
  have HB1 := Aside0.mk (below_alloc (Below.refl W.heap.size W) (.cells #[.int .i64 a, .int .i64 b] 24))
  have HAT := Aside0.mk hat
  have hgl40 : gl.length ≤ 40 := by omega
  obtain ⟨N, hN⟩ : ∃ N, gl.length = N := ⟨_, rfl⟩
  have HN := Aside0.mk hN
  rw [hN] at hgl40
  have HV := Aside0.mk hV
  clear hC hl hC1 hl1 hi3 hz3 i3 hi24 hz24 i24 etk1 etk0 hk hGood hCm hC0 hm0 hm1 hgl hN hV hat
  go_enter Try.func6, Try.ntmps6
  go_wp2_with (fail)
  refine (HG.out _ (Kd.C_alloc HCM.out _)).mono ?_
  rintro e W2 ⟨vg, rfl, hR2, hb2⟩
  obtain ⟨A2, c2, rfl⟩ := Kd.R_slice hR2
  have HR2 := Aside0.mk hR2
  have HB2 := Aside0.mk (below_step HB1.out hb2)
  have HX2 := Aside0.mk (blk_below HX.out hb2)
  rw [HN.out]
  clear hR2 hb2
  go_wp2_with (fail)
  refine (HG.out _ (Kd.C_below HCM.out HB2.out)).mono ?_
  rintro e W3 ⟨vt, rfl, hR3, hb3⟩
  obtain ⟨A3, c3, rfl⟩ := Kd.R_slice hR3
  have HR3 := Aside0.mk hR3
  have HB3 := Aside0.mk (below_step HB2.out hb3)
  have HR23 := Aside0.mk (Kd.R_below HR2.out hb3)
  have hX3 := blk_below HX2.out hb3
  have HB23 := Aside0.mk hb3
  have HX3 := Aside0.mk hX3
  rw [HN.out]
  clear hb3 HX2 HX hR3
  by_cases hn0 : 0 < N
  · have hd : decide ((N : Int) > 0) = true := decide_eq_true (by omega)
    obtain ⟨p, hpf, hpN⟩ := around_n at_ HAT.out N hn0
    have HPF := Aside0.mk hpf
    have hr3 := HR3.out
    obtain ⟨g3, cap3, hv3, _, hg3l, cells3, hg3⟩ := Kd.R_form hr3 (by rw [HN.out]; exact hn0)
    rw [hv3] at hr3
    injection hv3 with hv1 hv2 hv4
    subst hv1
    subst hv4
    have hr3' := hr3
    rw [HN.out] at hr3'
    obtain ⟨ad', e, t0, t1⟩ := at_T24 (Kd.R_reads' hr3').2.2 (p : Int) (by omega) (by rw [HN.out]; omega)
    injection e with e
    subst e
    rw [Int.toNat_natCast, add_plain] at t0 t1
    have t2 := blk_frozen hg3 (p * 2)
    have t3 := blk_frozen hg3 (p * 2 + 1)
    have x0 := blk_cell hX3 0
    have x1 := blk_cell hX3 1
    have hp0 : (0 : Int) ≤ (p : Int) := by omega
    have hp1 : (p : Int) < (N : Int) := by omega
    have HR3' := Aside0.mk hr3'
    have HG3l := Aside0.mk (show W2.heap.size ≤ g3 from Kd.R_base hr3 g3 (by simp [Value.ownBlock]))
    have HG3 := Aside0.mk (show W.heap.size ≤ g3 from Nat.le_trans (below_size HB2.out) HG3l.out)
    have HR23b := Aside0.mk (Kd.R_mono (ok' := fun k => k < W2.heap.size ∧ True) (Kd.R_below (Kd.R_bound HR2.out) (show Below W2.heap.size W2 W3 from HB23.out)) (fun k hk => ⟨hk.2.2.1, trivial⟩))
    clear hpf hr3 hv2 hr3' hg3l hg3 hX3
    go_wp2_with (fail)
    go_region_with (go_at_call 24; refine (PStoryChecks.rondelref01_Around.calls at_ (N : Int) (p : Int) _ HPF.out).mono ?_; rintro e w4 ⟨rfl, n4, rfl⟩)
    all_goals (
      have hB4 := ((pw_below_drewN HB3.out (1 + n4)).setCell (p := ⟨g3, p * 2, none⟩) HG3.out (.int .i64 a)).setCell (p := ⟨g3, p * 2 + 1, none⟩) HG3.out (.int .i64 b)
      have hRt := R_turn (Kd.R_drewN HR3'.out (1 + n4)) p hpN a b
      have hRg := Kd.R_far (Kd.R_far (Kd.R_drewN HR23b.out (1 + n4)) (p := ⟨g3, p * 2, none⟩) (fun k hk => by have := hk.1; have := HG3l.out; dsimp only; omega) (.int .i64 a)) (p := ⟨g3, p * 2 + 1, none⟩) (fun k hk => by have := hk.1; have := HG3l.out; dsimp only; omega) (.int .i64 b)
      obtain ⟨W4, hW4⟩ : ∃ w, ((W3.drewN (1 + n4)).setCell ⟨g3, p * 2, none⟩ (.int .i64 a)).setCell ⟨g3, p * 2 + 1, none⟩ (.int .i64 b) = w := ⟨_, rfl⟩
      rw [hW4] at hB4 hRt hRg ⊢
      have HB4 := Aside0.mk hB4
      have HRg := Aside0.mk hRg
      obtain ⟨tl, htl⟩ : ∃ t, gl.set p (⟨a, b⟩ : S24) = t := ⟨_, rfl⟩
      have HTL := Aside0.mk (show tl.length = N from by rw [← htl, List.length_set]; exact HN.out)
      rw [htl] at hRt
      rw [← HTL.out] at hRt
      have HRt := Aside0.mk hRt
      clear hB4 hRt hRg hW4 htl hp0 hp1 t0 t1 t2 t3 x0 x1 hd
      go_wp2_with (fail)
      obtain ⟨XA, hXA⟩ : ∃ n, W4.heap.size = n := ⟨_, rfl⟩
      obtain ⟨W5, hW5⟩ : ∃ w, W4.alloc (.cells #[.slice A m0 c, .slice A2 N c2, .slice (some ⟨g3, 0, none⟩) N c3] 25) = w := ⟨_, rfl⟩
      have hxa : W5.heap[XA]? = some (.cells #[.slice A m0 c, .slice A2 N c2, .slice (some ⟨g3, 0, none⟩) N c3] 25 (0, 0)) := by rw [← hW5, ← hXA]; exact blk_new _ _
      have b5 : Below W4.heap.size W4 W5 := by rw [← hW5]; exact below_alloc (Below.refl _ _) _
      have HB5 := Aside0.mk (below_step HB4.out b5)
      have HSEL := Aside0.mk (fun (j : Nat) (hj : j < 3) (w : World) (hw : Below W5.heap.size W5 w) => show ∃ As n cs ls, w.cell? ⟨XA, j, none⟩ = some (.slice As n cs) ∧ k24.C w As ls.length ls ∧ ls.length = n ∧ n ≤ cs ∧ n ≤ 40 from by
        have hx := blk_below hxa hw
        rcases (show j = 0 ∨ j = 1 ∨ j = 2 by omega) with rfl | rfl | rfl
        · exact ⟨A, m0, c, l.take m0, blk_cell hx 0, Kd.C_below HC0.out (below_step HB5.out hw), HE0.out, hm0c, hm040⟩
        · exact ⟨A2, N, c2, gl, blk_cell hx 1, Kd.C_below (Kd.C_below (Kd.R_reads' HRg.out).2.2 b5) hw, HN.out, by have := (Kd.R_reads' HRg.out).2.1; rw [HN.out] at this; exact this, hgl40⟩
        · exact ⟨(some ⟨g3, 0, none⟩), N, c3, tl, blk_cell hx 2, Kd.C_below (Kd.C_below (Kd.R_reads' HRt.out).2.2 b5) hw, HTL.out, by have := (Kd.R_reads' HRt.out).2.1; rw [HTL.out] at this; exact this, hgl40⟩)
      rw [hXA, hW5]
      clear hxa b5 hXA hW5
      clear hcut0 hcut1 hmin0 hmin1
      go_loopw [14] (fun i wr => ∃ j : Nat, i = .int .i64 j ∧ j ≤ 3 ∧ Aside0 (Below W5.heap.size W5 wr)) (fun i _ => 3 - (intOf i).toNat)
      case atStart => exact ⟨0, rfl, by omega, ⟨Below.refl _ _⟩⟩
      case round =>
        obtain ⟨j, rfl, hj, hB⟩ := hrel
        by_cases hlt : j < 3
        · have d1 : decide ((j : Int) < 3) = true := decide_eq_true (by omega)
          have hj0 : (0 : Int) ≤ (j : Int) := by omega
          have hj3 : (j : Int) < 3 := by omega
          obtain ⟨As, n, cs, ls, hcell, hCs, hln, hncs, hn40⟩ := HSEL.out j hlt wr hB.out
          have HLN := Aside0.mk hln
          have HCELL := Aside0.mk (fun w (hw : Below wr.heap.size wr w) => pw_cell_below hw hcell)
          have HCS := Aside0.mk hCs
          obtain ⟨sl, hsl⟩ : ∃ sl, ls.map toS = sl := ⟨_, rfl⟩
          have hsll : sl.length ≤ 1000 := by rw [← hsl, List.length_map, hln]; omega
          have HAS := Aside0.mk (fun w (hw : k24.C w As ls.length ls) => rondellaw21_as.calls (ls.length + 1) As cs ls sl w hw (by rw [hln]; exact hncs) (by rw [← hsl]; exact as_f ls (by omega) _ (Nat.le_refl _)))
          have HRC := Aside0.mk (fun w (hw : k24.C w As ls.length ls) => refcheck_calls As cs ls w hw (by omega))
          rw [hsl] at HRC
          have hsm := toldP_sm sl hsll
          have HSLL := Aside0.mk hsll
          have v1 : IntKind.i64.wrap ((j : Int) + 1) = (j : Int) + 1 := IntWalk.i64_in _ (by omega)
          obtain ⟨res, hres⟩ : ∃ r, toldP ⟨0, 0, [], []⟩ sl = r := ⟨_, rfl⟩
          obtain ⟨s, er⟩ := res
          rw [hres] at HRC hsm
          have HSM := Aside0.mk hsm
          have HRES := Aside0.mk hres
          have hAS := HAS.out
          have hRC := HRC.out
          simp only [hln] at hAS hRC
          have HAS' := Aside0.mk hAS
          have HRC' := Aside0.mk hRC
          have HCS' := Aside0.mk (show k24.C wr As n ls from by rw [← hln]; exact hCs)
          clear hCs hln hsl hsll hres hsm hAS hRC HAS HRC hlt
          go_wp2_with (fail)
          refine (HAS'.out wr HCS'.out).mono ?_
          rintro e W6 ⟨v6, rfl, hR6, hb6⟩
          obtain ⟨A6, c6, rfl⟩ := Kd.R_slice hR6
          have HCK := Aside0.mk (check_calls A6 c6 sl W6 (Kd.R_reads' hR6).2.2 HSLL.out)
          rw [HRES.out] at HCK
          dsimp only at HCK
          have HB6 := Aside0.mk hb6
          clear hR6 hb6
          go_wp2_with (fail)
          refine HCK.out.mono ?_
          rintro e W7 ⟨rfl, hb7⟩
          have HB7 := Aside0.mk (below_step HB6.out hb7)
          have k7 := HCELL.out W7 HB7.out
          clear hb7 HCK HB6 hcell
          go_wp2_with (fail)
          refine (HRC'.out W7 (Kd.C_below HCS'.out HB7.out)).mono ?_
          rintro e W8 ⟨v8, rfl, acc, hVa, hla, hR8, hb8⟩
          obtain ⟨A8, c8, rfl⟩ := Kd.R_slice hR8
          have HR8 := Aside0.mk hR8
          have HVA := Aside0.mk hVa
          have HB8 := Aside0.mk (below_step HB7.out hb8)
          have k8 := HCELL.out W8 HB8.out
          have HLA := Aside0.mk (show acc.length ≤ 40 from Nat.le_trans hla hn40)
          clear hb8 hR8 hVa hla k7
          obtain ⟨na, hna⟩ : ∃ n, acc.length = n := ⟨_, rfl⟩
          have HNA := Aside0.mk hna
          rw [hna]
          clear hna
          go_wp2_with (fail)
          refine (HAS'.out W8 (Kd.C_below HCS'.out HB8.out)).mono ?_
          rintro e W9 ⟨v9, rfl, hR9, hb9⟩
          obtain ⟨A9, c9, rfl⟩ := Kd.R_slice hR9
          have HIX := Aside0.mk (index_calls A9 c9 sl fr W9 (Kd.R_reads' hR9).2.2 HSLL.out)
          rw [HRES.out] at HIX
          dsimp only at HIX
          have HB9 := Aside0.mk (below_step HB8.out hb9)
          have HR9 := Aside0.mk (Kd.R_below HR8.out hb9)
          clear hb9 hR9 k8
          go_wp2_with (fail)
          refine HIX.out.mono ?_
          obtain ⟨u, hu⟩ : ∃ u, (if fr < 1 ∨ (s.f.length : Int) < fr then (0 : Int) else s.f.getD (fr - 1).toNat 0) = u := ⟨_, rfl⟩
          obtain ⟨hs, hhs⟩ : ∃ h, decide (1 ≤ fr ∧ fr ≤ (s.f.length : Int)) = h := ⟨_, rfl⟩
          rw [hu, hhs]
          rintro e W10 ⟨rfl, hb10⟩
          have HU := Aside0.mk hu
          have HHS := Aside0.mk hhs
          have HB10 := Aside0.mk (below_step HB9.out hb10)
          have hFr := rondelref21_Frames.calls (acc.length + 1) A8 c8 acc s.f W10 (Kd.C_below (Kd.R_reads' HR9.out).2.2 hb10) (Kd.R_reads' HR9.out).2.1 (by rw [HVA.out.good.f]; exact frames_f acc (by have := HLA.out; omega) _ (Nat.le_refl _))
          rw [HNA.out] at hFr
          have HFR := Aside0.mk hFr
          clear hb10 HIX hu hhs hFr
          go_wp2_with (fail)
          refine HFR.out.mono ?_
          rintro e W11 ⟨v11, rfl, hR11, hb11⟩
          obtain ⟨A11, c11, rfl⟩ := Kd.R_slice hR11
          have HR11 := Aside0.mk hR11
          have HB11 := Aside0.mk (below_step hB.out (below_step HB10.out hb11))
          obtain ⟨M, hM⟩ : ∃ M, s.f.length = M := ⟨_, rfl⟩
          have HM := Aside0.mk hM
          rw [hM]
          have hfl := HSM.out.f
          rw [hM] at hfl
          have hsn := HVA.out.good.n
          rw [HNA.out] at hsn
          rw [hsn]
          have e1 : (er != er) = false := by simp
          have e2 : (u != u) = false := by simp
          have e3 : (hs != hs) = false := by simp
          clear hb11 hM HFR hR11 hsn
          by_cases f1 : 1 ≤ fr
          · have d2 : decide (fr ≥ 1) = true := decide_eq_true f1
            by_cases f2 : fr ≤ (M : Int)
            · have d3 : decide (fr ≤ (M : Int)) = true := decide_eq_true f2
              obtain rfl : hs = true := by rw [← HHS.out, HM.out]; exact decide_eq_true ⟨f1, f2⟩
              have eu : s.f.getD (fr - 1).toNat 0 = u := by rw [← HU.out, HM.out, if_neg (by omega)]
              have hr := HR11.out
              obtain ⟨gF, capF, hvF, _, _, _⟩ := Kd.R_form hr (by rw [HM.out]; omega)
              rw [hvF] at hr
              injection hvF with hv1 hv2 hv3
              subst hv1
              obtain ⟨kc, _⟩ := Kd.R_cell (0 : Int) hr (fr - 1) (by omega) (by rw [HM.out]; omega)
              rw [show rdOf 0 s.f (fr - 1) = u from eu, show (fr - 1).toNat = fr.toNat - 1 from by omega] at kc
              have v3 : IntKind.i64.wrap (fr - 1) = fr - 1 := IntWalk.i64_in _ (by omega)
              have hi0 : 0 ≤ fr - 1 := by omega
              have hi1 : fr - 1 < (M : Int) := by omega
              clear f1 f2 eu hr hv2 hv3
              go_wp2_with (fail)
              go_roundw
              case rel => exact ⟨j + 1, by go_num, by omega, HB11⟩
              case measure => simp [intOf]; omega
            · have d3 : decide (fr ≤ (M : Int)) = false := decide_eq_false f2
              obtain rfl : hs = false := by rw [← HHS.out, HM.out]; exact decide_eq_false (by omega)
              obtain rfl : u = 0 := by rw [← HU.out, HM.out, if_pos (by omega)]
              clear f1 f2
              go_wp2_with (fail)
              go_roundw
              case rel => exact ⟨j + 1, by go_num, by omega, HB11⟩
              case measure => simp [intOf]; omega
          · have d2 : decide (fr ≥ 1) = false := decide_eq_false f1
            obtain rfl : hs = false := by rw [← HHS.out, HM.out]; exact decide_eq_false (by omega)
            obtain rfl : u = 0 := by rw [← HU.out, HM.out, if_pos (by omega)]
            clear f1
            go_wp2_with (fail)
            go_roundw
            case rel => exact ⟨j + 1, by go_num, by omega, HB11⟩
            case measure => simp [intOf]; omega
        · obtain rfl : j = 3 := by omega
          clear hlt
          go_wp2_with (fail)
          refine (lives_calls _).mono ?_
          rintro e W11 ⟨rfl, hb11⟩
          have HB11 := Aside0.mk (below_step HB5.out (below_step hB.out hb11))
          clear hb11
          go_wp2_with (fail)
          go_ret
          exact ⟨rfl, HB11.out⟩
      )
  · have hd : decide ((N : Int) > 0) = false := decide_eq_false (by omega)
    have HB4 := HB3
    have HRg := HR23
    obtain ⟨tl, htl⟩ : ∃ t, gl = t := ⟨_, rfl⟩
    have HTL := Aside0.mk (show tl.length = N from by rw [← htl]; exact HN.out)
    have HRt := Aside0.mk (show k24.R 24 W3 W2.heap.size (fun _ => True) (.slice A3 tl.length c3) tl from by rw [← htl]; exact HR3.out)
    obtain ⟨W4, hW4⟩ : ∃ w, W3 = w := ⟨_, rfl⟩
    rw [hW4] at HB4 HRg HRt ⊢
    clear hW4 htl
    go_wp2_with (fail)
    obtain ⟨XA, hXA⟩ : ∃ n, W4.heap.size = n := ⟨_, rfl⟩
    obtain ⟨W5, hW5⟩ : ∃ w, W4.alloc (.cells #[.slice A m0 c, .slice A2 N c2, .slice A3 N c3] 25) = w := ⟨_, rfl⟩
    have hxa : W5.heap[XA]? = some (.cells #[.slice A m0 c, .slice A2 N c2, .slice A3 N c3] 25 (0, 0)) := by rw [← hW5, ← hXA]; exact blk_new _ _
    have b5 : Below W4.heap.size W4 W5 := by rw [← hW5]; exact below_alloc (Below.refl _ _) _
    have HB5 := Aside0.mk (below_step HB4.out b5)
    have HSEL := Aside0.mk (fun (j : Nat) (hj : j < 3) (w : World) (hw : Below W5.heap.size W5 w) => show ∃ As n cs ls, w.cell? ⟨XA, j, none⟩ = some (.slice As n cs) ∧ k24.C w As ls.length ls ∧ ls.length = n ∧ n ≤ cs ∧ n ≤ 40 from by
      have hx := blk_below hxa hw
      rcases (show j = 0 ∨ j = 1 ∨ j = 2 by omega) with rfl | rfl | rfl
      · exact ⟨A, m0, c, l.take m0, blk_cell hx 0, Kd.C_below HC0.out (below_step HB5.out hw), HE0.out, hm0c, hm040⟩
      · exact ⟨A2, N, c2, gl, blk_cell hx 1, Kd.C_below (Kd.C_below (Kd.R_reads' HRg.out).2.2 b5) hw, HN.out, by have := (Kd.R_reads' HRg.out).2.1; rw [HN.out] at this; exact this, hgl40⟩
      · exact ⟨A3, N, c3, tl, blk_cell hx 2, Kd.C_below (Kd.C_below (Kd.R_reads' HRt.out).2.2 b5) hw, HTL.out, by have := (Kd.R_reads' HRt.out).2.1; rw [HTL.out] at this; exact this, hgl40⟩)
    rw [hXA, hW5]
    clear hxa b5 hXA hW5
    clear hcut0 hcut1 hmin0 hmin1
    go_loopw [14] (fun i wr => ∃ j : Nat, i = .int .i64 j ∧ j ≤ 3 ∧ Aside0 (Below W5.heap.size W5 wr)) (fun i _ => 3 - (intOf i).toNat)
    case atStart => exact ⟨0, rfl, by omega, ⟨Below.refl _ _⟩⟩
    case round =>
      obtain ⟨j, rfl, hj, hB⟩ := hrel
      by_cases hlt : j < 3
      · have d1 : decide ((j : Int) < 3) = true := decide_eq_true (by omega)
        have hj0 : (0 : Int) ≤ (j : Int) := by omega
        have hj3 : (j : Int) < 3 := by omega
        obtain ⟨As, n, cs, ls, hcell, hCs, hln, hncs, hn40⟩ := HSEL.out j hlt wr hB.out
        have HLN := Aside0.mk hln
        have HCELL := Aside0.mk (fun w (hw : Below wr.heap.size wr w) => pw_cell_below hw hcell)
        have HCS := Aside0.mk hCs
        obtain ⟨sl, hsl⟩ : ∃ sl, ls.map toS = sl := ⟨_, rfl⟩
        have hsll : sl.length ≤ 1000 := by rw [← hsl, List.length_map, hln]; omega
        have HAS := Aside0.mk (fun w (hw : k24.C w As ls.length ls) => rondellaw21_as.calls (ls.length + 1) As cs ls sl w hw (by rw [hln]; exact hncs) (by rw [← hsl]; exact as_f ls (by omega) _ (Nat.le_refl _)))
        have HRC := Aside0.mk (fun w (hw : k24.C w As ls.length ls) => refcheck_calls As cs ls w hw (by omega))
        rw [hsl] at HRC
        have hsm := toldP_sm sl hsll
        have HSLL := Aside0.mk hsll
        have v1 : IntKind.i64.wrap ((j : Int) + 1) = (j : Int) + 1 := IntWalk.i64_in _ (by omega)
        obtain ⟨res, hres⟩ : ∃ r, toldP ⟨0, 0, [], []⟩ sl = r := ⟨_, rfl⟩
        obtain ⟨s, er⟩ := res
        rw [hres] at HRC hsm
        have HSM := Aside0.mk hsm
        have HRES := Aside0.mk hres
        have hAS := HAS.out
        have hRC := HRC.out
        simp only [hln] at hAS hRC
        have HAS' := Aside0.mk hAS
        have HRC' := Aside0.mk hRC
        have HCS' := Aside0.mk (show k24.C wr As n ls from by rw [← hln]; exact hCs)
        clear hCs hln hsl hsll hres hsm hAS hRC HAS HRC hlt
        go_wp2_with (fail)
        refine (HAS'.out wr HCS'.out).mono ?_
        rintro e W6 ⟨v6, rfl, hR6, hb6⟩
        obtain ⟨A6, c6, rfl⟩ := Kd.R_slice hR6
        have HCK := Aside0.mk (check_calls A6 c6 sl W6 (Kd.R_reads' hR6).2.2 HSLL.out)
        rw [HRES.out] at HCK
        dsimp only at HCK
        have HB6 := Aside0.mk hb6
        clear hR6 hb6
        go_wp2_with (fail)
        refine HCK.out.mono ?_
        rintro e W7 ⟨rfl, hb7⟩
        have HB7 := Aside0.mk (below_step HB6.out hb7)
        have k7 := HCELL.out W7 HB7.out
        clear hb7 HCK HB6 hcell
        go_wp2_with (fail)
        refine (HRC'.out W7 (Kd.C_below HCS'.out HB7.out)).mono ?_
        rintro e W8 ⟨v8, rfl, acc, hVa, hla, hR8, hb8⟩
        obtain ⟨A8, c8, rfl⟩ := Kd.R_slice hR8
        have HR8 := Aside0.mk hR8
        have HVA := Aside0.mk hVa
        have HB8 := Aside0.mk (below_step HB7.out hb8)
        have k8 := HCELL.out W8 HB8.out
        have HLA := Aside0.mk (show acc.length ≤ 40 from Nat.le_trans hla hn40)
        clear hb8 hR8 hVa hla k7
        obtain ⟨na, hna⟩ : ∃ n, acc.length = n := ⟨_, rfl⟩
        have HNA := Aside0.mk hna
        rw [hna]
        clear hna
        go_wp2_with (fail)
        refine (HAS'.out W8 (Kd.C_below HCS'.out HB8.out)).mono ?_
        rintro e W9 ⟨v9, rfl, hR9, hb9⟩
        obtain ⟨A9, c9, rfl⟩ := Kd.R_slice hR9
        have HIX := Aside0.mk (index_calls A9 c9 sl fr W9 (Kd.R_reads' hR9).2.2 HSLL.out)
        rw [HRES.out] at HIX
        dsimp only at HIX
        have HB9 := Aside0.mk (below_step HB8.out hb9)
        have HR9 := Aside0.mk (Kd.R_below HR8.out hb9)
        clear hb9 hR9 k8
        go_wp2_with (fail)
        refine HIX.out.mono ?_
        obtain ⟨u, hu⟩ : ∃ u, (if fr < 1 ∨ (s.f.length : Int) < fr then (0 : Int) else s.f.getD (fr - 1).toNat 0) = u := ⟨_, rfl⟩
        obtain ⟨hs, hhs⟩ : ∃ h, decide (1 ≤ fr ∧ fr ≤ (s.f.length : Int)) = h := ⟨_, rfl⟩
        rw [hu, hhs]
        rintro e W10 ⟨rfl, hb10⟩
        have HU := Aside0.mk hu
        have HHS := Aside0.mk hhs
        have HB10 := Aside0.mk (below_step HB9.out hb10)
        have hFr := rondelref21_Frames.calls (acc.length + 1) A8 c8 acc s.f W10 (Kd.C_below (Kd.R_reads' HR9.out).2.2 hb10) (Kd.R_reads' HR9.out).2.1 (by rw [HVA.out.good.f]; exact frames_f acc (by have := HLA.out; omega) _ (Nat.le_refl _))
        rw [HNA.out] at hFr
        have HFR := Aside0.mk hFr
        clear hb10 HIX hu hhs hFr
        go_wp2_with (fail)
        refine HFR.out.mono ?_
        rintro e W11 ⟨v11, rfl, hR11, hb11⟩
        obtain ⟨A11, c11, rfl⟩ := Kd.R_slice hR11
        have HR11 := Aside0.mk hR11
        have HB11 := Aside0.mk (below_step hB.out (below_step HB10.out hb11))
        obtain ⟨M, hM⟩ : ∃ M, s.f.length = M := ⟨_, rfl⟩
        have HM := Aside0.mk hM
        rw [hM]
        have hfl := HSM.out.f
        rw [hM] at hfl
        have hsn := HVA.out.good.n
        rw [HNA.out] at hsn
        rw [hsn]
        have e1 : (er != er) = false := by simp
        have e2 : (u != u) = false := by simp
        have e3 : (hs != hs) = false := by simp
        clear hb11 hM HFR hR11 hsn
        by_cases f1 : 1 ≤ fr
        · have d2 : decide (fr ≥ 1) = true := decide_eq_true f1
          by_cases f2 : fr ≤ (M : Int)
          · have d3 : decide (fr ≤ (M : Int)) = true := decide_eq_true f2
            obtain rfl : hs = true := by rw [← HHS.out, HM.out]; exact decide_eq_true ⟨f1, f2⟩
            have eu : s.f.getD (fr - 1).toNat 0 = u := by rw [← HU.out, HM.out, if_neg (by omega)]
            have hr := HR11.out
            obtain ⟨gF, capF, hvF, _, _, _⟩ := Kd.R_form hr (by rw [HM.out]; omega)
            rw [hvF] at hr
            injection hvF with hv1 hv2 hv3
            subst hv1
            obtain ⟨kc, _⟩ := Kd.R_cell (0 : Int) hr (fr - 1) (by omega) (by rw [HM.out]; omega)
            rw [show rdOf 0 s.f (fr - 1) = u from eu, show (fr - 1).toNat = fr.toNat - 1 from by omega] at kc
            have v3 : IntKind.i64.wrap (fr - 1) = fr - 1 := IntWalk.i64_in _ (by omega)
            have hi0 : 0 ≤ fr - 1 := by omega
            have hi1 : fr - 1 < (M : Int) := by omega
            clear f1 f2 eu hr hv2 hv3
            go_wp2_with (fail)
            go_roundw
            case rel => exact ⟨j + 1, by go_num, by omega, HB11⟩
            case measure => simp [intOf]; omega
          · have d3 : decide (fr ≤ (M : Int)) = false := decide_eq_false f2
            obtain rfl : hs = false := by rw [← HHS.out, HM.out]; exact decide_eq_false (by omega)
            obtain rfl : u = 0 := by rw [← HU.out, HM.out, if_pos (by omega)]
            clear f1 f2
            go_wp2_with (fail)
            go_roundw
            case rel => exact ⟨j + 1, by go_num, by omega, HB11⟩
            case measure => simp [intOf]; omega
        · have d2 : decide (fr ≥ 1) = false := decide_eq_false f1
          obtain rfl : hs = false := by rw [← HHS.out, HM.out]; exact decide_eq_false (by omega)
          obtain rfl : u = 0 := by rw [← HU.out, HM.out, if_pos (by omega)]
          clear f1
          go_wp2_with (fail)
          go_roundw
          case rel => exact ⟨j + 1, by go_num, by omega, HB11⟩
          case measure => simp [intOf]; omega
      · obtain rfl : j = 3 := by omega
        clear hlt
        go_wp2_with (fail)
        refine (lives_calls _).mono ?_
        rintro e W11 ⟨rfl, hb11⟩
        have HB11 := Aside0.mk (below_step HB5.out (below_step hB.out hb11))
        clear hb11
        go_wp2_with (fail)
        go_ret
        exact ⟨rfl, HB11.out⟩

/-- With the arguments as the row hands them. -/
theorem law (A : Option Addr) (c : Nat) (l : List S24) (A1 : Option Addr) (c1 : Nat) (mo : List Int) (at_ : Int) (cs : List Value) (y : S24) (fr : Int) (W : World) (hl : l.length ≤ c) (hC : k24.C W A l.length l) (_ : l.length ≤ maxLen ∧ ∀ y ∈ l, (Lit.int .i64 y.f0).wf = true ∧ (Lit.int .i64 y.f1).wf = true)
    (hl1 : mo.length ≤ c1) (hC1 : (Kd.int .i64).C W A1 mo.length mo) (_ : mo.length ≤ maxLen ∧ ∀ y ∈ mo, (Lit.int .i64 y).wf = true) (ha : (Lit.int .i64 at_).wf = true) (hK : k24.K W y cs) (_ : (Lit.int .i64 y.f0).wf = true ∧ (Lit.int .i64 y.f1).wf = true) (_ : (Lit.int .i64 fr).wf = true) :
    Calls Try.prog 6 #[.slice A l.length c, .slice A1 mo.length c1, .int .i64 at_, .agg cs.toArray, .int .i64 fr] W fun e w' => e = .returned (.bool true) ∧ Below W.heap.size W w' := by
  obtain rfl := k24_open hK
  exact walk A c l A1 c1 mo at_ y fr W hC hl hC1 hl1 (Go.bounds_i64 ha)

end Go.Proofs.Ytccpclkmackghaa.SChk

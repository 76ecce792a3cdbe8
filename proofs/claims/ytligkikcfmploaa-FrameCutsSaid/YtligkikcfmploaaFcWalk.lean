/- The walk of FrameCuts: it returns true and writes nothing that was there. -/
import Derived.Test.YtligkikcfmploaaFPutA
import Derived.Test.YtligkikcfmploaaFrWalk
namespace Go.Proofs.Ytligkikcfmploaa.FP
open Go.RowKit Go.Proofs.YtligkikcfmploaaW.PrintWords Go.Proofs.YtligkikcfmploaaW.PrintLast Go.Proofs.YtligkikcfmploaaW.PrintMore
open Go.Proofs.Ytligkikcfmploaa.PFrameCuts Go.Proofs.Ytligkikcfmploaa.Base Go.Proofs.Ytligkikcfmploaa.Msg
attribute [local go_sem] Oper.semAt_some max2_int min2_int max_two min_two
set_option linter.unusedVariables false
set_option linter.unusedSimpArgs false

theorem opens_ints : Opens.Opens Try.prog 44 (Kd.slice 3 (Kd.int .i64)) (fun l : List Int => l.length ≤ maxLen ∧ ∀ n ∈ l, (Lit.int .i64 n).wf = true) := Opens.opens_slice Try.underlying44 (by kernel_rfl) (Opens.opens_int Try.underlying3)

set_option maxRecDepth 100000 in
set_option maxHeartbeats 32000000 in
theorem fc_walk (A1 : Option Addr) (c1 : Nat) (l1 : List S24) (B : Option Addr) (cB : Nat) (lB : List Int) (D : Option Addr) (cD : Nat) (lD : List Int) (W : World) (hc1 : l1.length ≤ c1) (hC1 : k24.C W A1 l1.length l1) (hg : ∀ y ∈ l1, MsgG y)
    (hcB : lB.length ≤ cB) (hCB : (Kd.int .u8).C W B lB.length lB) (hbB : Bd lB) (hcD : lD.length ≤ cD) (hCD : (Kd.int .i64).C W D lD.length lD) (hD : ∀ n ∈ lD, (Lit.int .i64 n).wf = true) :
    Calls Try.prog 7 #[.slice A1 l1.length c1, .slice B lB.length cB, .slice D lD.length cD] W fun e W' => e = .returned (.bool true) ∧ Below W.heap.size W W' := by
  have hu24 := Try.underlying24
  have HC1 := Aside0.mk hC1
  have HG := Aside0.mk hg
  have HCB := Aside0.mk hCB
  have HcB := Aside0.mk hcB
  have HbB := Aside0.mk hbB
  have HCD := Aside0.mk hCD
  have HD := Aside0.mk hD
  obtain ⟨N, hN⟩ : ∃ N, l1.length = N := ⟨_, rfl⟩
  obtain ⟨NB, hNB⟩ : ∃ N, lB.length = N := ⟨_, rfl⟩
  obtain ⟨ND, hND⟩ : ∃ N, lD.length = N := ⟨_, rfl⟩
  have HN := Aside0.mk hN
  have HNB := Aside0.mk hNB
  have HND := Aside0.mk hND
  rw [hN] at HC1 ⊢
  rw [hNB] at HCB HcB ⊢
  rw [hND] at HCD ⊢
  have hNm : N ≤ 9223372036854775807 := HC1.out.2.1
  have hNDm : ND ≤ 9223372036854775807 := HCD.out.2.1
  clear hc1 hC1 hg hcB hCB hbB hcD hCD hD hN hNB hND
  go_enter Try.func7, Try.ntmps7
  go_upto_block 0 with (fail)
  go_cut [7] (fun v wx => ∃ al : List Int, Aside0 ((Kd.int .u8).R 5 wx W.heap.size (fun _ => True) v al) ∧ Aside0 (Bd al) ∧ Aside0 (al.length ≤ 108) ∧ Aside0 (Below W.heap.size W wx))
  case first =>
    obtain ⟨gs, hgs⟩ : ∃ x, l1.map (goodP 20) = x := ⟨_, rfl⟩
    have HGS := Aside0.mk hgs
    clear hgs
    go_wp2_with (fail)
    go_loopw [7, 8] (fun v i wr => ∃ k : Nat, i = .int .i64 k ∧ k ≤ N ∧ k ≤ 4 ∧ Aside0 ((Kd.int .u8).R 5 wr W.heap.size (fun _ => True) v (ab (gs.take k))) ∧ Aside0 (Below W.heap.size W wr)) (fun _ i _ => 4 - (intOf i).toNat)
    case atStart => exact ⟨0, rfl, by omega, by omega, ⟨Kd.R_nil _ _ _ _ _⟩, ⟨Below.refl _ _⟩⟩
    case round =>
      obtain ⟨k, rfl, hk, hk4, hR, hB⟩ := hrel
      have hle := take_good_len 20 k l1
      rw [HGS.out] at hle
      by_cases hlt : k < N
      · have hlt' : decide ((k : Int) < (N : Int)) = true := decide_eq_true (by omega)
        by_cases hl4 : k < 4
        · have hl4' : decide ((k : Int) < 4) = true := decide_eq_true (by omega)
          have hkl : k < l1.length := by rw [HN.out]; exact hlt
          obtain ⟨ad, hA⟩ : ∃ ad, A1 = some ad := by
            obtain ⟨ad, h, _⟩ := HC1.out.2.2 (by omega)
            exact ⟨ad, h⟩
          subst hA
          obtain ⟨A2, c2, h0, h1, h2, h3, h4⟩ := cells24 (by have := Kd.C_below HC1.out hB.out; rw [← HN.out] at this; exact this) k hkl
          have hy := HG.out l1[k] (List.getElem_mem hkl)
          have hts := take_good 20 k l1 hkl
          rw [HGS.out] at hts
          obtain ⟨y, hyy⟩ : ∃ y, l1[k] = y := ⟨_, rfl⟩
          rw [hyy] at h0 h1 h2 h3 h4 hy hts
          have HY := Aside0.mk hy
          have HTS := Aside0.mk hts
          have HC2 := Aside0.mk h4
          have Hc2 := Aside0.mk h3
          have HGW := Aside0.mk (fun w hw => good_write 20 (by omega) y hy A2 c2 wr w h4 h3 hw)
          have HGo := Aside0.mk (fun w => good_calls y.f0 y.f1 A2 c2 y.f2 20 w (by omega) h3)
          rw [show (20 : Int).toNat = 20 from rfl] at HGo
          have HL := Aside0.mk hle
          obtain ⟨TL, hTL⟩ : ∃ z, (y.f2.take 20).length = z := ⟨_, rfl⟩
          obtain ⟨YL, hYL⟩ : ∃ z, y.f2.length = z := ⟨_, rfl⟩
          rw [hTL] at HGo HGW
          rw [hYL] at h2 HGo
          have HML := Aside0.mk (show (mb (goodP 20 y)).length ≤ 27 from by rw [mb_length]; have := gw_len 20 y; omega)
          clear hkl hy hts hyy h3 h4 hle hTL hYL
          go_wp2_with (fail)
          refine (HGo.out _).mono ?_
          rintro e w1 ⟨rfl, hb1⟩
          have HB1 := Aside0.mk hb1
          clear hb1
          go_wp2_with (fail)
          refine (HGW.out _ HB1.out).mono ?_
          rintro e w2 ⟨v2, rfl, hR2, hb2⟩
          obtain ⟨A3, c3, hv2⟩ := Kd.R_slice hR2
          subst hv2
          have hC3 := (Kd.R_reads' hR2).2.2
          have HC3 := Aside0.mk hC3
          have HB12 := Aside0.mk (below_step HB1.out hb2)
          have HB2 := Aside0.mk (below_step hB.out HB12.out)
          obtain ⟨g3, hg3⟩ : ∃ z, mb (goodP 20 y) = z := ⟨_, rfl⟩
          rw [hg3] at HC3 HTS HML ⊢
          obtain ⟨n3, hn3⟩ : ∃ z, g3.length = z := ⟨_, rfl⟩
          rw [hn3] at HC3 HML ⊢
          clear hR2 hb2 hg3 HGW HGo hC3
          have HN3 := Aside0.mk hn3
          clear hn3
          go_wp2_with (((with_reducible refine gate_builtin (b := .append) (xs := #[.tmp 40, .tmp 41]) rfl ?_); at_builtin; go_must ((refine Kd.R_append_rows (Kd.int .u8) (w0 := W) W.heap.size rfl (.tmp 40) (.tmp 41) 22 5 (.int .u8 0) 1 rfl Try.underlying22 info5 rfl (by decide) (by decide) _ (ab (gs.take k)) g3 A3 n3 c3 (fun _ => True) (fun _ => False) rfl rfl ?aO ?aR (fun _ _ h => h) (fun _ h => h.elim) (fun _ _ => trivial) ?aB ?aS ?aL ?_; (case aO => exact Kd.R_below hR.out HB12.out); (case aR => exact HC3.out); (case aB => exact HB2.out); (case aS => exact below_size HB2.out); (case aL => have := HML.out; have := HL.out; omega); intro v7 w7 ho hb7 hg7 hat; rw [← HTS.out] at ho; have O7 := Aside0.mk ho; have B7 := Aside0.mk hb7; clear ho hb7 hg7 hat))))
          go_roundw
          case rel => exact ⟨k + 1, by go_num, by omega, by omega, O7, B7⟩
          case measure => simp [intOf]; omega
        · have HL := Aside0.mk hle
          clear hle
          obtain rfl : k = 4 := by omega
          clear hl4 hk4
          go_wp2_with (fail)
          go_meet
          case rel => exact ⟨_, hR, ⟨ab_bd _ (fun y hy => by
              rw [← HGS.out] at hy
              obtain ⟨z, hz, rfl⟩ := List.mem_map.1 (List.mem_of_mem_take hy)
              exact goodP_ok 20 z (HG.out z hz) (by omega))⟩, ⟨by have := HL.out; omega⟩, hB⟩
      · have hlt' : decide (k < N) = false := decide_eq_false hlt
        obtain rfl : k = N := by omega
        have HL := Aside0.mk hle
        clear hle hlt hlt'
        go_wp2_with (fail)
        go_meet
        case rel => exact ⟨_, hR, ⟨ab_bd _ (fun y hy => by
            rw [← HGS.out] at hy
            obtain ⟨z, hz, rfl⟩ := List.mem_map.1 (List.mem_of_mem_take hy)
            exact goodP_ok 20 z (HG.out z hz) (by omega))⟩, ⟨by have := HL.out; omega⟩, hB⟩
  case rest =>
    obtain ⟨al, hR, hBd, hL, hB⟩ := hcut
    have HFew := Aside0.mk (fun w => few_calls B cB lB 20 w (by omega) (by have := HcB.out; have := HNB.out; omega))
    obtain ⟨tb, htb⟩ : ∃ z, lB.take 20 = z := ⟨_, rfl⟩
    have HTL := Aside0.mk (show tb.length ≤ 20 from by rw [← htb, List.length_take]; omega)
    have HCt := Aside0.mk (show (Kd.int .u8).C W B tb.length tb from by
      have h := HCB.out
      rw [← HNB.out] at h
      rw [← htb]
      rcases Nat.le_total lB.length 20 with h6 | h6
      · rw [List.take_of_length_le h6]; exact h
      · exact Kd.C_take h h6)
    have HBt := Aside0.mk (show Bd tb from by rw [← htb]; exact HbB.out.take 20)
    rw [show (20 : Int).toNat = 20 from rfl, htb, HNB.out] at HFew
    obtain ⟨TL, hTL⟩ : ∃ z, tb.length = z := ⟨_, rfl⟩
    rw [hTL] at HFew HCt HTL
    clear htb
    have HTT := Aside0.mk hTL
    clear hTL
    rename World => wc
    go_wp2_with (fail)
    refine (HFew.out _).mono ?_
    rintro e w1 ⟨rfl, hw1⟩
    subst hw1
    clear HFew
    go_wp2_with (((with_reducible refine gate_builtin (b := .append) (xs := #[.tmp 43, .tmp 45]) rfl ?_); at_builtin; go_must ((refine Kd.R_append_rows (Kd.int .u8) (w0 := W) W.heap.size rfl (.tmp 43) (.tmp 45) 22 5 (.int .u8 0) 1 rfl Try.underlying22 info5 rfl (by decide) (by decide) _ al tb B TL cB (fun _ => True) (fun _ => False) rfl rfl ?aO ?aR (fun _ _ h => h) (fun _ h => h.elim) (fun _ _ => trivial) ?aB ?aS ?aL ?_; (case aO => exact hR.out); (case aR => exact Kd.C_below HCt.out hB.out); (case aB => exact hB.out); (case aS => exact below_size hB.out); (case aL => have := hL.out; have := HTL.out; omega); intro v7 w7 ho hb7 hg7 hat; obtain ⟨A7, c7, hv7⟩ := Kd.R_slice ho; subst hv7; obtain ⟨ll, hll⟩ : ∃ z, al ++ tb = z := ⟨_, rfl⟩; rw [hll] at ho ⊢; obtain ⟨L, hLn⟩ : ∃ z, ll.length = z := ⟨_, rfl⟩; have HLL := Aside0.mk (And.intro hll hLn); rw [hLn]; have O7 := Aside0.mk ho; have B7 := Aside0.mk hb7; clear ho hb7 hg7 hat hll hLn))))
    have hL8 : L ≤ 128 := by
      have h1 := hL.out
      have h2 := HTL.out
      have h3 := HTT.out
      rw [← HLL.out.2, ← HLL.out.1, List.length_append]
      omega
    have HBL := Aside0.mk (show Bd ll from by rw [← HLL.out.1]; exact Bd.app hBd.out HBt.out)
    have hC7 := (Kd.R_reads' O7.out).2.2
    have hc7 := (Kd.R_reads' O7.out).2.1
    have HC7 := Aside0.mk hC7
    have Hc7 := Aside0.mk hc7
    have HSp := Aside0.mk (rsplit_calls A7 c7 ll w7 hC7 hc7 HBL.out (by rw [HLL.out.2]; omega))
    have hsb := sp_bd ll
    obtain ⟨nn, hnn⟩ : ∃ z, (sp ll).2.1 = z := ⟨_, rfl⟩
    obtain ⟨er, her⟩ : ∃ z, (sp ll).2.2 = z := ⟨_, rfl⟩
    obtain ⟨ms, hms⟩ : ∃ z, (sp ll).1 = z := ⟨_, rfl⟩
    rw [hnn, her, hms] at HSp
    rw [hnn, her] at hsb
    have HE := Aside0.mk (And.intro hms (And.intro hnn her))
    have HSB := Aside0.mk hsb
    have hml : ms.length ≤ 128 := by rw [← hms]; have := sp_len ll; have := HLL.out.2; omega
    have HML := Aside0.mk hml
    rw [HLL.out.2] at HSp
    clear hR hBd hL hB HTL HCt HBt HTT hC7 hc7 hnn her hms hsb hml
    refine HSp.out.mono ?_
    rintro e w8 ⟨v8, rfl, hR8, hb8⟩
    obtain ⟨A8, c8, hv8⟩ := Kd.R_slice hR8
    subst hv8
    have HW8 := Aside0.mk (And.intro (Kd.R_reads' hR8).2.1 (kF_C (Kd.R_reads' hR8).2.2 hb8))
    have HC8 := Aside0.mk (Kd.C_below HC7.out hb8)
    have HB8 := Aside0.mk (below_step B7.out hb8)
    obtain ⟨ml, hml⟩ : ∃ z, ms.length = z := ⟨_, rfl⟩
    have HMl := Aside0.mk hml
    rw [hml]
    clear hR8 hb8 HSp O7 B7 HC7 hml
    have HStart := Aside0.mk (show Rdr w8 w8.heap.size (ll.take 0) (.slice none 0 0) (w8.alloc (.cells #[.slice none 0 0, .bool false] 47)) from by
      rw [List.take_zero]
      exact ⟨none, 0, blk_new _ _, Kd.R_nil _ _ _ _ _, Kd.R_nil _ _ _ _ _, below_alloc (Below.refl _ _) _⟩)
    go_upto_block 2 with (fail)
    generalize hwe : w8.alloc (.cells #[.slice none 0 0, .bool false] 47) = we at HStart ⊢
    generalize hgg : w8.heap.size = g at HStart ⊢
    have HGG := Aside0.mk hgg
    clear hwe hgg
    go_wp2_with (fail)
    go_loopw [15, 16, 17] (fun v a i wr => ∃ (k j : Nat), a = .int .i64 k ∧ i = .int .i64 j ∧ k ≤ L ∧ j ≤ k ∧ Aside0 (Rdr w8 g (ll.take k) v wr)) (fun _ a _ _ => L - (intOf a).toNat)
    case atStart => exact ⟨0, 0, rfl, rfl, by omega, by omega, HStart⟩
    case round =>
      clear HStart
      obtain ⟨k, j, rfl, rfl, hk, hj, hR⟩ := hrel
      by_cases hlt : k < L
      · have hlt' : decide ((k : Int) < (L : Int)) = true := decide_eq_true (by omega)
        go_upto_if 61 with (fail)
        go_cut [18] (fun v wx => ∃ sz : Nat, v = .int .i64 sz ∧ 1 ≤ sz ∧ sz ≤ 9 ∧ Aside0 (∃ m, wx = wr.drewN m))
        case first =>
          by_cases hd0 : ND = 0
          · subst hd0
            go_wp2_with (fail)
            go_meet
            case rel => exact ⟨1, rfl, by omega, by omega, ⟨⟨0, rfl⟩⟩⟩
          · have hdp : (0 : Int) < (ND : Int) := by omega
            have hdp' : 0 < ND := by omega
            obtain ⟨ad, hA⟩ : ∃ ad, D = some ad := by
              obtain ⟨ad, h, _⟩ := HCD.out.2.2 (by omega)
              exact ⟨ad, h⟩
            subst hA
            have hql : j % ND < ND := Nat.mod_lt _ hdp'
            obtain ⟨q, hq⟩ : ∃ z, j % ND = z := ⟨_, rfl⟩
            rw [hq] at hql
            have e1 : (j : Int) % (ND : Int) = (q : Int) := by rw [← hq]; exact (Int.natCast_emod j ND).symm
            have e2 : Int.tmod (j : Int) (ND : Int) = (q : Int) := by rw [Int.tmod_eq_emod_of_nonneg (by omega)]; exact e1
            have hqi : (q : Int) < (ND : Int) := by omega
            have kc := int_cell (Kd.C_below HCD.out (below_step HB8.out hR.out.bl)) q hql
            have hwf : (Lit.int .i64 (lD.getD q 0)).wf = true := by
              have hqd : q < lD.length := by rw [HND.out]; exact hql
              rw [List.getD_eq_getElem?_getD, List.getElem?_eq_getElem hqd, Option.getD_some]
              exact HD.out _ (List.getElem_mem hqd)
            have hsb := Go.bounds_i64 hwf
            obtain ⟨s, hs⟩ : ∃ z, lD.getD q 0 = z := ⟨_, rfl⟩
            rw [hs] at kc hsb
            have har := ar_spec s 9 (by omega) hsb
            have HAr := Aside0.mk (fun w => around_calls s 9 w (by omega))
            obtain ⟨r, hr⟩ : ∃ z, ar s 9 = z := ⟨_, rfl⟩
            rw [hr] at har HAr
            obtain ⟨rn, rfl⟩ := Int.eq_ofNat_of_zero_le har.1
            have hrn : rn < 9 := by omega
            clear hq hwf hsb hs har hr hd0
            go_wp2_with (fail)
            refine (HAr.out _).mono ?_
            rintro e w9 ⟨rfl, m, rfl⟩
            go_wp2_with (fail)
            go_meet
            case rel => exact ⟨1 + rn, by go_num, by omega, by omega, ⟨⟨m, rfl⟩⟩⟩
        case rest =>
          obtain ⟨sz, rfl, hs1, hs9, hw⟩ := hcut
          obtain ⟨m, hw⟩ := hw.out
          subst hw
          have hRm := Aside0.mk (hR.out.drewN m)
          generalize wr.drewN m = wa at hRm ⊢
          obtain ⟨e, he⟩ : ∃ z, min (k + sz) L = z := ⟨_, rfl⟩
          have hek : k < e := by omega
          have heL : e ≤ L := by omega
          have hmin : (if (L : Int) < (k : Int) + (sz : Int) then (L : Int) else (k : Int) + (sz : Int)) = (e : Int) := by split <;> omega
          obtain ⟨Ap, cp, hcut, hCp, hcp⟩ := cut_rd' A7 c7 ll Hc7.out (k : Int) (e : Int) (by omega) (by omega) (by have := HLL.out.2; omega)
          rw [HLL.out.2] at hcut
          rw [Int.toNat_natCast, Int.toNat_natCast] at hcut hCp hcp
          have hPp : ll.take k ++ (ll.take e).drop k = ll.take e := by
            have h1 : ll.take k = (ll.take e).take k := by rw [List.take_take, Nat.min_eq_left (by omega)]
            rw [h1, List.take_append_drop]
          have hPut := put_any w8 wa g (ll.take k) ((ll.take e).drop k) _ (by have := HGG.out; omega) hRm.out Ap cp (hCp _ (Kd.C_below HC8.out hRm.out.bl)) hcp (HBL.out.take k) ((HBL.out.take e).drop k) (by have := HLL.out.2; rw [List.length_take, List.length_drop, List.length_take]; omega)
          have HPut := Aside0.mk hPut
          have HPp := Aside0.mk hPp
          have HSM := Aside0.mk (show (sp (ll.take k)).1.length ≤ 128 ∧ (newM (ll.take k) ((ll.take e).drop k)).length ≤ 128 from by
            have h1 := sp_len (ll.take k)
            have h2 := newM_eq (ll.take k) ((ll.take e).drop k)
            rw [hPp] at h2
            have h3 := sp_len (ll.take e)
            rw [h2, List.length_append, List.length_take] at h3
            have := HLL.out.2
            rw [List.length_take] at h1
            omega)
          obtain ⟨pl, hpl⟩ : ∃ z, ((ll.take e).drop k).length = z := ⟨_, rfl⟩
          rw [hpl] at hcut HPut
          clear hCp hcp hPut hPp hpl he
          go_wp2_with (fail)
          refine HPut.out.mono ?_
          rintro e' w9 ⟨Am, mm, cm, A', c', rfl, hmm, hG9, hR9, hV9, hRR9, hB9⟩
          have HMM := Aside0.mk hmm
          clear hmm HPut hcut
          go_wp2_with (((with_reducible refine gate_builtin (b := .append) (xs := #[.tmp 77, .tmp 82]) rfl ?_); at_builtin; go_must ((refine Kd.R_append_rows k24 (w0 := w8) w8.heap.size rfl (.tmp 77) (.tmp 82) 38 24 (.agg #[.int .i64 0, .int .i64 0, .slice none 0 0]) 40 rfl Try.underlying38 info24 rfl (Nat.succ_pos 2) (by decide) _ (sp (ll.take k)).1 (newM (ll.take k) ((ll.take e).drop k)) Am mm cm _ _ rfl rfl hV9.out hRR9.out (fun _ _ h => h) (fun _ h => h) (Rdr_fresh hG9.out hR9.out) ?aB ?aS ?aL ?_; (case aB => exact hB9.out); (case aS => exact below_size hB9.out); (case aL => have := HSM.out; have := HMM.out; omega); intro v10 w10 ho hb10 hg10 hat; have RD := Aside0.mk (Rdr_grown hG9.out hR9.out hV9.out ho hb10 hg10); rw [HPp.out] at RD; clear ho hb10 hg10 hat))))
          go_roundw
          case rel => exact ⟨e, j + 1, rfl, by go_num, heL, by omega, RD⟩
          case measure => simp [intOf]; omega
      · obtain rfl : k = L := by omega
        clear hlt
        have htk : ll.take k = ll := List.take_of_length_le (by rw [HLL.out.2]; exact Nat.le_refl _)
        have hR2 := hR.out
        rw [htk] at hR2
        have HR2 := Aside0.mk hR2
        obtain ⟨Ar, cr, hG, hRb, hV, hB⟩ := hR2
        obtain ⟨Av, cv, hv⟩ := Kd.R_slice hV
        subst hv
        have hCv := (Kd.R_reads' hV).2
        rw [HE.out.1] at hCv
        rw [HE.out.1]
        have hml := HMl.out
        have HSA := Aside0.mk (rondelref07_SameAll.calls (ms.length + 1) Av cv ms A8 c8 ms true wr hCv.2 hCv.1 (Kd.C_below HW8.out.2 hB) HW8.out.1 (sameAll_f ms (by have := HML.out; omega)))
        rw [hml] at HSA ⊢
        have HB := Aside0.mk (below_step HB8.out hB)
        have HPut := Aside0.mk (fun w (hb : Below wr.heap.size wr w) => put_any w8 w g ll [] _ (by have := HGG.out; omega) (HR2.out.below hb) none 0 ⟨rfl, Nat.zero_le _, fun h => absurd h (Nat.lt_irrefl 0)⟩ (Nat.le_refl _) HBL.out (fun b hb => by simp at hb) (by have := HLL.out.2; simp; omega))
        rw [HE.out.1] at HPut
        have hsb := HSB.out
        have hrl : (rb ll).length = if er = 2 then 0 else k - nn.toNat := by
          unfold rb
          rw [HE.out.2.2, HE.out.2.1]
          split
          · rfl
          · rw [List.length_drop, HLL.out.2]
        obtain ⟨n, rfl⟩ := Int.eq_ofNat_of_zero_le hsb.1
        have hnk : n ≤ k := by have := hsb.2.1; rw [HLL.out.2] at this; omega
        rw [Int.toNat_natCast] at hrl
        obtain ⟨rl, hrl2⟩ : ∃ z, (rb ll).length = z := ⟨_, rfl⟩
        rw [hrl2] at hG hrl
        rw [HE.out.2.2] at hG
        have HLV := Aside0.mk (And.intro hml HML.out)
        clear hsb htk hR hV hB hCv hRb hrl2 hml
        by_cases e2 : er = 2
        · subst e2
          rw [if_pos rfl] at hrl
          subst hrl
          rw [show decide ((2 : Int) = 2) = true from rfl] at hG
          have HG9 := Aside0.mk hG
          clear hG
          go_wp2_with (fail)
          refine HSA.out.mono ?_
          rintro e w1 ⟨rfl, hb1⟩
          have HG1 := Aside0.mk (blk_below HG9.out hb1)
          have HP1 := Aside0.mk (HPut.out w1 hb1)
          have HB1 := Aside0.mk (below_step HB.out hb1)
          clear hb1 HPut HG9
          go_wp2_with (first
            | (go_at_call 25; refine (broken_calls g _ true _ HG1.out).mono ?_; rintro e w2 ⟨rfl, hw2⟩; subst hw2)
            | (go_at_call 26; refine (left_calls g Ar 0 cr _ _ HG1.out).mono ?_; rintro e w2 ⟨rfl, hw2⟩; subst hw2))
          refine HP1.out.mono ?_
          rintro e w5 ⟨Am, mm, cm, A', c', rfl, hmm, _, _, _, _, hB5⟩
          rw [newM_nil] at hmm
          subst hmm
          rw [show ([] : List S24).length = 0 from rfl]
          have HB5 := Aside0.mk (below_weaken HB8.out (below_size HB8.out) hB5.out)
          clear HP1 HG1 hB5
          go_wp2_with (first
            | (go_at_call 12; refine (lives_calls _).mono ?_; rintro e w8 ⟨rfl, hb8⟩; have HB9 := Aside0.mk (below_step HB5.out hb8); clear hb8))
          go_ret
          exact ⟨rfl, HB9.out⟩
        · have e2b : (er == 2) = false := by rw [beq_eq_false_iff_ne]; exact e2
          rw [if_neg e2] at hrl
          rw [decide_eq_false e2] at hG
          have HG9 := Aside0.mk hG
          have hlk : ((rl : Int) == (k : Int) - (n : Int)) = true := by rw [beq_iff_eq]; omega
          clear hG e2 hrl
          go_wp2_with (fail)
          refine HSA.out.mono ?_
          rintro e w1 ⟨rfl, hb1⟩
          have HG1 := Aside0.mk (blk_below HG9.out hb1)
          have HP1 := Aside0.mk (HPut.out w1 hb1)
          have HB1 := Aside0.mk (below_step HB.out hb1)
          clear hb1 HPut HG9
          go_wp2_with (first
            | (go_at_call 25; refine (broken_calls g _ false _ HG1.out).mono ?_; rintro e w2 ⟨rfl, hw2⟩; subst hw2)
            | (go_at_call 26; refine (left_calls g Ar rl cr _ _ HG1.out).mono ?_; rintro e w2 ⟨rfl, hw2⟩; subst hw2))
          refine HP1.out.mono ?_
          rintro e w5 ⟨Am, mm, cm, A', c', rfl, hmm, _, _, _, _, hB5⟩
          rw [newM_nil] at hmm
          subst hmm
          rw [show ([] : List S24).length = 0 from rfl]
          have HB5 := Aside0.mk (below_weaken HB8.out (below_size HB8.out) hB5.out)
          clear HP1 HG1 hB5
          go_wp2_with (first
            | (go_at_call 12; refine (lives_calls _).mono ?_; rintro e w8 ⟨rfl, hb8⟩; have HB9 := Aside0.mk (below_step HB5.out hb8); clear hb8))
          go_ret
          exact ⟨rfl, HB9.out⟩

theorem fc_law (A0 : Option Addr) (c0 : Nat) (l0 : List S24) (A1 : Option Addr) (c1 : Nat) (l1 : List Int) (A2 : Option Addr) (c2 : Nat) (l2 : List Int) (W : World) (hl0 : l0.length ≤ c0) (hC0 : k24.C W A0 l0.length l0) (G0 : l0.length ≤ maxLen ∧ ∀ y ∈ l0, MsgG y)
    (hl1 : l1.length ≤ c1) (hC1 : (Kd.int .u8).C W A1 l1.length l1) (G1 : BytesG l1) (hl2 : l2.length ≤ c2) (hC2 : (Kd.int .i64).C W A2 l2.length l2) (G2 : l2.length ≤ maxLen ∧ ∀ n ∈ l2, (Lit.int .i64 n).wf = true) :
    Calls Try.prog 7 #[.slice A0 l0.length c0, .slice A1 l1.length c1, .slice A2 l2.length c2] W fun e W' => e = .returned (.bool true) ∧ Below W.heap.size W W' :=
  fc_walk A0 c0 l0 A1 c1 l1 A2 c2 l2 W hl0 hC0 G0.2 hl1 hC1 (bd_of' G1) hl2 hC2 G2.2

end Go.Proofs.Ytligkikcfmploaa.FP

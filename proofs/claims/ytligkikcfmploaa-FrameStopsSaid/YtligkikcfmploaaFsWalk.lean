/- The walk of FrameStops: it returns true and writes nothing that was there. -/
import Derived.Test.YtligkikcfmploaaFStop
import Derived.Test.YtligkikcfmploaaFrWalk
namespace Go.Proofs.Ytligkikcfmploaa.FP
open Go.RowKit Go.Proofs.YtligkikcfmploaaW.PrintWords Go.Proofs.YtligkikcfmploaaW.PrintLast Go.Proofs.YtligkikcfmploaaW.PrintMore
open Go.Proofs.Ytligkikcfmploaa.PFrameCuts Go.Proofs.Ytligkikcfmploaa.Base Go.Proofs.Ytligkikcfmploaa.Msg
attribute [local go_sem] Oper.semAt_some max2_int min2_int max_two min_two
set_option linter.unusedVariables false
set_option linter.unusedSimpArgs false

theorem info3 : (Try.prog.info? 3).map (fun i => (i.zero, i.size, i.bytes)) = some (some (.int .i64 0), 1, 8) := by kernel_rfl
/-- Rows of two types: neither is written where the other grows. -/
theorem R_two {α β : Type} {enc : α → Value} {enc' : β → Value} {h1 : ∀ x, (enc x).oneCell' = true} {h2 : ∀ x, (enc' x).oneCell' = true} {W w1 : World} {e e' b b' : Nat} {ok ok' : Nat → Prop} {v v' : Value} {xs : List α} {ys : List β}
    (h : (Kd.scalar enc h1).R e W b ok v xs) (h' : (Kd.scalar enc' h2).R e' W b' ok' v' ys) (hne : e ≠ e') (hg : W.grownBy w1 v'.ownBlock) : (Kd.scalar enc h1).R e w1 b ok v xs :=
  Kd.R_grown2 h rfl hg (fun k hk he => by
    obtain ⟨_, o1⟩ := Kd.R_own h
    obtain ⟨_, o2⟩ := Kd.R_own h'
    exact ne_types o1 o2 hne k he.symm hk)
theorem take_good_snoc (m k : Nat) (l : List S24) (h : k < l.length) : (l.map (goodP m)).take (k + 1) = (l.map (goodP m)).take k ++ [goodP m l[k]] := by
  rw [List.take_succ_eq_append_getElem (by rw [List.length_map]; exact h), List.getElem_map]

set_option maxRecDepth 100000 in
set_option maxHeartbeats 16000000 in
theorem fs_walk (A1 : Option Addr) (c1 : Nat) (l1 : List S24) (at_ : Int) (W : World) (hc1 : l1.length ≤ c1) (hC1 : k24.C W A1 l1.length l1) (hg : ∀ y ∈ l1, MsgG y) (ha : -9223372036854775808 ≤ at_ ∧ at_ ≤ 9223372036854775807) :
    Calls Try.prog 6 #[.slice A1 l1.length c1, .int .i64 at_] W fun e W' => e = .returned (.bool true) ∧ Below W.heap.size W W' := by
  have hu24 := Try.underlying24
  have HC1 := Aside0.mk hC1
  have HG := Aside0.mk hg
  have HA := Aside0.mk ha
  obtain ⟨N, hN⟩ : ∃ N, l1.length = N := ⟨_, rfl⟩
  have HN := Aside0.mk hN
  rw [hN] at HC1 ⊢
  have hNm : N ≤ 9223372036854775807 := HC1.out.2.1
  clear hc1 hC1 hg ha hN
  go_enter Try.func6, Try.ntmps6
  go_upto_block 0 with (fail)
  go_cut [5, 6] (fun v u wx => ∃ gs : List S24, Aside0 ((Kd.int .u8).R 5 wx W.heap.size (fun _ => True) v (ab gs)) ∧ Aside0 ((Kd.int .i64).R 3 wx W.heap.size (fun _ => True) u (ends gs)) ∧ Aside0 (∀ y ∈ gs, OkM y) ∧ Aside0 ((ab gs).length ≤ 95 ∧ gs.length ≤ 5) ∧ Aside0 (Below W.heap.size W wx))
  case first =>
    obtain ⟨gs, hgs⟩ : ∃ x, l1.map (goodP 12) = x := ⟨_, rfl⟩
    have HGS := Aside0.mk hgs
    clear hgs
    go_wp2_with (fail)
    go_loopw [5, 6, 7] (fun v u i wr => ∃ k : Nat, i = .int .i64 k ∧ k ≤ N ∧ k ≤ 5 ∧ Aside0 ((Kd.int .u8).R 5 wr W.heap.size (fun _ => True) v (ab (gs.take k))) ∧ Aside0 ((Kd.int .i64).R 3 wr W.heap.size (fun _ => True) u (ends (gs.take k))) ∧ Aside0 (Below W.heap.size W wr)) (fun _ _ i _ => 5 - (intOf i).toNat)
    case atStart => exact ⟨0, rfl, by omega, by omega, ⟨Kd.R_nil _ _ _ _ _⟩, ⟨Kd.R_nil _ _ _ _ _⟩, ⟨Below.refl _ _⟩⟩
    case round =>
      obtain ⟨k, rfl, hk, hk5, hR, hE, hB⟩ := hrel
      have hle := take_good_len 12 k l1
      rw [HGS.out] at hle
      have hend : Aside0 ((∀ y ∈ gs.take k, OkM y) ∧ ((ab (gs.take k)).length ≤ 95 ∧ (gs.take k).length ≤ 5)) := ⟨⟨fun y hy => by
        rw [← HGS.out] at hy
        obtain ⟨z, hz, rfl⟩ := List.mem_map.1 (List.mem_of_mem_take hy)
        exact goodP_ok 12 z (HG.out z hz) (by omega), by omega, by rw [List.length_take]; omega⟩⟩
      by_cases hlt : k < N
      · have hlt' : decide ((k : Int) < (N : Int)) = true := decide_eq_true (by omega)
        by_cases hl4 : k < 5
        · have hl4' : decide ((k : Int) < 5) = true := decide_eq_true (by omega)
          have hkl : k < l1.length := by rw [HN.out]; exact hlt
          obtain ⟨ad, hA⟩ : ∃ ad, A1 = some ad := by
            obtain ⟨ad, h, _⟩ := HC1.out.2.2 (by omega)
            exact ⟨ad, h⟩
          subst hA
          obtain ⟨A2, c2, h0, h1, h2, h3, h4⟩ := cells24 (by have := Kd.C_below HC1.out hB.out; rw [← HN.out] at this; exact this) k hkl
          have hy := HG.out l1[k] (List.getElem_mem hkl)
          have hts := take_good_snoc 12 k l1 hkl
          rw [HGS.out] at hts
          obtain ⟨y, hyy⟩ : ∃ y, l1[k] = y := ⟨_, rfl⟩
          rw [hyy] at h0 h1 h2 h3 h4 hy hts
          have HY := Aside0.mk hy
          have HTS := Aside0.mk hts
          have HGW := Aside0.mk (fun w hw => good_write 12 (by omega) y hy A2 c2 wr w h4 h3 hw)
          have HGo := Aside0.mk (fun w => good_calls y.f0 y.f1 A2 c2 y.f2 12 w (by omega) h3)
          rw [show (12 : Int).toNat = 12 from rfl] at HGo
          have HL := Aside0.mk hle
          obtain ⟨TL, hTL⟩ : ∃ z, (y.f2.take 12).length = z := ⟨_, rfl⟩
          obtain ⟨YL, hYL⟩ : ∃ z, y.f2.length = z := ⟨_, rfl⟩
          rw [hTL] at HGo HGW
          rw [hYL] at h2 HGo
          have HML := Aside0.mk (show (mb (goodP 12 y)).length ≤ 19 from by rw [mb_length]; have := gw_len 12 y; omega)
          clear hkl hy hts hyy h3 h4 hle hTL hYL
          have HEL := Aside0.mk hend.out.2.2
          clear hend
          go_wp2_with (fail)
          refine (HGo.out _).mono ?_
          rintro e w1 ⟨rfl, hb1⟩
          have HB1 := Aside0.mk hb1
          clear hb1
          go_wp2_with (fail)
          refine (HGW.out _ HB1.out).mono ?_
          rintro e w2 ⟨v2, rfl, hR2, hb2⟩
          obtain ⟨A3, c3, hv2⟩ := Kd.R_slice hR2
          subst hv2
          have hC3 := (Kd.R_reads' hR2).2.2
          have HC3 := Aside0.mk hC3
          have HB12 := Aside0.mk (below_step HB1.out hb2)
          have HB2 := Aside0.mk (below_step hB.out HB12.out)
          obtain ⟨g3, hg3⟩ : ∃ z, mb (goodP 12 y) = z := ⟨_, rfl⟩
          obtain ⟨n3, hn3⟩ : ∃ z, g3.length = z := ⟨_, rfl⟩
          have hTA : ab (gs.take (k + 1)) = ab (gs.take k) ++ g3 := by rw [HTS.out, ab_snoc, hg3]
          have hTE : ends (gs.take (k + 1)) = ends (gs.take k) ++ [((ab (gs.take (k + 1))).length : Int)] := by rw [HTS.out, ends_snoc]
          have HTA := Aside0.mk hTA
          have HTE := Aside0.mk hTE
          rw [hg3] at HC3 HML ⊢
          rw [hn3] at HC3 HML ⊢
          clear hR2 hb2 hg3 HGW HGo hC3 hTA hTE
          have HN3 := Aside0.mk hn3
          clear hn3
          go_wp2_with (first
            | ((with_reducible refine gate_builtin (b := .append) (xs := #[.tmp 36, .tmp 37]) rfl ?_); at_builtin; go_must ((refine Kd.R_append_rows (Kd.int .u8) (w0 := W) W.heap.size rfl (.tmp 36) (.tmp 37) 22 5 (.int .u8 0) 1 rfl Try.underlying22 info5 rfl (by decide) (by decide) _ (ab (gs.take k)) g3 A3 n3 c3 (fun _ => True) (fun _ => False) rfl rfl ?aO ?aR (fun _ _ h => h) (fun _ h => h.elim) (fun _ _ => trivial) ?aB ?aS ?aL ?_; (case aO => exact Kd.R_below hR.out HB12.out); (case aR => exact HC3.out); (case aB => exact HB2.out); (case aS => exact below_size HB2.out); (case aL => have := HML.out; have := HL.out; omega); intro v7 w7 ho hb7 hg7 hat; rw [← HTA.out] at ho; have O7 := Aside0.mk ho; have B7 := Aside0.mk hb7; have E7 := Aside0.mk (R_two (Kd.R_below hE.out HB12.out) (Kd.R_below hR.out HB12.out) (by decide) hg7); obtain ⟨A7, c7, hv7⟩ := Kd.R_slice ho; subst hv7; obtain ⟨n7, hn7⟩ : ∃ z, (ab (gs.take (k + 1))).length = z := ⟨_, rfl⟩; have N7 := Aside0.mk hn7; rw [hn7] at O7 ⊢; clear ho hb7 hg7 hat hn7)))
            | ((with_reducible refine gate_builtin (b := .append) (xs := #[.tmp 39, .tmp 42]) rfl ?_); at_builtin; go_must ((refine Kd.R_append (Kd.int .i64) (w0 := W) W.heap.size rfl (.tmp 39) (.tmp 42) 44 3 (.int .i64 0) 8 rfl Try.underlying44 info3 rfl (by decide) (by decide) _ (ends (gs.take k)) (n7 : Int) [.int .i64 (n7 : Int)] (fun _ => True) (fun _ => False) rfl ?bX ?bP (fun _ hk => hk.elim) ?bF ?bO ?bB ?bS ?bL ?_; (case bX => rfl); (case bP => exact rfl); (case bF => exact (fun _ _ => trivial)); (case bO => exact E7.out); (case bB => exact B7.out); (case bS => exact below_size B7.out); (case bL => rw [ends_length]; have := HEL.out; omega); intro v8 w8 ho8 hb8 hg8 hat8; have O8 := Aside0.mk (R_two O7.out E7.out (by decide) hg8); rw [← N7.out, ← HTE.out] at ho8; have E8 := Aside0.mk ho8; have B8 := Aside0.mk hb8; clear ho8 hb8 hg8 hat8))))
          go_roundw
          case rel => exact ⟨k + 1, by go_num, by omega, by omega, O8, E8, B8⟩
          case measure => simp [intOf]; omega
        · have HL := Aside0.mk hle
          clear hle
          obtain rfl : k = 5 := by omega
          clear hl4 hk5
          go_wp2_with (fail)
          go_meet
          case rel => exact ⟨_, hR, hE, ⟨hend.out.1⟩, ⟨hend.out.2⟩, hB⟩
      · obtain rfl : k = N := by omega
        have HL := Aside0.mk hle
        clear hle hlt
        go_wp2_with (fail)
        go_meet
        case rel => exact ⟨_, hR, hE, ⟨hend.out.1⟩, ⟨hend.out.2⟩, hB⟩
  case rest =>
    obtain ⟨gs, hR, hE, hok, hlen, hB⟩ := hcut
    obtain ⟨A5, c5, hv5⟩ := Kd.R_slice hR.out
    obtain ⟨A6, c6, hv6⟩ := Kd.R_slice hE.out
    subst hv5 hv6
    have hcc := (Kd.R_reads' hR.out).2.1
    have Hcc := Aside0.mk hcc
    have har := ar_spec at_ ((ab gs).length + 1 : Int) (by omega) HA.out
    have HAr := Aside0.mk (fun w => around_calls at_ ((ab gs).length + 1 : Int) w (by omega))
    obtain ⟨r, hr⟩ : ∃ z, ar at_ ((ab gs).length + 1 : Int) = z := ⟨_, rfl⟩
    rw [hr] at har HAr
    obtain ⟨cn, rfl⟩ := Int.eq_ofNat_of_zero_le har.1
    have hcn : cn ≤ (ab gs).length := by omega
    obtain ⟨M, hM, hI, hS⟩ := stop_law gs cn hok.out hcn
    have hcut := fun W hC => cut_hd (A := A5) (c := c5) (l := ab gs) (W := W) hC hcc (cn : Int) (by omega) (by omega)
    rw [Int.toNat_natCast] at hcut
    have HSp := Aside0.mk (fun w (hC : (Kd.int .u8).C w A5 (ab gs).length (ab gs)) => split_calls A5 c5 ((ab gs).take cn) w (hcut w hC).2.1 (hcut w hC).2.2 ((ab_bd gs hok.out).take cn) (by rw [List.length_take]; have := hlen.out.1; omega))
    rw [hS] at HSp
    have hcutE := fun w => (hcut wc (Kd.R_reads' hR.out).2.2).1 w
    obtain ⟨E, hEn⟩ : ∃ z, (ab (gs.take M)).length = z := ⟨_, rfl⟩
    have hML : (gs.take M).length = M := by rw [List.length_take]; omega
    obtain ⟨mm, hmm⟩ : ∃ z, gs.take M = z := ⟨_, rfl⟩
    rw [hmm] at HSp hML hEn
    dsimp only at HSp
    rw [hEn] at HSp
    obtain ⟨L, hL⟩ : ∃ z, (ab gs).length = z := ⟨_, rfl⟩
    obtain ⟨n, hn⟩ : ∃ z, gs.length = z := ⟨_, rfl⟩
    have hne : (ends gs).length = n := by rw [ends_length, hn]
    have hlenL : L ≤ 95 := by rw [← hL]; exact hlen.out.1
    have hlenn : n ≤ 5 := by rw [← hn]; exact hlen.out.2
    obtain ⟨T, hT⟩ : ∃ z, ((ab gs).take cn).length = z := ⟨_, rfl⟩
    rw [hL] at HAr hcn hcutE HSp ⊢
    rw [hT] at hcutE HSp
    rw [hne]
    rw [hn] at hM hI
    have HI := Aside0.mk hI
    have HMM := Aside0.mk (And.intro hmm (And.intro hML hEn))
    have HL := Aside0.mk hL
    have HNE := Aside0.mk hne
    have HCE := Aside0.mk hcutE
    clear hr har hcc hcut hS hI hL hn hne hT hEn hML hmm hcutE
    go_wp2_with (fail)
    refine (HAr.out _).mono ?_
    rintro e w1 ⟨rfl, m, rfl⟩
    have HR1 := Aside0.mk (Kd.R_drewN hR.out m)
    have HE1 := Aside0.mk (Kd.R_drewN hE.out m)
    have HB1 := Aside0.mk (pw_below_drewN hB.out m)
    generalize wc.drewN m = wy at HR1 HE1 HB1 ⊢
    clear hR hE hB HAr
    go_upto_block 2 with (fail)
    go_wp2_with (fail)
    go_loopw [11, 12, 13] (fun wh en i wr => ∃ j : Nat, i = .int .i64 j ∧ j ≤ n ∧ wh = .int .i64 ((min j M : Nat) : Int) ∧ en = .int .i64 (((ab (gs.take (min j M))).length : Nat) : Int) ∧ Aside0 (wr = wy)) (fun _ _ i _ => n - (intOf i).toNat)
    case atStart => exact ⟨0, rfl, by omega, by rw [Nat.zero_min]; rfl, by rw [Nat.zero_min]; rfl, ⟨rfl⟩⟩
    case round =>
      obtain ⟨j, rfl, hj, rfl, rfl, hW⟩ := hrel
      obtain rfl := hW.out
      clear hW
      by_cases hlt : j < n
      · have hlt' : decide ((j : Int) < (n : Int)) = true := decide_eq_true (by omega)
        obtain ⟨g6, cap6, hv6, _, _, _⟩ := Kd.R_form HE1.out (show 0 < (ends gs).length by rw [HNE.out]; omega)
        injection hv6 with hv1 _ hv3
        subst hv1 hv3
        obtain ⟨k0, _⟩ := Kd.R_celln (0 : Int) HE1.out (j : Int) (by omega) (by have := HNE.out; omega)
        have hea : rdOf 0 (ends gs) (j : Int) = ((ab (gs.take (j + 1))).length : Int) := by
          show (ends gs).getD (j : Int).toNat 0 = _
          rw [Int.toNat_natCast, ends_at gs j (by have := HNE.out; rw [ends_length] at this; omega)]
        rw [hea, Int.toNat_natCast] at k0
        have hij := HI.out j hlt
        obtain ⟨q, hq⟩ : ∃ z, min j M = z := ⟨_, rfl⟩
        obtain ⟨p, hp⟩ : ∃ z, (ab (gs.take q)).length = z := ⟨_, rfl⟩
        rw [hq, hp]
        have HQ := Aside0.mk (And.intro hq hp)
        by_cases hjM : j < M
        · have hle := hij.2 hjM
          obtain ⟨x, hx⟩ : ∃ z, (ab (gs.take (j + 1))).length = z := ⟨_, rfl⟩
          rw [hx] at k0 hle
          have hd : decide (x ≤ cn) = true := decide_eq_true hle
          have HX := Aside0.mk hx
          have hq5 : q ≤ 5 := by omega
          clear hea hij hq hp hx
          go_wp2_with (fail)
          go_roundw
          case rel => exact ⟨j + 1, by go_num, by omega, by
              have h1 := HQ.out.1
              rw [show min (j + 1) M = q + 1 from by omega]
              go_num, by
              have h1 := HQ.out.1
              rw [show min (j + 1) M = j + 1 from by omega, HX.out], ⟨by first | trivial | rfl⟩⟩
          case measure => simp [intOf]; omega
        · have hle : ¬ (ab (gs.take (j + 1))).length ≤ cn := fun h => hjM (hij.1 h)
          obtain ⟨x, hx⟩ : ∃ z, (ab (gs.take (j + 1))).length = z := ⟨_, rfl⟩
          rw [hx] at k0 hle
          have hd : decide (x ≤ cn) = false := decide_eq_false hle
          clear hea hij hq hp hx
          go_wp2_with (fail)
          go_roundw
          case rel => exact ⟨j + 1, by go_num, by omega, by
              have h1 := HQ.out.1
              rw [show min (j + 1) M = q from by omega], by
              have h1 := HQ.out.1
              rw [show min (j + 1) M = q from by omega, HQ.out.2], ⟨by first | trivial | rfl⟩⟩
          case measure => simp [intOf]; omega
      · obtain rfl : j = n := by omega
        rw [show min j M = M from by omega, HMM.out.1, HMM.out.2.2]
        have hce := HCE.out
        have HSp2 := Aside0.mk (HSp.out wr (by have := (Kd.R_reads' HR1.out).2.2; rw [HL.out] at this; exact this))
        clear hlt HSp
        have hML := HMM.out.2.1
        by_cases hEc : E = cn
        · subst hEc
          rw [if_pos rfl] at HSp2
          go_wp2_with (fail)
          refine HSp2.out.mono ?_
          rintro e w2 ⟨v2, rfl, hR2, hb2⟩
          obtain ⟨A7, c7, hv7⟩ := Kd.R_slice hR2
          subst hv7
          have HB2 := Aside0.mk (below_step HB1.out hb2)
          rw [hML]
          clear hR2 hb2 hML hce
          go_wp2_with (first
            | (go_at_call 12; refine (lives_calls _).mono ?_; rintro e w8 ⟨rfl, hb8⟩; have HB8 := Aside0.mk (below_step HB2.out hb8); clear hb8))
          go_ret
          exact ⟨rfl, HB8.out⟩
        · have hne1 : (E == cn) = false := by rw [beq_eq_false_iff_ne]; exact hEc
          have hne2 : ((E : Int) == (cn : Int)) = false := by rw [beq_eq_false_iff_ne]; omega
          rw [if_neg hEc] at HSp2
          clear hEc
          go_wp2_with (fail)
          refine HSp2.out.mono ?_
          rintro e w2 ⟨v2, rfl, hR2, hb2⟩
          obtain ⟨A7, c7, hv7⟩ := Kd.R_slice hR2
          subst hv7
          have HB2 := Aside0.mk (below_step HB1.out hb2)
          rw [hML]
          clear hR2 hb2 hML hce
          go_wp2_with (first
            | (go_at_call 12; refine (lives_calls _).mono ?_; rintro e w8 ⟨rfl, hb8⟩; have HB8 := Aside0.mk (below_step HB2.out hb8); clear hb8))
          go_ret
          exact ⟨rfl, HB8.out⟩

theorem fs_law (A1 : Option Addr) (c1 : Nat) (l1 : List S24) (a1 : Int) (W : World) (hl1 : l1.length ≤ c1) (hC1 : k24.C W A1 l1.length l1) (G1 : l1.length ≤ maxLen ∧ ∀ y ∈ l1, MsgG y) (w1 : (Lit.int .i64 a1).wf = true) :
    Calls Try.prog 6 #[.slice A1 l1.length c1, .int .i64 a1] W fun e W' => e = .returned (.bool true) ∧ Below W.heap.size W W' :=
  fs_walk A1 c1 l1 a1 W hl1 hC1 G1.2 (Go.bounds_i64 w1)

end Go.Proofs.Ytligkikcfmploaa.FP

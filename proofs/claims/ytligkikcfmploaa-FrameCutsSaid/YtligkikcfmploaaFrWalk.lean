/- The walk of FrameReads: it returns true and writes nothing that was there. -/
import Derived.Test.YtligkikcfmploaaFAll
import Derived.WalkSpells
import Derived.Deep.RegionHeld3
import Derived.Deep.DeepMust
import Derived.Deep.DeepCutAuto
import Derived.Deep.CutBlock
namespace Go.Proofs.Ytligkikcfmploaa.FP
open Go.RowKit Go.Proofs.YtligkikcfmploaaW.PrintWords Go.Proofs.YtligkikcfmploaaW.PrintLast Go.Proofs.YtligkikcfmploaaW.PrintMore
open Go.Proofs.Ytligkikcfmploaa.PFrameCuts Go.Proofs.Ytligkikcfmploaa.Base Go.Proofs.Ytligkikcfmploaa.Msg
attribute [local go_sem] Oper.semAt_some max2_int min2_int max_two min_two
set_option linter.unusedVariables false
set_option linter.unusedSimpArgs false

/-- The cells of one message of a row. -/
theorem cells24 {ad : Addr} {l : List S24} {w : World} (hC : k24.C w (some ad) l.length l) (j : Nat) (hj : j < l.length) :
    ∃ A2 c2, w.cell? (ad.add (j * 3)) = some (.int .i64 l[j].f0) ∧ w.cell? ⟨(ad.add (j * 3)).block, (ad.add (j * 3)).off + 1, none⟩ = some (.int .i64 l[j].f1) ∧
      w.cell? ⟨(ad.add (j * 3)).block, (ad.add (j * 3)).off + 2, none⟩ = some (.slice A2 l[j].f2.length c2) ∧ l[j].f2.length ≤ c2 ∧ (Kd.int .u8).C w A2 l[j].f2.length l[j].f2 := by
  obtain ⟨ad', A2, c2, e, h0, h1, h2, h3, h4⟩ := at_T24 hC (j : Int) (by omega) (by omega)
  injection e with e
  subst e
  have hr : rd_T24 l (j : Int) = l[j] := by unfold rd_T24; simp [List.getElem?_eq_getElem hj]
  rw [hr, Int.toNat_natCast] at h0 h1 h2
  rw [hr] at h3 h4
  exact ⟨A2, c2, h0, h1, h2, h3, h4⟩
theorem take_good (m k : Nat) (l : List S24) (h : k < l.length) : ab ((l.map (goodP m)).take (k + 1)) = ab ((l.map (goodP m)).take k) ++ mb (goodP m l[k]) := by
  rw [List.take_succ_eq_append_getElem (by rw [List.length_map]; exact h), ab_snoc, List.getElem_map]
theorem take_good_len (m k : Nat) (l : List S24) : (ab ((l.map (goodP m)).take k)).length ≤ (7 + m) * k := by
  refine Nat.le_trans (ab_len m _ fun y hy => ?_) (Nat.mul_le_mul_left _ (by rw [List.length_take]; omega))
  obtain ⟨z, _, rfl⟩ := List.mem_map.1 (List.mem_of_mem_take hy)
  exact gw_len m z

/-- Good's message, then the reference's Write. -/
theorem good_write (m : Nat) (hm : m ≤ 4096) (y : S24) (hy : MsgG y) (A : Option Addr) (c : Nat) (W w : World) (hC : (Kd.int .u8).C W A y.f2.length y.f2) (hc : y.f2.length ≤ c) (hb : Below W.heap.size W w) :
    Calls Try.prog 13 #[.agg #[.int .i64 (goodP m y).f0, .int .i64 (goodP m y).f1, .slice A (y.f2.take m).length c]] w fun e w' => ∃ v, e = .returned (.tuple #[v, .int .i64 0]) ∧ (Kd.int .u8).R 5 w' w.heap.size (fun _ => True) v (mb (goodP m y)) ∧ Below w.heap.size w w' := by
  have hok := goodP_ok m y hy hm
  have hC2 : (Kd.int .u8).C W A (y.f2.take m).length (y.f2.take m) := by
    rcases Nat.le_total y.f2.length m with h | h
    · rw [List.take_of_length_le h]; exact hC
    · exact Kd.C_take hC h
  exact rondelref07_Write.calls (goodP m y).f0 (goodP m y).f1 A c (y.f2.take m) _ 0 w (Kd.C_below hC2 hb) (by rw [List.length_take]; omega) (rwrite_f _ _ _ hok.1 hok.2.1 hok.2.2.1)

set_option maxRecDepth 100000 in
set_option maxHeartbeats 16000000 in
theorem fr_walk (A0 : Option Addr) (c0 : Nat) (l0 : List Int) (A1 : Option Addr) (c1 : Nat) (l1 : List S24) (at_ x : Int) (W : World) (hc0 : l0.length ≤ c0) (hC0 : (Kd.int .u8).C W A0 l0.length l0) (hb0 : Bd l0)
    (hc1 : l1.length ≤ c1) (hC1 : k24.C W A1 l1.length l1) (hg : ∀ y ∈ l1, MsgG y) (ha : -9223372036854775808 ≤ at_ ∧ at_ ≤ 9223372036854775807) (hx : 0 ≤ x ∧ x < 256) :
    Calls Try.prog 5 #[.slice A0 l0.length c0, .slice A1 l1.length c1, .int .i64 at_, .int .u8 x] W fun e W' => e = .returned (.bool true) ∧ Below W.heap.size W W' := by
  have hu24 := Try.underlying24
  have HC0 := Aside0.mk hC0
  have Hc0 := Aside0.mk hc0
  have HC1 := Aside0.mk hC1
  have Hb0 := Aside0.mk hb0
  have HG := Aside0.mk hg
  have HA := Aside0.mk ha
  have HX := Aside0.mk hx
  obtain ⟨N, hN⟩ : ∃ N, l1.length = N := ⟨_, rfl⟩
  obtain ⟨N0, hN0⟩ : ∃ N, l0.length = N := ⟨_, rfl⟩
  have HN := Aside0.mk hN
  have HN0 := Aside0.mk hN0
  rw [hN] at HC1 ⊢
  rw [hN0] at HC0 Hc0 ⊢
  have hNm : N ≤ 9223372036854775807 := HC1.out.2.1
  clear hc0 hC0 hb0 hc1 hC1 hg ha hx hN hN0
  go_enter Try.func5, Try.ntmps5
  go_upto_block 0 with (fail)
  go_cut [9] (fun v wx => ∃ al : List Int, Aside0 ((Kd.int .u8).R 5 wx W.heap.size (fun _ => True) v al) ∧ Aside0 (Bd al) ∧ Aside0 (al.length ≤ 108) ∧ Aside0 (Below W.heap.size W wx))
  case first =>
    obtain ⟨gs, hgs⟩ : ∃ x, l1.map (goodP 20) = x := ⟨_, rfl⟩
    have HGS := Aside0.mk hgs
    clear hgs
    go_wp2_with (fail)
    go_loopw [9, 10] (fun v i wr => ∃ k : Nat, i = .int .i64 k ∧ k ≤ N ∧ k ≤ 4 ∧ Aside0 ((Kd.int .u8).R 5 wr W.heap.size (fun _ => True) v (ab (gs.take k))) ∧ Aside0 (Below W.heap.size W wr)) (fun _ i _ => 4 - (intOf i).toNat)
    case atStart => exact ⟨0, rfl, by omega, by omega, ⟨Kd.R_nil _ _ _ _ _⟩, ⟨Below.refl _ _⟩⟩
    case round =>
      obtain ⟨k, rfl, hk, hk4, hR, hB⟩ := hrel
      have hle := take_good_len 20 k l1
      rw [HGS.out] at hle
      by_cases hlt : k < N
      · have hlt' : decide ((k : Int) < (N : Int)) = true := decide_eq_true (by omega)
        by_cases hl4 : k < 4
        · have hl4' : decide ((k : Int) < 4) = true := decide_eq_true (by omega)
          have hkl : k < l1.length := by rw [HN.out]; exact hlt
          obtain ⟨ad, hA⟩ : ∃ ad, A1 = some ad := by
            obtain ⟨ad, h, _⟩ := HC1.out.2.2 (by omega)
            exact ⟨ad, h⟩
          subst hA
          obtain ⟨A2, c2, h0, h1, h2, h3, h4⟩ := cells24 (by have := Kd.C_below HC1.out hB.out; rw [← HN.out] at this; exact this) k hkl
          have hy := HG.out l1[k] (List.getElem_mem hkl)
          have hts := take_good 20 k l1 hkl
          rw [HGS.out] at hts
          obtain ⟨y, hyy⟩ : ∃ y, l1[k] = y := ⟨_, rfl⟩
          rw [hyy] at h0 h1 h2 h3 h4 hy hts
          have HY := Aside0.mk hy
          have HTS := Aside0.mk hts
          have HC2 := Aside0.mk h4
          have Hc2 := Aside0.mk h3
          have HGW := Aside0.mk (fun w hw => good_write 20 (by omega) y hy A2 c2 wr w h4 h3 hw)
          have HGo := Aside0.mk (fun w => good_calls y.f0 y.f1 A2 c2 y.f2 20 w (by omega) h3)
          rw [show (20 : Int).toNat = 20 from rfl] at HGo
          have HL := Aside0.mk hle
          obtain ⟨TL, hTL⟩ : ∃ z, (y.f2.take 20).length = z := ⟨_, rfl⟩
          obtain ⟨YL, hYL⟩ : ∃ z, y.f2.length = z := ⟨_, rfl⟩
          rw [hTL] at HGo HGW
          rw [hYL] at h2 HGo
          have HML := Aside0.mk (show (mb (goodP 20 y)).length ≤ 27 from by rw [mb_length]; have := gw_len 20 y; omega)
          clear hkl hy hts hyy h3 h4 hle hTL hYL
          go_wp2_with (fail)
          refine (HGo.out _).mono ?_
          rintro e w1 ⟨rfl, hb1⟩
          have HB1 := Aside0.mk hb1
          clear hb1
          go_wp2_with (fail)
          refine (HGW.out _ HB1.out).mono ?_
          rintro e w2 ⟨v2, rfl, hR2, hb2⟩
          obtain ⟨A3, c3, hv2⟩ := Kd.R_slice hR2
          subst hv2
          have hC3 := (Kd.R_reads' hR2).2.2
          have HC3 := Aside0.mk hC3
          have HB12 := Aside0.mk (below_step HB1.out hb2)
          have HB2 := Aside0.mk (below_step hB.out HB12.out)
          obtain ⟨g3, hg3⟩ : ∃ z, mb (goodP 20 y) = z := ⟨_, rfl⟩
          rw [hg3] at HC3 HTS HML ⊢
          obtain ⟨n3, hn3⟩ : ∃ z, g3.length = z := ⟨_, rfl⟩
          rw [hn3] at HC3 HML ⊢
          clear hR2 hb2 hg3 HGW HGo hC3
          have HN3 := Aside0.mk hn3
          clear hn3
          go_wp2_with (((with_reducible refine gate_builtin (b := .append) (xs := #[.tmp 46, .tmp 47]) rfl ?_); at_builtin; go_must ((refine Kd.R_append_rows (Kd.int .u8) (w0 := W) W.heap.size rfl (.tmp 46) (.tmp 47) 22 5 (.int .u8 0) 1 rfl Try.underlying22 info5 rfl (by decide) (by decide) _ (ab (gs.take k)) g3 A3 n3 c3 (fun _ => True) (fun _ => False) rfl rfl ?aO ?aR (fun _ _ h => h) (fun _ h => h.elim) (fun _ _ => trivial) ?aB ?aS ?aL ?_; (case aO => exact Kd.R_below hR.out HB12.out); (case aR => exact HC3.out); (case aB => exact HB2.out); (case aS => exact below_size HB2.out); (case aL => have := HML.out; have := HL.out; omega); intro v7 w7 ho hb7 hg7 hat; rw [← HTS.out] at ho; have O7 := Aside0.mk ho; have B7 := Aside0.mk hb7; clear ho hb7 hg7 hat))))
          go_roundw
          case rel => exact ⟨k + 1, by go_num, by omega, by omega, O7, B7⟩
          case measure => simp [intOf]; omega
        · have HL := Aside0.mk hle
          clear hle
          obtain rfl : k = 4 := by omega
          clear hl4 hk4
          go_wp2_with (fail)
          go_meet
          case rel => exact ⟨_, hR, ⟨ab_bd _ (fun y hy => by
              rw [← HGS.out] at hy
              obtain ⟨z, hz, rfl⟩ := List.mem_map.1 (List.mem_of_mem_take hy)
              exact goodP_ok 20 z (HG.out z hz) (by omega))⟩, ⟨by have := HL.out; omega⟩, hB⟩
      · have hlt' : decide (k < N) = false := decide_eq_false hlt
        obtain rfl : k = N := by omega
        have HL := Aside0.mk hle
        clear hle hlt hlt'
        go_wp2_with (fail)
        go_meet
        case rel => exact ⟨_, hR, ⟨ab_bd _ (fun y hy => by
            rw [← HGS.out] at hy
            obtain ⟨z, hz, rfl⟩ := List.mem_map.1 (List.mem_of_mem_take hy)
            exact goodP_ok 20 z (HG.out z hz) (by omega))⟩, ⟨by have := HL.out; omega⟩, hB⟩
  case rest =>
    obtain ⟨al, hR, hBd, hL, hB⟩ := hcut
    obtain ⟨A9, c9, hv9⟩ := Kd.R_slice hR.out
    subst hv9
    obtain ⟨L, hLn⟩ : ∃ z, al.length = z := ⟨_, rfl⟩
    have HLn := Aside0.mk hLn
    rw [hLn] at hL hR ⊢
    clear hLn
    go_upto_if 51 with (fail)
    go_cut [9] (fun v wx => ∃ al' : List Int, Aside0 ((Kd.int .u8).R 5 wx W.heap.size (fun _ => True) v al') ∧ Aside0 (Bd al') ∧ Aside0 (al'.length ≤ 108) ∧ Aside0 (Below W.heap.size W wx))
    case first =>
      by_cases h0 : L = 0
      · subst h0
        go_wp2_with (fail)
        go_meet
        case rel => exact ⟨al, hR, hBd, ⟨by rw [HLn.out]; exact hL.out⟩, hB⟩
      · have hp : 0 < L := by omega
        have hpi : (0 : Int) < (L : Int) := by omega
        obtain ⟨g, cap, hv, hgb, hgw, hgc⟩ := Kd.R_form (by have := hR.out; rw [← HLn.out] at this; exact this) (show 0 < al.length by rw [HLn.out]; exact hp)
        rw [HLn.out] at hv
        injection hv with hv1 _ hv3
        subst hv1 hv3
        have har := ar_spec at_ (L : Int) (by omega) HA.out
        have HAr := Aside0.mk (fun w => around_calls at_ (L : Int) w (by omega))
        obtain ⟨r, hr⟩ : ∃ z, ar at_ (L : Int) = z := ⟨_, rfl⟩
        rw [hr] at har HAr
        obtain ⟨rn, rfl⟩ := Int.eq_ofNat_of_zero_le har.1
        have hrn : rn < L := by omega
        have HGB := Aside0.mk hgb
        clear hr har h0 hgb hgw hgc
        have HH := Aside0.mk hrn
        go_wp2_with (fail)
        refine (HAr.out _).mono ?_
        rintro e w1 ⟨rfl, m, rfl⟩
        have HRd := Aside0.mk (Kd.R_drewN hR.out m)
        obtain ⟨k0, f0⟩ := Kd.R_celln (0 : Int) HRd.out (rn : Int) (by omega) (by omega)
        rw [Int.toNat_natCast] at k0 f0
        have HRp := Aside0.mk (Kd.R_putn HRd.out (rn : Int) x)
        rw [Int.toNat_natCast] at HRp
        have hri : (rn : Int) < (L : Int) := by omega
        go_wp2_with (fail)
        go_meet
        case rel => exact ⟨al.set rn x, HRp, ⟨fun b hb => by
            rcases List.mem_or_eq_of_mem_set hb with hb | hb
            · exact hBd.out b hb
            · rw [hb]; exact HX.out⟩, ⟨by rw [List.length_set, HLn.out]; exact hL.out⟩, ⟨below_set (pw_below_drewN hB.out m) HGB.out⟩⟩
    case rest =>
      clear hR hBd hL hB HLn
      obtain ⟨al', hR, hBd, hL, hB⟩ := hcut
      obtain ⟨A9', c9', hv9⟩ := Kd.R_slice hR.out
      subst hv9
      have hC9 := (Kd.R_reads' hR.out).2.2
      have hc9 := (Kd.R_reads' hR.out).2.1
      have HC9 := Aside0.mk hC9
      have Hc9 := Aside0.mk hc9
      have HFew := Aside0.mk (fun w => few_calls A0 c0 l0 60 w (by omega) (by have := Hc0.out; have := HN0.out; omega))
      obtain ⟨tb, htb⟩ : ∃ z, l0.take 60 = z := ⟨_, rfl⟩
      have HTL := Aside0.mk (show tb.length ≤ 60 from by rw [← htb, List.length_take]; omega)
      have HCt := Aside0.mk (show (Kd.int .u8).C W A0 tb.length tb from by
        have h := HC0.out
        rw [← HN0.out] at h
        rw [← htb]
        rcases Nat.le_total l0.length 60 with h6 | h6
        · rw [List.take_of_length_le h6]; exact h
        · exact Kd.C_take h h6)
      have HBt := Aside0.mk (show Bd tb from by rw [← htb]; exact Hb0.out.take 60)
      have Hct := Aside0.mk (show tb.length ≤ c0 from by have := Hc0.out; have := HN0.out; rw [← htb, List.length_take]; omega)
      rw [show (60 : Int).toNat = 60 from rfl, htb, HN0.out] at HFew
      clear htb hC9 hc9
      rename World => wd
      go_wp2_with (fail)
      refine (HFew.out _).mono ?_
      rintro e w1 ⟨rfl, hw1⟩
      subst hw1
      clear HFew
      have HK := Aside0.mk (blk_new wd (.cells #[.slice A0 tb.length c0, .slice A9' al'.length c9'] 22))
      have HB1 := Aside0.mk (below_alloc hB.out (.cells #[.slice A0 tb.length c0, .slice A9' al'.length c9'] 22))
      have HSel := Aside0.mk (show ∀ j, j < 2 → ∃ A c l, (wd.alloc (.cells #[.slice A0 tb.length c0, .slice A9' al'.length c9'] 22)).cell? ⟨wd.heap.size, j, none⟩ = some (.slice A l.length c) ∧ (Kd.int .u8).C (wd.alloc (.cells #[.slice A0 tb.length c0, .slice A9' al'.length c9'] 22)) A l.length l ∧ l.length ≤ c ∧ Bd l ∧ l.length ≤ 108 from fun j hj => by
        rcases (show j = 0 ∨ j = 1 by omega) with rfl | rfl
        · exact ⟨A0, c0, tb, blk_cell HK.out 0, Kd.C_below HCt.out HB1.out, Hct.out, HBt.out, by have := HTL.out; omega⟩
        · exact ⟨A9', c9', al', blk_cell HK.out 1, Kd.C_alloc HC9.out _, Hc9.out, hBd.out, hL.out⟩)
      clear HK hR hBd hL hB HC9 Hc9 HTL HCt HBt Hct
      go_upto_block 2 with (fail)
      generalize hwe : wd.alloc (.cells #[.slice A0 tb.length c0, .slice A9' al'.length c9'] 22) = we at HB1 HSel ⊢
      generalize wd.heap.size = H at HSel ⊢
      clear hwe
      go_wp2_with (fail)
      go_loopw [14] (fun i wr => ∃ j : Nat, i = .int .i64 j ∧ j ≤ 2 ∧ Aside0 (Below we.heap.size we wr)) (fun i _ => 2 - (intOf i).toNat)
      case atStart => exact ⟨0, rfl, by omega, ⟨Below.refl _ _⟩⟩
      case round =>
        obtain ⟨j, rfl, hj, hB⟩ := hrel
        by_cases hlt : j < 2
        · have hlt' : decide ((j : Int) < 2) = true := decide_eq_true (by omega)
          obtain ⟨A, c, l, hk, hCl, hcl, hbl, hll⟩ := HSel.out j hlt
          have HKX := Aside0.mk hk
          have HR1 := Aside0.mk (fun w (hw : Below we.heap.size we w) => read_calls A c l w (Kd.C_below hCl hw) hcl hbl)
          have HR2 := Aside0.mk (fun w (hw : Below we.heap.size we w) => rread_calls A c l w (Kd.C_below hCl hw) hcl hbl)
          have HS1 := Aside0.mk (fun w (hw : Below we.heap.size we w) => split_calls A c l w (Kd.C_below hCl hw) hcl hbl (by omega))
          have HS2 := Aside0.mk (fun w (hw : Below we.heap.size we w) => rsplit_calls A c l w (Kd.C_below hCl hw) hcl hbl (by omega))
          have HML := Aside0.mk (show (sp l).1.length ≤ 100000 from by have := sp_len l; omega)
          have HCl := Aside0.mk hCl
          obtain ⟨op, hop⟩ : ∃ z, (if rerr l = 0 then l.getD 2 0 else 0) = z := ⟨_, rfl⟩
          obtain ⟨id, hid⟩ : ∃ z, (if rerr l = 0 then id4 l else 0) = z := ⟨_, rfl⟩
          obtain ⟨n, hn⟩ : ∃ z, (if rerr l = 0 then len2 l else 0) = z := ⟨_, rfl⟩
          obtain ⟨bd, hbd⟩ : ∃ z, (if rerr l = 0 then (l.take (len2 l).toNat).drop 7 else []) = z := ⟨_, rfl⟩
          obtain ⟨er, her⟩ : ∃ z, rerr l = z := ⟨_, rfl⟩
          rw [hop, hid, hn, hbd, her] at HR1 HR2
          obtain ⟨ms, hms⟩ : ∃ z, (sp l).1 = z := ⟨_, rfl⟩
          obtain ⟨nn, hnn⟩ : ∃ z, (sp l).2.1 = z := ⟨_, rfl⟩
          obtain ⟨ee, hee⟩ : ∃ z, (sp l).2.2 = z := ⟨_, rfl⟩
          rw [hms, hnn, hee] at HS1 HS2
          rw [hms] at HML
          have kx := pw_cell_below hB.out hk
          clear hk hCl hcl hbl hll hop hid hn hbd her hms hnn hee
          obtain ⟨LL, hLL⟩ : ∃ z, l.length = z := ⟨_, rfl⟩
          rw [hLL] at HR1 HR2 HS1 HS2 kx HKX
          have HLL := Aside0.mk hLL
          clear hLL
          go_wp2_with (fail)
          refine (HR1.out _ hB.out).mono ?_
          rintro e w1 ⟨v1, rfl, hR1, hb1⟩
          obtain ⟨A5, c5, hv1⟩ := Kd.R_slice hR1
          subst hv1
          have HC5 := Aside0.mk (Kd.C_alloc (Kd.R_reads' hR1).2.2 (.cells #[.int .i64 op, .int .i64 id, .slice A5 bd.length c5] 24))
          have Hc5 := Aside0.mk (Kd.R_reads' hR1).2.1
          have HY := Aside0.mk (blk_new w1 (.cells #[.int .i64 op, .int .i64 id, .slice A5 bd.length c5] 24))
          have HB2 := Aside0.mk (below_alloc (below_step hB.out hb1) (.cells #[.int .i64 op, .int .i64 id, .slice A5 bd.length c5] 24))
          obtain ⟨bl, hbl⟩ : ∃ z, bd.length = z := ⟨_, rfl⟩
          have HBL := Aside0.mk hbl
          rw [hbl] at HC5 Hc5 HY HB2 ⊢
          have kx2 := pw_cell_below HB2.out HKX.out
          clear hR1 hb1 HR1 hbl kx
          go_upto_region 14 with (fail)
          generalize hw2 : w1.alloc (.cells #[.int .i64 op, .int .i64 id, .slice A5 bl c5] 24) = w2 at HC5 HY HB2 kx2 ⊢
          generalize w1.heap.size = G1 at HY ⊢
          clear hw2
          go_wp2_with (fail)
          refine (HR2.out _ HB2.out).mono ?_
          rintro e w3 ⟨A6, c6, rfl, hC6, hc6, hb3⟩
          rw [HBL.out] at hC6 hc6 ⊢
          have HB4 := Aside0.mk (below_alloc (below_step HB2.out hb3) (.cells #[.int .i64 op, .int .i64 id, .slice A6 bl c6] 24))
          have HC6 := Aside0.mk (hC6 _ (Kd.C_below (by have := HCl.out; exact this) HB4.out))
          have Hc6 := Aside0.mk hc6
          have HY4 := Aside0.mk (blk_alloc (blk_below HY.out hb3) (.cells #[.int .i64 op, .int .i64 id, .slice A6 bl c6] 24))
          have HZ4 := Aside0.mk (blk_new w3 (.cells #[.int .i64 op, .int .i64 id, .slice A6 bl c6] 24))
          have HC54 := Aside0.mk (Kd.C_alloc (Kd.C_below HC5.out hb3) (.cells #[.int .i64 op, .int .i64 id, .slice A6 bl c6] 24))
          clear hC6 hc6 hb3 HR2 kx2 HC5 HY
          go_upto_region 15 with (fail)
          generalize hw4 : w3.alloc (.cells #[.int .i64 op, .int .i64 id, .slice A6 bl c6] 24) = w4 at HC6 HY4 HZ4 HC54 HB4 ⊢
          generalize w3.heap.size = G2 at HZ4 ⊢
          clear hw4
          obtain ⟨y0, y1, y2, _, _, _⟩ := cells3 HY4.out
          obtain ⟨z0, z1, z2, _, _, _⟩ := cells3 HZ4.out
          have HSm := Aside0.mk (rondelref07_Same.calls op id A5 c5 bd op id A6 c6 bd true w4 (by rw [HBL.out]; exact HC54.out) (by rw [HBL.out]; exact Hc5.out) (by rw [HBL.out]; exact HC6.out) (by rw [HBL.out]; exact Hc6.out) (same_f ⟨op, id, bd⟩))
          rw [HBL.out] at HSm
          go_wp2_with (fail)
          refine HSm.out.mono ?_
          rintro e w5 ⟨rfl, hb5⟩
          have HB5 := Aside0.mk (below_step HB4.out hb5)
          have kx5 := pw_cell_below HB5.out HKX.out
          clear y0 y1 y2 z0 z1 z2 hb5 HSm HY4 HZ4 HC54 HC6
          go_wp2_with (fail)
          refine (HS1.out _ HB5.out).mono ?_
          rintro e w6 ⟨v6, rfl, hR6, hb6⟩
          obtain ⟨A7, c7, hv6⟩ := Kd.R_slice hR6
          subst hv6
          have HB6 := Aside0.mk (below_step HB5.out hb6)
          have kx6 := pw_cell_below HB6.out HKX.out
          have HC7 := Aside0.mk (Kd.R_reads' hR6).2
          clear hR6 hb6 HS1 kx5
          go_wp2_with (fail)
          refine (HS2.out _ HB6.out).mono ?_
          rintro e w7 ⟨v7, rfl, hR7, hb7⟩
          obtain ⟨A8, c8, hv7⟩ := Kd.R_slice hR7
          subst hv7
          have HB7 := Aside0.mk (below_step HB6.out hb7)
          have HC8 := Aside0.mk (And.intro (Kd.R_reads' hR7).2.1 (kF_C (Kd.R_reads' hR7).2.2 hb7))
          have HC77 := Aside0.mk (Kd.C_below HC7.out.2 hb7)
          have HSA := Aside0.mk (rondelref07_SameAll.calls (ms.length + 1) A7 c7 ms A8 c8 ms true w7 HC77.out HC7.out.1 HC8.out.2 HC8.out.1 (sameAll_f ms HML.out))
          obtain ⟨ml, hml⟩ : ∃ z, ms.length = z := ⟨_, rfl⟩
          rw [hml] at HSA ⊢
          clear hR7 hb7 HS2 kx6 HC7 HC8 HC77 hml
          go_wp2_with (fail)
          refine HSA.out.mono ?_
          rintro e w8 ⟨rfl, hb8⟩
          have HB8 := Aside0.mk (below_step HB7.out hb8)
          clear hb8 HSA
          go_wp2_with (fail)
          go_roundw
          case rel => exact ⟨j + 1, by go_num, by omega, HB8⟩
          case measure => simp [intOf]; omega
        · obtain rfl : j = 2 := by omega
          clear hlt hj
          go_wp2_with (fail)
          refine (lives_calls _).mono ?_
          rintro e w8 ⟨rfl, hb8⟩
          have HB8 := Aside0.mk (below_step (below_step HB1.out hB.out) hb8)
          clear hb8
          go_wp2_with (fail)
          go_ret
          exact ⟨rfl, HB8.out⟩

theorem fr_law (A0 : Option Addr) (c0 : Nat) (l0 : List Int) (A1 : Option Addr) (c1 : Nat) (l1 : List S24) (a2 a3 : Int) (W : World) (hl0 : l0.length ≤ c0) (hC0 : (Kd.int .u8).C W A0 l0.length l0) (G0 : BytesG l0)
    (hl1 : l1.length ≤ c1) (hC1 : k24.C W A1 l1.length l1) (G1 : l1.length ≤ maxLen ∧ ∀ y ∈ l1, MsgG y) (w2 : (Lit.int .i64 a2).wf = true) (w3 : (Lit.int .u8 a3).wf = true) :
    Calls Try.prog 5 #[.slice A0 l0.length c0, .slice A1 l1.length c1, .int .i64 a2, .int .u8 a3] W fun e W' => e = .returned (.bool true) ∧ Below W.heap.size W W' :=
  fr_walk A0 c0 l0 A1 c1 l1 a2 a3 W hl0 hC0 (bd_of' G0) hl1 hC1 G1.2 (Go.bounds_i64 w2) (by have := Go.bounds_u8 w3; omega)

end Go.Proofs.Ytligkikcfmploaa.FP

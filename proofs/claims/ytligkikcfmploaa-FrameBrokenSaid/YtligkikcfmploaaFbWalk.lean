/- The walk of FrameBroken: it returns true and writes nothing that was there. -/
import Derived.Test.YtligkikcfmploaaFPut
import Derived.Test.YtligkikcfmploaaFrWalk
namespace Go.Proofs.Ytligkikcfmploaa.FP
open Go.RowKit Go.Proofs.YtligkikcfmploaaW.PrintWords Go.Proofs.YtligkikcfmploaaW.PrintLast Go.Proofs.YtligkikcfmploaaW.PrintMore
open Go.Proofs.Ytligkikcfmploaa.PFrameCuts Go.Proofs.Ytligkikcfmploaa.Base Go.Proofs.Ytligkikcfmploaa.Msg
attribute [local go_sem] Oper.semAt_some max2_int min2_int max_two min_two
set_option linter.unusedVariables false
set_option linter.unusedSimpArgs false

theorem sp_one (x : Int) : sp [x] = ([], 0, 3) := sp_err (by simp) (by rw [show rerr [x] = 3 from rfl]; decide)
theorem rb_one (x : Int) : rb [x] = [x] := by
  unfold rb
  rw [sp_one, if_neg (by decide)]
  rfl
theorem sp_two (x y : Int) (h : x * 256 + y < 7 ∨ 4103 < x * 256 + y) : sp [x, y] = ([], 0, 2) := by
  have hr : rerr [x, y] = 2 := by
    unfold rerr
    rw [if_neg (by simp)]
    have e : len2 [x, y] = x * 256 + y := rfl
    rw [e, if_pos h]
  rw [sp_err (by simp) (by rw [hr]; decide), hr]
theorem rb_two (x y : Int) (h : x * 256 + y < 7 ∨ 4103 < x * 256 + y) : rb [x, y] = [] := by
  unfold rb
  rw [sp_two x y h, if_pos rfl]
theorem C_one (W : World) (x : Int) : (Kd.int .u8).C (W.alloc (.cells #[.int .u8 x] 5)) (some ⟨W.heap.size, 0, none⟩) 1 [x] :=
  (Kd.R_reads' (show (Kd.int .u8).R 5 (W.alloc (.cells #[.int .u8 x] 5)) 0 (fun _ => True) (.slice (some ⟨W.heap.size, 0, none⟩) 1 1) [x] from
    Kd.R_of_own ⟨rfl, .inr ⟨W.heap.size, 1, #[.int .u8 x], rfl, Nat.zero_le _, blk_new _ _, Nat.le_refl 1, by decide, rfl, rfl⟩⟩ (fun _ _ => trivial))).2.2

set_option maxRecDepth 100000 in
set_option maxHeartbeats 16000000 in
theorem fb_walk (n : Int) (A1 : Option Addr) (c1 : Nat) (l1 : List S24) (W : World) (hn : -9223372036854775808 ≤ n ∧ n ≤ 9223372036854775807) (hc1 : l1.length ≤ c1) (hC1 : k24.C W A1 l1.length l1) (hg : ∀ y ∈ l1, MsgG y) :
    Calls Try.prog 8 #[.int .i64 n, .slice A1 l1.length c1] W fun e W' => e = .returned (.bool true) ∧ Below W.heap.size W W' := by
  have hu24 := Try.underlying24
  have HC1 := Aside0.mk hC1
  have HG := Aside0.mk hg
  have HNB := Aside0.mk hn
  obtain ⟨N, hN⟩ : ∃ N, l1.length = N := ⟨_, rfl⟩
  have HN := Aside0.mk hN
  rw [hN] at HC1 ⊢
  have hNm : N ≤ 9223372036854775807 := HC1.out.2.1
  have hX := Aside0.mk (blk_new W (.cells #[.slice none 0 0, .bool false] 47))
  have hB0 := Aside0.mk (below_alloc (Below.refl W.heap.size W) (.cells #[.slice none 0 0, .bool false] 47))
  have ha1 := ar_spec n 7 (by omega) hn
  have ha2 := ar_spec n 61000 (by omega) hn
  have HA1 := Aside0.mk (fun w => around_calls n 7 w (by omega))
  have HA2 := Aside0.mk (fun w => around_calls n 61000 w (by omega))
  obtain ⟨r1, hr1⟩ : ∃ z, ar n 7 = z := ⟨_, rfl⟩
  obtain ⟨r2, hr2⟩ : ∃ z, ar n 61000 = z := ⟨_, rfl⟩
  rw [hr1] at ha1 HA1
  rw [hr2] at ha2 HA2
  obtain ⟨k1, rfl⟩ := Int.eq_ofNat_of_zero_le ha1.1
  obtain ⟨k2, rfl⟩ := Int.eq_ofNat_of_zero_le ha2.1
  have hk1 : k1 < 7 := by omega
  have hk2 : k2 < 61000 := by omega
  clear hc1 hC1 hg hN hn ha1 ha2 hr1 hr2
  go_enter Try.func8, Try.ntmps8
  go_upto_if 14 with ((go_at_call 10; refine (HA1.out _).mono ?_; rintro e w1 ⟨rfl, m, rfl⟩))
  go_cut [6] (fun v wx => ∃ k : Nat, v = .int .i64 k ∧ k < 65104 ∧ Aside0 (k < 7 ∨ 4103 < k) ∧ Aside0 (wx.heap[W.heap.size]? = some (.cells #[.slice none 0 0, .bool false] 47 (0, 0))) ∧ Aside0 (Below W.heap.size W wx))
  case first =>
    have HX1 := Aside0.mk (blk_drewN hX.out m)
    have HB1 := Aside0.mk (pw_below_drewN hB0.out m)
    go_wp2_with ((go_at_call 10; refine (HA2.out _).mono ?_; rintro e w2 ⟨rfl, m2, rfl⟩))
    · go_meet
      case rel => exact ⟨4104 + k2, by go_num, by omega, ⟨.inr (by omega)⟩, ⟨blk_drewN hX.out _⟩, ⟨pw_below_drewN hB0.out _⟩⟩
    · go_meet
      case rel => exact ⟨k1, rfl, by omega, ⟨.inl hk1⟩, HX1, HB1⟩
  case rest =>
    clear hX hB0 HA1 HA2
    obtain ⟨k, rfl, hk, hk7, hX, hB⟩ := hcut
    have hi1 : k / 256 < 256 := by omega
    have lo1 : k % 256 < 256 := by omega
    have hkk : ((k / 256 : Nat) : Int) * 256 + ((k % 256 : Nat) : Int) = (k : Int) := by omega
    obtain ⟨x, hx⟩ : ∃ z, k / 256 = z := ⟨_, rfl⟩
    obtain ⟨y, hy⟩ : ∃ z, k % 256 = z := ⟨_, rfl⟩
    have ex : (k : Int) / 256 = (x : Int) := by rw [← hx]; omega
    have ey : (k : Int) % 256 = (y : Int) := by rw [← hy]; omega
    rw [hx, hy] at hkk
    rw [hx] at hi1
    rw [hy] at lo1
    have HKK := Aside0.mk hkk
    clear hkk hx hy
    rename World => wd
    have hbx : Bd [(x : Int)] := fun b hb => by
      rw [List.mem_singleton] at hb
      subst hb
      omega
    have hby : Bd [(y : Int)] := fun b hb => by
      rw [List.mem_singleton] at hb
      subst hb
      omega
    have hk8 : (x : Int) * 256 + (y : Int) < 7 ∨ 4103 < (x : Int) * 256 + (y : Int) := by
      have h1 := HKK.out
      have h2 := hk7.out
      omega
    have hP1 := fun w (hb : Below W.heap.size W w) (hG : w.heap[W.heap.size]? = some (.cells #[.slice none ([] : List Int).length 0, .bool false] 47 (0, 0))) => put_calls W (w.alloc (.cells #[.int .u8 (x : Int)] 5)) W.heap.size none 0 [] (some ⟨w.heap.size, 0, none⟩) 1 [(x : Int)] (below_alloc hb _) (Nat.le_refl _) (blk_alloc hG _) (Kd.R_nil _ _ _ _ _) (C_one w x) (Nat.le_refl _) (fun b hb => by simp at hb) hbx (by simp)
    have HP1 := Aside0.mk hP1
    rw [List.nil_append, sp_one, rb_one] at HP1
    have hP2 := fun w (hb : Below W.heap.size W w) A c (hG : w.heap[W.heap.size]? = some (.cells #[.slice A [(x : Int)].length c, .bool false] 47 (0, 0))) (hR : (Kd.int .u8).R 5 w W.heap.size (fun _ => True) (.slice A [(x : Int)].length c) [(x : Int)]) => put_calls W (w.alloc (.cells #[.int .u8 (y : Int)] 5)) W.heap.size A c [(x : Int)] (some ⟨w.heap.size, 0, none⟩) 1 [(y : Int)] (below_alloc hb _) (Nat.le_refl _) (blk_alloc hG _) (Kd.R_alloc hR _) (C_one w y) (Nat.le_refl _) hbx hby (by simp)
    have HP2 := Aside0.mk hP2
    rw [show [(x : Int)] ++ [(y : Int)] = [(x : Int), (y : Int)] from rfl, sp_two _ _ hk8, rb_two _ _ hk8] at HP2
    clear hbx hby hk8 hP1 hP2 hk7
    go_wp2_with (fail)
    refine (HP1.out _ hB.out hX.out).mono ?_
    rintro e w1 ⟨vl, A2, c2, rfl, hRl, hG2, hR2, hb2, hk2⟩
    obtain ⟨Al, cl, hvl⟩ := Kd.R_slice hRl
    subst hvl
    have HG2 := Aside0.mk (show w1.heap[W.heap.size]? = some (.cells #[.slice A2 1 c2, .bool false] 47 (0, 0)) from hG2)
    have HB2 := Aside0.mk hb2
    have HP3 := Aside0.mk (HP2.out w1 hb2 A2 c2 hG2 (Kd.R_mono hR2 (fun _ _ => trivial)))
    rw [show ([] : List S24).length = 0 from rfl]
    clear hRl hG2 hR2 hb2 hk2 HP1 HP2 hX hB
    go_wp2_with (first
      | (go_at_call 25; refine (broken_calls W.heap.size _ false _ HG2.out).mono ?_; rintro e w2 ⟨rfl, hw2⟩; subst hw2)
      | (go_at_call 26; refine (left_calls W.heap.size A2 1 c2 _ _ HG2.out).mono ?_; rintro e w2 ⟨rfl, hw2⟩; subst hw2))
    refine HP3.out.mono ?_
    rintro e w3 ⟨vl3, A3, c3, rfl, hRl, hG3, hR3, hb3, hk3⟩
    obtain ⟨Al3, cl3, hvl⟩ := Kd.R_slice hRl
    subst hvl
    have HG3 := Aside0.mk (show w3.heap[W.heap.size]? = some (.cells #[.slice A3 0 c3, .bool true] 47 (0, 0)) from hG3)
    have HB3 := Aside0.mk hb3
    rw [show ([] : List S24).length = 0 from rfl]
    clear hRl hG3 hR3 hb3 hk3 HP3 HG2
    go_upto_block 0 with (first
      | (go_at_call 25; refine (broken_calls W.heap.size _ true _ HG3.out).mono ?_; rintro e w4 ⟨rfl, hw4⟩; subst hw4)
      | (go_at_call 26; refine (left_calls W.heap.size A3 0 c3 _ _ HG3.out).mono ?_; rintro e w4 ⟨rfl, hw4⟩; subst hw4))
    rename World => wy
    go_wp2_with (fail)
    go_loopw [7] (fun i wr => ∃ j : Nat, i = .int .i64 j ∧ j ≤ N ∧ j ≤ 3 ∧ Aside0 (wr.heap[W.heap.size]? = some (.cells #[.slice A3 0 c3, .bool true] 47 (0, 0))) ∧ Aside0 (Below W.heap.size W wr)) (fun i _ => 3 - (intOf i).toNat)
    case atStart => exact ⟨0, rfl, by omega, by omega, HG3, HB3⟩
    case round =>
      clear HG3 HB3
      obtain ⟨j, rfl, hjN, hj3, hG3, hB3⟩ := hrel
      by_cases hlt : j < N
      · have hlt' : decide ((j : Int) < (N : Int)) = true := decide_eq_true (by omega)
        by_cases hl4 : j < 3
        · have hl4' : decide ((j : Int) < 3) = true := decide_eq_true (by omega)
          have hkl : j < l1.length := by rw [HN.out]; exact hlt
          obtain ⟨ad, hA⟩ : ∃ ad, A1 = some ad := by
            obtain ⟨ad, h, _⟩ := HC1.out.2.2 (by omega)
            exact ⟨ad, h⟩
          subst hA
          obtain ⟨A7, c7, h0, h1, h2, h3, h4⟩ := cells24 (by have := Kd.C_below HC1.out hB3.out; rw [← HN.out] at this; exact this) j hkl
          have hy := HG.out l1[j] (List.getElem_mem hkl)
          obtain ⟨z, hz⟩ : ∃ z, l1[j] = z := ⟨_, rfl⟩
          rw [hz] at h0 h1 h2 h3 h4 hy
          have HGW := Aside0.mk (fun w hw => good_write 20 (by omega) z hy A7 c7 wr w h4 h3 hw)
          have HGo := Aside0.mk (fun w => good_calls z.f0 z.f1 A7 c7 z.f2 20 w (by omega) h3)
          rw [show (20 : Int).toNat = 20 from rfl] at HGo
          obtain ⟨TL, hTL⟩ : ∃ q, (z.f2.take 20).length = q := ⟨_, rfl⟩
          obtain ⟨YL, hYL⟩ : ∃ q, z.f2.length = q := ⟨_, rfl⟩
          rw [hTL] at HGo HGW
          rw [hYL] at h2 HGo
          clear hkl hy h3 h4 hTL hYL hz
          go_wp2_with (fail)
          refine (HGo.out _).mono ?_
          rintro e wa ⟨rfl, hb1⟩
          have HB1 := Aside0.mk hb1
          clear hb1
          go_wp2_with (fail)
          refine (HGW.out _ HB1.out).mono ?_
          rintro e wb ⟨v2, rfl, hR2, hb2⟩
          obtain ⟨A8, c8, hv2⟩ := Kd.R_slice hR2
          subst hv2
          have HB12 := Aside0.mk (below_step HB1.out hb2)
          have HBb := Aside0.mk (below_step hB3.out HB12.out)
          have HGb := Aside0.mk (blk_below hG3.out HB12.out)
          clear hR2 hb2 HGW HGo
          go_wp2_with (first
            | (go_at_call 24; refine (put_broken W.heap.size _ _ _ HGb.out).mono ?_; rintro e w4 ⟨rfl, hw4⟩; subst hw4)
            | (go_at_call 25; refine (broken_calls W.heap.size _ true _ HGb.out).mono ?_; rintro e w4 ⟨rfl, hw4⟩; subst hw4)
            | (go_at_call 26; refine (left_calls W.heap.size A3 0 c3 _ _ HGb.out).mono ?_; rintro e w4 ⟨rfl, hw4⟩; subst hw4))
          go_roundw
          case rel => exact ⟨j + 1, by go_num, by omega, by omega, HGb, HBb⟩
          case measure => simp [intOf]; omega
        · obtain rfl : j = 3 := by omega
          clear hl4 hj3
          go_wp2_with (fail)
          refine (lives_calls _).mono ?_
          rintro e w8 ⟨rfl, hb8⟩
          have HB8 := Aside0.mk (below_step hB3.out hb8)
          clear hb8
          go_wp2_with (fail)
          go_ret
          exact ⟨rfl, HB8.out⟩
      · obtain rfl : j = N := by omega
        clear hlt
        go_wp2_with (fail)
        refine (lives_calls _).mono ?_
        rintro e w8 ⟨rfl, hb8⟩
        have HB8 := Aside0.mk (below_step hB3.out hb8)
        clear hb8
        go_wp2_with (fail)
        go_ret
        exact ⟨rfl, HB8.out⟩

theorem fb_law (a0 : Int) (A1 : Option Addr) (c1 : Nat) (l1 : List S24) (W : World) (w0 : (Lit.int .i64 a0).wf = true) (hl1 : l1.length ≤ c1) (hC1 : k24.C W A1 l1.length l1) (G1 : l1.length ≤ maxLen ∧ ∀ y ∈ l1, MsgG y) :
    Calls Try.prog 8 #[.int .i64 a0, .slice A1 l1.length c1] W fun e W' => e = .returned (.bool true) ∧ Below W.heap.size W W' :=
  fb_walk a0 A1 c1 l1 W (Go.bounds_i64 w0) hl1 hC1 G1.2

end Go.Proofs.Ytligkikcfmploaa.FP

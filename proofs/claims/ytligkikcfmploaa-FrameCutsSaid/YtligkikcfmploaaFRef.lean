/- The reference's Read (chapter 7): what it tells, and that it writes nothing. -/
import Derived.Test.YtligkikcfmploaaFRead
namespace Go.Proofs.Ytligkikcfmploaa.FP
open Go.RowKit Go.Proofs.YtligkikcfmploaaW.PrintWords Go.Proofs.YtligkikcfmploaaW.PrintLast Go.Proofs.YtligkikcfmploaaW.PrintMore
open Go.Proofs.Ytligkikcfmploaa.PFrameCuts Go.Proofs.Ytligkikcfmploaa.Base
attribute [local go_sem] Oper.semAt_some max2_int min2_int max_two min_two
set_option linter.unusedVariables false
set_option linter.unusedSimpArgs false

theorem byte_cell' {ad : Addr} {l : List Int} {w : World} (hC : (Kd.int .u8).C w (some ad) l.length l) (j : Nat) (h0 : 0 < j) (hj : j < l.length) : w.cell? ⟨ad.block, ad.off + j, none⟩ = some (.int .u8 (l.getD j 0)) := by
  have h := byte_cell hC j hj
  have e : ad.add j = ⟨ad.block, ad.off + j, none⟩ := by
    obtain ⟨m, rfl⟩ : ∃ m, j = m + 1 := ⟨j - 1, by omega⟩
    simp [Addr.add]
  rw [e] at h
  exact h
theorem byte_cell0 {ad : Addr} {l : List Int} {w : World} (hC : (Kd.int .u8).C w (some ad) l.length l) (hj : 0 < l.length) : w.cell? ad = some (.int .u8 (l.getD 0 0)) := by
  have h := byte_cell hC 0 hj
  have e : ad.add 0 = ad := by simp [Addr.add]
  rw [e] at h
  exact h

/-- A message that is told, its Body read where the bytes (l, at A) lie. -/
def RRd (W : World) (A : Option Addr) (l : List Int) (op id n er : Int) (bd : List Int) (e : Ending) (W' : World) : Prop :=
  ∃ A' c, e = .returned (.tuple #[.agg #[.int .i64 op, .int .i64 id, .slice A' bd.length c], .int .i64 n, .int .i64 er]) ∧ (∀ w, (Kd.int .u8).C w A l.length l → (Kd.int .u8).C w A' bd.length bd) ∧ bd.length ≤ c ∧ Below W.heap.size W W'
theorem RRd_none (W : World) (A : Option Addr) (l : List Int) (er : Int) (W' : World) (h : Below W.heap.size W W') : RRd W A l 0 0 0 er [] (.returned (.tuple #[.agg #[.int .i64 0, .int .i64 0, .slice none 0 0], .int .i64 0, .int .i64 er])) W' :=
  ⟨none, 0, rfl, fun _ _ => ⟨rfl, Nat.zero_le _, fun h => absurd h (Nat.lt_irrefl 0)⟩, Nat.le_refl _, h⟩

set_option maxRecDepth 100000 in
set_option maxHeartbeats 16000000 in
theorem rread_calls (A : Option Addr) (c : Nat) (l : List Int) (W : World) (hC : (Kd.int .u8).C W A l.length l) (hc : l.length ≤ c) (hb : Bd l) :
    Calls Try.prog 20 #[.slice A l.length c] W (RRd W A l (if rerr l = 0 then l.getD 2 0 else 0) (if rerr l = 0 then id4 l else 0) (if rerr l = 0 then len2 l else 0) (rerr l) (if rerr l = 0 then (l.take (len2 l).toNat).drop 7 else [])) := by
  have hu24 := Try.underlying24
  have hX := blk_new W (.cells #[.int .i64 0, .int .i64 0, .slice none 0 0] 24)
  have HX := Aside0.mk hX
  have HB1 := Aside0.mk (below_alloc (Below.refl W.heap.size W) (.cells #[.int .i64 0, .int .i64 0, .slice none 0 0] 24))
  obtain ⟨x0, x1, x2, f0, f1, f2⟩ := cells3 hX
  by_cases h2 : l.length < 2
  · have e : rerr l = 3 := by unfold rerr; rw [if_pos h2]
    rw [e, if_neg (by decide), if_neg (by decide), if_neg (by decide), if_neg (by decide)]
    have d1 : decide ((l.length : Int) < 2) = true := decide_eq_true (by omega)
    have hn : l.length < 2 := h2
    obtain ⟨N, hN⟩ : ∃ N, l.length = N := ⟨_, rfl⟩
    rw [hN] at d1 hn ⊢
    clear hC hc hb hX h2 e hN
    go_enter Try.func20, Try.ntmps20
    go_wp2_with (fail)
    exact bodyPost_ret (results_list (rs := [.cell 2 24, .tmp 3, .tmp 4]) rfl (by simp) (res3 (g := W.heap.size) (a := 0) (b := 0) (v := .slice none 0 0) HX.out rfl rfl rfl)) rfl (RRd_none W _ l 3 _ HB1.out)
  · have hl2 : 2 ≤ l.length := by omega
    obtain ⟨ad, hA⟩ : ∃ ad, A = some ad := by
      obtain ⟨ad, h, _⟩ := hC.2.2 (by omega)
      exact ⟨ad, h⟩
    subst hA
    have c0 := pw_cell_below HB1.out (byte_cell0 hC (by omega))
    have c1 := pw_cell_below HB1.out (byte_cell' hC 1 (by omega) (by omega))
    have hlb := len2_bd hb
    have b0r := hb.at_ 0
    have b1r := hb.at_ 1
    have hlen2 : len2 l = l.getD 0 0 * 256 + l.getD 1 0 := rfl
    obtain ⟨b0, hb0⟩ : ∃ o, l.getD 0 0 = o := ⟨_, rfl⟩
    obtain ⟨b1, hb1⟩ : ∃ o, l.getD 1 0 = o := ⟨_, rfl⟩
    rw [hb0] at c0 b0r hlen2
    rw [hb1] at c1 b1r hlen2
    have d1 : decide ((l.length : Int) < 2) = false := decide_eq_false (by omega)
    have hnn : ¬ (l.length : Int) < 2 := by omega
    have hi0 : (0 : Int) < (l.length : Int) := by omega
    have hi1 : (1 : Int) < (l.length : Int) := by omega
    have HC := Aside0.mk hC
    have Hc := Aside0.mk hc
    have HBD := Aside0.mk hb
    obtain ⟨n, hn⟩ : ∃ n, len2 l = n := ⟨_, rfl⟩
    have HN := Aside0.mk hn
    rw [hn] at hlb hlen2 ⊢
    have v0 : IntKind.i64.wrap b0 = b0 := IntWalk.i64_in _ (by omega)
    have v1 : IntKind.i64.wrap b1 = b1 := IntWalk.i64_in _ (by omega)
    have v2 : IntKind.i64.wrap (b0 * 256) = b0 * 256 := IntWalk.i64_in _ (by omega)
    have v3 : IntKind.i64.wrap (b0 * 256 + b1) = n := by rw [hlen2]; exact IntWalk.i64_in _ (by omega)
    have hrr : rerr l = if n < 7 ∨ 4103 < n then 2 else if (l.length : Int) < n then 3 else 0 := by unfold rerr; rw [if_neg h2, hn]
    by_cases h7 : n < 7
    · have er : rerr l = 2 := by rw [hrr, if_pos (.inl h7)]
      rw [er, if_neg (by decide), if_neg (by decide), if_neg (by decide), if_neg (by decide)]
      have d2 : decide (n < 7) = true := decide_eq_true h7
      obtain ⟨N, hN⟩ : ∃ N, l.length = N := ⟨_, rfl⟩
      rw [hN] at d1 hnn hi0 hi1 ⊢
      clear hC hc hb hX h2 hN er hrr hn hlb hl2 hlen2 b0r b1r
      go_enter Try.func20, Try.ntmps20
      go_wp2_with (fail)
      go_quiet (fail)
      go_wp2
      exact bodyPost_ret (results_list (rs := [.cell 2 24, .tmp 3, .tmp 4]) rfl (by simp) (res3 (g := W.heap.size) (a := 0) (b := 0) (v := .slice none 0 0) (set3_blk (blk_drewN HX.out nq)) rfl rfl rfl)) rfl (RRd_none W _ l 2 _ (set3_below (pw_below_drewN HB1.out nq) (Nat.le_refl _)))
    · have d2 : decide (n < 7) = false := decide_eq_false h7
      by_cases h41 : 4103 < n
      · have er : rerr l = 2 := by rw [hrr, if_pos (.inr h41)]
        rw [er, if_neg (by decide), if_neg (by decide), if_neg (by decide), if_neg (by decide)]
        have d3 : decide (n > 4103) = true := decide_eq_true h41
        obtain ⟨N, hN⟩ : ∃ N, l.length = N := ⟨_, rfl⟩
        rw [hN] at d1 hnn hi0 hi1 ⊢
        clear hC hc hb hX h2 hN er hrr hn hlb hl2 hlen2 b0r b1r
        go_enter Try.func20, Try.ntmps20
        go_wp2_with (fail)
        go_quiet (fail)
        go_wp2
        exact bodyPost_ret (results_list (rs := [.cell 2 24, .tmp 3, .tmp 4]) rfl (by simp) (res3 (g := W.heap.size) (a := 0) (b := 0) (v := .slice none 0 0) (set3_blk (blk_drewN HX.out nq)) rfl rfl rfl)) rfl (RRd_none W _ l 2 _ (set3_below (pw_below_drewN HB1.out nq) (Nat.le_refl _)))
      · have d3 : decide (n > 4103) = false := decide_eq_false h41
        by_cases hs : (l.length : Int) < n
        · have er : rerr l = 3 := by rw [hrr, if_neg (by omega), if_pos hs]
          rw [er, if_neg (by decide), if_neg (by decide), if_neg (by decide), if_neg (by decide)]
          have d4 : decide (n > (l.length : Int)) = true := decide_eq_true hs
          obtain ⟨N, hN⟩ : ∃ N, l.length = N := ⟨_, rfl⟩
          rw [hN] at d1 d4 hnn hi0 hi1 ⊢
          clear hC hc hb hX h2 hN er hrr hn hlb hl2 hlen2 b0r b1r hs
          go_enter Try.func20, Try.ntmps20
          go_wp2_with (fail)
          go_quiet (fail)
          go_wp2
          exact bodyPost_ret (results_list (rs := [.cell 2 24, .tmp 3, .tmp 4]) rfl (by simp) (res3 (g := W.heap.size) (a := 0) (b := 0) (v := .slice none 0 0) (set3_blk (blk_drewN HX.out nq)) rfl rfl rfl)) rfl (RRd_none W _ l 3 _ (set3_below (pw_below_drewN HB1.out nq) (Nat.le_refl _)))
        · have er : rerr l = 0 := by rw [hrr, if_neg (by omega), if_neg hs]
          rw [er, if_pos rfl, if_pos rfl, if_pos rfl, if_pos rfl]
          have d4 : decide (n > (l.length : Int)) = false := decide_eq_false hs
          have hl7 : 7 ≤ l.length := by omega
          obtain ⟨A7, c7, hcut7, hC7, hc7⟩ := cut_rd' (some ad) c l hc 7 n (by omega) (by omega) (by omega)
          rw [show (7 : Int).toNat = 7 from rfl] at hcut7 hC7 hc7
          have b2r := hb.at_ 2
          have b3r := hb.at_ 3
          have b4r := hb.at_ 4
          have b5r := hb.at_ 5
          have b6r := hb.at_ 6
          have hC1 := Kd.C_below hC HB1.out
          have c2 := byte_cell' hC1 2 (by omega) (by omega)
          have c3 := byte_cell' hC1 3 (by omega) (by omega)
          have c4 := byte_cell' hC1 4 (by omega) (by omega)
          have c5 := byte_cell' hC1 5 (by omega) (by omega)
          have c6 := byte_cell' hC1 6 (by omega) (by omega)
          have hid4 : id4 l = l.getD 3 0 * 16777216 + l.getD 4 0 * 65536 + l.getD 5 0 * 256 + l.getD 6 0 := rfl
          obtain ⟨b2, hb2⟩ : ∃ o, l.getD 2 0 = o := ⟨_, rfl⟩
          obtain ⟨b3, hb3⟩ : ∃ o, l.getD 3 0 = o := ⟨_, rfl⟩
          obtain ⟨b4, hb4⟩ : ∃ o, l.getD 4 0 = o := ⟨_, rfl⟩
          obtain ⟨b5, hb5⟩ : ∃ o, l.getD 5 0 = o := ⟨_, rfl⟩
          obtain ⟨b6, hb6⟩ : ∃ o, l.getD 6 0 = o := ⟨_, rfl⟩
          rw [hb2] at c2 b2r ⊢
          rw [hb3] at c3 b3r hid4
          rw [hb4] at c4 b4r hid4
          rw [hb5] at c5 b5r hid4
          rw [hb6] at c6 b6r hid4
          obtain ⟨i4, hi4⟩ : ∃ o, id4 l = o := ⟨_, rfl⟩
          rw [hi4] at hid4 ⊢
          obtain ⟨bd, hbd⟩ : ∃ o, (l.take n.toNat).drop 7 = o := ⟨_, rfl⟩
          rw [hbd] at hcut7 hC7 hc7 ⊢
          have w2 : IntKind.i64.wrap b2 = b2 := IntWalk.i64_in _ (by omega)
          have w3 : IntKind.i64.wrap b3 = b3 := IntWalk.i64_in _ (by omega)
          have w4 : IntKind.i64.wrap b4 = b4 := IntWalk.i64_in _ (by omega)
          have w5 : IntKind.i64.wrap b5 = b5 := IntWalk.i64_in _ (by omega)
          have w6 : IntKind.i64.wrap b6 = b6 := IntWalk.i64_in _ (by omega)
          have m3 : IntKind.i64.wrap (b3 * 16777216) = b3 * 16777216 := IntWalk.i64_in _ (by omega)
          have m4 : IntKind.i64.wrap (b4 * 65536) = b4 * 65536 := IntWalk.i64_in _ (by omega)
          have m5 : IntKind.i64.wrap (b5 * 256) = b5 * 256 := IntWalk.i64_in _ (by omega)
          have a1 : IntKind.i64.wrap (b3 * 16777216 + b4 * 65536) = b3 * 16777216 + b4 * 65536 := IntWalk.i64_in _ (by omega)
          have a2 : IntKind.i64.wrap (b3 * 16777216 + b4 * 65536 + b5 * 256) = b3 * 16777216 + b4 * 65536 + b5 * 256 := IntWalk.i64_in _ (by omega)
          have a3 : IntKind.i64.wrap (b3 * 16777216 + b4 * 65536 + b5 * 256 + b6) = i4 := by rw [hid4]; exact IntWalk.i64_in _ (by omega)
          have hi2 : (2 : Int) < (l.length : Int) := by omega
          have hi3 : (3 : Int) < (l.length : Int) := by omega
          have hi4' : (4 : Int) < (l.length : Int) := by omega
          have hi5 : (5 : Int) < (l.length : Int) := by omega
          have hi6 : (6 : Int) < (l.length : Int) := by omega
          have HC7 := Aside0.mk hC7
          have Hc7 := Aside0.mk hc7
          have hC2 := pw_cell_below (pw_below_drewN (Below.refl _ _) 0) c2
          have K2 := Aside0.mk c2
          obtain ⟨L, hL⟩ : ∃ L, bd.length = L := ⟨_, rfl⟩
          have HL := Aside0.mk hL
          rw [hL] at hcut7
          obtain ⟨N, hN⟩ : ∃ N, l.length = N := ⟨_, rfl⟩
          rw [hN] at d1 d4 hnn hi0 hi1 hi2 hi3 hi4' hi5 hi6 hcut7 ⊢
          have hlt2 := Aside0.mk (World.block_lt_of_cell? W _ (byte_cell' hC 2 (by omega) (by omega)))
          clear hC hc hb hX h2 hN er hrr hn hlb hl2 hlen2 b0r b1r hs hl7 hC1 hid4 b2r b3r b4r b5r b6r hb0 hb1 hb2 hb3 hb4 hb5 hb6 hi4 hbd hL hC7 hc7 h7 h41 hC2
          go_enter Try.func20, Try.ntmps20
          go_wp2_with (fail)
          go_quiet (fail)
          rename Nat => nq1
          go_wp2
          go_quiet (fail)
          go_wp2
          have HS9 := Aside0.mk (kpN nq (kpN nq1 (And.intro K2.out HB1)))
          have HX9 := Aside0.mk (blk_drewN (blk_drewN HX.out nq1) nq)
          obtain ⟨y0, y1, y2, g0, g1, g2⟩ := cells3 HX9.out
          generalize ((W.alloc (.cells #[.int .i64 0, .int .i64 0, .slice none 0 0] 24)).drewN nq1).drewN nq = w9 at HS9 HX9 y0 y1 y2 g0 g1 g2 ⊢
          clear c0 c1 c2 c3 c4 c5 c6 x0 x1 x2 f0 f1 f2 v0 v1 v2 v3 w3 w4 w5 w6 m3 m4 m5 a1 a2 a3
          go_region_held3 (fun w' => w'.cell? ⟨ad.block, ad.off + 2, none⟩ = some (.int .u8 b2) ∧ Aside0 (Below W.heap.size W w')) (first | exact kpD HS9.out | exact kpS (Nat.le_refl _) hlt2.out (kpD HS9.out) | exact kpN _ HS9.out | exact kpS (Nat.le_refl _) hlt2.out (kpN _ HS9.out) | exact kpD (kpS (Nat.le_refl _) hlt2.out HS9.out))
            (fail)
          go_wp2
          exact bodyPost_ret (results_list (rs := [.cell 2 24, .tmp 3, .tmp 4]) rfl (by simp) (res3 (blk_drew (set3_blk HX9.out)) rfl rfl rfl)) rfl ⟨A7, c7, by rw [HL.out], HC7.out, Hc7.out, below_drew1 (set3_below HS9.out.2.out (Nat.le_refl _))⟩

end Go.Proofs.Ytligkikcfmploaa.FP

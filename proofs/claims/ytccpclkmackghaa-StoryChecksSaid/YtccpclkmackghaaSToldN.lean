/- The story of steps, up to the first error: told, Check, Index. -/
import Derived.Test.YtccpclkmackghaaSWalkN
namespace Go.Proofs.Ytccpclkmackghaa.SWN
open Go.RowKit Go.Proofs.YtccpclkmackghaaW.PrintWords Go.Proofs.YtccpclkmackghaaW.PrintLast Go.Proofs.YtccpclkmackghaaW.PrintMore
open Go.Proofs.Ytccpclkmackghaa.PStoryNo Go.Proofs.Ytccpclkmackghaa.SPN
attribute [local go_sem] Oper.semAt_some max2_int min2_int max_two min_two
set_option linter.unusedVariables false
set_option linter.unusedSimpArgs false

/-- The story of steps, and the first error. -/
def toldP : PS → List S31 → PS × Int
  | s, [] => (s, 0)
  | s, x :: l => if code s x.f0 x.f1 = 0 then toldP (nxt s x.f0 x.f1) l else (s, code s x.f0 x.f1)
theorem toldP_v : ∀ (l : List S31) (s : PS) (acc : List S24), V acc s → ∃ acc', V acc' (toldP s l).1 ∧ acc'.length ≤ acc.length + l.length
  | [], s, acc, h => ⟨acc, h, Nat.le_refl _⟩
  | x :: l, s, acc, h => by
    unfold toldP
    by_cases e : code s x.f0 x.f1 = 0
    · rw [if_pos e]
      obtain ⟨acc', h1, h2⟩ := toldP_v l _ _ (V.snoc ⟨x.f0, x.f1⟩ h e)
      exact ⟨acc', h1, by simp at h2 ⊢; omega⟩
    · rw [if_neg e]
      exact ⟨acc, h, by simp⟩
theorem toldP_sm (l : List S31) (hl : l.length ≤ 1000) : Sm (toldP ⟨0, 0, [], []⟩ l).1 := by
  obtain ⟨acc, h, ha⟩ := toldP_v l _ [] V.nil
  exact h.sm (by simp at ha; omega)
/-- Steps that may be: told whole. -/
theorem toldP_run : ∀ (r l : List S24) (s : PS), V (l ++ r) (run (l ++ r)) → toldP (run l) (r.map (fun x => ⟨x.f0, x.f1⟩)) = (run (l ++ r), 0)
  | [], l, s, h => by rw [List.append_nil]; rfl
  | x :: r, l, s, h => by
    have hc := h.code_at l.length (by simp)
    rw [List.take_left] at hc
    rw [show (l ++ x :: r)[l.length]'(by simp) = x from by simp] at hc
    rw [List.map_cons, toldP]
    dsimp only
    rw [if_pos hc]
    have e : l ++ x :: r = (l ++ [x]) ++ r := by simp
    have := toldP_run r (l ++ [x]) s (by rw [← e]; exact h)
    rw [run_snoc] at this
    rw [this, e]

/-- The cells of one step of a row. -/
theorem cells31 {ad : Addr} {l : List S31} {w : World} (hC : k31.C w (some ad) l.length l) (j : Nat) (hj : j < l.length) :
    w.cell? (ad.add (j * 2)) = some (.int .i64 l[j].f0) ∧ w.cell? ⟨(ad.add (j * 2)).block, (ad.add (j * 2)).off + 1, none⟩ = some (.int .i64 l[j].f1) := by
  obtain ⟨ad', e, h0, h1⟩ := at_T31 hC (j : Int) (by omega) (by omega)
  injection e with e
  subst e
  have hr : rd_T31 l (j : Int) = l[j] := by unfold rd_T31; simp [List.getElem?_eq_getElem hj]
  rw [hr, Int.toNat_natCast] at h0 h1
  exact ⟨h0, h1⟩

set_option maxRecDepth 100000 in
set_option maxHeartbeats 8000000 in
theorem told_calls (A : Option Addr) (c : Nat) (l : List S31) (W : World) (hC : k31.C W A l.length l) (hl : l.length ≤ 1000) :
    Calls Try.prog 37 #[.slice A l.length c] W fun e W' => ∃ g, e = .returned (.tuple #[.pointer (some ⟨g, 0, none⟩), .int .i64 (toldP ⟨0, 0, [], []⟩ l).2]) ∧
      St W' W.heap.size g (fun k => W.heap.size ≤ k) (toldP ⟨0, 0, [], []⟩ l).1 ∧ Below W.heap.size W W' := by
  have hu31 := Try.underlying31
  obtain ⟨N, hN⟩ : ∃ N, l.length = N := ⟨_, rfl⟩
  obtain ⟨res, hres⟩ : ∃ r, toldP ⟨0, 0, [], []⟩ l = r := ⟨_, rfl⟩
  have HC := Aside0.mk hC
  have HN := Aside0.mk hN
  rw [hN] at hl ⊢
  rw [hres]
  have HRES := Aside0.mk hres
  clear hC hN hres
  go_enter Try.func37, Try.ntmps37
  go_wp2_with (fail)
  refine (new_calls W).mono ?_
  rintro e W1 ⟨g, rfl, hS1, hb1⟩
  have HS1 := Aside0.mk hS1
  have HB1 := Aside0.mk hb1
  clear hS1 hb1
  go_wp2_with (fail)
  go_loopw [11] (fun i wr => ∃ (j : Nat) (s : PS) (acc : List S24), i = .int .i64 j ∧ j ≤ N ∧ Aside0 (St wr W.heap.size g (fun k => W.heap.size ≤ k) s) ∧ Aside0 (Below W.heap.size W wr) ∧ Aside0 (V acc s ∧ acc.length = j) ∧ Aside0 (toldP s (l.drop j) = res)) (fun i _ => N - (intOf i).toNat)
  case atStart => exact ⟨0, _, [], rfl, by omega, HS1, HB1, ⟨V.nil, rfl⟩, ⟨by rw [List.drop_zero]; exact HRES.out⟩⟩
  case round =>
    clear HS1 HB1 HRES
    obtain ⟨j, s, acc, rfl, hj, hS, hB, hV, hR⟩ := hrel
    by_cases hlt : j < N
    · have hlt' : decide ((j : Int) < (N : Int)) = true := decide_eq_true (by omega)
      have hjl : j < l.length := by rw [HN.out]; exact hlt
      have hA : ∃ ad, A = some ad := by
        obtain ⟨ad, e, _⟩ := at_T31 HC.out (j : Int) (by omega) (by omega)
        exact ⟨ad, e⟩
      obtain ⟨ad, rfl⟩ := hA
      obtain ⟨h0, h1⟩ := cells31 (Kd.C_below HC.out hB.out) j hjl
      have hdr := List.drop_eq_getElem_cons hjl
      obtain ⟨y, hy⟩ : ∃ y, l[j] = y := ⟨_, rfl⟩
      rw [hy] at h0 h1 hdr
      have HDR := Aside0.mk hdr
      have v1 : IntKind.i64.wrap ((j : Int) + 1) = (j : Int) + 1 := IntWalk.i64_in _ (by omega)
      clear hdr hy hjl
      go_wp2_with (fail)
      have HB3 := Aside0.mk (below_alloc hB.out (.cells #[.int .i64 y.f0, .int .i64 y.f1] 31))
      have HS3 := Aside0.mk (hS.out.below (below_alloc (Below.refl wr.heap.size wr) (.cells #[.int .i64 y.f0, .int .i64 y.f1] 31)))
      refine (add_B W _ g s y.f0 y.f1 HB3.out HS3.out (hV.out.1.sm (by rw [hV.out.2]; omega))).mono ?_
      obtain ⟨cd, hcd⟩ : ∃ cd, code s y.f0 y.f1 = cd := ⟨_, rfl⟩
      rw [hcd]
      rintro e W4 ⟨rfl, hS4, hb4⟩
      have HCD := Aside0.mk hcd
      have HS4 := Aside0.mk hS4
      have HB4 := Aside0.mk (HB3.out.trans hb4)
      clear hcd hS4 hb4 h0 h1
      by_cases e0 : cd = 0
      · subst e0
        have hS4 := HS4.out
        rw [stp, if_pos HCD.out] at hS4
        have HS5 := Aside0.mk hS4
        have hR5 := hR.out
        rw [HDR.out, toldP, if_pos HCD.out] at hR5
        have HR5 := Aside0.mk hR5
        have HV5 := Aside0.mk (V.snoc ⟨y.f0, y.f1⟩ hV.out.1 HCD.out)
        have HL5 := hV.out.2
        clear hS4 hR5
        go_wp2_with (fail)
        go_roundw
        case rel => exact ⟨j + 1, _, acc ++ [⟨y.f0, y.f1⟩], by go_num, by omega, HS5, HB4, ⟨HV5.out, by simp [HL5]⟩, HR5⟩
        case measure => simp [intOf]; omega
      · have b0 : (cd != 0) = true := by rw [bne_iff_ne]; exact e0
        have hS4 := HS4.out
        rw [stp, if_neg (by rw [HCD.out]; exact e0)] at hS4
        have HS5 := Aside0.mk hS4
        have hR5 := hR.out
        rw [HDR.out, toldP, if_neg (by rw [HCD.out]; exact e0), HCD.out] at hR5
        subst hR5
        clear hS4 e0
        go_wp2_with (fail)
        go_ret2
        exact ⟨_, rfl, HS5.out, HB4.out⟩
    · obtain rfl : j = N := by omega
      have hlt2 : decide ((j : Int) < (j : Int)) = false := decide_eq_false (by omega)
      have hR5 := hR.out
      rw [List.drop_of_length_le (by rw [HN.out]; omega), toldP] at hR5
      subst hR5
      clear hlt
      go_wp2_with (fail)
      go_ret2
      exact ⟨_, rfl, hS.out, hB.out⟩

set_option maxHeartbeats 4000000 in
/-- What a frame shows. -/
theorem index_calls (A : Option Addr) (c : Nat) (l : List S31) (fr : Int) (W : World) (hC : k31.C W A l.length l) (hl : l.length ≤ 1000) :
    Calls Try.prog 30 #[.slice A l.length c, .int .i64 fr] W fun e W' => e = .returned (.tuple #[.int .i64 (if fr < 1 ∨ ((toldP ⟨0, 0, [], []⟩ l).1.f.length : Int) < fr then 0 else (toldP ⟨0, 0, [], []⟩ l).1.f.getD (fr - 1).toNat 0), .bool (decide (1 ≤ fr ∧ fr ≤ ((toldP ⟨0, 0, [], []⟩ l).1.f.length : Int)))]) ∧ Below W.heap.size W W' := by
  have HT := Aside0.mk (told_calls A c l W hC hl)
  have HSM := Aside0.mk (toldP_sm l hl)
  obtain ⟨res, hres⟩ : ∃ r, toldP ⟨0, 0, [], []⟩ l = r := ⟨_, rfl⟩
  obtain ⟨s, er⟩ := res
  rw [hres] at HT HSM ⊢
  dsimp only at HT HSM ⊢
  obtain ⟨N, hN⟩ : ∃ N, l.length = N := ⟨_, rfl⟩
  rw [hN] at HT ⊢
  obtain ⟨r1, hr1⟩ : ∃ r, (if fr < 1 ∨ (s.f.length : Int) < fr then 0 else s.f.getD (fr - 1).toNat 0) = r := ⟨_, rfl⟩
  obtain ⟨r2, hr2⟩ : ∃ r, decide (1 ≤ fr ∧ fr ≤ (s.f.length : Int)) = r := ⟨_, rfl⟩
  rw [hr1, hr2]
  have HR1 := Aside0.mk hr1
  have HR2 := Aside0.mk hr2
  clear hC hl hres hN hr1 hr2
  go_enter Try.func30, Try.ntmps30
  go_wp2_with (fail)
  refine HT.out.mono ?_
  rintro e W1 ⟨g, rfl, hS, hb⟩
  have HB := Aside0.mk hb
  obtain ⟨A2, c2, A3, c3, hG, hg, hok, hR2', hR3⟩ := hS
  have k3 := blk_cell hG 3
  have H3 := Aside0.mk hR3
  obtain ⟨M, hM⟩ : ∃ M, s.f.length = M := ⟨_, rfl⟩
  have HM := Aside0.mk hM
  have hm30 := HSM.out.f
  rw [hM] at k3 hm30
  clear hb hG hg hok hR2' hR3 hM HT
  by_cases h1 : fr < 1
  · have b1 : decide (fr < 1) = true := decide_eq_true h1
    obtain rfl : r1 = 0 := by rw [← HR1.out, if_pos (.inl h1)]
    obtain rfl : r2 = false := by rw [← HR2.out]; exact decide_eq_false (by omega)
    clear h1
    go_wp2_with (fail)
    go_ret2
    exact ⟨rfl, HB.out⟩
  · have b1 : decide (fr < 1) = false := decide_eq_false h1
    by_cases h2 : (M : Int) < fr
    · have b2 : decide (fr > (M : Int)) = true := decide_eq_true h2
      obtain rfl : r1 = 0 := by rw [← HR1.out, HM.out, if_pos (.inr h2)]
      obtain rfl : r2 = false := by rw [← HR2.out, HM.out]; exact decide_eq_false (by omega)
      clear h1 h2
      go_wp2_with (fail)
      go_ret2
      exact ⟨rfl, HB.out⟩
    · have b2 : decide (fr > (M : Int)) = false := decide_eq_false h2
      have e1 : r1 = s.f.getD (fr - 1).toNat 0 := by rw [← HR1.out, HM.out, if_neg (by omega)]
      obtain rfl : r2 = true := by rw [← HR2.out, HM.out]; exact decide_eq_true (by omega)
      have h3 := H3.out
      obtain ⟨g7, cap7, hv7, _, _, _⟩ := Kd.R_form h3 (by rw [HM.out]; omega)
      rw [hv7] at h3
      injection hv7 with hv1 hv2 hv3
      subst hv1
      obtain ⟨kc, _⟩ := Kd.R_cell (0 : Int) h3 (fr - 1) (by omega) (by rw [HM.out]; omega)
      rw [show rdOf 0 s.f (fr - 1) = r1 from e1.symm] at kc
      have v3 : IntKind.i64.wrap (fr - 1) = fr - 1 := IntWalk.i64_in _ (by omega)
      have hi0 : 0 ≤ fr - 1 := by omega
      have hi1 : fr - 1 < (M : Int) := by omega
      rw [show (fr - 1).toNat = fr.toNat - 1 from by omega] at kc
      clear h1 h2 e1 h3 hv2 hv3
      go_wp2_with (fail)
      go_ret2
      exact ⟨rfl, HB.out⟩

set_option maxHeartbeats 4000000 in
/-- How many steps may be. -/
theorem check_calls (A : Option Addr) (c : Nat) (l : List S31) (W : World) (hC : k31.C W A l.length l) (hl : l.length ≤ 1000) :
    Calls Try.prog 28 #[.slice A l.length c] W fun e W' => e = .returned (.tuple #[.int .i64 (toldP ⟨0, 0, [], []⟩ l).1.n, .int .i64 (toldP ⟨0, 0, [], []⟩ l).2]) ∧ Below W.heap.size W W' := by
  have HT := Aside0.mk (told_calls A c l W hC hl)
  obtain ⟨res, hres⟩ : ∃ r, toldP ⟨0, 0, [], []⟩ l = r := ⟨_, rfl⟩
  obtain ⟨s, er⟩ := res
  rw [hres] at HT ⊢
  dsimp only at HT ⊢
  obtain ⟨N, hN⟩ : ∃ N, l.length = N := ⟨_, rfl⟩
  rw [hN] at HT ⊢
  clear hC hl hres hN
  go_enter Try.func28, Try.ntmps28
  go_wp2_with (fail)
  refine HT.out.mono ?_
  rintro e W1 ⟨g, rfl, hS, hb⟩
  have HB := Aside0.mk hb
  obtain ⟨A2, c2, A3, c3, hG, hg, hok, hR2', hR3⟩ := hS
  have k0 := blk_cell hG 0
  clear hb hG hg hok hR2' hR3 HT
  go_wp2_with (fail)
  go_ret2
  exact ⟨rfl, HB.out⟩

end Go.Proofs.Ytccpclkmackghaa.SWN

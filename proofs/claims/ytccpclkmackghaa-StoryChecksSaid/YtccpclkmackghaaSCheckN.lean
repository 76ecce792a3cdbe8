/- The document's Check: the story, and the first error. -/
import Derived.Test.YtccpclkmackghaaSNoWalk
import Derived.Test.YtccpclkmackghaaSToldN
namespace Go.Proofs.Ytccpclkmackghaa.SNo
open Go.RowKit Go.Proofs.YtccpclkmackghaaW.PrintWords Go.Proofs.YtccpclkmackghaaW.PrintLast Go.Proofs.YtccpclkmackghaaW.PrintMore
open Go.Proofs.Ytccpclkmackghaa.PStoryNo Go.Proofs.Ytccpclkmackghaa.SPN Go.Proofs.Ytccpclkmackghaa.SWN
attribute [local go_sem] Oper.semAt_some max2_int min2_int max_two min_two
set_option linter.unusedVariables false
set_option linter.unusedSimpArgs false

/-- The cells of one step of a row. -/
theorem cells_at {ad : Addr} {l : List S24} {w : World} (hC : k24.C w (some ad) l.length l) (j : Nat) (hj : j < l.length) :
    w.cell? (ad.add (j * 2)) = some (.int .i64 l[j].f0) ∧ w.cell? ⟨(ad.add (j * 2)).block, (ad.add (j * 2)).off + 1, none⟩ = some (.int .i64 l[j].f1) := by
  obtain ⟨ad', e, h0, h1⟩ := at_T24 hC (j : Int) (by omega) (by omega)
  injection e with e
  subst e
  rw [rd_at l j hj, Int.toNat_natCast] at h0 h1
  exact ⟨h0, h1⟩

/-- A step, as the program has it. -/
def toS (x : S24) : S31 := ⟨x.f0, x.f1⟩

set_option maxRecDepth 100000 in
set_option maxHeartbeats 8000000 in
theorem refcheck_calls (A : Option Addr) (c : Nat) (l : List S24) (W : World) (hC : k24.C W A l.length l) (hl : l.length ≤ 1000) :
    Calls Try.prog 29 #[.slice A l.length c] W fun e W' => ∃ v, e = .returned (.tuple #[v, .int .i64 (toldP ⟨0, 0, [], []⟩ (l.map toS)).2]) ∧ ∃ acc,
      V acc (toldP ⟨0, 0, [], []⟩ (l.map toS)).1 ∧ acc.length ≤ l.length ∧ k24.R 24 W' W.heap.size (fun _ => True) v acc ∧ Below W.heap.size W W' := by
  have hu24 := Try.underlying24
  obtain ⟨N, hN⟩ : ∃ N, l.length = N := ⟨_, rfl⟩
  obtain ⟨res, hres⟩ : ∃ r, toldP ⟨0, 0, [], []⟩ (l.map toS) = r := ⟨_, rfl⟩
  have HC := Aside0.mk hC
  have HN := Aside0.mk hN
  rw [hN] at hl ⊢
  rw [hres]
  have HRES := Aside0.mk hres
  clear hC hN hres
  go_enter Try.func29, Try.ntmps29
  go_wp2_with (fail)
  go_loopw [4, 5] (fun v i wr => ∃ (j : Nat) (s : PS) (acc : List S24), i = .int .i64 j ∧ j ≤ N ∧ Aside0 (k24.R 24 wr W.heap.size (fun _ => True) v acc) ∧ Aside0 (Below W.heap.size W wr) ∧ Aside0 (V acc s ∧ acc.length = j) ∧ Aside0 (toldP s ((l.drop j).map toS) = res)) (fun _ i _ => N - (intOf i).toNat)
  case atStart => exact ⟨0, _, [], rfl, by omega, ⟨Kd.R_nil _ _ _ _ _⟩, ⟨Below.refl _ _⟩, ⟨V.nil, rfl⟩, ⟨by rw [List.drop_zero]; exact HRES.out⟩⟩
  case round =>
    clear HRES
    obtain ⟨j, s, acc, rfl, hj, hS, hB, hV, hR⟩ := hrel
    obtain ⟨Ar, cr, rfl⟩ := Kd.R_slice hS.out
    by_cases hlt : j < N
    · have hlt' : decide ((j : Int) < (N : Int)) = true := decide_eq_true (by omega)
      have hjl : j < l.length := by rw [HN.out]; exact hlt
      have hA : ∃ ad, A = some ad := by
        obtain ⟨ad, e, _⟩ := at_T24 HC.out (j : Int) (by omega) (by omega)
        exact ⟨ad, e⟩
      obtain ⟨ad, rfl⟩ := hA
      obtain ⟨h0, h1⟩ := cells_at (Kd.C_below HC.out hB.out) j hjl
      have hdr := List.drop_eq_getElem_cons hjl
      obtain ⟨y, hy⟩ : ∃ y, l[j] = y := ⟨_, rfl⟩
      rw [hy] at h0 h1 hdr
      have HDR := Aside0.mk hdr
      have v1 : IntKind.i64.wrap ((j : Int) + 1) = (j : Int) + 1 := IntWalk.i64_in _ (by omega)
      clear hdr hy hjl
      have hla : acc.length ≤ 100000 := by rw [hV.out.2]; omega
      have HLA := Aside0.mk hla
      have hRD := Kd.R_reads' hS.out
      obtain ⟨n0, hn0⟩ : ∃ n, acc.length = n := ⟨_, rfl⟩
      have HN0 := Aside0.mk hn0
      obtain ⟨cd, hcd⟩ : ∃ cd, code s y.f0 y.f1 = cd := ⟨_, rfl⟩
      have HCD := Aside0.mk hcd
      by_cases e0 : cd = 0
      · subst e0
        have hA := rondelref21_Add.calls (acc.length + 5) _ _ acc y.f0 y.f1 (acc ++ [⟨y.f0, y.f1⟩]) 0 W wr hB.out hS.out (by rw [add_f hV.out.1 HLA.out y.f0 y.f1 _ (Nat.le_refl _), hcd, if_pos rfl])
        rw [hn0] at hA ⊢
        have HA := Aside0.mk hA
        have hR5 := hR.out
        rw [HDR.out, List.map_cons, toldP] at hR5
        rw [if_pos (show code s (toS y).f0 (toS y).f1 = 0 from hcd)] at hR5
        have HR5 := Aside0.mk hR5
        have HV5 := Aside0.mk (V.snoc y hV.out.1 hcd)
        have HL5 := hV.out.2
        clear hA hR5 hn0 hcd hla hRD
        go_wp2_with (fail)
        refine HA.out.mono ?_
        rintro e W4 ⟨v4, rfl, hR4, hB4, hK4⟩
        have HR4 := Aside0.mk (Kd.R_mono hR4 (ok' := fun _ => True) (fun _ _ => trivial))
        have HB4 := Aside0.mk hB4
        clear hR4 hB4 hK4 HA h0 h1
        go_wp2_with (fail)
        go_roundw
        case rel => exact ⟨j + 1, _, acc ++ [y], by go_num, by omega, HR4, HB4, ⟨HV5.out, by simp [HL5]⟩, HR5⟩
        case measure => simp [intOf]; omega
      · have b0 : (cd != 0) = true := by rw [bne_iff_ne]; exact e0
        have hA := refadd_no Ar cr acc s y.f0 y.f1 wr hV.out.1 HLA.out hRD.2.2 hRD.2.1 (by rw [hcd]; exact e0)
        rw [hn0, hcd] at hA
        have HA := Aside0.mk hA
        have hR5 := hR.out
        rw [HDR.out, List.map_cons, toldP] at hR5
        rw [if_neg (show ¬ code s (toS y).f0 (toS y).f1 = 0 from by rw [show code s (toS y).f0 (toS y).f1 = cd from hcd]; exact e0), show code s (toS y).f0 (toS y).f1 = cd from hcd] at hR5
        subst hR5
        have hle : acc.length ≤ N := by rw [hV.out.2]; exact hj
        have HLE := Aside0.mk hle
        rw [hn0]
        clear hA hn0 hcd hla hRD e0 hle
        go_wp2_with (fail)
        refine HA.out.mono ?_
        rintro e W4 ⟨rfl, hb4⟩
        have hR4 := Kd.R_below hS.out hb4
        rw [HN0.out] at hR4
        have HR4 := Aside0.mk hR4
        have HB4 := Aside0.mk (below_step hB.out hb4)
        clear hR4 hb4 HA h0 h1
        go_wp2_with (fail)
        go_ret2
        exact ⟨_, rfl, acc, hV.out.1, HLE.out, HR4.out, HB4.out⟩
    · obtain rfl : j = N := by omega
      have hlt2 : decide ((j : Int) < (j : Int)) = false := decide_eq_false (by omega)
      have hR5 := hR.out
      rw [List.drop_of_length_le (by rw [HN.out]; omega), List.map_nil, toldP] at hR5
      subst hR5
      clear hlt
      go_wp2_with (fail)
      go_ret2
      exact ⟨_, rfl, acc, hV.out.1, by rw [hV.out.2]; exact Nat.le_refl _, hS.out, hB.out⟩

end Go.Proofs.Ytccpclkmackghaa.SNo

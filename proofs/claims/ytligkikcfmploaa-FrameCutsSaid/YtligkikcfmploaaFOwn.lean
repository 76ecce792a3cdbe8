/- frame.Split: what it tells. -/
import Derived.Test.YtligkikcfmploaaFSplit
namespace Go.Proofs.Ytligkikcfmploaa.FP
open Go.RowKit Go.Proofs.YtligkikcfmploaaW.PrintWords Go.Proofs.YtligkikcfmploaaW.PrintLast Go.Proofs.YtligkikcfmploaaW.PrintMore
open Go.Proofs.Ytligkikcfmploaa.PFrameCuts Go.Proofs.Ytligkikcfmploaa.Base
attribute [local go_sem] Oper.semAt_some max2_int min2_int max_two min_two
set_option linter.unusedVariables false
set_option linter.unusedSimpArgs false

set_option maxRecDepth 100000 in
set_option maxHeartbeats 16000000 in
theorem split_calls (A : Option Addr) (c : Nat) (l : List Int) (W : World) (hC : (Kd.int .u8).C W A l.length l) (hc : l.length ≤ c) (hb : Bd l) (hl : l.length ≤ 100000) :
    Calls Try.prog 21 #[.slice A l.length c] W (Spt W k24 (sp l).1 (sp l).2.1 (sp l).2.2) := by
  have hu24 := Try.underlying24
  have HT := Aside0.mk (Togo.start l)
  obtain ⟨ms, hms⟩ : ∃ x, (sp l).1 = x := ⟨_, rfl⟩
  obtain ⟨nn, hnn⟩ : ∃ x, (sp l).2.1 = x := ⟨_, rfl⟩
  obtain ⟨er, her⟩ : ∃ x, (sp l).2.2 = x := ⟨_, rfl⟩
  rw [hms, hnn, her] at HT ⊢
  have HC := Aside0.mk hC
  have Hc := Aside0.mk hc
  have HBD := Aside0.mk hb
  have hCut := fun lo hlo => cut_tl hC hc lo hlo
  obtain ⟨N, hN⟩ : ∃ N, l.length = N := ⟨_, rfl⟩
  rw [hN] at hl hCut ⊢
  have HN := Aside0.mk hN
  have HCut := Aside0.mk hCut
  clear hms hnn her hC hc hb hCut hN
  go_enter Try.func21, Try.ntmps21
  go_wp2_with (fail)
  go_step3
  go_wp2_with (fail)
  go_step3
  go_wp2_with (fail)
  go_loopw [5, 6] (fun v i wr => ∃ (k : Nat) (acc : List S24), i = .int .i64 k ∧ k ≤ N ∧ acc.length ≤ k ∧ Aside0 (k24.R 24 wr W.heap.size (fun _ => True) v acc) ∧ Aside0 (Below W.heap.size W wr) ∧ Aside0 (Togo l k acc ms nn er)) (fun _ i _ => N - (intOf i).toNat)
  case atStart => exact ⟨0, [], rfl, by omega, by simp, ⟨Kd.R_nil _ _ _ _ _⟩, ⟨Below.refl _ _⟩, HT⟩
  case round =>
    clear HT
    obtain ⟨k, acc, rfl, hk, hak, hR, hB, hT⟩ := hrel
    obtain ⟨A0, c0, hv0⟩ := Kd.R_slice hR.out
    subst hv0
    by_cases hlt : k < N
    · have hlt' : decide ((k : Int) < (N : Int)) = true := decide_eq_true (by omega)
      obtain ⟨A1', c1', _, hc1, _, _, hCr⟩ := HCut.out k (by omega)
      have hkl : k < l.length := by rw [HN.out]; exact hlt
      have hrl : (l.drop k).length = N - k := by rw [List.length_drop, HN.out]
      have HBr := Aside0.mk (HBD.out.drop k)
      have HTe := Aside0.mk (fun he => hT.out.err hkl he)
      have HTo := Aside0.mk (fun he => hT.out.ok he)
      have hre := Aside0.mk (fun he => rerr_ok (l := l.drop k) he)
      obtain ⟨m, hm⟩ : ∃ m, msg (l.drop k) = m := ⟨_, rfl⟩
      have hm0 : m.f0 = (l.drop k).getD 2 0 := by rw [← hm]; rfl
      have hm1 : m.f1 = id4 (l.drop k) := by rw [← hm]; rfl
      have hm2 : m.f2 = ((l.drop k).take (len2 (l.drop k)).toNat).drop 7 := by rw [← hm]; rfl
      rw [hm] at HTo
      have HC2 := Aside0.mk (Kd.C_below hCr hB.out)
      have HCW := Aside0.mk hCr
      have HRD := Aside0.mk (read_calls (if N = k then A else A.map (·.add k)) (l.drop k).length (l.drop k) wr HC2.out (Nat.le_refl _) HBr.out)
      obtain ⟨r, hr⟩ : ∃ r, l.drop k = r := ⟨_, rfl⟩
      obtain ⟨A', hA'⟩ : ∃ x, (if N = k then A else A.map (·.add k)) = x := ⟨_, rfl⟩
      rw [hA'] at hc1 hCr HC2 HCW HRD
      rw [hr] at hc1 hCr hrl HBr HTe HTo HC2 HCW HRD hm0 hm1 hm2 hre
      have HCr := Aside0.mk hCr
      obtain ⟨e, he⟩ : ∃ e, rerr r = e := ⟨_, rfl⟩
      obtain ⟨n, hn⟩ : ∃ n, len2 r = n := ⟨_, rfl⟩
      rw [he, hn] at HRD HTo hre
      rw [he] at HTe
      rw [hn] at hm2
      clear hCr hr hT he hn hA'
      by_cases e0 : e = 0
      · subst e0
        have HRD := HRD.out
        rw [if_pos rfl, if_pos rfl, if_pos rfl, if_pos rfl, ← hm0, ← hm1, ← hm2] at HRD
        have HRD' := Aside0.mk HRD
        have hnb := hre.out rfl
        rw [hrl] at hnb
        have HTo' := Aside0.mk (HTo.out rfl)
        clear HRD HTe HTo hre hm0 hm1 hm2 hm hrl
        go_wp2_with (fail)
        refine HRD'.out.mono ?_
        rintro e w2 ⟨v7, rfl, hR7, hb2⟩
        have HB2 := Aside0.mk (below_step hB.out hb2)
        have hb2' := Aside0.mk hb2
        obtain ⟨A7, c7, hv7⟩ := Kd.R_slice hR7
        subst hv7
        obtain ⟨L, hL⟩ : ∃ L, m.f2.length = L := ⟨_, rfl⟩
        have HL := Aside0.mk hL
        have HK := Aside0.mk (k24_mkM w2 W.heap.size (fun q => wr.heap.size ≤ q) m (Kd.R_lower (Kd.R_mono (Kd.R_bound hR7) (fun q hq => hq.2.1)) (below_size hB.out)))
        have hne : ∀ q, wr.heap.size ≤ q → some q ≠ (Value.slice A0 acc.length c0).ownBlock := fun q hq he => by
          obtain ⟨inner, ho⟩ := Kd.R_own hR.out
          have := own_lt ho q he.symm
          omega
        have HNE := Aside0.mk hne
        rw [hL] at HK ⊢
        clear hb2 hR7 hL hne
        go_wp2_with (((with_reducible refine gate_builtin (b := .append) (xs := #[.tmp 29, .tmp 31]) rfl ?_); at_builtin; go_must (refine Kd.R_append k24 (w0 := W) W.heap.size rfl (.tmp 29) (.tmp 31) 38 24 (.agg #[.int .i64 0, .int .i64 0, .slice none 0 0]) 40 rfl Try.underlying38 info24 rfl (Nat.succ_pos 2) (by decide) _ acc m [.int .i64 m.f0, .int .i64 m.f1, .slice A7 L c7] (fun _ => True) (fun q => wr.heap.size ≤ q) rfl ?aX ?aP ?aQ ?aF ?aO ?aB ?aS ?aL ?_); (case aX => exact congrArg (fun b => Value.slice (some ⟨b, 0, none⟩) 1 1) (by simp)); (case aP => exact Kd.M_below HK.out (below_alloc (Below.refl _ _) _)); (case aQ => exact fun q hq => ⟨trivial, HNE.out q hq⟩); (case aB => exact below_alloc HB2.out _); (case aF => exact (fun _ _ => trivial)); (case aO => exact Kd.R_alloc (Kd.R_below hR.out hb2'.out) _); (case aS => exact below_size (below_alloc HB2.out _)); (case aL => omega); intro v1 w8 ho hb8 hg hat; have hR1 := Aside0.mk ho; have hB1 := Aside0.mk hb8; clear ho hb8 hg hat))
        have hn7 := hnb
        trace_state
        exact ⟨⟨k + n.toNat, acc ++ [m], by rw [show (k : Int) + n = ((k + n.toNat : Nat) : Int) from by omega], by omega, by rw [List.length_append, List.length_singleton]; omega, hR1, hB1, HTo'⟩, by simp [intOf]; omega⟩
      · have b0 : (e == 0) = false := by rw [beq_eq_false_iff_ne]; exact e0
        have HRD := HRD.out
        rw [if_neg e0, if_neg e0, if_neg e0, if_neg e0] at HRD
        have HRD' := Aside0.mk HRD
        obtain ⟨rfl, rfl, rfl⟩ := HTe.out e0
        clear HRD HTe HTo hre hm0 hm1 hm2 hm hrl e0
        go_wp2_with (fail)
        refine HRD'.out.mono ?_
        rintro e w2 ⟨v7, rfl, hR7, hb2⟩
        obtain ⟨A7, c7, hv7⟩ := Kd.R_slice hR7
        subst hv7
        have HB2 := Aside0.mk (below_step hB.out hb2)
        have HR2 := Aside0.mk (Kd.R_below hR.out hb2)
        clear hR7 hb2
        go_wp2_with (fail)
        rw [Exit.noGoto_ret]
        go_ret3
        exact ⟨_, rfl, Kd.R_alloc HR2.out _, below_alloc HB2.out _⟩
    · obtain rfl : k = N := by omega
      have hlt2 : decide ((k : Int) < (k : Int)) = false := decide_eq_false (by omega)
      obtain ⟨rfl, rfl, rfl⟩ := hT.out.done (by rw [HN.out]; exact Nat.le_refl _)
      clear hlt
      go_wp2_with (fail)
      rw [Exit.noGoto_ret]
      go_ret3
      exact ⟨_, rfl, hR.out, hB.out⟩

end Go.Proofs.Ytligkikcfmploaa.FP

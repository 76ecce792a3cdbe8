/- Cut of the reference, and Pad: what they come to. -/
import Derived.Test.YtpmhbfelhjpalaaTCutP
import Derived.Test.YtpmhbfelhjpalaaTWideRefC
import Derived.Test.YtpmhbfelhjpalaaTJoinsWalk
import Derived.Test.YtpmhbfelhjpalaaRep
namespace Go.Proofs.Ytpmhbfelhjpalaa.TC
open Go.RowKit Go.Proofs.YtpmhbfelhjpalaaW.PrintWords Go.Proofs.YtpmhbfelhjpalaaW.PrintLast Go.Proofs.YtpmhbfelhjpalaaW.PrintMore
open Go.Proofs.Ytpmhbfelhjpalaa.PTitleCuts Go.Proofs.Ytpmhbfelhjpalaa.TP Go.Proofs.Ytpmhbfelhjpalaa.TJ Go.Proofs.Ytpmhbfelhjpalaa.TRC Go.Proofs.Ytpmhbfelhjpalaa.TWRC
open Go.Proofs.Ytpmhbfelhjpalaa.TW (cutAt_le cut_calls wide_calls)
attribute [local go_sem] max2_int min2_int max_two min_two
set_option linter.unusedVariables false
set_option linter.unusedSimpArgs false

theorem rcut_l0 (s : ByteArray) (hs : s.size < 4398046511104) (n : Int) (hn : n ≤ 9223372036854775807) : ∀ (d i e wide k : Nat), (sgs s 0).length - i = d → i ≤ (sgs s 0).length → (sgs s 0).drop i = sgs s e → e ≤ s.size → (wide : Int) ≤ n → wide ≤ 2 * i → cutAt s e (n - wide) = cutAt s 0 n → d + 8 ≤ k →
    rondelref06_Cut.l0 k s n ((sgs s 0).map rs) (e : Int) (wide : Int) (i : Int) = some (s.extract 0 (cutAt s 0 n)) := by
  have hlen := sgs_length s 0
  intro d
  induction d with
  | zero =>
    intro i e wide k hd hi hdr he hw hw2 hc hk
    obtain ⟨k, rfl⟩ : ∃ m, k = m + 1 := ⟨k - 1, by omega⟩
    simp only [rondelref06_Cut.l0, List.length_map]
    rw [if_neg (by omega), if_neg (by omega)]
    have h0 : ¬ e < s.size := fun h => by
      rw [List.drop_of_length_le (by omega), sgs_step s e h] at hdr
      exact absurd hdr (by simp)
    rw [← hc, cutAt_end s e _ h0]
    simp
  | succ d ih =>
    intro i e wide k hd hi hdr he hw hw2 hc hk
    obtain ⟨k, rfl⟩ : ∃ m, k = m + 1 := ⟨k - 1, by omega⟩
    have h1 : i < (sgs s 0).length := by omega
    have hes : e < s.size := by
      rcases Nat.lt_or_ge e s.size with h | h
      · exact h
      · rw [sgs_end s e (by omega)] at hdr
        have := congrArg List.length hdr
        rw [List.length_drop] at this
        simp at this
        omega
    rw [List.drop_eq_getElem_cons h1, sgs_step s e hes] at hdr
    have hf := dec_fits s e hes
    have hfour := dec_four s e
    have hstop := cutAt_stop s e (n - wide) hes
    have hstep := cutAt_step s e (n - wide) hes
    obtain ⟨⟨r, dn⟩, hdec⟩ : ∃ p, Utf8.decode s e = p := ⟨_, rfl⟩
    rw [hdec] at hdr hf hfour hstop hstep
    dsimp only at hdr hf hfour hstop hstep
    injection hdr with hx hdr'
    have hwd := wd_le r
    have hrd := rd_map (sgs s 0) i h1
    rw [hx] at hrd
    have hwf := fun k hk => wide_f r k hk
    obtain ⟨wr, hwr⟩ : ∃ z, wd r = z := ⟨_, rfl⟩
    rw [hwr] at hstop hstep hwd hwf
    obtain ⟨C, hC⟩ : ∃ z, s.extract 0 (cutAt s 0 n) = z := ⟨_, rfl⟩
    have HStop := Aside0.mk (fun (h : n - (wide : Int) < (wr : Int)) => show s.extract 0 e = C by rw [← hC, ← hc, hstop h])
    have HStep := Aside0.mk (fun (h : ¬ n - (wide : Int) < (wr : Int)) => show cutAt s (e + dn) (n - (wide : Int) - (wr : Int)) = cutAt s 0 n by rw [← hc, hstep h])
    have HC := Aside0.mk hC
    rw [hC]
    clear hC hstop hstep hc hdec hwr
    simp only [rondelref06_Cut.l0, List.length_map]
    rw [if_pos (by omega), if_pos (by omega), hrd, show (rs ⟨e, dn, r⟩).f2 = ((r : Nat) : Int) from rfl, hwf k (by omega), show (rs ⟨e, dn, r⟩).f1 = ((dn : Nat) : Int) from rfl, Option.bind_some]
    clear hwf hrd hx
    have a1 : wrap64 ((wide : Int) + (wr : Int)) = ((wide + wr : Nat) : Int) := w64 (by omega)
    have a2 : wrap64 ((e : Int) + (dn : Int)) = ((e + dn : Nat) : Int) := w64 (by omega)
    have a3 : wrap64 ((i : Int) + 1) = ((i + 1 : Nat) : Int) := w64 (by omega)
    rw [a1, a2, a3]
    clear a1 a2 a3
    by_cases hgt : ((wide + wr : Nat) : Int) > n
    · rw [if_pos hgt, if_pos (by omega), if_pos (by omega), Int.toNat_natCast, HStop.out (by omega)]
    · rw [if_neg hgt]
      have hst := Aside0.mk (show cutAt s (e + dn) (n - ((wide + wr : Nat) : Int)) = cutAt s 0 n from by
        have h := HStep.out (by omega)
        rw [show n - ((wide + wr : Nat) : Int) = n - (wide : Int) - (wr : Int) from by omega]
        exact h)
      rw [← HC.out]
      exact ih (i + 1) (e + dn) (wide + wr) k (by omega) (by omega) hdr' hf (by omega) (by omega) hst.out (by omega)
theorem rcut_neg (s : ByteArray) (hs : s.size < 4398046511104) (n : Int) (hn : n < 0) (k : Nat) (hk : 10 ≤ k) : rondelref06_Cut.l0 k s n ((sgs s 0).map rs) 0 0 0 = some ⟨#[]⟩ := by
  obtain ⟨k, rfl⟩ : ∃ m, k = m + 1 := ⟨k - 1, by omega⟩
  have hlen := sgs_length s 0
  simp only [rondelref06_Cut.l0, List.length_map]
  by_cases h0 : 0 < s.size
  · have hst := sgs_step s 0 h0
    have h1 : 0 < (sgs s 0).length := by rw [hst]; simp
    have hr := rd_map (sgs s 0) 0 h1
    obtain ⟨⟨r, dn⟩, hdec⟩ : ∃ p, Utf8.decode s 0 = p := ⟨_, rfl⟩
    rw [hdec] at hst
    dsimp only at hst
    have hx : (sgs s 0)[0] = ⟨0, dn, r⟩ := by simp only [hst, List.getElem_cons_zero]
    have hwd := wd_le r
    have hwf := fun k hk => wide_f r k hk
    obtain ⟨wr, hwr⟩ : ∃ z, wd r = z := ⟨_, rfl⟩
    rw [hwr] at hwd hwf
    rw [show ((0 : Nat) : Int) = 0 from rfl, hx] at hr
    clear hst hdec hwr
    rw [if_pos (by omega), if_pos (by omega), hr, show (rs ⟨0, dn, r⟩).f2 = ((r : Nat) : Int) from rfl, hwf k (by omega), Option.bind_some]
    clear hr hwf hx
    have a1 : wrap64 (0 + (wr : Int)) = (wr : Int) := by rw [Int.zero_add]; exact w64 (by omega)
    rw [a1]
    clear a1
    rw [if_pos (by omega), if_pos (by omega), if_pos (by omega)]
    congr 1
    apply ba_ext
    rw [extract_list]
    simp
  · rw [sgs_end s 0 h0, if_neg (by simp), if_pos hn]
theorem rcut_f (s : ByteArray) (hs : s.size < 4398046511104) (n : Int) (hn : n ≤ 9223372036854775807) : ∃ k, rondelref06_Cut.f k s n = some (cut s n) := by
  obtain ⟨k, hk⟩ := signs_f s hs
  have hl := sgs_length s 0
  refine ⟨k + (sgs s 0).length + 10, ?_⟩
  unfold rondelref06_Cut.f
  rw [at_rounds (g := fun k => rondelref06_Signs.f k s) (rondelref06_Signs.mono s) (show k ≤ k + (sgs s 0).length + 10 by omega) hk]
  simp only [Option.bind_some]
  unfold cut
  by_cases h : n < 0
  · rw [if_pos h]
    exact rcut_neg s hs n h _ (by omega)
  · rw [if_neg h]
    have := rcut_l0 s hs n hn (sgs s 0).length 0 0 0 (k + (sgs s 0).length + 10) (by omega) (by omega) (by simp) (by omega) (by omega) (by omega) (by simp) (by omega)
    exact this
theorem rcut_calls (s : ByteArray) (hs : s.size < 4398046511104) (n : Int) (hn : n ≤ 9223372036854775807) (w : World) : Calls Try.prog 22 #[.string s, .int .i64 n] w fun e w' => e = .returned (.string (cut s n)) ∧ Below w.heap.size w w' := by
  obtain ⟨k, hk⟩ := rcut_f s hs n hn
  exact rondelref06_Cut.calls k s n _ w hk

theorem rep_sp (m : Nat) : (⟨(Lib.repeatL (ByteArray.mk #[32]).data.toList m).toArray⟩ : ByteArray) = sp_ m := by
  unfold sp_
  congr 2
  induction m with
  | zero => rfl
  | succ m ih =>
    rw [List.replicate_succ, ← ih]
    rfl
theorem rep_calls (m : Nat) (hm : m ≤ 1000) (w : World) : Calls Try.prog 30 #[.string ⟨#[32]⟩, .int .i64 (m : Int)] w fun e w' => e = .returned (.string (sp_ m)) ∧ Below w.heap.size w w' := by
  refine (Try.strings_Repeat ⟨#[32]⟩ m w (by omega) (by show 1 * m ≤ _; omega)).mono ?_
  rintro e w' ⟨rfl, hb⟩
  exact ⟨by rw [rep_sp], hb⟩

set_option maxHeartbeats 4000000 in
theorem pad_calls (s : ByteArray) (n : Int) (hs : s.size ≤ 1000) (hn : -1 ≤ n ∧ n ≤ 1000) (w : World) :
    Calls Try.prog 21 #[.string s, .int .i64 n] w fun e w' => e = .returned (.string (pad s n)) ∧ Below w.heap.size w w' := by
  obtain ⟨c, hc⟩ : ∃ z, cut s n = z := ⟨_, rfl⟩
  have hcl := (cut_pre s n).1
  have hp : pad s n = c ++ sp_ (n - wds (sgs c 0)).toNat := by unfold pad padN; rw [hc]
  have hw := wds_le (sgs c 0)
  have hlen := sgs_length c 0
  rw [hc] at hcl
  have HCut := Aside0.mk (fun w => cut_calls s n w (by omega) (by omega))
  rw [hc] at HCut
  have HWide := Aside0.mk (fun w => wide_calls c w (by omega))
  obtain ⟨wd, hwd⟩ : ∃ z, wds (sgs c 0) = z := ⟨_, rfl⟩
  rw [hwd] at HWide hp hw
  have hwb : wd ≤ 2000 := by omega
  obtain ⟨r, hr⟩ : ∃ z, pad s n = z := ⟨_, rfl⟩
  rw [hr] at hp ⊢
  have HP := Aside0.mk hp
  obtain ⟨m, hm⟩ : ∃ z, (n - (wd : Int)).toNat = z := ⟨_, rfl⟩
  have hmax : (if n - (wd : Int) < 0 then 0 else n - (wd : Int)) = (m : Int) := by split <;> omega
  rw [hm] at HP
  have HRep := Aside0.mk (fun w => rep_calls m (by omega) w)
  have HCL := Aside0.mk hcl
  clear hc hcl hp hw hlen hwd hr hm
  go_enter Try.func21, Try.ntmps21
  go_wp2_with (fail)
  refine (HCut.out _).mono ?_
  rintro e w1 ⟨rfl, hb1⟩
  have B1 := Aside0.mk hb1
  clear hb1
  go_wp2_with (fail)
  refine (HWide.out _).mono ?_
  rintro e w2 ⟨rfl, hb2⟩
  have B2 := Aside0.mk (below_step B1.out hb2)
  clear hb2
  go_wp2_with (fail)
  refine (HRep.out _).mono ?_
  rintro e w3 ⟨rfl, hb3⟩
  have B3 := Aside0.mk (below_step B2.out hb3)
  clear hb3
  have hz1 : c.size ≤ 1000 := by have := HCL.out; omega
  have hz2 : (sp_ m).size ≤ 1000 := by rw [sp_size]; omega
  go_wp2_with (fail)
  go_ret
  exact ⟨by rw [HP.out]; rfl, B3.out⟩

theorem around_calls (a b : Int) (hb : 0 < b) (w : World) (ha : -9223372036854775808 ≤ a ∧ a ≤ 9223372036854775807) : ∃ r : Nat, (r : Int) < b ∧ ∀ w, Calls Try.prog 20 #[.int .i64 a, .int .i64 b] w fun e w' => e = .returned (.int .i64 (r : Int)) ∧ ∃ k, w' = w.drewN k := by
  obtain ⟨v, hv, h0, h1⟩ : ∃ v, rondelref01_Around.f a b = some v ∧ 0 ≤ v ∧ v < b := by
    unfold rondelref01_Around.f
    by_cases h : a < 0
    · rw [if_pos h, if_neg (by omega), show wrap64 (a + 1) = a + 1 from w64 (by omega), show wrap64 (-(a + 1)) = -(a + 1) from w64 (by omega)]
      exact ⟨_, rfl, Int.tmod_nonneg _ (by omega), Int.tmod_lt_of_pos _ hb⟩
    · rw [if_neg h, if_neg (by omega)]
      exact ⟨_, rfl, Int.tmod_nonneg _ (by omega), Int.tmod_lt_of_pos _ hb⟩
  obtain ⟨r, rfl⟩ := Int.eq_ofNat_of_zero_le h0
  refine ⟨r, h1, fun w => (rondelref01_Around.calls a b _ w hv).mono ?_⟩
  rintro e w' ⟨rfl, h⟩
  exact ⟨rfl, h.out⟩

end Go.Proofs.Ytpmhbfelhjpalaa.TC

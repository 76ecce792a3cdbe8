/- Split, in plain words; and the reference's Split. -/
import Derived.Test.YtligkikcfmploaaFRef
import Derived.Deep.DeepMust
import Derived.WalkSpells
namespace Go.Proofs.Ytligkikcfmploaa.FP
open Go.RowKit Go.Proofs.YtligkikcfmploaaW.PrintWords Go.Proofs.YtligkikcfmploaaW.PrintLast Go.Proofs.YtligkikcfmploaaW.PrintMore
open Go.Proofs.Ytligkikcfmploaa.PFrameCuts Go.Proofs.Ytligkikcfmploaa.Base
attribute [local go_sem] Oper.semAt_some max2_int min2_int max_two min_two
set_option linter.unusedVariables false
set_option linter.unusedSimpArgs false

/-- The message that bytes begin with. -/
def msg (l : List Int) : S24 := ⟨l.getD 2 0, id4 l, (l.take (len2 l).toNat).drop 7⟩
/-- All messages that bytes begin with, how many bytes these have, and the error of what is behind them. -/
def spl : Nat → List Int → List S24 × Int × Int
  | 0, _ => ([], 0, 0)
  | d + 1, l => if l.length = 0 then ([], 0, 0) else if rerr l = 0 then (msg l :: (spl d (l.drop (len2 l).toNat)).1, len2 l + (spl d (l.drop (len2 l).toNat)).2.1, (spl d (l.drop (len2 l).toNat)).2.2) else ([], 0, rerr l)
def sp (l : List Int) : List S24 × Int × Int := spl l.length l

theorem rerr_ok {l : List Int} (h : rerr l = 0) : 7 ≤ len2 l ∧ len2 l ≤ 4103 ∧ len2 l ≤ l.length := by
  unfold rerr at h
  by_cases h2 : l.length < 2
  · rw [if_pos h2] at h; exact absurd h (by decide)
  · rw [if_neg h2] at h
    by_cases h3 : len2 l < 7 ∨ 4103 < len2 l
    · rw [if_pos h3] at h; exact absurd h (by decide)
    · rw [if_neg h3] at h
      by_cases h4 : (l.length : Int) < len2 l
      · rw [if_pos h4] at h; exact absurd h (by decide)
      · omega
theorem rerr_bd (l : List Int) : 0 ≤ rerr l ∧ rerr l ≤ 3 := by
  unfold rerr
  split
  · omega
  · split
    · omega
    · split <;> omega
theorem spl_ext : ∀ (d d' : Nat) (l : List Int), l.length ≤ d → l.length ≤ d' → spl d l = spl d' l
  | 0, 0, l, _, _ => rfl
  | 0, d' + 1, l, h, _ => by simp only [spl]; rw [if_pos (by omega)]
  | d + 1, 0, l, _, h => by simp only [spl]; rw [if_pos (by omega)]
  | d + 1, d' + 1, l, h, h' => by
    simp only [spl]
    by_cases h0 : l.length = 0
    · rw [if_pos h0, if_pos h0]
    · rw [if_neg h0, if_neg h0]
      by_cases h1 : rerr l = 0
      · have h2 := rerr_ok h1
        rw [if_pos h1, if_pos h1, spl_ext d d' (l.drop (len2 l).toNat) (by rw [List.length_drop]; omega) (by rw [List.length_drop]; omega)]
      · rw [if_neg h1, if_neg h1]
theorem sp_nil {l : List Int} (h : l.length = 0) : sp l = ([], 0, 0) := by
  unfold sp
  rw [h]
  rfl
theorem sp_err {l : List Int} (h : l.length ≠ 0) (he : rerr l ≠ 0) : sp l = ([], 0, rerr l) := by
  unfold sp
  obtain ⟨d, hd⟩ : ∃ d, l.length = d + 1 := ⟨l.length - 1, by omega⟩
  rw [hd]
  simp only [spl]
  rw [if_neg h, if_neg he]
theorem sp_ok {l : List Int} (he : rerr l = 0) : sp l = (msg l :: (sp (l.drop (len2 l).toNat)).1, len2 l + (sp (l.drop (len2 l).toNat)).2.1, (sp (l.drop (len2 l).toNat)).2.2) := by
  have h2 := rerr_ok he
  unfold sp
  obtain ⟨d, hd⟩ : ∃ d, l.length = d + 1 := ⟨l.length - 1, by omega⟩
  rw [spl_ext (l.drop (len2 l).toNat).length d (l.drop (len2 l).toNat) (Nat.le_refl _) (by rw [List.length_drop]; omega)]
  rw [hd]
  simp only [spl]
  rw [if_neg (by omega), if_pos he]

/-- What is still to come, behind what was told. -/
def Togo (l : List Int) (i : Nat) (acc ms : List S24) (nn er : Int) : Prop := acc ++ (sp (l.drop i)).1 = ms ∧ (i : Int) + (sp (l.drop i)).2.1 = nn ∧ (sp (l.drop i)).2.2 = er
theorem Togo.start (l : List Int) : Togo l 0 [] (sp l).1 (sp l).2.1 (sp l).2.2 := by
  unfold Togo
  rw [List.drop_zero]
  exact ⟨rfl, by omega, rfl⟩
theorem Togo.done {l : List Int} {i : Nat} {acc ms : List S24} {nn er : Int} (h : Togo l i acc ms nn er) (hi : l.length ≤ i) : acc = ms ∧ (i : Int) = nn ∧ 0 = er := by
  unfold Togo at h
  rw [sp_nil (by rw [List.length_drop]; omega)] at h
  exact ⟨by simpa using h.1, by have := h.2.1; simpa using this, h.2.2⟩
theorem Togo.err {l : List Int} {i : Nat} {acc ms : List S24} {nn er : Int} (h : Togo l i acc ms nn er) (hi : i < l.length) (he : rerr (l.drop i) ≠ 0) : acc = ms ∧ (i : Int) = nn ∧ rerr (l.drop i) = er := by
  unfold Togo at h
  rw [sp_err (by rw [List.length_drop]; omega) he] at h
  exact ⟨by simpa using h.1, by have := h.2.1; simpa using this, h.2.2⟩
theorem Togo.ok {l : List Int} {i : Nat} {acc ms : List S24} {nn er : Int} (h : Togo l i acc ms nn er) (he : rerr (l.drop i) = 0) : Togo l (i + (len2 (l.drop i)).toNat) (acc ++ [msg (l.drop i)]) ms nn er := by
  have h2 := rerr_ok he
  unfold Togo at h ⊢
  rw [sp_ok he] at h
  rw [← List.drop_drop]
  exact ⟨by rw [List.append_assoc]; exact h.1, by have := h.2.1; dsimp only at this; omega, h.2.2⟩

/-- Messages whose Bodies lie where they lay in world W0. -/
def kF (W0 : World) : Kd S24 where
  sz := 3
  E := []
  K := fun _ x cs => k24.K W0 x cs
  M := fun _ _ _ x cs => k24.K W0 x cs
  K_len := fun h => k24.K_len h
  K_one := fun h => k24.K_one h
  K_below := fun _ h => h
  K_of_M := fun h => h
  M_mono := fun _ h => h
  M_bound := fun h => h
  M_move := fun _ h => h
  M_lower := fun _ h => h
theorem kF_C {W0 w : World} {A : Option Addr} {n : Nat} {xs : List S24} (h : (kF W0).C w A n xs) (hb : Below W0.heap.size W0 w) : k24.C w A n xs :=
  ReadsRow.imp_ h (Below.refl _ _) (fun _ _ hK => k24.K_below hb hK)
theorem info24 : (Try.prog.info? 24).map (fun i => (i.zero, i.size, i.bytes)) = some (some (.agg #[.int .i64 0, .int .i64 0, .slice none 0 0]), 3, 40) := by kernel_rfl

/-- 'x[lo:]' of bytes. -/
theorem cut_tl {A : Option Addr} {c : Nat} {l : List Int} {W : World} (hC : (Kd.int .u8).C W A l.length l) (hc : l.length ≤ c) (lo : Nat) (h2 : lo ≤ l.length) :
    ∃ A' c', (∀ w : World, (Instr.slice 22 (.slice A l.length c) (some (.int .i64 (lo : Int))) none none).run Try.prog w = .ok (.slice A' (l.drop lo).length c') w) ∧
      (∀ w : World, (Instr.slice 22 (.slice A l.length c) (some (.int .i64 (lo : Int))) (some (.int .i64 (l.length : Int))) (some (.int .i64 (l.length : Int)))).run Try.prog w = .ok (.slice (if l.length = lo then A else A.map (·.add lo)) (l.drop lo).length (l.drop lo).length) w) ∧
      (Kd.int .u8).C W A' (l.drop lo).length (l.drop lo) ∧ (l.drop lo).length ≤ c' ∧ (Kd.int .u8).C W (if l.length = lo then A else A.map (·.add lo)) (l.drop lo).length (l.drop lo) := by
  obtain ⟨i0, hi0, _, hsz, _⟩ := info_parts info5
  have hlen : (l.drop lo).length = l.length - lo := by rw [List.length_drop]
  have hd := Kd.C_drop hC h2 hc
  have hd2 := Kd.C_drop hC h2 (Nat.le_refl _)
  rw [show lo * (Kd.int .u8).sz = lo from Nat.mul_one lo] at hd hd2
  refine ⟨_, c - lo, fun w => ?_, fun w => ?_, hd, by omega, hd2⟩
  · rw [hlen]
    have := cut_from (P := Try.prog) 22 5 .i64 Try.underlying22 hi0 1 hsz A l.length c (lo : Int) (by omega) (by omega) w
    rw [Int.toNat_natCast, Nat.mul_one] at this
    exact this
  · have hel : Try.prog.elem 22 = 5 := by simp [Program.elem, Try.underlying22]
    have hu : Try.prog.underlying 22 = some (.slice (Try.prog.elem 22)) := by rw [hel]; exact Try.underlying22
    rw [hlen, run_slice_lhm w 22 A l.length c hu .i64 .i64 .i64 lo l.length l.length (by omega) (by omega) (by omega) (by omega), hel]
    simp [sizeOf, typeInfo, hi0, hsz, sliced, Result.andThen]

/-- What Split tells. -/
def Spt (W : World) (d : Kd S24) (ms : List S24) (n er : Int) (e : Ending) (W' : World) : Prop :=
  ∃ v, e = .returned (.tuple #[v, .int .i64 n, .int .i64 er]) ∧ d.R 24 W' W.heap.size (fun _ => True) v ms ∧ Below W.heap.size W W'

set_option maxRecDepth 100000 in
set_option maxHeartbeats 16000000 in
theorem rsplit_calls (A : Option Addr) (c : Nat) (l : List Int) (W : World) (hC : (Kd.int .u8).C W A l.length l) (hc : l.length ≤ c) (hb : Bd l) (hl : l.length ≤ 100000) :
    Calls Try.prog 22 #[.slice A l.length c] W (Spt W (kF W) (sp l).1 (sp l).2.1 (sp l).2.2) := by
  have hu24 := Try.underlying24
  have HT := Aside0.mk (Togo.start l)
  obtain ⟨ms, hms⟩ : ∃ x, (sp l).1 = x := ⟨_, rfl⟩
  obtain ⟨nn, hnn⟩ : ∃ x, (sp l).2.1 = x := ⟨_, rfl⟩
  obtain ⟨er, her⟩ : ∃ x, (sp l).2.2 = x := ⟨_, rfl⟩
  rw [hms, hnn, her] at HT ⊢
  have HC := Aside0.mk hC
  have Hc := Aside0.mk hc
  have HBD := Aside0.mk hb
  have hCut := fun lo hlo => cut_tl hC hc lo hlo
  obtain ⟨N, hN⟩ : ∃ N, l.length = N := ⟨_, rfl⟩
  rw [hN] at hl hCut ⊢
  have HN := Aside0.mk hN
  have HCut := Aside0.mk hCut
  clear hms hnn her hC hc hb hCut hN
  go_enter Try.func22, Try.ntmps22
  go_wp2_with (fail)
  go_loopw [5, 6] (fun v i wr => ∃ (k : Nat) (acc : List S24), i = .int .i64 k ∧ k ≤ N ∧ acc.length ≤ k ∧ Aside0 ((kF W).R 24 wr W.heap.size (fun _ => True) v acc) ∧ Aside0 (Below W.heap.size W wr) ∧ Aside0 (Togo l k acc ms nn er)) (fun _ i _ => N - (intOf i).toNat)
  case atStart => exact ⟨0, [], rfl, by omega, by simp, ⟨Kd.R_nil _ _ _ _ _⟩, ⟨Below.refl _ _⟩, HT⟩
  case round =>
    clear HT
    obtain ⟨k, acc, rfl, hk, hak, hR, hB, hT⟩ := hrel
    obtain ⟨A0, c0, hv0⟩ := Kd.R_slice hR.out
    subst hv0
    by_cases hlt : k < N
    · have hlt' : decide ((k : Int) < (N : Int)) = true := decide_eq_true (by omega)
      obtain ⟨A', c', hc1, _, hCr, hcr, _⟩ := HCut.out k (by omega)
      have hkl : k < l.length := by rw [HN.out]; exact hlt
      have hrl : (l.drop k).length = N - k := by rw [List.length_drop, HN.out]
      have HBr := Aside0.mk (HBD.out.drop k)
      have HTe := Aside0.mk (fun he => hT.out.err hkl he)
      have HTo := Aside0.mk (fun he => hT.out.ok he)
      have hre := Aside0.mk (fun he => rerr_ok (l := l.drop k) he)
      obtain ⟨m, hm⟩ : ∃ m, msg (l.drop k) = m := ⟨_, rfl⟩
      have hm0 : m.f0 = (l.drop k).getD 2 0 := by rw [← hm]; rfl
      have hm1 : m.f1 = id4 (l.drop k) := by rw [← hm]; rfl
      have hm2 : m.f2 = ((l.drop k).take (len2 (l.drop k)).toNat).drop 7 := by rw [← hm]; rfl
      rw [hm] at HTo
      have HC2 := Aside0.mk (Kd.C_below hCr hB.out)
      have HCW := Aside0.mk hCr
      have HRD := Aside0.mk (rread_calls A' c' (l.drop k) wr HC2.out hcr HBr.out)
      obtain ⟨r, hr⟩ : ∃ r, l.drop k = r := ⟨_, rfl⟩
      rw [hr] at hc1 hCr hcr hrl HBr HTe HTo HC2 HCW HRD hm0 hm1 hm2 hre
      have HCr := Aside0.mk hCr
      obtain ⟨e, he⟩ : ∃ e, rerr r = e := ⟨_, rfl⟩
      obtain ⟨n, hn⟩ : ∃ n, len2 r = n := ⟨_, rfl⟩
      rw [he, hn] at HRD HTo hre
      rw [he] at HTe
      rw [hn] at hm2
      clear hCr hcr hr hT he hn
      by_cases e0 : e = 0
      · subst e0
        have HRD := HRD.out
        rw [if_pos rfl, if_pos rfl, if_pos rfl, if_pos rfl, ← hm0, ← hm1, ← hm2] at HRD
        have HRD' := Aside0.mk HRD
        have hnb := hre.out rfl
        rw [hrl] at hnb
        have HTo' := Aside0.mk (HTo.out rfl)
        clear HRD HTe HTo hre hm0 hm1 hm2 hm hrl
        go_wp2_with (fail)
        refine HRD'.out.mono ?_
        rintro e w2 ⟨A7, c7, rfl, hC7, hc7, hb2⟩
        have HB2 := Aside0.mk (below_step hB.out hb2)
        have HC7 := Aside0.mk (hC7 W HCW.out)
        have Hc7 := Aside0.mk hc7
        obtain ⟨L, hL⟩ : ∃ L, m.f2.length = L := ⟨_, rfl⟩
        have HL := Aside0.mk hL
        have HK := Aside0.mk (k24_mk W m hc7 HC7.out)
        rw [hL] at HK ⊢
        have hb2' := Aside0.mk hb2
        clear hb2 hC7 hc7 hL
        go_wp2_with (((with_reducible refine gate_builtin (b := .append) (xs := #[.tmp 27, .tmp 29]) rfl ?_); at_builtin; go_must (refine Kd.R_append (kF W) (w0 := W) W.heap.size rfl (.tmp 27) (.tmp 29) 38 24 (.agg #[.int .i64 0, .int .i64 0, .slice none 0 0]) 40 rfl Try.underlying38 info24 rfl (Nat.succ_pos 2) (by decide) _ acc m [.int .i64 m.f0, .int .i64 m.f1, .slice A7 L c7] (fun _ => True) (fun _ => False) rfl ?aX ?aP (fun _ hk => hk.elim) ?aF ?aO ?aB ?aS ?aL ?_); (case aX => exact congrArg (fun b => Value.slice (some ⟨b, 0, none⟩) 1 1) (by simp)); (case aP => exact HK.out); (case aB => exact below_alloc HB2.out _); (case aF => exact (fun _ _ => trivial)); (case aO => exact Kd.R_alloc (Kd.R_below hR.out hb2'.out) _); (case aS => exact below_size (below_alloc HB2.out _)); (case aL => omega); intro v1 w7 ho hb7 hg hat; have hR1 := Aside0.mk ho; have hB1 := Aside0.mk hb7; clear ho hb7 hg hat))
        have hn7 := hnb
        exact ⟨⟨k + n.toNat, acc ++ [m], by rw [show (k : Int) + n = ((k + n.toNat : Nat) : Int) from by omega], by omega, by rw [List.length_append, List.length_singleton]; omega, hR1, hB1, HTo'⟩, by simp [intOf]; omega⟩
      · have b0 : (e != 0) = true := by rw [bne_iff_ne]; exact e0
        have HRD := HRD.out
        rw [if_neg e0, if_neg e0, if_neg e0, if_neg e0] at HRD
        have HRD' := Aside0.mk HRD
        obtain ⟨rfl, rfl, rfl⟩ := HTe.out e0
        clear HRD HTe HTo hre hm0 hm1 hm2 hm hrl e0
        go_wp2_with (fail)
        refine HRD'.out.mono ?_
        rintro e w2 ⟨A7, c7, rfl, hC7, hc7, hb2⟩
        have HB2 := Aside0.mk (below_step hB.out hb2)
        have HR2 := Aside0.mk (Kd.R_below hR.out hb2)
        clear hC7 hc7 hb2
        go_wp2_with (fail)
        go_ret3
        exact ⟨_, rfl, Kd.R_alloc HR2.out _, below_alloc HB2.out _⟩
    · obtain rfl : k = N := by omega
      have hlt2 : decide ((k : Int) < (k : Int)) = false := decide_eq_false (by omega)
      obtain ⟨rfl, rfl, rfl⟩ := hT.out.done (by rw [HN.out]; exact Nat.le_refl _)
      clear hlt
      go_wp2_with (fail)
      go_ret3
      exact ⟨_, rfl, hR.out, hB.out⟩

end Go.Proofs.Ytligkikcfmploaa.FP

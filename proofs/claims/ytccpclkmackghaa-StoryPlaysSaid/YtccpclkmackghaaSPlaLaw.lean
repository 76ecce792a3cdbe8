/- The walk of StoryPlays: it returns true and writes nothing that was there. -/
import Derived.Test.YtccpclkmackghaaSOwnP
import Derived.Test.YtccpclkmackghaaSPlaPlain
namespace Go.Proofs.Ytccpclkmackghaa.SPla
open Go.RowKit Go.Proofs.YtccpclkmackghaaW.PrintWords Go.Proofs.YtccpclkmackghaaW.PrintLast Go.Proofs.YtccpclkmackghaaW.PrintMore
open Go.Proofs.Ytccpclkmackghaa.PStoryPlays Go.Proofs.Ytccpclkmackghaa.SPP Go.Proofs.Ytccpclkmackghaa.SWP
attribute [local go_sem] Oper.semAt_some max2_int min2_int max_two min_two
set_option linter.unusedVariables false
set_option linter.unusedSimpArgs false

/-- One element of a row, as a row of its own. -/
theorem C_one {A : Option Addr} {c : Nat} {l : List S24} {w : World} (hC : k24.C w A l.length l) (hc : l.length ≤ c) (j : Nat) (hj : j < l.length) : k24.C w (A.map (fun x => x.add (j * 2))) 1 [l[j]] := by
  have := Kd.C_mid (k := k24) hC (show j ≤ j + 1 by omega) (by omega) hc
  have e : ((l.take (j + 1)).drop j) = [l[j]] := by
    rw [List.take_succ_eq_append_getElem hj, List.drop_left' (by simp; omega)]
  rw [e, if_neg (by omega)] at this
  exact this

/-- The cells of one step of a row. -/
theorem cells_at {ad : Addr} {l : List S24} {w : World} (hC : k24.C w (some ad) l.length l) (j : Nat) (hj : j < l.length) :
    w.cell? (ad.add (j * 2)) = some (.int .i64 l[j].f0) ∧ w.cell? ⟨(ad.add (j * 2)).block, (ad.add (j * 2)).off + 1, none⟩ = some (.int .i64 l[j].f1) := by
  obtain ⟨ad', e, h0, h1⟩ := at_T24 hC (j : Int) (by omega) (by omega)
  injection e with e
  subst e
  rw [rd_at l j hj, Int.toNat_natCast] at h0 h1
  exact ⟨h0, h1⟩
/-- The cell of one number of a row. -/
theorem num_cell {ad : Addr} {l : List Int} {w : World} (hC : (Kd.int .i64).C w (some ad) l.length l) (j : Nat) (hj : j < l.length) : w.cell? (ad.add j) = some (.int .i64 l[j]) := by
  obtain ⟨ad', cs, e, _, hK, hc0⟩ := Kd.C_get hC (0 : Int) (j : Int) (by omega) (by omega)
  injection e with e
  subst e
  have e0 : cs = [.int .i64 (l.getD (j : Int).toNat 0)] := hK
  rw [Int.toNat_natCast, List.getD_eq_getElem?_getD, List.getElem?_eq_getElem hj, Option.getD_some] at e0
  have := hc0 0 (.int .i64 l[j]) (by rw [e0]; rfl)
  rw [show (j : Int).toNat * (Kd.int .i64).sz + 0 = j from by show (j : Int).toNat * 1 + 0 = j; omega] at this
  exact this

set_option maxRecDepth 100000 in
set_option maxHeartbeats 40000000 in
theorem walk (A : Option Addr) (c : Nat) (l : List S24) (A1 : Option Addr) (c1 : Nat) (mo : List Int) (kk : Int) (W : World) (hC : k24.C W A l.length l) (hl : l.length ≤ c) (hC1 : (Kd.int .i64).C W A1 mo.length mo) (hl1 : mo.length ≤ c1)
    (hb : ∀ y ∈ mo, -9223372036854775808 ≤ y ∧ y ≤ 9223372036854775807) :
    Calls Try.prog 5 #[.slice A l.length c, .slice A1 mo.length c1, .int .i64 kk] W fun e w' => e = .returned (.bool true) ∧ Below W.heap.size W w' := by
  have hu24 := Try.underlying24
  have hu31 := Try.underlying31
  obtain ⟨N, hN⟩ : ∃ N, l.length = N := ⟨_, rfl⟩
  obtain ⟨N1, hN1⟩ : ∃ N, mo.length = N := ⟨_, rfl⟩
  have HN := Aside0.mk hN
  have HN1 := Aside0.mk hN1
  have HC := Aside0.mk hC
  have HC1 := Aside0.mk hC1
  have HMB := Aside0.mk hb
  rw [hN] at hl ⊢
  rw [hN1] at hl1 ⊢
  clear hN hN1 hC hC1 hb
  go_enter Try.func5, Try.ntmps5
  go_wp2_with (fail)
  refine (new_calls W).mono ?_
  rintro e W3 ⟨g, rfl, hS3, hb3⟩
  have hnil := ptr_nil g
  have HS3 := Aside0.mk hS3.typed
  have HB3 := Aside0.mk hb3
  clear hS3 hb3
  go_wp2_with (fail)
  clear hnil
  go_loopw [8, 9] (fun v i wr => ∃ (j : Nat) (s : PS) (r : List S24), i = .int .i64 j ∧ j ≤ N ∧ j ≤ 40 ∧ Aside0 (St wr W.heap.size g (okS wr) s) ∧ Aside0 (k24.R 24 wr W.heap.size (okR wr) v r) ∧ Aside0 (Below W.heap.size W wr) ∧ Aside0 (V r s ∧ r.length ≤ 2 * j)) (fun _ i _ => N - (intOf i).toNat)
  case atStart => exact ⟨0, _, [], rfl, by omega, by omega, HS3, ⟨Kd.R_nil _ _ _ _ _⟩, HB3, ⟨V.nil, Nat.le_refl _⟩⟩
  case round =>
    clear HS3 HB3
    obtain ⟨j, s, r, rfl, hj, hj40, hS, hR, hB, hV⟩ := hrel
    obtain ⟨Ar, cr, rfl⟩ := Kd.R_slice hR.out
    have HL := Aside0.mk hV.out.2
    by_cases hlt : j < N ∧ j < 40
    · have d1 : decide ((j : Int) < (N : Int)) = true := decide_eq_true (by omega)
      have d2 : decide ((j : Int) < 40) = true := decide_eq_true (by omega)
      have hjl : j < l.length := by rw [HN.out]; exact hlt.1
      have hA : ∃ ad, A = some ad := by
        obtain ⟨ad, e, _⟩ := at_T24 HC.out (j : Int) (by omega) (by omega)
        exact ⟨ad, e⟩
      obtain ⟨ad, rfl⟩ := hA
      obtain ⟨h0, h1⟩ := cells_at (Kd.C_below HC.out hB.out) j hjl
      have HCJ := Aside0.mk (fun w (hw : Below W.heap.size W w) => C_one (Kd.C_below HC.out hw) (by rw [HN.out]; exact hl) j hjl)
      obtain ⟨y, hy⟩ : ∃ y, l[j] = y := ⟨_, rfl⟩
      rw [hy] at h0 h1
      simp only [hy] at HCJ
      have v1 : IntKind.i64.wrap ((j : Int) + 1) = (j : Int) + 1 := IntWalk.i64_in _ (by omega)
      have hcj : 1 ≤ c - j := by omega
      have hjN : j < N := hlt.1
      have hj4 : j < 40 := hlt.2
      clear hy hjl hlt
      have HRA := Aside0.mk (rAdd y.f0 y.f1 hB.out hS.out hR.out ok_apart hV.out.1 (by have := HL.out; omega))
      obtain ⟨n0, hn0⟩ : ∃ n, r.length = n := ⟨_, rfl⟩
      have HN0 := Aside0.mk hn0
      rw [hn0] at HRA ⊢
      clear hn0
      go_wp2_with (fail)
      refine HRA.out.mono ?_
      obtain ⟨cd, hcd⟩ : ∃ cd, code s y.f0 y.f1 = cd := ⟨_, rfl⟩
      rw [hcd]
      rintro e W4 ⟨v5, rfl, hR4, hS4, hB4, hK4⟩
      obtain ⟨A5, c5, rfl⟩ := Kd.R_slice hR4
      obtain ⟨r5, hr5⟩ : ∃ r5, (if cd = 0 then r ++ [(⟨y.f0, y.f1⟩ : S24)] else r) = r5 := ⟨_, rfl⟩
      rw [hr5] at hR4 ⊢
      have HR4 := Aside0.mk hR4
      have HS4 := Aside0.mk hS4
      have HB4 := Aside0.mk hB4
      have HK4 := Aside0.mk hK4.1
      have HCD := Aside0.mk hcd
      have hV5 : V r5 (stp s y.f0 y.f1) ∧ r5.length ≤ 2 * j + 1 := by
        rw [← hr5, stp, hcd]
        by_cases e0 : cd = 0
        · rw [if_pos e0, if_pos e0]
          exact ⟨V.snoc ⟨y.f0, y.f1⟩ hV.out.1 (by rw [hcd]; exact e0), by rw [List.length_append, List.length_singleton]; have := HL.out; omega⟩
        · rw [if_neg e0, if_neg e0]
          exact ⟨hV.out.1, by have := HL.out; omega⟩
      have HV5a := Aside0.mk hV5
      clear hR4 hS4 hB4 hK4 hcd hr5 hV5 HRA h0 h1
      obtain ⟨n5, hn5⟩ : ∃ n, r5.length = n := ⟨_, rfl⟩
      rw [hn5]
      have HN5 := Aside0.mk hn5
      clear hn5
      go_wp2_with (fail)
      refine (rondellaw21_as.calls 5 _ (c - j) [y] _ _ (HCJ.out W4 HB4.out) hcj (as_f [y] (by simp) 5 (by simp))).mono ?_
      rintro e W5 ⟨v6, rfl, hR6, hb5⟩
      obtain ⟨A7, c7, rfl⟩ := Kd.R_slice hR6
      obtain ⟨ad7, e7, h0, h1⟩ := at_T31 (Kd.R_reads' hR6).2.2 0 (by omega) (by simp)
      subst e7
      have HB5b := Aside0.mk (below_step HB4.out hb5)
      have HS5b := Aside0.mk (HS4.out.below hb5)
      have HR5b := Aside0.mk (Kd.R_below HR4.out hb5)
      replace h0 : W5.cell? ad7 = some (.int .i64 y.f0) := by
        have := h0
        rw [show (0 : Int).toNat * 2 = 0 from rfl, Addr.add_zero'] at this
        exact this
      replace h1 : W5.cell? ⟨ad7.block, ad7.off + 1, none⟩ = some (.int .i64 y.f1) := by
        have := h1
        rw [show (0 : Int).toNat * 2 = 0 from rfl, Addr.add_zero'] at this
        exact this
      have hM1 : 0 < (List.map (fun x : S24 => (⟨x.f0, x.f1⟩ : S31)) [y]).length := by simp
      obtain ⟨M, hM⟩ : ∃ M, (List.map (fun x : S24 => (⟨x.f0, x.f1⟩ : S31)) [y]).length = M := ⟨_, rfl⟩
      rw [hM] at hM1 ⊢
      have hM2 : (0 : Int) < (M : Int) := by omega
      clear hR6 hb5 hM
      go_wp2_with (fail)
      refine (sAdd y.f0 y.f1 HB5b.out HS5b.out HR5b.out (fun k hs hr => hr.elim (ok_apart k hs) (fun h => by have := hs.1; omega)) (hV.out.1.sm (by have := HL.out; omega))).mono ?_
      rw [HCD.out]
      obtain ⟨s5, hs5⟩ : ∃ s5, stp s y.f0 y.f1 = s5 := ⟨_, rfl⟩
      rw [hs5] at HV5a ⊢
      rintro e W7a ⟨rfl, hS7, hR7, hB7, hK7⟩
      have HS5 := Aside0.mk hS7.typed
      have HR5 := Aside0.mk (R_typed hR7)
      have HB5 := Aside0.mk hB7
      have HV5 := Aside0.mk HV5a.out.1
      have HL5 := Aside0.mk HV5a.out.2
      have HSM5 := Aside0.mk (HV5.out.sm (by have := HL5.out; omega))
      have hcc : (cd != cd) = false := by simp
      rw [← HN5.out]
      clear hs5 hS7 hR7 hB7 hK7 h0 h1 hM1 hM2 HV5a HN5
      by_cases e0 : cd = 0
      · have b0 : (cd != 0) = false := by rw [bne_eq_false_iff_eq]; exact e0
        clear e0
        have HST := HS5
        have HRT := HR5
        have HBT := HB5
        have HVT := HV5
        have HL6 := Aside0.mk (show r5.length ≤ 100000 from by have := HL5.out; omega)
        have HSM6 := HSM5
        have HLJ := Aside0.mk (show r5.length ≤ 2 * (j + 1) from by have := HL5.out; omega)
        go_wp2_with (fail)
        refine (open_calls HST.out).mono ?_
        obtain ⟨o1, o2, ho⟩ : ∃ o1 o2, oQ s5.o = (o1, o2) := ⟨_, _, rfl⟩
        rw [ho]
        rintro e Wy ⟨rfl, hw⟩
        obtain rfl := hw.symm
        have HO := Aside0.mk (rondelref21_Open.calls (r5.length + 1) A5 c5 r5 o1 o2 _ (Kd.R_reads' HRT.out).2.2 (Kd.R_reads' HRT.out).2.1 (by rw [open_f r5 (by have := HL6.out; omega) _ (Nat.le_refl _), opens_same HVT.out, ho]))
        clear ho
        obtain ⟨n6, hn6⟩ : ∃ n, r5.length = n := ⟨_, rfl⟩
        have HN6 := Aside0.mk hn6
        rw [hn6] at HO ⊢
        clear hn6
        go_wp2_with (fail)
        refine HO.out.mono ?_
        rintro e W8 ⟨rfl, h8⟩
        obtain ⟨q8, h8⟩ := h8.out
        have b8 := pw_below_drewN (Below.refl W7a.heap.size W7a) q8
        rw [← h8] at b8
        have HB8 := Aside0.mk b8
        have HS8 := Aside0.mk (HST.out.below b8)
        clear h8 HO b8
        go_wp2_with (fail)
        refine (first_calls kk HS8.out HSM6.out).mono ?_
        obtain ⟨f1, hf1⟩ : ∃ f, idxF kk 0 s5.f + 1 = f := ⟨_, rfl⟩
        obtain ⟨f2, hf2⟩ : ∃ f, decide (idxF kk 0 s5.f ≥ 0) = f := ⟨_, rfl⟩
        rw [hf1, hf2]
        rintro e W9 ⟨rfl, hb9⟩
        have HB9 := Aside0.mk (below_step HB8.out hb9)
        have hFi := rondelref21_First.calls (r5.length + 2) A5 c5 r5 kk f1 f2 W9 (Kd.C_below (Kd.R_reads' HRT.out).2.2 HB9.out) (Kd.R_reads' HRT.out).2.1 (by rw [first_f HVT.out HL6.out kk, hf1, hf2])
        rw [HN6.out] at hFi
        have HFI := Aside0.mk hFi
        clear hb9 hf1 hf2 hFi
        go_wp2_with (fail)
        refine HFI.out.mono ?_
        rintro e W10 ⟨rfl, hb10⟩
        have HB10 := Aside0.mk (below_step HB9.out hb10)
        have HS10 := Aside0.mk (HST.out.below HB10.out)
        clear hb10 HFI
        have hff : (f2 != f2) = false := by simp
        have hoo : (o2 != o2) = false := by simp
        go_wp2_with (fail)
        refine (len_calls HS10.out).mono ?_
        rw [HVT.out.good.n, HN6.out]
        rintro e Wy ⟨rfl, hw⟩
        obtain rfl := hw.symm
        go_wp2_with (fail)
        refine (changes_calls HS10.out).mono ?_
        rw [HVT.out.good.c]
        rintro e Wy ⟨rfl, hw⟩
        obtain rfl := hw.symm
        have hCh := rondelref21_Changes.calls (r5.length + 1) A5 c5 r5 (lastK 0 0 r5) _ (Kd.C_below (Kd.R_reads' HRT.out).2.2 HB10.out) (Kd.R_reads' HRT.out).2.1 (by unfold rondelref21_Changes.f; rw [last_f r5 (by have := HL6.out; omega) 0 _ (Nat.le_refl _)]; rfl)
        rw [HN6.out] at hCh
        have HCH := Aside0.mk hCh
        clear hCh
        go_wp2_with (fail)
        refine HCH.out.mono ?_
        rintro e W11 ⟨rfl, h11⟩
        obtain ⟨q11, h11⟩ := h11.out
        have b11 := pw_below_drewN HB10.out q11
        rw [← h11] at b11
        have HB11 := Aside0.mk b11
        have HS11 := Aside0.mk (HST.out.below b11)
        clear h11 HCH b11
        go_wp2_with (fail)
        refine (frames_calls HS11.out HSM6.out).mono ?_
        rintro e W12 ⟨v12, rfl, hR12, hb12⟩
        obtain ⟨A12, c12, rfl⟩ := Kd.R_slice hR12
        have hF12 := Kd.R_reads' hR12
        have HB12 := Aside0.mk (below_step HB11.out hb12)
        have hFr := rondelref21_Frames.calls (r5.length + 1) A5 c5 r5 s5.f W12 (Kd.C_below (Kd.R_reads' HRT.out).2.2 HB12.out) (Kd.R_reads' HRT.out).2.1 (by rw [HVT.out.good.f]; exact frames_f r5 (by have := HL6.out; omega) _ (Nat.le_refl _))
        rw [HN6.out] at hFr
        have HFR := Aside0.mk hFr
        have HF12 := Aside0.mk hF12
        clear hR12 hb12 hFr hF12
        go_wp2_with (fail)
        refine HFR.out.mono ?_
        rintro e W13 ⟨v13, rfl, hR13, hb13⟩
        obtain ⟨A13, c13, rfl⟩ := Kd.R_slice hR13
        have hF13 := Kd.R_reads' hR13
        have HSA := Aside0.mk (rondelref11_Same.calls (s5.f.length + 1) A12 c12 s5.f A13 c13 s5.f true W13 (Kd.C_below HF12.out.2.2 hb13) HF12.out.2.1 hF13.2.2 hF13.2.1 (same_f s5.f HSM6.out.f _ (Nat.le_refl _)))
        have HB13 := Aside0.mk (below_step HB12.out hb13)
        clear hR13 hb13 hF13 HFR
        go_wp2_with (fail)
        refine HSA.out.mono ?_
        rintro e W14 ⟨rfl, h14⟩
        obtain ⟨q14, h14⟩ := h14.out
        have b14 := pw_below_drewN HB13.out q14
        rw [← h14] at b14
        have HR14 := Aside0.mk (Kd.R_below HRT.out b14)
        rw [HN6.out] at HR14
        have HS14 := Aside0.mk (HST.out.below b14)
        have HB14 := Aside0.mk (below_step HBT.out b14)
        clear h14 HSA b14
        go_wp2_with (fail)
        go_roundw
        case rel => exact ⟨j + 1, s5, r5, by go_num, by omega, by omega, ⟨HS14.out.typed⟩, ⟨R_typed HR14.out⟩, HB14, ⟨HVT.out, by have := HLJ.out; omega⟩⟩
        case measure => simp [intOf]; omega
      · have b0 : (cd != 0) = true := by rw [bne_iff_ne]; exact e0
        clear e0
        by_cases hm : j < N1
        · have d3 : decide ((j : Int) < (N1 : Int)) = true := decide_eq_true (by omega)
          have hjm : j < mo.length := by rw [HN1.out]; exact hm
          have hA1 : ∃ ad, A1 = some ad := by
            obtain ⟨ad', cs, e, _⟩ := Kd.C_get HC1.out (0 : Int) (j : Int) (by omega) (by omega)
            exact ⟨ad', e⟩
          obtain ⟨ad1, rfl⟩ := hA1
          have hmc := num_cell (Kd.C_below HC1.out HB5.out) j hjm
          obtain ⟨kd, hkd⟩ := around_f mo[j] (HMB.out _ (List.getElem_mem _))
          obtain ⟨z, hz⟩ : ∃ z, mo[j] = z := ⟨_, rfl⟩
          rw [hz] at hmc hkd
          have HKD := Aside0.mk hkd
          clear hkd hz hjm
          obtain ⟨o1, ob, hop⟩ : ∃ o1 ob, oP (opnF none r5) = (o1, ob) := ⟨_, _, rfl⟩
          have hll := HL5.out
          have HOp := Aside0.mk (fun w (hw : k24.C w A5 r5.length r5) => rondelref21_Open.calls (r5.length + 1) A5 c5 r5 o1 ob w hw (Kd.R_reads' HR5.out).2.1 (by rw [open_f r5 (by omega) _ (Nat.le_refl _), hop]))
          obtain ⟨L0, hL0⟩ : ∃ L, lastK 0 0 r5 = L := ⟨_, rfl⟩
          have HCh := Aside0.mk (fun w (hw : k24.C w A5 r5.length r5) => rondelref21_Changes.calls (r5.length + 1) A5 c5 r5 L0 w hw (Kd.R_reads' HR5.out).2.1 (by unfold rondelref21_Changes.f; rw [last_f r5 (by omega) 0 _ (Nat.le_refl _), hL0]; rfl))
          have HFr := Aside0.mk (fun w (hw : k24.C w A5 r5.length r5) => rondelref21_Frames.calls (r5.length + 1) A5 c5 r5 s5.f w hw (Kd.R_reads' HR5.out).2.1 (by rw [HV5.out.good.f]; exact frames_f r5 (by omega) _ (Nat.le_refl _)))
          have G := HV5.out.good
          have g1 := G.c
          have g2 := G.c0
          have g3 := G.c1
          have g4 := G.fl
          rw [hL0] at g1
          have eo : (ob = true ↔ s5.o ≠ []) := by
            rw [G.o]
            cases e : opnF none r5 <;> rw [e] at hop <;> simp [oP, Option.toList] at hop ⊢ <;> simp [← hop.2]
          have HC0 := Aside0.mk (show code s5 0 (L0 + 1) = 0 from by unfold code; rw [if_neg (by omega), if_pos (.inl ⟨rfl, by omega⟩)])
          have HC1' := Aside0.mk (show ob = false → code s5 1 L0 = 0 from fun h => by
            have ho : s5.o = [] := Classical.byContradiction fun hn => by rw [eo.2 hn] at h; cases h
            unfold code; rw [if_neg (by omega), if_pos (.inr (.inl ⟨rfl, by omega, ho⟩))])
          have HC2' := Aside0.mk (show ob = true → code s5 2 ((s5.f.length : Int) + 1) = 0 from fun h => by
            unfold code; rw [if_neg (by omega), if_pos (.inr (.inr ⟨rfl, rfl, eo.1 h⟩))])
          have v3 : IntKind.i64.wrap (L0 + 1) = L0 + 1 := IntWalk.i64_in _ (by omega)
          obtain ⟨FL, hFL⟩ : ∃ n, s5.f.length = n := ⟨_, rfl⟩
          rw [hFL] at HC2' g4
          have v4 : IntKind.i64.wrap ((FL : Int) + 1) = (FL : Int) + 1 := IntWalk.i64_in _ (by omega)
          have HFL := Aside0.mk hFL
          clear hop hL0 G g1 g2 g3 g4 eo hFL
          obtain ⟨n5, hn5⟩ : ∃ n, r5.length = n := ⟨_, rfl⟩
          have HN5 := Aside0.mk hn5
          have hOp := HOp.out
          have hCh := HCh.out
          have hFr := HFr.out
          simp only [hn5] at hOp hCh hFr
          have HOp' := Aside0.mk hOp
          have HCh' := Aside0.mk hCh
          have HFr' := Aside0.mk hFr
          have hC5 := (Kd.R_reads' HR5.out).2.2
          rw [hn5] at hC5
          have HC5 := Aside0.mk hC5
          rw [hn5] at hll ⊢
          clear hOp hCh hFr hn5 hC5 HOp HCh HFr
          go_wp2_with (fail)
          refine (rondelref01_Around.calls z 3 kd _ HKD.out).mono ?_
          rintro e W8 ⟨rfl, h8⟩
          obtain ⟨q8, h8⟩ := h8.out
          have b8 := pw_below_drewN (Below.refl W7a.heap.size W7a) q8
          rw [← h8] at b8
          have HD8 := Aside0.mk b8
          clear h8 b8 hmc
          go_wp2_with (fail)
          refine (HOp'.out W8 (Kd.C_below HC5.out HD8.out)).mono ?_
          rintro e W9 ⟨rfl, h9⟩
          obtain ⟨q9, h9⟩ := h9.out
          have b9 := pw_below_drewN HD8.out q9
          rw [← h9] at b9
          have HD9 := Aside0.mk b9
          clear h9 b9 HD8
          go_wp2_with (fail)
          refine (HCh'.out W9 (Kd.C_below HC5.out HD9.out)).mono ?_
          rintro e W9' ⟨rfl, h10⟩
          obtain ⟨q10, h10⟩ := h10.out
          have b10 := pw_below_drewN HD9.out q10
          rw [← h10] at b10
          have HD10 := Aside0.mk b10
          clear h10 b10 HD9
          obtain ⟨W10, hW10⟩ : ∃ w, W9' = w := ⟨_, rfl⟩
          rw [hW10] at HD10 ⊢
          have HB10 := Aside0.mk (below_step HB5.out HD10.out)
          have HS10 := Aside0.mk (HS5.out.below HD10.out)
          have HR10 := Aside0.mk (Kd.R_below HR5.out HD10.out)
          have HS10t := Aside0.mk HS10.out.typed
          have hR10t := R_typed HR10.out
          rw [HN5.out] at hR10t
          have HR10t := Aside0.mk hR10t
          clear hR10t
          clear hW10
          by_cases k1 : kd = 1 ∧ ob = false
          · obtain ⟨rfl, rfl⟩ := k1
            go_wp2_with (fail)
            refine (HCh'.out _ (Kd.C_alloc (Kd.C_below HC5.out HD10.out) _)).mono ?_
            rintro e W11 ⟨rfl, h11⟩
            obtain ⟨q11, h11⟩ := h11.out
            have b11 := pw_below_drewN (Below.refl (W10.alloc (.cells #[.int .i64 0, .int .i64 (L0 + 1)] 24)).heap.size (W10.alloc (.cells #[.int .i64 0, .int .i64 (L0 + 1)] 24))) q11
            rw [← h11] at b11
            have B11 := Aside0.mk b11
            clear h11 b11
            have hX11 : W11.heap[W10.heap.size]? = some (.cells #[.int .i64 0, .int .i64 (L0 + 1)] 24 (0, 0)) := blk_below (blk_new W10 _) B11.out
            have G11 := blk_put hX11 0 (.int .i64 1) rfl
            have G12 := blk_put G11 1 (.int .i64 L0) rfl
            have z0 := blk_cell hX11 0
            have f0 := blk_frozen hX11 0
            have z1 := blk_cell hX11 1
            have f1 := blk_frozen hX11 1
            have z2 := blk_cell G11 1
            have f2 := blk_frozen G11 1
            have HXx := Aside0.mk G12
            have b10 := below_step (below_alloc (Below.refl W10.heap.size W10) (.cells #[.int .i64 0, .int .i64 (L0 + 1)] 24)) B11.out
            have HKx := Aside0.mk (((Kept.of_below b10 (fun _ => False)).setCell (p := ⟨W10.heap.size, 0, none⟩) (.inr (Nat.le_refl _)) (.int .i64 1)).setCell (p := ⟨W10.heap.size, 1, none⟩) (.inr (Nat.le_refl _)) (.int .i64 L0))
            have HBx := Aside0.mk (((below_step HB10.out b10).setCell (p := ⟨W10.heap.size, 0, none⟩) (below_size HB10.out) (.int .i64 1)).setCell (p := ⟨W10.heap.size, 1, none⟩) (below_size HB10.out) (.int .i64 L0))
            have HSx := Aside0.mk (((HS10t.out.below b10).far (p := ⟨W10.heap.size, 0, none⟩) (fun k hk => by have := hk.1; dsimp only; omega) (.int .i64 1)).far (p := ⟨W10.heap.size, 1, none⟩) (fun k hk => by have := hk.1; dsimp only; omega) (.int .i64 L0))
            have HRx := Aside0.mk (Kd.R_far (Kd.R_far (Kd.R_below HR10t.out b10) (p := ⟨W10.heap.size, 0, none⟩) (fun k hk => by have := hk.1; dsimp only; omega) (.int .i64 1)) (p := ⟨W10.heap.size, 1, none⟩) (fun k hk => by have := hk.1; dsimp only; omega) (.int .i64 L0))
            have HXlt := Aside0.mk (Nat.le_refl W10.heap.size)
            clear hX11 G11 G12 b10
            have HCX := Aside0.mk (HC1'.out (by first | trivial | rfl))
            go_wp2_with (fail)
            refine (rAdd 1 L0 HBx.out HSx.out HRx.out ok_apart HV5.out (by have := HL5.out; omega)).mono ?_
            rw [HCX.out, if_pos rfl]
            rintro e W21 ⟨v21, rfl, hR21, hS21, hB21, hK21⟩
            obtain ⟨A6, c6, rfl⟩ := Kd.R_slice hR21
            have hX21 := blk_kept HXx.out hK21 (fun h => by have := h.1; have := HXlt.out; omega)
            have z0 := blk_cell hX21 0
            have z1 := blk_cell hX21 1
            have HR21 := Aside0.mk hR21
            have HS21 := Aside0.mk hS21
            have HB21 := Aside0.mk hB21
            obtain ⟨r6, hr6⟩ : ∃ r, r5 ++ [(⟨1, L0⟩ : S24)] = r := ⟨_, rfl⟩
            rw [hr6] at HR21 ⊢
            have HVT := Aside0.mk (show V r6 (stp s5 1 L0) from by rw [stp, if_pos HCX.out, ← hr6]; exact V.snoc ⟨1, L0⟩ HV5.out HCX.out)
            have HLJ := Aside0.mk (show r6.length ≤ 2 * (j + 1) from by rw [← hr6, List.length_append, List.length_singleton]; have := HL5.out; omega)
            have HXsz := Aside0.mk HKx.out.1
            clear hR21 hS21 hB21 hK21 hX21 hr6
            go_wp2_with (fail)
            refine (sAdd 1 L0 HB21.out HS21.out HR21.out (fun k hs hr => hr.elim (ok_apart k hs) (fun h => by have := hs.1; have := HXsz.out; omega)) HSM5.out).mono ?_
            rw [HCX.out]
            obtain ⟨s6, hs6⟩ : ∃ s, stp s5 1 L0 = s := ⟨_, rfl⟩
            rw [hs6] at HVT ⊢
            rintro e W7 ⟨rfl, hS7, hR7, hB7, hK7⟩
            have HST := Aside0.mk hS7
            have HRT := Aside0.mk hR7
            have HBT := Aside0.mk hB7
            have HL6 := Aside0.mk (show r6.length ≤ 100000 from by have := HLJ.out; omega)
            have HSM6 := Aside0.mk (HVT.out.sm (by have := HL6.out; omega))
            clear hs6 hS7 hR7 hB7 hK7 z0 z1
            go_wp2_with (fail)
            refine (open_calls HST.out).mono ?_
            obtain ⟨o1, o2, ho⟩ : ∃ o1 o2, oQ s6.o = (o1, o2) := ⟨_, _, rfl⟩
            rw [ho]
            rintro e Wy ⟨rfl, hw⟩
            obtain rfl := hw.symm
            have HO := Aside0.mk (rondelref21_Open.calls (r6.length + 1) A6 c6 r6 o1 o2 _ (Kd.R_reads' HRT.out).2.2 (Kd.R_reads' HRT.out).2.1 (by rw [open_f r6 (by have := HL6.out; omega) _ (Nat.le_refl _), opens_same HVT.out, ho]))
            clear ho
            obtain ⟨n6, hn6⟩ : ∃ n, r6.length = n := ⟨_, rfl⟩
            have HN6 := Aside0.mk hn6
            rw [hn6] at HO ⊢
            clear hn6
            go_wp2_with (fail)
            refine HO.out.mono ?_
            rintro e W8 ⟨rfl, h8⟩
            obtain ⟨q8, h8⟩ := h8.out
            have b8 := pw_below_drewN (Below.refl W7.heap.size W7) q8
            rw [← h8] at b8
            have HB8 := Aside0.mk b8
            have HS8 := Aside0.mk (HST.out.below b8)
            clear h8 HO b8
            go_wp2_with (fail)
            refine (first_calls kk HS8.out HSM6.out).mono ?_
            obtain ⟨f1, hf1⟩ : ∃ f, idxF kk 0 s6.f + 1 = f := ⟨_, rfl⟩
            obtain ⟨f2, hf2⟩ : ∃ f, decide (idxF kk 0 s6.f ≥ 0) = f := ⟨_, rfl⟩
            rw [hf1, hf2]
            rintro e W9 ⟨rfl, hb9⟩
            have HB9 := Aside0.mk (below_step HB8.out hb9)
            have hFi := rondelref21_First.calls (r6.length + 2) A6 c6 r6 kk f1 f2 W9 (Kd.C_below (Kd.R_reads' HRT.out).2.2 HB9.out) (Kd.R_reads' HRT.out).2.1 (by rw [first_f HVT.out HL6.out kk, hf1, hf2])
            rw [HN6.out] at hFi
            have HFI := Aside0.mk hFi
            clear hb9 hf1 hf2 hFi
            go_wp2_with (fail)
            refine HFI.out.mono ?_
            rintro e W10 ⟨rfl, hb10⟩
            have HB10 := Aside0.mk (below_step HB9.out hb10)
            have HS10 := Aside0.mk (HST.out.below HB10.out)
            clear hb10 HFI
            have hff : (f2 != f2) = false := by simp
            have hoo : (o2 != o2) = false := by simp
            go_wp2_with (fail)
            refine (len_calls HS10.out).mono ?_
            rw [HVT.out.good.n, HN6.out]
            rintro e Wy ⟨rfl, hw⟩
            obtain rfl := hw.symm
            go_wp2_with (fail)
            refine (changes_calls HS10.out).mono ?_
            rw [HVT.out.good.c]
            rintro e Wy ⟨rfl, hw⟩
            obtain rfl := hw.symm
            have hCh := rondelref21_Changes.calls (r6.length + 1) A6 c6 r6 (lastK 0 0 r6) _ (Kd.C_below (Kd.R_reads' HRT.out).2.2 HB10.out) (Kd.R_reads' HRT.out).2.1 (by unfold rondelref21_Changes.f; rw [last_f r6 (by have := HL6.out; omega) 0 _ (Nat.le_refl _)]; rfl)
            rw [HN6.out] at hCh
            have HCH := Aside0.mk hCh
            clear hCh
            go_wp2_with (fail)
            refine HCH.out.mono ?_
            rintro e W11 ⟨rfl, h11⟩
            obtain ⟨q11, h11⟩ := h11.out
            have b11 := pw_below_drewN HB10.out q11
            rw [← h11] at b11
            have HB11 := Aside0.mk b11
            have HS11 := Aside0.mk (HST.out.below b11)
            clear h11 HCH b11
            go_wp2_with (fail)
            refine (frames_calls HS11.out HSM6.out).mono ?_
            rintro e W12 ⟨v12, rfl, hR12, hb12⟩
            obtain ⟨A12, c12, rfl⟩ := Kd.R_slice hR12
            have hF12 := Kd.R_reads' hR12
            have HB12 := Aside0.mk (below_step HB11.out hb12)
            have hFr := rondelref21_Frames.calls (r6.length + 1) A6 c6 r6 s6.f W12 (Kd.C_below (Kd.R_reads' HRT.out).2.2 HB12.out) (Kd.R_reads' HRT.out).2.1 (by rw [HVT.out.good.f]; exact frames_f r6 (by have := HL6.out; omega) _ (Nat.le_refl _))
            rw [HN6.out] at hFr
            have HFR := Aside0.mk hFr
            have HF12 := Aside0.mk hF12
            clear hR12 hb12 hFr hF12
            go_wp2_with (fail)
            refine HFR.out.mono ?_
            rintro e W13 ⟨v13, rfl, hR13, hb13⟩
            obtain ⟨A13, c13, rfl⟩ := Kd.R_slice hR13
            have hF13 := Kd.R_reads' hR13
            have HSA := Aside0.mk (rondelref11_Same.calls (s6.f.length + 1) A12 c12 s6.f A13 c13 s6.f true W13 (Kd.C_below HF12.out.2.2 hb13) HF12.out.2.1 hF13.2.2 hF13.2.1 (same_f s6.f HSM6.out.f _ (Nat.le_refl _)))
            have HB13 := Aside0.mk (below_step HB12.out hb13)
            clear hR13 hb13 hF13 HFR
            go_wp2_with (fail)
            refine HSA.out.mono ?_
            rintro e W14 ⟨rfl, h14⟩
            obtain ⟨q14, h14⟩ := h14.out
            have b14 := pw_below_drewN HB13.out q14
            rw [← h14] at b14
            have HR14 := Aside0.mk (Kd.R_below HRT.out b14)
            rw [HN6.out] at HR14
            have HS14 := Aside0.mk (HST.out.below b14)
            have HB14 := Aside0.mk (below_step HBT.out b14)
            clear h14 HSA b14
            go_wp2_with (fail)
            go_roundw
            case rel => exact ⟨j + 1, s6, r6, by go_num, by omega, by omega, ⟨HS14.out.typed⟩, ⟨R_typed HR14.out⟩, HB14, ⟨HVT.out, by have := HLJ.out; omega⟩⟩
            case measure => simp [intOf]; omega
          · by_cases k2 : kd = 2 ∧ ob = true
            · obtain ⟨rfl, rfl⟩ := k2
              go_wp2_with (fail)
              refine (HFr'.out _ (Kd.C_alloc (Kd.C_below HC5.out HD10.out) _)).mono ?_
              rintro e W11 ⟨v11, rfl, hR11, hb11⟩
              obtain ⟨A11, c11, rfl⟩ := Kd.R_slice hR11
              rw [HFL.out]
              have B11 := Aside0.mk hb11
              clear hR11 hb11
              have hX11 : W11.heap[W10.heap.size]? = some (.cells #[.int .i64 0, .int .i64 (L0 + 1)] 24 (0, 0)) := blk_below (blk_new W10 _) B11.out
              have G11 := blk_put hX11 0 (.int .i64 2) rfl
              have G12 := blk_put G11 1 (.int .i64 ((FL : Int) + 1)) rfl
              have z0 := blk_cell hX11 0
              have f0 := blk_frozen hX11 0
              have z1 := blk_cell hX11 1
              have f1 := blk_frozen hX11 1
              have z2 := blk_cell G11 1
              have f2 := blk_frozen G11 1
              have HXx := Aside0.mk G12
              have b10 := below_step (below_alloc (Below.refl W10.heap.size W10) (.cells #[.int .i64 0, .int .i64 (L0 + 1)] 24)) B11.out
              have HKx := Aside0.mk (((Kept.of_below b10 (fun _ => False)).setCell (p := ⟨W10.heap.size, 0, none⟩) (.inr (Nat.le_refl _)) (.int .i64 2)).setCell (p := ⟨W10.heap.size, 1, none⟩) (.inr (Nat.le_refl _)) (.int .i64 ((FL : Int) + 1)))
              have HBx := Aside0.mk (((below_step HB10.out b10).setCell (p := ⟨W10.heap.size, 0, none⟩) (below_size HB10.out) (.int .i64 2)).setCell (p := ⟨W10.heap.size, 1, none⟩) (below_size HB10.out) (.int .i64 ((FL : Int) + 1)))
              have HSx := Aside0.mk (((HS10t.out.below b10).far (p := ⟨W10.heap.size, 0, none⟩) (fun k hk => by have := hk.1; dsimp only; omega) (.int .i64 2)).far (p := ⟨W10.heap.size, 1, none⟩) (fun k hk => by have := hk.1; dsimp only; omega) (.int .i64 ((FL : Int) + 1)))
              have HRx := Aside0.mk (Kd.R_far (Kd.R_far (Kd.R_below HR10t.out b10) (p := ⟨W10.heap.size, 0, none⟩) (fun k hk => by have := hk.1; dsimp only; omega) (.int .i64 2)) (p := ⟨W10.heap.size, 1, none⟩) (fun k hk => by have := hk.1; dsimp only; omega) (.int .i64 ((FL : Int) + 1)))
              have HXlt := Aside0.mk (Nat.le_refl W10.heap.size)
              clear hX11 G11 G12 b10
              have HCX := Aside0.mk (HC2'.out (by first | trivial | rfl))
              go_wp2_with (fail)
              refine (rAdd 2 ((FL : Int) + 1) HBx.out HSx.out HRx.out ok_apart HV5.out (by have := HL5.out; omega)).mono ?_
              rw [HCX.out, if_pos rfl]
              rintro e W21 ⟨v21, rfl, hR21, hS21, hB21, hK21⟩
              obtain ⟨A6, c6, rfl⟩ := Kd.R_slice hR21
              have hX21 := blk_kept HXx.out hK21 (fun h => by have := h.1; have := HXlt.out; omega)
              have z0 := blk_cell hX21 0
              have z1 := blk_cell hX21 1
              have HR21 := Aside0.mk hR21
              have HS21 := Aside0.mk hS21
              have HB21 := Aside0.mk hB21
              obtain ⟨r6, hr6⟩ : ∃ r, r5 ++ [(⟨2, ((FL : Int) + 1)⟩ : S24)] = r := ⟨_, rfl⟩
              rw [hr6] at HR21 ⊢
              have HVT := Aside0.mk (show V r6 (stp s5 2 ((FL : Int) + 1)) from by rw [stp, if_pos HCX.out, ← hr6]; exact V.snoc ⟨2, ((FL : Int) + 1)⟩ HV5.out HCX.out)
              have HLJ := Aside0.mk (show r6.length ≤ 2 * (j + 1) from by rw [← hr6, List.length_append, List.length_singleton]; have := HL5.out; omega)
              have HXsz := Aside0.mk HKx.out.1
              clear hR21 hS21 hB21 hK21 hX21 hr6
              go_wp2_with (fail)
              refine (sAdd 2 ((FL : Int) + 1) HB21.out HS21.out HR21.out (fun k hs hr => hr.elim (ok_apart k hs) (fun h => by have := hs.1; have := HXsz.out; omega)) HSM5.out).mono ?_
              rw [HCX.out]
              obtain ⟨s6, hs6⟩ : ∃ s, stp s5 2 ((FL : Int) + 1) = s := ⟨_, rfl⟩
              rw [hs6] at HVT ⊢
              rintro e W7 ⟨rfl, hS7, hR7, hB7, hK7⟩
              have HST := Aside0.mk hS7
              have HRT := Aside0.mk hR7
              have HBT := Aside0.mk hB7
              have HL6 := Aside0.mk (show r6.length ≤ 100000 from by have := HLJ.out; omega)
              have HSM6 := Aside0.mk (HVT.out.sm (by have := HL6.out; omega))
              clear hs6 hS7 hR7 hB7 hK7 z0 z1
              go_wp2_with (fail)
              refine (open_calls HST.out).mono ?_
              obtain ⟨o1, o2, ho⟩ : ∃ o1 o2, oQ s6.o = (o1, o2) := ⟨_, _, rfl⟩
              rw [ho]
              rintro e Wy ⟨rfl, hw⟩
              obtain rfl := hw.symm
              have HO := Aside0.mk (rondelref21_Open.calls (r6.length + 1) A6 c6 r6 o1 o2 _ (Kd.R_reads' HRT.out).2.2 (Kd.R_reads' HRT.out).2.1 (by rw [open_f r6 (by have := HL6.out; omega) _ (Nat.le_refl _), opens_same HVT.out, ho]))
              clear ho
              obtain ⟨n6, hn6⟩ : ∃ n, r6.length = n := ⟨_, rfl⟩
              have HN6 := Aside0.mk hn6
              rw [hn6] at HO ⊢
              clear hn6
              go_wp2_with (fail)
              refine HO.out.mono ?_
              rintro e W8 ⟨rfl, h8⟩
              obtain ⟨q8, h8⟩ := h8.out
              have b8 := pw_below_drewN (Below.refl W7.heap.size W7) q8
              rw [← h8] at b8
              have HB8 := Aside0.mk b8
              have HS8 := Aside0.mk (HST.out.below b8)
              clear h8 HO b8
              go_wp2_with (fail)
              refine (first_calls kk HS8.out HSM6.out).mono ?_
              obtain ⟨f1, hf1⟩ : ∃ f, idxF kk 0 s6.f + 1 = f := ⟨_, rfl⟩
              obtain ⟨f2, hf2⟩ : ∃ f, decide (idxF kk 0 s6.f ≥ 0) = f := ⟨_, rfl⟩
              rw [hf1, hf2]
              rintro e W9 ⟨rfl, hb9⟩
              have HB9 := Aside0.mk (below_step HB8.out hb9)
              have hFi := rondelref21_First.calls (r6.length + 2) A6 c6 r6 kk f1 f2 W9 (Kd.C_below (Kd.R_reads' HRT.out).2.2 HB9.out) (Kd.R_reads' HRT.out).2.1 (by rw [first_f HVT.out HL6.out kk, hf1, hf2])
              rw [HN6.out] at hFi
              have HFI := Aside0.mk hFi
              clear hb9 hf1 hf2 hFi
              go_wp2_with (fail)
              refine HFI.out.mono ?_
              rintro e W10 ⟨rfl, hb10⟩
              have HB10 := Aside0.mk (below_step HB9.out hb10)
              have HS10 := Aside0.mk (HST.out.below HB10.out)
              clear hb10 HFI
              have hff : (f2 != f2) = false := by simp
              have hoo : (o2 != o2) = false := by simp
              go_wp2_with (fail)
              refine (len_calls HS10.out).mono ?_
              rw [HVT.out.good.n, HN6.out]
              rintro e Wy ⟨rfl, hw⟩
              obtain rfl := hw.symm
              go_wp2_with (fail)
              refine (changes_calls HS10.out).mono ?_
              rw [HVT.out.good.c]
              rintro e Wy ⟨rfl, hw⟩
              obtain rfl := hw.symm
              have hCh := rondelref21_Changes.calls (r6.length + 1) A6 c6 r6 (lastK 0 0 r6) _ (Kd.C_below (Kd.R_reads' HRT.out).2.2 HB10.out) (Kd.R_reads' HRT.out).2.1 (by unfold rondelref21_Changes.f; rw [last_f r6 (by have := HL6.out; omega) 0 _ (Nat.le_refl _)]; rfl)
              rw [HN6.out] at hCh
              have HCH := Aside0.mk hCh
              clear hCh
              go_wp2_with (fail)
              refine HCH.out.mono ?_
              rintro e W11 ⟨rfl, h11⟩
              obtain ⟨q11, h11⟩ := h11.out
              have b11 := pw_below_drewN HB10.out q11
              rw [← h11] at b11
              have HB11 := Aside0.mk b11
              have HS11 := Aside0.mk (HST.out.below b11)
              clear h11 HCH b11
              go_wp2_with (fail)
              refine (frames_calls HS11.out HSM6.out).mono ?_
              rintro e W12 ⟨v12, rfl, hR12, hb12⟩
              obtain ⟨A12, c12, rfl⟩ := Kd.R_slice hR12
              have hF12 := Kd.R_reads' hR12
              have HB12 := Aside0.mk (below_step HB11.out hb12)
              have hFr := rondelref21_Frames.calls (r6.length + 1) A6 c6 r6 s6.f W12 (Kd.C_below (Kd.R_reads' HRT.out).2.2 HB12.out) (Kd.R_reads' HRT.out).2.1 (by rw [HVT.out.good.f]; exact frames_f r6 (by have := HL6.out; omega) _ (Nat.le_refl _))
              rw [HN6.out] at hFr
              have HFR := Aside0.mk hFr
              have HF12 := Aside0.mk hF12
              clear hR12 hb12 hFr hF12
              go_wp2_with (fail)
              refine HFR.out.mono ?_
              rintro e W13 ⟨v13, rfl, hR13, hb13⟩
              obtain ⟨A13, c13, rfl⟩ := Kd.R_slice hR13
              have hF13 := Kd.R_reads' hR13
              have HSA := Aside0.mk (rondelref11_Same.calls (s6.f.length + 1) A12 c12 s6.f A13 c13 s6.f true W13 (Kd.C_below HF12.out.2.2 hb13) HF12.out.2.1 hF13.2.2 hF13.2.1 (same_f s6.f HSM6.out.f _ (Nat.le_refl _)))
              have HB13 := Aside0.mk (below_step HB12.out hb13)
              clear hR13 hb13 hF13 HFR
              go_wp2_with (fail)
              refine HSA.out.mono ?_
              rintro e W14 ⟨rfl, h14⟩
              obtain ⟨q14, h14⟩ := h14.out
              have b14 := pw_below_drewN HB13.out q14
              rw [← h14] at b14
              have HR14 := Aside0.mk (Kd.R_below HRT.out b14)
              rw [HN6.out] at HR14
              have HS14 := Aside0.mk (HST.out.below b14)
              have HB14 := Aside0.mk (below_step HBT.out b14)
              clear h14 HSA b14
              go_wp2_with (fail)
              go_roundw
              case rel => exact ⟨j + 1, s6, r6, by go_num, by omega, by omega, ⟨HS14.out.typed⟩, ⟨R_typed HR14.out⟩, HB14, ⟨HVT.out, by have := HLJ.out; omega⟩⟩
              case measure => simp [intOf]; omega
            · cases ob
              · have hk1 : (kd == 1) = false := by rw [beq_eq_false_iff_ne]; exact fun h => k1 ⟨h, rfl⟩
                clear k1 k2
                cases hk2 : (kd == 2)
                · skip
                  have HXx := Aside0.mk (blk_new W10 (.cells #[.int .i64 0, .int .i64 (L0 + 1)] 24))
                  have HKx := Aside0.mk (Kept.of_below (below_alloc (Below.refl W10.heap.size W10) (.cells #[.int .i64 0, .int .i64 (L0 + 1)] 24)) (fun _ => False))
                  have HBx := Aside0.mk (below_alloc HB10.out (.cells #[.int .i64 0, .int .i64 (L0 + 1)] 24))
                  have HSx := Aside0.mk (HS10t.out.below (below_alloc (Below.refl W10.heap.size W10) (.cells #[.int .i64 0, .int .i64 (L0 + 1)] 24)))
                  have HRx := Aside0.mk (Kd.R_alloc HR10t.out (.cells #[.int .i64 0, .int .i64 (L0 + 1)] 24))
                  have HXlt := Aside0.mk (Nat.le_refl W10.heap.size)
                  have HCX := HC0
                  go_wp2_with (fail)
                  refine (rAdd 0 (L0 + 1) HBx.out HSx.out HRx.out ok_apart HV5.out (by have := HL5.out; omega)).mono ?_
                  rw [HCX.out, if_pos rfl]
                  rintro e W21 ⟨v21, rfl, hR21, hS21, hB21, hK21⟩
                  obtain ⟨A6, c6, rfl⟩ := Kd.R_slice hR21
                  have hX21 := blk_kept HXx.out hK21 (fun h => by have := h.1; have := HXlt.out; omega)
                  have z0 := blk_cell hX21 0
                  have z1 := blk_cell hX21 1
                  have HR21 := Aside0.mk hR21
                  have HS21 := Aside0.mk hS21
                  have HB21 := Aside0.mk hB21
                  obtain ⟨r6, hr6⟩ : ∃ r, r5 ++ [(⟨0, (L0 + 1)⟩ : S24)] = r := ⟨_, rfl⟩
                  rw [hr6] at HR21 ⊢
                  have HVT := Aside0.mk (show V r6 (stp s5 0 (L0 + 1)) from by rw [stp, if_pos HCX.out, ← hr6]; exact V.snoc ⟨0, (L0 + 1)⟩ HV5.out HCX.out)
                  have HLJ := Aside0.mk (show r6.length ≤ 2 * (j + 1) from by rw [← hr6, List.length_append, List.length_singleton]; have := HL5.out; omega)
                  have HXsz := Aside0.mk HKx.out.1
                  clear hR21 hS21 hB21 hK21 hX21 hr6
                  go_wp2_with (fail)
                  refine (sAdd 0 (L0 + 1) HB21.out HS21.out HR21.out (fun k hs hr => hr.elim (ok_apart k hs) (fun h => by have := hs.1; have := HXsz.out; omega)) HSM5.out).mono ?_
                  rw [HCX.out]
                  obtain ⟨s6, hs6⟩ : ∃ s, stp s5 0 (L0 + 1) = s := ⟨_, rfl⟩
                  rw [hs6] at HVT ⊢
                  rintro e W7 ⟨rfl, hS7, hR7, hB7, hK7⟩
                  have HST := Aside0.mk hS7
                  have HRT := Aside0.mk hR7
                  have HBT := Aside0.mk hB7
                  have HL6 := Aside0.mk (show r6.length ≤ 100000 from by have := HLJ.out; omega)
                  have HSM6 := Aside0.mk (HVT.out.sm (by have := HL6.out; omega))
                  clear hs6 hS7 hR7 hB7 hK7 z0 z1
                  go_wp2_with (fail)
                  refine (open_calls HST.out).mono ?_
                  obtain ⟨o1, o2, ho⟩ : ∃ o1 o2, oQ s6.o = (o1, o2) := ⟨_, _, rfl⟩
                  rw [ho]
                  rintro e Wy ⟨rfl, hw⟩
                  obtain rfl := hw.symm
                  have HO := Aside0.mk (rondelref21_Open.calls (r6.length + 1) A6 c6 r6 o1 o2 _ (Kd.R_reads' HRT.out).2.2 (Kd.R_reads' HRT.out).2.1 (by rw [open_f r6 (by have := HL6.out; omega) _ (Nat.le_refl _), opens_same HVT.out, ho]))
                  clear ho
                  obtain ⟨n6, hn6⟩ : ∃ n, r6.length = n := ⟨_, rfl⟩
                  have HN6 := Aside0.mk hn6
                  rw [hn6] at HO ⊢
                  clear hn6
                  go_wp2_with (fail)
                  refine HO.out.mono ?_
                  rintro e W8 ⟨rfl, h8⟩
                  obtain ⟨q8, h8⟩ := h8.out
                  have b8 := pw_below_drewN (Below.refl W7.heap.size W7) q8
                  rw [← h8] at b8
                  have HB8 := Aside0.mk b8
                  have HS8 := Aside0.mk (HST.out.below b8)
                  clear h8 HO b8
                  go_wp2_with (fail)
                  refine (first_calls kk HS8.out HSM6.out).mono ?_
                  obtain ⟨f1, hf1⟩ : ∃ f, idxF kk 0 s6.f + 1 = f := ⟨_, rfl⟩
                  obtain ⟨f2, hf2⟩ : ∃ f, decide (idxF kk 0 s6.f ≥ 0) = f := ⟨_, rfl⟩
                  rw [hf1, hf2]
                  rintro e W9 ⟨rfl, hb9⟩
                  have HB9 := Aside0.mk (below_step HB8.out hb9)
                  have hFi := rondelref21_First.calls (r6.length + 2) A6 c6 r6 kk f1 f2 W9 (Kd.C_below (Kd.R_reads' HRT.out).2.2 HB9.out) (Kd.R_reads' HRT.out).2.1 (by rw [first_f HVT.out HL6.out kk, hf1, hf2])
                  rw [HN6.out] at hFi
                  have HFI := Aside0.mk hFi
                  clear hb9 hf1 hf2 hFi
                  go_wp2_with (fail)
                  refine HFI.out.mono ?_
                  rintro e W10 ⟨rfl, hb10⟩
                  have HB10 := Aside0.mk (below_step HB9.out hb10)
                  have HS10 := Aside0.mk (HST.out.below HB10.out)
                  clear hb10 HFI
                  have hff : (f2 != f2) = false := by simp
                  have hoo : (o2 != o2) = false := by simp
                  go_wp2_with (fail)
                  refine (len_calls HS10.out).mono ?_
                  rw [HVT.out.good.n, HN6.out]
                  rintro e Wy ⟨rfl, hw⟩
                  obtain rfl := hw.symm
                  go_wp2_with (fail)
                  refine (changes_calls HS10.out).mono ?_
                  rw [HVT.out.good.c]
                  rintro e Wy ⟨rfl, hw⟩
                  obtain rfl := hw.symm
                  have hCh := rondelref21_Changes.calls (r6.length + 1) A6 c6 r6 (lastK 0 0 r6) _ (Kd.C_below (Kd.R_reads' HRT.out).2.2 HB10.out) (Kd.R_reads' HRT.out).2.1 (by unfold rondelref21_Changes.f; rw [last_f r6 (by have := HL6.out; omega) 0 _ (Nat.le_refl _)]; rfl)
                  rw [HN6.out] at hCh
                  have HCH := Aside0.mk hCh
                  clear hCh
                  go_wp2_with (fail)
                  refine HCH.out.mono ?_
                  rintro e W11 ⟨rfl, h11⟩
                  obtain ⟨q11, h11⟩ := h11.out
                  have b11 := pw_below_drewN HB10.out q11
                  rw [← h11] at b11
                  have HB11 := Aside0.mk b11
                  have HS11 := Aside0.mk (HST.out.below b11)
                  clear h11 HCH b11
                  go_wp2_with (fail)
                  refine (frames_calls HS11.out HSM6.out).mono ?_
                  rintro e W12 ⟨v12, rfl, hR12, hb12⟩
                  obtain ⟨A12, c12, rfl⟩ := Kd.R_slice hR12
                  have hF12 := Kd.R_reads' hR12
                  have HB12 := Aside0.mk (below_step HB11.out hb12)
                  have hFr := rondelref21_Frames.calls (r6.length + 1) A6 c6 r6 s6.f W12 (Kd.C_below (Kd.R_reads' HRT.out).2.2 HB12.out) (Kd.R_reads' HRT.out).2.1 (by rw [HVT.out.good.f]; exact frames_f r6 (by have := HL6.out; omega) _ (Nat.le_refl _))
                  rw [HN6.out] at hFr
                  have HFR := Aside0.mk hFr
                  have HF12 := Aside0.mk hF12
                  clear hR12 hb12 hFr hF12
                  go_wp2_with (fail)
                  refine HFR.out.mono ?_
                  rintro e W13 ⟨v13, rfl, hR13, hb13⟩
                  obtain ⟨A13, c13, rfl⟩ := Kd.R_slice hR13
                  have hF13 := Kd.R_reads' hR13
                  have HSA := Aside0.mk (rondelref11_Same.calls (s6.f.length + 1) A12 c12 s6.f A13 c13 s6.f true W13 (Kd.C_below HF12.out.2.2 hb13) HF12.out.2.1 hF13.2.2 hF13.2.1 (same_f s6.f HSM6.out.f _ (Nat.le_refl _)))
                  have HB13 := Aside0.mk (below_step HB12.out hb13)
                  clear hR13 hb13 hF13 HFR
                  go_wp2_with (fail)
                  refine HSA.out.mono ?_
                  rintro e W14 ⟨rfl, h14⟩
                  obtain ⟨q14, h14⟩ := h14.out
                  have b14 := pw_below_drewN HB13.out q14
                  rw [← h14] at b14
                  have HR14 := Aside0.mk (Kd.R_below HRT.out b14)
                  rw [HN6.out] at HR14
                  have HS14 := Aside0.mk (HST.out.below b14)
                  have HB14 := Aside0.mk (below_step HBT.out b14)
                  clear h14 HSA b14
                  go_wp2_with (fail)
                  go_roundw
                  case rel => exact ⟨j + 1, s6, r6, by go_num, by omega, by omega, ⟨HS14.out.typed⟩, ⟨R_typed HR14.out⟩, HB14, ⟨HVT.out, by have := HLJ.out; omega⟩⟩
                  case measure => simp [intOf]; omega
                · skip
                  have HXx := Aside0.mk (blk_new W10 (.cells #[.int .i64 0, .int .i64 (L0 + 1)] 24))
                  have HKx := Aside0.mk (Kept.of_below (below_alloc (Below.refl W10.heap.size W10) (.cells #[.int .i64 0, .int .i64 (L0 + 1)] 24)) (fun _ => False))
                  have HBx := Aside0.mk (below_alloc HB10.out (.cells #[.int .i64 0, .int .i64 (L0 + 1)] 24))
                  have HSx := Aside0.mk (HS10t.out.below (below_alloc (Below.refl W10.heap.size W10) (.cells #[.int .i64 0, .int .i64 (L0 + 1)] 24)))
                  have HRx := Aside0.mk (Kd.R_alloc HR10t.out (.cells #[.int .i64 0, .int .i64 (L0 + 1)] 24))
                  have HXlt := Aside0.mk (Nat.le_refl W10.heap.size)
                  have HCX := HC0
                  go_wp2_with (fail)
                  refine (rAdd 0 (L0 + 1) HBx.out HSx.out HRx.out ok_apart HV5.out (by have := HL5.out; omega)).mono ?_
                  rw [HCX.out, if_pos rfl]
                  rintro e W21 ⟨v21, rfl, hR21, hS21, hB21, hK21⟩
                  obtain ⟨A6, c6, rfl⟩ := Kd.R_slice hR21
                  have hX21 := blk_kept HXx.out hK21 (fun h => by have := h.1; have := HXlt.out; omega)
                  have z0 := blk_cell hX21 0
                  have z1 := blk_cell hX21 1
                  have HR21 := Aside0.mk hR21
                  have HS21 := Aside0.mk hS21
                  have HB21 := Aside0.mk hB21
                  obtain ⟨r6, hr6⟩ : ∃ r, r5 ++ [(⟨0, (L0 + 1)⟩ : S24)] = r := ⟨_, rfl⟩
                  rw [hr6] at HR21 ⊢
                  have HVT := Aside0.mk (show V r6 (stp s5 0 (L0 + 1)) from by rw [stp, if_pos HCX.out, ← hr6]; exact V.snoc ⟨0, (L0 + 1)⟩ HV5.out HCX.out)
                  have HLJ := Aside0.mk (show r6.length ≤ 2 * (j + 1) from by rw [← hr6, List.length_append, List.length_singleton]; have := HL5.out; omega)
                  have HXsz := Aside0.mk HKx.out.1
                  clear hR21 hS21 hB21 hK21 hX21 hr6
                  go_wp2_with (fail)
                  refine (sAdd 0 (L0 + 1) HB21.out HS21.out HR21.out (fun k hs hr => hr.elim (ok_apart k hs) (fun h => by have := hs.1; have := HXsz.out; omega)) HSM5.out).mono ?_
                  rw [HCX.out]
                  obtain ⟨s6, hs6⟩ : ∃ s, stp s5 0 (L0 + 1) = s := ⟨_, rfl⟩
                  rw [hs6] at HVT ⊢
                  rintro e W7 ⟨rfl, hS7, hR7, hB7, hK7⟩
                  have HST := Aside0.mk hS7
                  have HRT := Aside0.mk hR7
                  have HBT := Aside0.mk hB7
                  have HL6 := Aside0.mk (show r6.length ≤ 100000 from by have := HLJ.out; omega)
                  have HSM6 := Aside0.mk (HVT.out.sm (by have := HL6.out; omega))
                  clear hs6 hS7 hR7 hB7 hK7 z0 z1
                  go_wp2_with (fail)
                  refine (open_calls HST.out).mono ?_
                  obtain ⟨o1, o2, ho⟩ : ∃ o1 o2, oQ s6.o = (o1, o2) := ⟨_, _, rfl⟩
                  rw [ho]
                  rintro e Wy ⟨rfl, hw⟩
                  obtain rfl := hw.symm
                  have HO := Aside0.mk (rondelref21_Open.calls (r6.length + 1) A6 c6 r6 o1 o2 _ (Kd.R_reads' HRT.out).2.2 (Kd.R_reads' HRT.out).2.1 (by rw [open_f r6 (by have := HL6.out; omega) _ (Nat.le_refl _), opens_same HVT.out, ho]))
                  clear ho
                  obtain ⟨n6, hn6⟩ : ∃ n, r6.length = n := ⟨_, rfl⟩
                  have HN6 := Aside0.mk hn6
                  rw [hn6] at HO ⊢
                  clear hn6
                  go_wp2_with (fail)
                  refine HO.out.mono ?_
                  rintro e W8 ⟨rfl, h8⟩
                  obtain ⟨q8, h8⟩ := h8.out
                  have b8 := pw_below_drewN (Below.refl W7.heap.size W7) q8
                  rw [← h8] at b8
                  have HB8 := Aside0.mk b8
                  have HS8 := Aside0.mk (HST.out.below b8)
                  clear h8 HO b8
                  go_wp2_with (fail)
                  refine (first_calls kk HS8.out HSM6.out).mono ?_
                  obtain ⟨f1, hf1⟩ : ∃ f, idxF kk 0 s6.f + 1 = f := ⟨_, rfl⟩
                  obtain ⟨f2, hf2⟩ : ∃ f, decide (idxF kk 0 s6.f ≥ 0) = f := ⟨_, rfl⟩
                  rw [hf1, hf2]
                  rintro e W9 ⟨rfl, hb9⟩
                  have HB9 := Aside0.mk (below_step HB8.out hb9)
                  have hFi := rondelref21_First.calls (r6.length + 2) A6 c6 r6 kk f1 f2 W9 (Kd.C_below (Kd.R_reads' HRT.out).2.2 HB9.out) (Kd.R_reads' HRT.out).2.1 (by rw [first_f HVT.out HL6.out kk, hf1, hf2])
                  rw [HN6.out] at hFi
                  have HFI := Aside0.mk hFi
                  clear hb9 hf1 hf2 hFi
                  go_wp2_with (fail)
                  refine HFI.out.mono ?_
                  rintro e W10 ⟨rfl, hb10⟩
                  have HB10 := Aside0.mk (below_step HB9.out hb10)
                  have HS10 := Aside0.mk (HST.out.below HB10.out)
                  clear hb10 HFI
                  have hff : (f2 != f2) = false := by simp
                  have hoo : (o2 != o2) = false := by simp
                  go_wp2_with (fail)
                  refine (len_calls HS10.out).mono ?_
                  rw [HVT.out.good.n, HN6.out]
                  rintro e Wy ⟨rfl, hw⟩
                  obtain rfl := hw.symm
                  go_wp2_with (fail)
                  refine (changes_calls HS10.out).mono ?_
                  rw [HVT.out.good.c]
                  rintro e Wy ⟨rfl, hw⟩
                  obtain rfl := hw.symm
                  have hCh := rondelref21_Changes.calls (r6.length + 1) A6 c6 r6 (lastK 0 0 r6) _ (Kd.C_below (Kd.R_reads' HRT.out).2.2 HB10.out) (Kd.R_reads' HRT.out).2.1 (by unfold rondelref21_Changes.f; rw [last_f r6 (by have := HL6.out; omega) 0 _ (Nat.le_refl _)]; rfl)
                  rw [HN6.out] at hCh
                  have HCH := Aside0.mk hCh
                  clear hCh
                  go_wp2_with (fail)
                  refine HCH.out.mono ?_
                  rintro e W11 ⟨rfl, h11⟩
                  obtain ⟨q11, h11⟩ := h11.out
                  have b11 := pw_below_drewN HB10.out q11
                  rw [← h11] at b11
                  have HB11 := Aside0.mk b11
                  have HS11 := Aside0.mk (HST.out.below b11)
                  clear h11 HCH b11
                  go_wp2_with (fail)
                  refine (frames_calls HS11.out HSM6.out).mono ?_
                  rintro e W12 ⟨v12, rfl, hR12, hb12⟩
                  obtain ⟨A12, c12, rfl⟩ := Kd.R_slice hR12
                  have hF12 := Kd.R_reads' hR12
                  have HB12 := Aside0.mk (below_step HB11.out hb12)
                  have hFr := rondelref21_Frames.calls (r6.length + 1) A6 c6 r6 s6.f W12 (Kd.C_below (Kd.R_reads' HRT.out).2.2 HB12.out) (Kd.R_reads' HRT.out).2.1 (by rw [HVT.out.good.f]; exact frames_f r6 (by have := HL6.out; omega) _ (Nat.le_refl _))
                  rw [HN6.out] at hFr
                  have HFR := Aside0.mk hFr
                  have HF12 := Aside0.mk hF12
                  clear hR12 hb12 hFr hF12
                  go_wp2_with (fail)
                  refine HFR.out.mono ?_
                  rintro e W13 ⟨v13, rfl, hR13, hb13⟩
                  obtain ⟨A13, c13, rfl⟩ := Kd.R_slice hR13
                  have hF13 := Kd.R_reads' hR13
                  have HSA := Aside0.mk (rondelref11_Same.calls (s6.f.length + 1) A12 c12 s6.f A13 c13 s6.f true W13 (Kd.C_below HF12.out.2.2 hb13) HF12.out.2.1 hF13.2.2 hF13.2.1 (same_f s6.f HSM6.out.f _ (Nat.le_refl _)))
                  have HB13 := Aside0.mk (below_step HB12.out hb13)
                  clear hR13 hb13 hF13 HFR
                  go_wp2_with (fail)
                  refine HSA.out.mono ?_
                  rintro e W14 ⟨rfl, h14⟩
                  obtain ⟨q14, h14⟩ := h14.out
                  have b14 := pw_below_drewN HB13.out q14
                  rw [← h14] at b14
                  have HR14 := Aside0.mk (Kd.R_below HRT.out b14)
                  rw [HN6.out] at HR14
                  have HS14 := Aside0.mk (HST.out.below b14)
                  have HB14 := Aside0.mk (below_step HBT.out b14)
                  clear h14 HSA b14
                  go_wp2_with (fail)
                  go_roundw
                  case rel => exact ⟨j + 1, s6, r6, by go_num, by omega, by omega, ⟨HS14.out.typed⟩, ⟨R_typed HR14.out⟩, HB14, ⟨HVT.out, by have := HLJ.out; omega⟩⟩
                  case measure => simp [intOf]; omega
              · have hk2 : (kd == 2) = false := by rw [beq_eq_false_iff_ne]; exact fun h => k2 ⟨h, rfl⟩
                clear k1 k2
                cases hk1 : (kd == 1)
                · skip
                  have HXx := Aside0.mk (blk_new W10 (.cells #[.int .i64 0, .int .i64 (L0 + 1)] 24))
                  have HKx := Aside0.mk (Kept.of_below (below_alloc (Below.refl W10.heap.size W10) (.cells #[.int .i64 0, .int .i64 (L0 + 1)] 24)) (fun _ => False))
                  have HBx := Aside0.mk (below_alloc HB10.out (.cells #[.int .i64 0, .int .i64 (L0 + 1)] 24))
                  have HSx := Aside0.mk (HS10t.out.below (below_alloc (Below.refl W10.heap.size W10) (.cells #[.int .i64 0, .int .i64 (L0 + 1)] 24)))
                  have HRx := Aside0.mk (Kd.R_alloc HR10t.out (.cells #[.int .i64 0, .int .i64 (L0 + 1)] 24))
                  have HXlt := Aside0.mk (Nat.le_refl W10.heap.size)
                  have HCX := HC0
                  go_wp2_with (fail)
                  refine (rAdd 0 (L0 + 1) HBx.out HSx.out HRx.out ok_apart HV5.out (by have := HL5.out; omega)).mono ?_
                  rw [HCX.out, if_pos rfl]
                  rintro e W21 ⟨v21, rfl, hR21, hS21, hB21, hK21⟩
                  obtain ⟨A6, c6, rfl⟩ := Kd.R_slice hR21
                  have hX21 := blk_kept HXx.out hK21 (fun h => by have := h.1; have := HXlt.out; omega)
                  have z0 := blk_cell hX21 0
                  have z1 := blk_cell hX21 1
                  have HR21 := Aside0.mk hR21
                  have HS21 := Aside0.mk hS21
                  have HB21 := Aside0.mk hB21
                  obtain ⟨r6, hr6⟩ : ∃ r, r5 ++ [(⟨0, (L0 + 1)⟩ : S24)] = r := ⟨_, rfl⟩
                  rw [hr6] at HR21 ⊢
                  have HVT := Aside0.mk (show V r6 (stp s5 0 (L0 + 1)) from by rw [stp, if_pos HCX.out, ← hr6]; exact V.snoc ⟨0, (L0 + 1)⟩ HV5.out HCX.out)
                  have HLJ := Aside0.mk (show r6.length ≤ 2 * (j + 1) from by rw [← hr6, List.length_append, List.length_singleton]; have := HL5.out; omega)
                  have HXsz := Aside0.mk HKx.out.1
                  clear hR21 hS21 hB21 hK21 hX21 hr6
                  go_wp2_with (fail)
                  refine (sAdd 0 (L0 + 1) HB21.out HS21.out HR21.out (fun k hs hr => hr.elim (ok_apart k hs) (fun h => by have := hs.1; have := HXsz.out; omega)) HSM5.out).mono ?_
                  rw [HCX.out]
                  obtain ⟨s6, hs6⟩ : ∃ s, stp s5 0 (L0 + 1) = s := ⟨_, rfl⟩
                  rw [hs6] at HVT ⊢
                  rintro e W7 ⟨rfl, hS7, hR7, hB7, hK7⟩
                  have HST := Aside0.mk hS7
                  have HRT := Aside0.mk hR7
                  have HBT := Aside0.mk hB7
                  have HL6 := Aside0.mk (show r6.length ≤ 100000 from by have := HLJ.out; omega)
                  have HSM6 := Aside0.mk (HVT.out.sm (by have := HL6.out; omega))
                  clear hs6 hS7 hR7 hB7 hK7 z0 z1
                  go_wp2_with (fail)
                  refine (open_calls HST.out).mono ?_
                  obtain ⟨o1, o2, ho⟩ : ∃ o1 o2, oQ s6.o = (o1, o2) := ⟨_, _, rfl⟩
                  rw [ho]
                  rintro e Wy ⟨rfl, hw⟩
                  obtain rfl := hw.symm
                  have HO := Aside0.mk (rondelref21_Open.calls (r6.length + 1) A6 c6 r6 o1 o2 _ (Kd.R_reads' HRT.out).2.2 (Kd.R_reads' HRT.out).2.1 (by rw [open_f r6 (by have := HL6.out; omega) _ (Nat.le_refl _), opens_same HVT.out, ho]))
                  clear ho
                  obtain ⟨n6, hn6⟩ : ∃ n, r6.length = n := ⟨_, rfl⟩
                  have HN6 := Aside0.mk hn6
                  rw [hn6] at HO ⊢
                  clear hn6
                  go_wp2_with (fail)
                  refine HO.out.mono ?_
                  rintro e W8 ⟨rfl, h8⟩
                  obtain ⟨q8, h8⟩ := h8.out
                  have b8 := pw_below_drewN (Below.refl W7.heap.size W7) q8
                  rw [← h8] at b8
                  have HB8 := Aside0.mk b8
                  have HS8 := Aside0.mk (HST.out.below b8)
                  clear h8 HO b8
                  go_wp2_with (fail)
                  refine (first_calls kk HS8.out HSM6.out).mono ?_
                  obtain ⟨f1, hf1⟩ : ∃ f, idxF kk 0 s6.f + 1 = f := ⟨_, rfl⟩
                  obtain ⟨f2, hf2⟩ : ∃ f, decide (idxF kk 0 s6.f ≥ 0) = f := ⟨_, rfl⟩
                  rw [hf1, hf2]
                  rintro e W9 ⟨rfl, hb9⟩
                  have HB9 := Aside0.mk (below_step HB8.out hb9)
                  have hFi := rondelref21_First.calls (r6.length + 2) A6 c6 r6 kk f1 f2 W9 (Kd.C_below (Kd.R_reads' HRT.out).2.2 HB9.out) (Kd.R_reads' HRT.out).2.1 (by rw [first_f HVT.out HL6.out kk, hf1, hf2])
                  rw [HN6.out] at hFi
                  have HFI := Aside0.mk hFi
                  clear hb9 hf1 hf2 hFi
                  go_wp2_with (fail)
                  refine HFI.out.mono ?_
                  rintro e W10 ⟨rfl, hb10⟩
                  have HB10 := Aside0.mk (below_step HB9.out hb10)
                  have HS10 := Aside0.mk (HST.out.below HB10.out)
                  clear hb10 HFI
                  have hff : (f2 != f2) = false := by simp
                  have hoo : (o2 != o2) = false := by simp
                  go_wp2_with (fail)
                  refine (len_calls HS10.out).mono ?_
                  rw [HVT.out.good.n, HN6.out]
                  rintro e Wy ⟨rfl, hw⟩
                  obtain rfl := hw.symm
                  go_wp2_with (fail)
                  refine (changes_calls HS10.out).mono ?_
                  rw [HVT.out.good.c]
                  rintro e Wy ⟨rfl, hw⟩
                  obtain rfl := hw.symm
                  have hCh := rondelref21_Changes.calls (r6.length + 1) A6 c6 r6 (lastK 0 0 r6) _ (Kd.C_below (Kd.R_reads' HRT.out).2.2 HB10.out) (Kd.R_reads' HRT.out).2.1 (by unfold rondelref21_Changes.f; rw [last_f r6 (by have := HL6.out; omega) 0 _ (Nat.le_refl _)]; rfl)
                  rw [HN6.out] at hCh
                  have HCH := Aside0.mk hCh
                  clear hCh
                  go_wp2_with (fail)
                  refine HCH.out.mono ?_
                  rintro e W11 ⟨rfl, h11⟩
                  obtain ⟨q11, h11⟩ := h11.out
                  have b11 := pw_below_drewN HB10.out q11
                  rw [← h11] at b11
                  have HB11 := Aside0.mk b11
                  have HS11 := Aside0.mk (HST.out.below b11)
                  clear h11 HCH b11
                  go_wp2_with (fail)
                  refine (frames_calls HS11.out HSM6.out).mono ?_
                  rintro e W12 ⟨v12, rfl, hR12, hb12⟩
                  obtain ⟨A12, c12, rfl⟩ := Kd.R_slice hR12
                  have hF12 := Kd.R_reads' hR12
                  have HB12 := Aside0.mk (below_step HB11.out hb12)
                  have hFr := rondelref21_Frames.calls (r6.length + 1) A6 c6 r6 s6.f W12 (Kd.C_below (Kd.R_reads' HRT.out).2.2 HB12.out) (Kd.R_reads' HRT.out).2.1 (by rw [HVT.out.good.f]; exact frames_f r6 (by have := HL6.out; omega) _ (Nat.le_refl _))
                  rw [HN6.out] at hFr
                  have HFR := Aside0.mk hFr
                  have HF12 := Aside0.mk hF12
                  clear hR12 hb12 hFr hF12
                  go_wp2_with (fail)
                  refine HFR.out.mono ?_
                  rintro e W13 ⟨v13, rfl, hR13, hb13⟩
                  obtain ⟨A13, c13, rfl⟩ := Kd.R_slice hR13
                  have hF13 := Kd.R_reads' hR13
                  have HSA := Aside0.mk (rondelref11_Same.calls (s6.f.length + 1) A12 c12 s6.f A13 c13 s6.f true W13 (Kd.C_below HF12.out.2.2 hb13) HF12.out.2.1 hF13.2.2 hF13.2.1 (same_f s6.f HSM6.out.f _ (Nat.le_refl _)))
                  have HB13 := Aside0.mk (below_step HB12.out hb13)
                  clear hR13 hb13 hF13 HFR
                  go_wp2_with (fail)
                  refine HSA.out.mono ?_
                  rintro e W14 ⟨rfl, h14⟩
                  obtain ⟨q14, h14⟩ := h14.out
                  have b14 := pw_below_drewN HB13.out q14
                  rw [← h14] at b14
                  have HR14 := Aside0.mk (Kd.R_below HRT.out b14)
                  rw [HN6.out] at HR14
                  have HS14 := Aside0.mk (HST.out.below b14)
                  have HB14 := Aside0.mk (below_step HBT.out b14)
                  clear h14 HSA b14
                  go_wp2_with (fail)
                  go_roundw
                  case rel => exact ⟨j + 1, s6, r6, by go_num, by omega, by omega, ⟨HS14.out.typed⟩, ⟨R_typed HR14.out⟩, HB14, ⟨HVT.out, by have := HLJ.out; omega⟩⟩
                  case measure => simp [intOf]; omega
                · skip
                  have HXx := Aside0.mk (blk_new W10 (.cells #[.int .i64 0, .int .i64 (L0 + 1)] 24))
                  have HKx := Aside0.mk (Kept.of_below (below_alloc (Below.refl W10.heap.size W10) (.cells #[.int .i64 0, .int .i64 (L0 + 1)] 24)) (fun _ => False))
                  have HBx := Aside0.mk (below_alloc HB10.out (.cells #[.int .i64 0, .int .i64 (L0 + 1)] 24))
                  have HSx := Aside0.mk (HS10t.out.below (below_alloc (Below.refl W10.heap.size W10) (.cells #[.int .i64 0, .int .i64 (L0 + 1)] 24)))
                  have HRx := Aside0.mk (Kd.R_alloc HR10t.out (.cells #[.int .i64 0, .int .i64 (L0 + 1)] 24))
                  have HXlt := Aside0.mk (Nat.le_refl W10.heap.size)
                  have HCX := HC0
                  go_wp2_with (fail)
                  refine (rAdd 0 (L0 + 1) HBx.out HSx.out HRx.out ok_apart HV5.out (by have := HL5.out; omega)).mono ?_
                  rw [HCX.out, if_pos rfl]
                  rintro e W21 ⟨v21, rfl, hR21, hS21, hB21, hK21⟩
                  obtain ⟨A6, c6, rfl⟩ := Kd.R_slice hR21
                  have hX21 := blk_kept HXx.out hK21 (fun h => by have := h.1; have := HXlt.out; omega)
                  have z0 := blk_cell hX21 0
                  have z1 := blk_cell hX21 1
                  have HR21 := Aside0.mk hR21
                  have HS21 := Aside0.mk hS21
                  have HB21 := Aside0.mk hB21
                  obtain ⟨r6, hr6⟩ : ∃ r, r5 ++ [(⟨0, (L0 + 1)⟩ : S24)] = r := ⟨_, rfl⟩
                  rw [hr6] at HR21 ⊢
                  have HVT := Aside0.mk (show V r6 (stp s5 0 (L0 + 1)) from by rw [stp, if_pos HCX.out, ← hr6]; exact V.snoc ⟨0, (L0 + 1)⟩ HV5.out HCX.out)
                  have HLJ := Aside0.mk (show r6.length ≤ 2 * (j + 1) from by rw [← hr6, List.length_append, List.length_singleton]; have := HL5.out; omega)
                  have HXsz := Aside0.mk HKx.out.1
                  clear hR21 hS21 hB21 hK21 hX21 hr6
                  go_wp2_with (fail)
                  refine (sAdd 0 (L0 + 1) HB21.out HS21.out HR21.out (fun k hs hr => hr.elim (ok_apart k hs) (fun h => by have := hs.1; have := HXsz.out; omega)) HSM5.out).mono ?_
                  rw [HCX.out]
                  obtain ⟨s6, hs6⟩ : ∃ s, stp s5 0 (L0 + 1) = s := ⟨_, rfl⟩
                  rw [hs6] at HVT ⊢
                  rintro e W7 ⟨rfl, hS7, hR7, hB7, hK7⟩
                  have HST := Aside0.mk hS7
                  have HRT := Aside0.mk hR7
                  have HBT := Aside0.mk hB7
                  have HL6 := Aside0.mk (show r6.length ≤ 100000 from by have := HLJ.out; omega)
                  have HSM6 := Aside0.mk (HVT.out.sm (by have := HL6.out; omega))
                  clear hs6 hS7 hR7 hB7 hK7 z0 z1
                  go_wp2_with (fail)
                  refine (open_calls HST.out).mono ?_
                  obtain ⟨o1, o2, ho⟩ : ∃ o1 o2, oQ s6.o = (o1, o2) := ⟨_, _, rfl⟩
                  rw [ho]
                  rintro e Wy ⟨rfl, hw⟩
                  obtain rfl := hw.symm
                  have HO := Aside0.mk (rondelref21_Open.calls (r6.length + 1) A6 c6 r6 o1 o2 _ (Kd.R_reads' HRT.out).2.2 (Kd.R_reads' HRT.out).2.1 (by rw [open_f r6 (by have := HL6.out; omega) _ (Nat.le_refl _), opens_same HVT.out, ho]))
                  clear ho
                  obtain ⟨n6, hn6⟩ : ∃ n, r6.length = n := ⟨_, rfl⟩
                  have HN6 := Aside0.mk hn6
                  rw [hn6] at HO ⊢
                  clear hn6
                  go_wp2_with (fail)
                  refine HO.out.mono ?_
                  rintro e W8 ⟨rfl, h8⟩
                  obtain ⟨q8, h8⟩ := h8.out
                  have b8 := pw_below_drewN (Below.refl W7.heap.size W7) q8
                  rw [← h8] at b8
                  have HB8 := Aside0.mk b8
                  have HS8 := Aside0.mk (HST.out.below b8)
                  clear h8 HO b8
                  go_wp2_with (fail)
                  refine (first_calls kk HS8.out HSM6.out).mono ?_
                  obtain ⟨f1, hf1⟩ : ∃ f, idxF kk 0 s6.f + 1 = f := ⟨_, rfl⟩
                  obtain ⟨f2, hf2⟩ : ∃ f, decide (idxF kk 0 s6.f ≥ 0) = f := ⟨_, rfl⟩
                  rw [hf1, hf2]
                  rintro e W9 ⟨rfl, hb9⟩
                  have HB9 := Aside0.mk (below_step HB8.out hb9)
                  have hFi := rondelref21_First.calls (r6.length + 2) A6 c6 r6 kk f1 f2 W9 (Kd.C_below (Kd.R_reads' HRT.out).2.2 HB9.out) (Kd.R_reads' HRT.out).2.1 (by rw [first_f HVT.out HL6.out kk, hf1, hf2])
                  rw [HN6.out] at hFi
                  have HFI := Aside0.mk hFi
                  clear hb9 hf1 hf2 hFi
                  go_wp2_with (fail)
                  refine HFI.out.mono ?_
                  rintro e W10 ⟨rfl, hb10⟩
                  have HB10 := Aside0.mk (below_step HB9.out hb10)
                  have HS10 := Aside0.mk (HST.out.below HB10.out)
                  clear hb10 HFI
                  have hff : (f2 != f2) = false := by simp
                  have hoo : (o2 != o2) = false := by simp
                  go_wp2_with (fail)
                  refine (len_calls HS10.out).mono ?_
                  rw [HVT.out.good.n, HN6.out]
                  rintro e Wy ⟨rfl, hw⟩
                  obtain rfl := hw.symm
                  go_wp2_with (fail)
                  refine (changes_calls HS10.out).mono ?_
                  rw [HVT.out.good.c]
                  rintro e Wy ⟨rfl, hw⟩
                  obtain rfl := hw.symm
                  have hCh := rondelref21_Changes.calls (r6.length + 1) A6 c6 r6 (lastK 0 0 r6) _ (Kd.C_below (Kd.R_reads' HRT.out).2.2 HB10.out) (Kd.R_reads' HRT.out).2.1 (by unfold rondelref21_Changes.f; rw [last_f r6 (by have := HL6.out; omega) 0 _ (Nat.le_refl _)]; rfl)
                  rw [HN6.out] at hCh
                  have HCH := Aside0.mk hCh
                  clear hCh
                  go_wp2_with (fail)
                  refine HCH.out.mono ?_
                  rintro e W11 ⟨rfl, h11⟩
                  obtain ⟨q11, h11⟩ := h11.out
                  have b11 := pw_below_drewN HB10.out q11
                  rw [← h11] at b11
                  have HB11 := Aside0.mk b11
                  have HS11 := Aside0.mk (HST.out.below b11)
                  clear h11 HCH b11
                  go_wp2_with (fail)
                  refine (frames_calls HS11.out HSM6.out).mono ?_
                  rintro e W12 ⟨v12, rfl, hR12, hb12⟩
                  obtain ⟨A12, c12, rfl⟩ := Kd.R_slice hR12
                  have hF12 := Kd.R_reads' hR12
                  have HB12 := Aside0.mk (below_step HB11.out hb12)
                  have hFr := rondelref21_Frames.calls (r6.length + 1) A6 c6 r6 s6.f W12 (Kd.C_below (Kd.R_reads' HRT.out).2.2 HB12.out) (Kd.R_reads' HRT.out).2.1 (by rw [HVT.out.good.f]; exact frames_f r6 (by have := HL6.out; omega) _ (Nat.le_refl _))
                  rw [HN6.out] at hFr
                  have HFR := Aside0.mk hFr
                  have HF12 := Aside0.mk hF12
                  clear hR12 hb12 hFr hF12
                  go_wp2_with (fail)
                  refine HFR.out.mono ?_
                  rintro e W13 ⟨v13, rfl, hR13, hb13⟩
                  obtain ⟨A13, c13, rfl⟩ := Kd.R_slice hR13
                  have hF13 := Kd.R_reads' hR13
                  have HSA := Aside0.mk (rondelref11_Same.calls (s6.f.length + 1) A12 c12 s6.f A13 c13 s6.f true W13 (Kd.C_below HF12.out.2.2 hb13) HF12.out.2.1 hF13.2.2 hF13.2.1 (same_f s6.f HSM6.out.f _ (Nat.le_refl _)))
                  have HB13 := Aside0.mk (below_step HB12.out hb13)
                  clear hR13 hb13 hF13 HFR
                  go_wp2_with (fail)
                  refine HSA.out.mono ?_
                  rintro e W14 ⟨rfl, h14⟩
                  obtain ⟨q14, h14⟩ := h14.out
                  have b14 := pw_below_drewN HB13.out q14
                  rw [← h14] at b14
                  have HR14 := Aside0.mk (Kd.R_below HRT.out b14)
                  rw [HN6.out] at HR14
                  have HS14 := Aside0.mk (HST.out.below b14)
                  have HB14 := Aside0.mk (below_step HBT.out b14)
                  clear h14 HSA b14
                  go_wp2_with (fail)
                  go_roundw
                  case rel => exact ⟨j + 1, s6, r6, by go_num, by omega, by omega, ⟨HS14.out.typed⟩, ⟨R_typed HR14.out⟩, HB14, ⟨HVT.out, by have := HLJ.out; omega⟩⟩
                  case measure => simp [intOf]; omega
        · have d3 : decide ((j : Int) < (N1 : Int)) = false := decide_eq_false (by omega)
          have HST := HS5
          have HRT := HR5
          have HBT := HB5
          have HVT := HV5
          have HL6 := Aside0.mk (show r5.length ≤ 100000 from by have := HL5.out; omega)
          have HSM6 := HSM5
          have HLJ := Aside0.mk (show r5.length ≤ 2 * (j + 1) from by have := HL5.out; omega)
          go_wp2_with (fail)
          refine (open_calls HST.out).mono ?_
          obtain ⟨o1, o2, ho⟩ : ∃ o1 o2, oQ s5.o = (o1, o2) := ⟨_, _, rfl⟩
          rw [ho]
          rintro e Wy ⟨rfl, hw⟩
          obtain rfl := hw.symm
          have HO := Aside0.mk (rondelref21_Open.calls (r5.length + 1) A5 c5 r5 o1 o2 _ (Kd.R_reads' HRT.out).2.2 (Kd.R_reads' HRT.out).2.1 (by rw [open_f r5 (by have := HL6.out; omega) _ (Nat.le_refl _), opens_same HVT.out, ho]))
          clear ho
          obtain ⟨n6, hn6⟩ : ∃ n, r5.length = n := ⟨_, rfl⟩
          have HN6 := Aside0.mk hn6
          rw [hn6] at HO ⊢
          clear hn6
          go_wp2_with (fail)
          refine HO.out.mono ?_
          rintro e W8 ⟨rfl, h8⟩
          obtain ⟨q8, h8⟩ := h8.out
          have b8 := pw_below_drewN (Below.refl W7a.heap.size W7a) q8
          rw [← h8] at b8
          have HB8 := Aside0.mk b8
          have HS8 := Aside0.mk (HST.out.below b8)
          clear h8 HO b8
          go_wp2_with (fail)
          refine (first_calls kk HS8.out HSM6.out).mono ?_
          obtain ⟨f1, hf1⟩ : ∃ f, idxF kk 0 s5.f + 1 = f := ⟨_, rfl⟩
          obtain ⟨f2, hf2⟩ : ∃ f, decide (idxF kk 0 s5.f ≥ 0) = f := ⟨_, rfl⟩
          rw [hf1, hf2]
          rintro e W9 ⟨rfl, hb9⟩
          have HB9 := Aside0.mk (below_step HB8.out hb9)
          have hFi := rondelref21_First.calls (r5.length + 2) A5 c5 r5 kk f1 f2 W9 (Kd.C_below (Kd.R_reads' HRT.out).2.2 HB9.out) (Kd.R_reads' HRT.out).2.1 (by rw [first_f HVT.out HL6.out kk, hf1, hf2])
          rw [HN6.out] at hFi
          have HFI := Aside0.mk hFi
          clear hb9 hf1 hf2 hFi
          go_wp2_with (fail)
          refine HFI.out.mono ?_
          rintro e W10 ⟨rfl, hb10⟩
          have HB10 := Aside0.mk (below_step HB9.out hb10)
          have HS10 := Aside0.mk (HST.out.below HB10.out)
          clear hb10 HFI
          have hff : (f2 != f2) = false := by simp
          have hoo : (o2 != o2) = false := by simp
          go_wp2_with (fail)
          refine (len_calls HS10.out).mono ?_
          rw [HVT.out.good.n, HN6.out]
          rintro e Wy ⟨rfl, hw⟩
          obtain rfl := hw.symm
          go_wp2_with (fail)
          refine (changes_calls HS10.out).mono ?_
          rw [HVT.out.good.c]
          rintro e Wy ⟨rfl, hw⟩
          obtain rfl := hw.symm
          have hCh := rondelref21_Changes.calls (r5.length + 1) A5 c5 r5 (lastK 0 0 r5) _ (Kd.C_below (Kd.R_reads' HRT.out).2.2 HB10.out) (Kd.R_reads' HRT.out).2.1 (by unfold rondelref21_Changes.f; rw [last_f r5 (by have := HL6.out; omega) 0 _ (Nat.le_refl _)]; rfl)
          rw [HN6.out] at hCh
          have HCH := Aside0.mk hCh
          clear hCh
          go_wp2_with (fail)
          refine HCH.out.mono ?_
          rintro e W11 ⟨rfl, h11⟩
          obtain ⟨q11, h11⟩ := h11.out
          have b11 := pw_below_drewN HB10.out q11
          rw [← h11] at b11
          have HB11 := Aside0.mk b11
          have HS11 := Aside0.mk (HST.out.below b11)
          clear h11 HCH b11
          go_wp2_with (fail)
          refine (frames_calls HS11.out HSM6.out).mono ?_
          rintro e W12 ⟨v12, rfl, hR12, hb12⟩
          obtain ⟨A12, c12, rfl⟩ := Kd.R_slice hR12
          have hF12 := Kd.R_reads' hR12
          have HB12 := Aside0.mk (below_step HB11.out hb12)
          have hFr := rondelref21_Frames.calls (r5.length + 1) A5 c5 r5 s5.f W12 (Kd.C_below (Kd.R_reads' HRT.out).2.2 HB12.out) (Kd.R_reads' HRT.out).2.1 (by rw [HVT.out.good.f]; exact frames_f r5 (by have := HL6.out; omega) _ (Nat.le_refl _))
          rw [HN6.out] at hFr
          have HFR := Aside0.mk hFr
          have HF12 := Aside0.mk hF12
          clear hR12 hb12 hFr hF12
          go_wp2_with (fail)
          refine HFR.out.mono ?_
          rintro e W13 ⟨v13, rfl, hR13, hb13⟩
          obtain ⟨A13, c13, rfl⟩ := Kd.R_slice hR13
          have hF13 := Kd.R_reads' hR13
          have HSA := Aside0.mk (rondelref11_Same.calls (s5.f.length + 1) A12 c12 s5.f A13 c13 s5.f true W13 (Kd.C_below HF12.out.2.2 hb13) HF12.out.2.1 hF13.2.2 hF13.2.1 (same_f s5.f HSM6.out.f _ (Nat.le_refl _)))
          have HB13 := Aside0.mk (below_step HB12.out hb13)
          clear hR13 hb13 hF13 HFR
          go_wp2_with (fail)
          refine HSA.out.mono ?_
          rintro e W14 ⟨rfl, h14⟩
          obtain ⟨q14, h14⟩ := h14.out
          have b14 := pw_below_drewN HB13.out q14
          rw [← h14] at b14
          have HR14 := Aside0.mk (Kd.R_below HRT.out b14)
          rw [HN6.out] at HR14
          have HS14 := Aside0.mk (HST.out.below b14)
          have HB14 := Aside0.mk (below_step HBT.out b14)
          clear h14 HSA b14
          go_wp2_with (fail)
          go_roundw
          case rel => exact ⟨j + 1, s5, r5, by go_num, by omega, by omega, ⟨HS14.out.typed⟩, ⟨R_typed HR14.out⟩, HB14, ⟨HVT.out, by have := HLJ.out; omega⟩⟩
          case measure => simp [intOf]; omega
    · have d4 : ¬ (j < N ∧ j < 40) := hlt
      by_cases h1 : j < N
      · have h2 : ¬ j < 40 := fun h => d4 ⟨h1, h⟩
        have h3 : decide ((j : Int) < 40) = false := decide_eq_false (by omega)
        clear d4 hlt
        go_wp2_with (fail)
        refine (lives_calls _).mono ?_
        rintro e W11 ⟨rfl, hb11⟩
        have HB11 := Aside0.mk (below_step hB.out hb11)
        clear hb11
        go_wp2_with (fail)
        go_ret
        exact ⟨rfl, HB11.out⟩
      · clear d4 hlt
        go_wp2_with (fail)
        refine (lives_calls _).mono ?_
        rintro e W11 ⟨rfl, hb11⟩
        have HB11 := Aside0.mk (below_step hB.out hb11)
        clear hb11
        go_wp2_with (fail)
        go_ret
        exact ⟨rfl, HB11.out⟩

end Go.Proofs.Ytccpclkmackghaa.SPla

/- A reader's walks: Put, Broken, Left. -/
import Derived.Test.YtligkikcfmploaaFPutP
import Derived.WalkSpells
import Derived.Deep.DeepMust
namespace Go.Proofs.Ytligkikcfmploaa.FP
open Go.RowKit Go.Proofs.YtligkikcfmploaaW.PrintWords Go.Proofs.YtligkikcfmploaaW.PrintLast Go.Proofs.YtligkikcfmploaaW.PrintMore
open Go.Proofs.Ytligkikcfmploaa.PFrameCuts Go.Proofs.Ytligkikcfmploaa.Base Go.Proofs.Ytligkikcfmploaa.Msg
attribute [local go_sem] Oper.semAt_some max2_int min2_int max_two min_two
set_option linter.unusedVariables false
set_option linter.unusedSimpArgs false

theorem broken_calls (g : Nat) (v : Value) (b : Bool) (W : World) (hG : W.heap[g]? = some (.cells #[v, .bool b] 47 (0, 0))) :
    Calls Try.prog 25 #[.pointer (some ⟨g, 0, none⟩)] W fun e W' => e = .returned (.bool b) ∧ W' = W := by
  have k1 := blk_cell hG 1
  clear hG
  go_enter Try.func25, Try.ntmps25
  go_wp2
  go_ret
  exact ⟨rfl, rfl⟩
theorem left_calls (g : Nat) (A : Option Addr) (n c : Nat) (x : Value) (W : World) (hG : W.heap[g]? = some (.cells #[.slice A n c, x] 47 (0, 0))) :
    Calls Try.prog 26 #[.pointer (some ⟨g, 0, none⟩)] W fun e W' => e = .returned (.int .i64 (n : Int)) ∧ W' = W := by
  have k0 := blk_cell hG 0
  clear hG
  go_enter Try.func26, Try.ntmps26
  go_wp2
  go_ret
  exact ⟨rfl, rfl⟩
theorem put_broken (g : Nat) (v p : Value) (W : World) (hG : W.heap[g]? = some (.cells #[v, .bool true] 47 (0, 0))) :
    Calls Try.prog 24 #[.pointer (some ⟨g, 0, none⟩), p] W fun e W' => e = .returned (.slice none 0 0) ∧ W' = W := by
  have k1 := blk_cell hG 1
  clear hG
  go_enter Try.func24, Try.ntmps24
  go_wp2
  go_ret
  exact ⟨rfl, rfl⟩

/-- What Put leaves: the messages told, the reader, and what else was written. -/
def PutP (w0 W : World) (g : Nat) (S : Nat → Prop) (ms : List S24) (br : Bool) (b : List Int) (e : Ending) (W' : World) : Prop :=
  ∃ vl A c, e = .returned vl ∧ k24.R 24 W' w0.heap.size (fun k => W.heap.size ≤ k ∧ some k ≠ (Value.slice A b.length c).ownBlock) vl ms ∧
    W'.heap[g]? = some (.cells #[.slice A b.length c, .bool br] 47 (0, 0)) ∧ (Kd.int .u8).R 5 W' w0.heap.size (fun k => W.heap.size ≤ k) (.slice A b.length c) b ∧ Below w0.heap.size w0 W' ∧ Kept W W' S

set_option maxRecDepth 100000 in
set_option maxHeartbeats 16000000 in
theorem put_calls (w0 W : World) (g : Nat) (A : Option Addr) (c : Nat) (b : List Int) (P : Option Addr) (cp : Nat) (p : List Int) (hB : Below w0.heap.size w0 W) (hg : w0.heap.size ≤ g)
    (hG : W.heap[g]? = some (.cells #[.slice A b.length c, .bool false] 47 (0, 0))) (hR : (Kd.int .u8).R 5 W w0.heap.size (fun _ => True) (.slice A b.length c) b) (hC : (Kd.int .u8).C W P p.length p) (hcp : p.length ≤ cp) (hbb : Bd b) (hbp : Bd p) (hl : b.length + p.length ≤ 100000) :
    Calls Try.prog 24 #[.pointer (some ⟨g, 0, none⟩), .slice P p.length cp] W (PutP w0 W g (fun k => k = g ∨ some k = (Value.slice A b.length c).ownBlock) (sp (b ++ p)).1 (decide ((sp (b ++ p)).2.2 = 2)) (rb (b ++ p))) := by
  have HB := Aside0.mk hB
  have HGG := Aside0.mk hg
  have HG := Aside0.mk hG
  have HR := Aside0.mk hR
  have HC := Aside0.mk hC
  have Hbd := Aside0.mk (Bd.app hbb hbp)
  obtain ⟨v, hv⟩ : ∃ v, v = Value.slice A b.length c := ⟨_, rfl⟩
  have k0 := blk_cell hG 0
  have k1 := blk_cell hG 1
  rw [← hv] at HG HR k0 ⊢
  obtain ⟨N, hN⟩ : ∃ z, p.length = z := ⟨_, rfl⟩
  rw [hN] at HC hl ⊢
  have HL := Aside0.mk hl
  have hll : (b ++ p).length ≤ 100000 := by rw [List.length_append]; omega
  have HLL := Aside0.mk hll
  obtain ⟨l, hlp⟩ : ∃ z, b ++ p = z := ⟨_, rfl⟩
  rw [hlp] at Hbd HLL ⊢
  have HLP := Aside0.mk hlp
  obtain ⟨ms, hms⟩ : ∃ z, (sp l).1 = z := ⟨_, rfl⟩
  obtain ⟨er, her⟩ : ∃ z, (sp l).2.2 = z := ⟨_, rfl⟩
  obtain ⟨rv, hrv⟩ : ∃ z, rb l = z := ⟨_, rfl⟩
  obtain ⟨bv, hbv⟩ : ∃ z, decide (er = 2) = z := ⟨_, rfl⟩
  rw [hms, her, hrv, hbv]
  have HMS := Aside0.mk hms
  have HER := Aside0.mk her
  have HRV := Aside0.mk hrv
  have HBV := Aside0.mk hbv
  clear hB hg hG hR hC hcp hbb hbp hv hN hl hll hlp hms her hrv hbv
  go_enter Try.func24, Try.ntmps24
  go_wp2_with (((with_reducible refine gate_builtin (b := .append) (xs := #[.tmp 16, .tmp 17]) rfl ?_); at_builtin; go_must ((refine Kd.R_append_rows (Kd.int .u8) (w0 := w0) w0.heap.size rfl (.tmp 16) (.tmp 17) 22 5 (.int .u8 0) 1 rfl Try.underlying22 info5 rfl (by decide) (by decide) v b p P N cp (fun _ => True) (fun _ => False) rfl rfl ?aO ?aR (fun _ _ h => h) (fun _ h => h.elim) (fun _ _ => trivial) ?aB ?aS ?aL ?_; (case aO => exact HR.out); (case aR => exact HC.out); (case aB => exact HB.out); (case aS => exact below_size HB.out); (case aL => have := HL.out; omega); intro v1 w1 ho hb1 hg1 hat; rw [HLP.out] at ho; obtain ⟨A1, c1, hv1⟩ := Kd.R_slice ho; subst hv1; have R1 := Aside0.mk ho; have B1 := Aside0.mk hb1; have G1 := Aside0.mk (blk_grown HG.out hg1 (Kd.R_ne HR.out HG.out (by decide))); have K1 := Aside0.mk (Kept.of_grown hg1 (Kept.refl W (fun k => k = g ∨ some k = v.ownBlock)) (fun k hk => .inl (.inr hk.symm))); have q0 := blk_cell G1.out 0; have f0 := blk_frozen G1.out 0; clear ho hb1 hg1 hat))))
  have R2 := Aside0.mk (Kd.R_set R1.out G1.out (by decide) 0 (.slice A1 l.length c1))
  have G2 := Aside0.mk (blk_put G1.out 0 (.slice A1 l.length c1) rfl)
  have B2 := Aside0.mk (below_set (j := 0) (v := .slice A1 l.length c1) B1.out HGG.out)
  have K2 := Aside0.mk (K1.out.setCell (p := ⟨g, 0, none⟩) (.inl (.inl rfl)) (.slice A1 l.length c1))
  generalize w1.setCell ⟨g, 0, none⟩ (.slice A1 l.length c1) = w2 at R2 G2 B2 K2 ⊢
  clear R1 G1 B1 K1 q0 f0 k0 k1
  have hC2 := (Kd.R_reads' R2.out).2.2
  have hc2 := (Kd.R_reads' R2.out).2.1
  have HSp := Aside0.mk (split_calls A1 c1 l w2 hC2 hc2 Hbd.out HLL.out)
  have hbd := sp_bd l
  obtain ⟨A3, c3, hcut, _, hC3, hc3, _⟩ := cut_tl hC2 hc2 (sp l).2.1.toNat (by omega)
  have hrb : rv = if (sp l).2.2 = 2 then [] else l.drop (sp l).2.1.toNat := HRV.out.symm
  obtain ⟨nn, hnn⟩ : ∃ z, (sp l).2.1 = z := ⟨_, rfl⟩
  rw [HMS.out, hnn, HER.out] at HSp
  rw [hnn, HER.out] at hbd hrb
  rw [hnn] at hcut hC3 hc3
  obtain ⟨n, rfl⟩ := Int.eq_ofNat_of_zero_le hbd.1
  rw [Int.toNat_natCast] at hcut hC3 hc3 hrb
  obtain ⟨d, hd⟩ : ∃ z, l.drop n = z := ⟨_, rfl⟩
  rw [hd] at hcut hC3 hc3 hrb
  have HC3 := Aside0.mk hC3
  have Hc3 := Aside0.mk hc3
  have HRB := Aside0.mk hrb
  have HDL := Aside0.mk (show d.length ≤ l.length from by rw [← hd, List.length_drop]; omega)
  obtain ⟨L, hL⟩ : ∃ z, l.length = z := ⟨_, rfl⟩
  obtain ⟨D, hD⟩ : ∃ z, d.length = z := ⟨_, rfl⟩
  rw [hL] at hcut HSp G2 ⊢
  rw [hD] at hcut HC3
  have HD := Aside0.mk hD
  clear hC2 hc2 hbd hC3 hc3 hrb hnn hd hL hD
  refine HSp.out.mono ?_
  rintro e w3 ⟨vl, rfl, hRl, hb3⟩
  have RL := Aside0.mk hRl
  have G3 := Aside0.mk (blk_below G2.out hb3)
  have B3 := Aside0.mk (below_step B2.out hb3)
  have K3 := Aside0.mk (K2.out.below hb3)
  have HC33 := Aside0.mk (Kd.C_below HC3.out hb3)
  have q0 := blk_cell G3.out 0
  obtain ⟨H2, hH2⟩ : ∃ z, w2.heap.size = z := ⟨_, rfl⟩
  have HH2 := Aside0.mk (show W.heap.size ≤ H2 from by rw [← hH2]; exact K2.out.1)
  have HH0 := Aside0.mk (show w0.heap.size ≤ H2 from by rw [← hH2]; exact below_size B2.out)
  rw [hH2] at RL
  clear hRl hb3 G2 B2 K2 R2 HC3 HSp hH2
  go_wp2_with (fail)
  refine (clone_calls A3 D c3 d _ HC33.out (by have := HDL.out; have := HLL.out; omega)).mono ?_
  rintro e w4 ⟨v4, rfl, hR4, hb4⟩
  obtain ⟨A4, c4, hv4⟩ := Kd.R_slice hR4
  subst hv4
  have G4 := Aside0.mk (blk_below G3.out hb4)
  have B4 := Aside0.mk (below_step B3.out hb4)
  have K4 := Aside0.mk (K3.out.below hb4)
  have RL4 := Aside0.mk (Kd.R_mono (Kd.R_below (Kd.R_bound RL.out) hb4) (fun k hk => And.intro hk.2.1 hk.2.2.1))
  have hz3 : W.heap.size ≤ w3.heap.size := K3.out.1
  have R4 := Aside0.mk (Kd.R_lower (Kd.R_mono (Kd.R_bound hR4) (fun k hk => hk.2.1)) (below_size B3.out))
  have HZ3 := Aside0.mk hz3
  have hA4 : ∀ k, some k = (Value.slice A4 D c4).ownBlock → w3.heap.size ≤ k := fun k hk => by
    obtain ⟨_, ho⟩ := Kd.R_own hR4
    exact own_base ho k (by cases A4 <;> simp_all [Value.ownBlock])
  have HA4 := Aside0.mk hA4
  obtain ⟨H3, hH3⟩ : ∃ z, w3.heap.size = z := ⟨_, rfl⟩
  rw [hH3] at RL4 R4 HZ3 HA4
  clear hR4 hb4 G3 B3 K3 HC33 q0 RL hz3 hH3 hA4
  rw [HD.out]
  have q0 := blk_cell G4.out 0
  have f0 := blk_frozen G4.out 0
  have R5 := Aside0.mk (Kd.R_set R4.out G4.out (by decide) 0 (.slice A4 D c4))
  have RL5 := Aside0.mk (Kd.R_set RL4.out G4.out (by decide) 0 (.slice A4 D c4))
  have G5 := Aside0.mk (blk_put G4.out 0 (.slice A4 D c4) rfl)
  have B5 := Aside0.mk (below_set (j := 0) (v := .slice A4 D c4) B4.out HGG.out)
  have K5 := Aside0.mk (K4.out.setCell (p := ⟨g, 0, none⟩) (.inl (.inl rfl)) (.slice A4 D c4))
  by_cases e2 : er = 2
  · subst e2
    have hr0 : rv = [] := by rw [HRB.out, if_pos rfl]
    have hb0 : bv = true := by rw [← HBV.out]; rfl
    subst hr0 hb0
    have p0 := blk_cell G5.out 0
    have p1 := blk_cell G5.out 1
    have g0 := blk_frozen G5.out 0
    have g1 := blk_frozen G5.out 1
    have G6 := Aside0.mk (blk_put G5.out 0 (.slice none 0 0) rfl)
    have r1 := blk_cell G6.out 1
    have s1 := blk_frozen G6.out 1
    have G7 := Aside0.mk (blk_put G6.out 1 (.bool true) rfl)
    have B6 := Aside0.mk (below_set (j := 1) (v := .bool true) (below_set (j := 0) (v := .slice none 0 0) B5.out HGG.out) HGG.out)
    have K6 := Aside0.mk ((K5.out.setCell (p := ⟨g, 0, none⟩) (.inl (.inl rfl)) (.slice none 0 0)).setCell (p := ⟨g, 1, none⟩) (.inl (.inl rfl)) (.bool true))
    have RL6 := Aside0.mk (Kd.R_set (Kd.R_set RL5.out G5.out (by decide) 0 (.slice none 0 0)) G6.out (by decide) 1 (.bool true))
    clear G4 B4 K4 R4 RL4
    go_wp2_with (fail)
    go_ret
    exact ⟨vl, none, 0, rfl, Kd.R_lower (Kd.R_mono RL6.out (fun k hk => ⟨by have := HH2.out; have := hk.1; omega, by simp [Value.ownBlock]⟩)) HH0.out, G7.out, Kd.R_nil _ _ _ _ _, B6.out, K6.out⟩
  · have e2b : (er == 2) = false := by rw [beq_eq_false_iff_ne]; exact e2
    have hr0 : rv = d := by rw [HRB.out, if_neg e2]
    have hb0 : bv = false := by rw [← HBV.out]; exact decide_eq_false e2
    subst hr0 hb0
    clear G4 B4 K4 R4 RL4 e2
    go_wp2_with (fail)
    go_ret
    have hDD := HD.out
    subst hDD
    exact ⟨vl, A4, c4, rfl, Kd.R_lower (Kd.R_mono RL5.out (fun k hk => ⟨by have := HH2.out; have := hk.1; omega, fun he => by have := HA4.out k he; have := hk.2; omega⟩)) HH0.out, G5.out, Kd.R_mono R5.out (fun k hk => Nat.le_trans HZ3.out hk), B5.out, K5.out⟩

end Go.Proofs.Ytligkikcfmploaa.FP

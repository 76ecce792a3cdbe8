/- The walk of TitleSigns: it returns true and writes nothing that was there. -/
import Derived.Test.YtpmhbfelhjpalaaTIter
import Derived.Test.YtpmhbfelhjpalaaTWideRefS
import Derived.Test.YtpmhbfelhjpalaaTWalks
import Derived.WalkSpells
import Derived.ShutString
namespace Go.Proofs.Ytpmhbfelhjpalaa.Tsw
open Go.RowKit Go.Shelf Go.Proofs.YtpmhbfelhjpalaaW.PrintWords Go.Proofs.YtpmhbfelhjpalaaW.PrintLast Go.Proofs.YtpmhbfelhjpalaaW.PrintMore
open Go.Proofs.Ytpmhbfelhjpalaa.PTitleSigns Go.Proofs.Ytpmhbfelhjpalaa.TP Go.Proofs.Ytpmhbfelhjpalaa.TJ Go.Proofs.Ytpmhbfelhjpalaa.TRS Go.Proofs.Ytpmhbfelhjpalaa.TWRS Go.Proofs.Ytpmhbfelhjpalaa.TW Go.Proofs.Ytpmhbfelhjpalaa.TI
attribute [local go_sem] Oper.semAt_some
set_option linter.unusedVariables false
set_option linter.unusedSimpArgs false

theorem few_f (s : ByteArray) (n : Nat) : rondelref06_Few.f s (n : Int) = some (s.extract 0 n) := by
  unfold rondelref06_Few.f
  by_cases h : n < s.size
  · rw [if_pos (by omega), if_pos (by omega), if_pos (by omega)]; simp
  · rw [if_neg (by omega)]
    congr 1
    apply ba_ext
    rw [extract_list]
    simp [List.take_of_length_le, ← size_list, show s.size ≤ n by omega]
theorem few_calls (s : ByteArray) (n : Nat) (w : World) : Calls Try.prog 9 #[.string s, .int .i64 n] w fun e w' => e = .returned (.string (s.extract 0 n)) ∧ ∃ k, w' = w.drewN k := by
  refine (rondelref06_Few.calls s n (s.extract 0 n) w (few_f s n)).mono ?_
  rintro e w' ⟨rfl, h⟩
  exact ⟨rfl, h.out⟩
theorem rsigns_calls (s : ByteArray) (hs : s.size < 4398046511104) (w : World) : Calls Try.prog 17 #[.string s] w fun e w' => ∃ v, e = .returned v ∧ Kd.R k36 36 w' w.heap.size (fun _ => True) v ((sgs s 0).map rs) ∧ Below w.heap.size w w' := by
  obtain ⟨k, hk⟩ := signs_f s hs
  exact rondelref06_Signs.calls k s _ w hk

/-- The document's example, in its bytes. -/
theorem lives_cut : cut ⟨#[230, 151, 165, 230, 156, 172]⟩ 3 = ⟨#[230, 151, 165]⟩ := by
  unfold cut
  rw [if_neg (by omega)]
  have d0 : Utf8.decode ⟨#[230, 151, 165, 230, 156, 172]⟩ 0 = (26085, 3) := by decide +kernel
  have d3 : Utf8.decode ⟨#[230, 151, 165, 230, 156, 172]⟩ 3 = (26412, 3) := by decide +kernel
  have w0 : wd 26085 = 2 := by decide
  have w3 : wd 26412 = 2 := by decide
  rw [cutAt_step _ 0 _ (by decide) (by rw [d0]; dsimp only; rw [w0]; omega), d0]
  dsimp only
  rw [w0, cutAt_stop _ _ _ (by decide) (by rw [d3]; dsimp only; rw [w3]; omega)]
  decide +kernel

set_option maxHeartbeats 400000 in
theorem lives_calls (w : World) : Calls Try.prog 14 #[] w fun e w' => e = .returned (.bool true) ∧ Below w.heap.size w w' := by
  have hc := Aside0.mk lives_cut
  go_enter Try.func14, Try.ntmps14
  go_wp2_with ((go_at_call 13; refine (cut_calls _ 3 _ (by decide) (by omega)).mono ?_; rintro e w1 ⟨rfl, hb⟩; rw [hc.out]))
  go_ret
  exact ⟨rfl, hb⟩

/-- What is kept but one block abides the loop's own steps. -/
theorem ownFrom_keepBut {β : Type} {B g : Nat} {w0 : World} (hB : w0.heap.size ≤ B) : OwnFrom B (fun (_ : β) W => KeepBut w0 W g none) :=
  fun _ X Y row hs hg hr => ⟨Nat.le_trans hs.1 hg.size, fun i hi hne hn => by
    rw [hg.block i (Nat.lt_of_lt_of_le hi hs.1) (fun e => by have := (hr i e.symm).1; omega)]
    exact hs.2 i hi hne hn⟩

/-- A function value is not nil. -/
theorem fn_nil (B : Nat) (w : World) : (binOp .eql 33 (.func (.func 28) #[] #[.pointer (some ⟨B, 0, none⟩)]) .nilFunc).run Try.prog w = .ok (.bool false) w := by kernel_rfl

theorem rs_at {a b : Sg} (h : rs a = rs b) : a.at_ = b.at_ := by have := congrArg S36.f0 h; simp only [rs] at this; omega
theorem rs_r {a b : Sg} (h : rs a = rs b) : a.r = b.r := by have := congrArg S36.f2 h; simp only [rs] at this; omega

/-- A store into another block. -/
theorem cell_far {w : World} {a p : Addr} (h : a.block ≠ p.block) (u : Value) : (w.setCell p u).cell? a = w.cell? a := World.cell?_setCell_far _ _ _ _ (Ne.symm h)

theorem keep2 {w w' : World} (hb : Below w.heap.size w w') {a b : Addr} {x y : Value} (h : w.cell? a = some x ∧ w.cell? b = some y) : w'.cell? a = some x ∧ w'.cell? b = some y := ⟨pw_cell_below hb h.1, pw_cell_below hb h.2⟩
theorem far2 {w : World} {a b p : Addr} {x y u : Value} (ha : a.block ≠ p.block) (hb : b.block ≠ p.block) (h : w.cell? a = some x ∧ w.cell? b = some y) : (w.setCell p u).cell? a = some x ∧ (w.setCell p u).cell? b = some y := ⟨(cell_far ha u).trans h.1, (cell_far hb u).trans h.2⟩

set_option maxRecDepth 100000 in
set_option maxHeartbeats 4000000 in
theorem walk (s0 : ByteArray) (w : World) : Calls Try.prog 5 #[.string s0] w fun e w' => e = .returned (.bool true) ∧ Below w.heap.size w w' := by
  obtain ⟨s, hs_⟩ : ∃ s, s0.extract 0 200 = s := ⟨_, rfl⟩
  have hs : s.size ≤ 200 := by rw [← hs_, ByteArray.size_extract]; omega
  have HS := Aside0.mk hs_
  clear hs_
  have hlen := sgs_length s 0
  obtain ⟨N, hN⟩ : ∃ N, (sgs s 0).length = N := ⟨_, rfl⟩
  have HN := Aside0.mk hN
  rw [hN] at hlen
  clear hN
  refine (callsIn_wide (n := 5)).1 ?_
  refine callsIn_of_wp_marks Try.func5 rfl trivial ?_ rfl
  simp only [Try.ntmps5, List.size_toArray, List.length_cons, List.length_nil, Nat.reduceAdd, Nat.reduceSub, Array.replicate_succ, Array.replicate_zero, List.push_toArray, List.append_toArray, List.nil_append, List.cons_append]
  gi_wp2_with (fail)
  refine ⟨trivial, (callsIn_wide.2 (few_calls s0 200 _)).mono ?_⟩
  rw [HS.out]
  rintro e w1 ⟨rfl, k1, rfl⟩
  gi_wp2_with (fail)
  refine ⟨trivial, (callsIn_wide.2 (rsigns_calls s (by omega) _)).mono ?_⟩
  rintro e w2 ⟨v2, rfl, hR2, hb2⟩
  obtain ⟨A2, c2, rfl⟩ := Kd.R_slice hR2
  have hB2 := Aside0.mk (below_step (pw_below_drewN (below_alloc (Below.refl w.heap.size w) (.cells #[.bool false] 4)) k1) hb2)
  have hKR := Aside0.mk (blk_below (blk_drewN (blk_new w (.cells #[.bool false] 4)) k1) hb2)
  have HR2 := Aside0.mk (Kd.R_lower hR2 (show w.heap.size ≤ _ by simp))
  have hsz2 : w.heap.size + 1 ≤ w2.heap.size := by have := hb2.size; simpa using this
  clear hR2 hb2
  have eN : ((sgs s 0).map rs).length = N := by rw [List.length_map, HN.out]
  rw [eN] at HR2 ⊢
  clear eN
  gi_wp2_with (fail)
  refine ⟨trivial, (signs_in _ _ trivial rfl s _).mono ?_⟩
  rintro e w3 ⟨rfl, rfl⟩
  have hfn := fn_nil (w2.heap.size + 1)
  gi_wp2_with (fail)
  clear hfn
  obtain ⟨g, hg⟩ : ∃ g, w2.heap.size = g := ⟨_, rfl⟩
  obtain ⟨W0, hW0⟩ : ∃ W0, ((w2.alloc (.cells #[.slice A2 N c2] 30)).alloc (.cells #[.string s] 9)).alloc (.cells #[.int .i64 0] 3) = W0 := ⟨_, rfl⟩
  have cR : W0.heap[w.heap.size]? = some (.cells #[.bool false] 4 (0, 0)) := by rw [← hW0]; exact blk_alloc (blk_alloc (blk_alloc hKR.out _) _) _
  have cL : W0.heap[g]? = some (.cells #[.slice A2 N c2] 30 (0, 0)) := by rw [← hW0, ← hg]; exact blk_alloc (blk_alloc (blk_new w2 _) _) _
  have cS : W0.heap[g + 1]? = some (.cells #[.string s] 9 (0, 0)) := by
    rw [← hW0, ← hg]
    have := blk_new (w2.alloc (.cells #[.slice A2 N c2] 30)) (.cells #[.string s] 9)
    rw [World.size_alloc] at this
    exact blk_alloc this _
  have cN : W0.heap[g + 1 + 1]? = some (.cells #[.int .i64 0] 3 (0, 0)) := by
    rw [← hW0, ← hg]
    have := blk_new ((w2.alloc (.cells #[.slice A2 N c2] 30)).alloc (.cells #[.string s] 9)) (.cells #[.int .i64 0] 3)
    rw [World.size_alloc, World.size_alloc] at this
    exact this
  have hB0 : Below w.heap.size w W0 := by rw [← hW0]; exact below_alloc (below_alloc (below_alloc hB2.out _) _) _
  have hR0 : Kd.R k36 36 W0 w.heap.size (fun k => True ∧ k ≠ g + 1 + 1) (.slice A2 N c2) ((sgs s 0).map rs) := by
    refine Kd.R_types ?_ cN (by decide)
    rw [← hW0]
    exact Kd.R_alloc (Kd.R_alloc (Kd.R_alloc HR2.out _) _) _
  have hsz0 : W0.heap.size = g + 1 + 1 + 1 := by rw [← hW0, ← hg]; simp
  have hwg : w.heap.size + 1 ≤ g := by omega
  rw [hg, hW0]
  clear hW0 hg HR2 hB2 hKR hsz2
  have frozN : W0.frozen? ⟨g + 1 + 1, 0, none⟩ = false := blk_frozen cN 0
  refine wpIn_rangeFunc_ownF rfl (by omega) (gf := 28) (lb := #[.pointer (some ⟨g + 1, 0, none⟩)]) rfl trivial (enters_of Try.func28 (by kernel_rfl) rfl)
    (signs_stops _ _ trivial rfl (by omega) (g + 1) s (by omega) W0 (by omega) (blk_cell cS 0)) walksK_t (fun W l o o' hl h h1 h2 => walksK_b (w := W0) W l o o' hl h h1 h2) (Below.refl _ _) (fun _ => rfl)
    (fun pre W => (W.cell? ⟨g + 1 + 1, 0, none⟩ = some (.int .i64 (pre.length : Int)) ∧ W.frozen? ⟨g + 1 + 1, 0, none⟩ = false) ∧ KeepBut W0 W (g + 1 + 1) none ∧ Below w.heap.size w W)
    (fun c pre _ => c = .ret ∧ ∃ (ini : List BSg) (x : BSg), pre = ini ++ [x] ∧ ¬ ((sgs s 0).map rs)[ini.length]? = some (rs x.1))
    (OwnFrom.and (Own.from (fun s A B row hs hg hr => ⟨cell_kept hs.1 hg hr, (frozen_kept hs.1 hg hr).trans hs.2⟩) _) (OwnFrom.and (ownFrom_keepBut (Nat.le_refl _)) (ownFrom_below (Nat.le_refl _) (by omega))))
    (fun c => ownFrom_pure _ (fun (pre : List BSg) => c = .ret ∧ ∃ (ini : List BSg) (x : BSg), pre = ini ++ [x] ∧ ¬ ((sgs s 0).map rs)[ini.length]? = some (rs x.1)))
    ⟨⟨blk_cell cN 0, frozN⟩, KeepBut.refl _ _ _, hB0⟩
    (fun x => { tmps := #[.string s, undef, .pointer (some ⟨w.heap.size, 0, none⟩), .pointer (some ⟨g, 0, none⟩), .func (.func 28) #[] #[.pointer (some ⟨g + 1, 0, none⟩)], .pointer (some ⟨g + 1 + 1, 0, none⟩), .int .i64 (x.1.at_ : Int), .int .i32 (x.1.r : Int), .string s0, .string s, .string s, .slice A2 N c2, .string s, .func (.func 28) #[] #[.pointer (some ⟨g + 1, 0, none⟩)], .func (.func 28) #[] #[.pointer (some ⟨g + 1, 0, none⟩)], .bool false, .func (.func 28) #[] #[.pointer (some ⟨g + 1, 0, none⟩)], .int .i64 (x.1.at_ : Int), .int .i32 (x.1.r : Int), undef, undef, undef, undef, undef, undef, undef, undef, undef, undef, undef, undef, undef, undef, undef, undef, undef, undef, undef, undef, undef, undef, undef, undef, undef, undef, undef, undef, undef, undef, undef, undef, undef, undef, undef, undef, undef, undef, undef, undef, undef, undef, undef], defers := [] }) ?assign ?body ?done ?stop
  case assign =>
    intro l x W K hK
    simp only [TI.encs]
    gi_wp2
    exact hK
  case body =>
    rintro l pre x W ⟨⟨hc, hf⟩, hk, hB⟩ hpl
    obtain ⟨k, hkl⟩ : ∃ k, pre.length = k := ⟨_, rfl⟩
    rw [hkl] at hc hpl
    rw [HN.out] at hpl
    have hR := Kd.R_keep hR0 hk (fun _ h => h.2)
    have hL := blk_cell (hk.2 g (by omega) (by omega) (by simp) ▸ cL : W.heap[g]? = some (.cells #[.slice A2 N c2] 30 (0, 0))) 0
    have hRR := hk.2 w.heap.size (by omega) (by omega) (by simp)
    rw [cR] at hRR
    have hcR := blk_cell hRR 0
    have hfR := blk_frozen hRR 0
    obtain ⟨-, -, hCC⟩ := Kd.R_reads' hR
    obtain ⟨ad, e, h0, h1, h2, h3⟩ := at_T36 hCC (k : Int) (by omega) (by rw [List.length_map, HN.out]; omega)
    subst e
    have hkk : k < (sgs s 0).length := by rw [HN.out]; exact hpl
    have hrd : rd_T36 ((sgs s 0).map rs) (k : Int) = rs (sgs s 0)[k] := rd_map _ k hkk
    have hget : ((sgs s 0).map rs)[k]? = some (rs (sgs s 0)[k]) := by simp [List.getElem?_map, List.getElem?_eq_getElem hkk]
    rw [hrd] at h0 h1 h2 h3
    obtain ⟨y, hy⟩ : ∃ y, (sgs s 0)[k] = y := ⟨_, rfl⟩
    rw [hy] at h0 h1 h2 h3 hget
    rw [Int.toNat_natCast] at h0 h1 h2 h3
    replace h0 : W.cell? (ad.add (k * 4)) = some (.int .i64 (y.at_ : Int)) := h0
    replace h2 : W.cell? ⟨(ad.add (k * 4)).block, (ad.add (k * 4)).off + 2, none⟩ = some (.int .i64 (y.r : Int)) := h2
    have hg1 : decide ((k : Int) ≥ (N : Int)) = false := decide_eq_false (by omega)
    have hkb := x.2.1
    have hkr := x.2.2
    have GET := Aside0.mk hget
    have HHK := Aside0.mk hk
    have HHB := Aside0.mk hB
    have KL := Aside0.mk hkl
    clear hR hRR hCC hrd hget hy hk hB hkl hkk
    by_cases e1 : x.1.at_ = y.at_
    · have e1' : ((x.1.at_ : Int) != (y.at_ : Int)) = false := by rw [bne_eq_false_iff_eq]; omega
      by_cases e2 : x.1.r = y.r
      · have e2' : ((x.1.r : Int) != (y.r : Int)) = false := by rw [bne_eq_false_iff_eq]; omega
        gi_wp2
        have hkl' := KL.out
        refine ⟨KeepsOthers.setCell _ _ _, KeepsWalks.setCell _ _ _, ⟨?_, by rw [World.frozen?_setCell]; exact hf⟩, HHK.out.set_ _ _, HHB.out.setCell (p := ⟨g + 1 + 1, 0, none⟩) (by dsimp only; omega) _⟩
        rw [List.length_append, hkl', List.length_singleton, Int.natCast_add]
        exact World.cell?_setCell_same' _ _ _ (by rw [hc]; rfl)
      · have e2' : ((x.1.r : Int) != (y.r : Int)) = true := by rw [bne_iff_ne]; omega
        gi_wp2
        refine ⟨KeepsOthers.setCell _ _ _, rfl, pre, x, rfl, ?_⟩
        rw [KL.out, GET.out, Option.some.injEq]
        intro e
        exact e2 (rs_r e).symm
    · have e1' : ((x.1.at_ : Int) != (y.at_ : Int)) = true := by rw [bne_iff_ne]; omega
      gi_wp2
      refine ⟨KeepsOthers.setCell _ _ _, rfl, pre, x, rfl, ?_⟩
      rw [KL.out, GET.out, Option.some.injEq]
      intro e
      exact e1 (rs_at e).symm
  case done =>
    rintro D ys W hD hys ⟨⟨hc, hf⟩, hk, hB⟩ hK
    rename_i Q' KK hKK
    refine hKK _ _ (wpIn_wide.2 ?_)
    clear hKK
    have hlen : ys.length = N := by rw [← HN.out, ← hys, List.length_map]
    rw [hlen] at hc
    have hL := blk_cell (hk.2 g (by omega) (by omega) (by simp) ▸ cL : W.heap[g]? = some (.cells #[.slice A2 N c2] 30 (0, 0))) 0
    have hRR := hk.2 w.heap.size (by omega) (by omega) (by simp)
    rw [cR] at hRR
    have hsW := hk.1
    rw [hsz0] at hsW
    have HRR := Aside0.mk hRR
    have HHB := Aside0.mk hB
    have HKK := Aside0.mk hK
    have HF := Aside0.mk hf
    have HS0 := Aside0.mk hsz0
    clear hRR hB hK hf hk cR cL cS cN hB0 hR0 frozN hlen hys hsz0
    have c0 : W.cell? ⟨g, 0, none⟩ = some (.slice A2 N c2) := hL
    have heq1 : ((N : Int) == (N : Int)) = true := by simp
    have heq2 : (((wds (sgs s 0) : Nat) : Int) == ((wds (sgs s 0) : Nat) : Int)) = true := by simp
    clear hL
    go_wp2_with (fail)
    have hq := HRR.out
    go_region_held3 (fun w' => w'.cell? ⟨g, 0, none⟩ = some (.slice A2 N c2) ∧ w'.cell? ⟨g + 1 + 1, 0, none⟩ = some (.int .i64 (N : Int))) (first | go_keep | exact keep2 hb10 ⟨c0, hc⟩ | exact keep2 hb11 (by assumption) | exact keep2 hb19 (by assumption) | exact keep2 hb14 (by assumption) | exact far2 (by dsimp only; omega) (by dsimp only; omega) (by assumption))
      (first
        | (go_at_call 10; refine (count_calls s _ (by omega)).mono ?_; rw [HN.out]; rintro e wa ⟨rfl, hb10⟩; have hq := blk_below (blk_drew hq) hb10)
        | (go_at_call 11; refine (wide_calls s _ (by omega)).mono ?_; rintro e wb ⟨rfl, hb11⟩; have hq := blk_below hq hb11)
        | (go_at_call 19; refine (rwidth_calls s (by omega) _).mono ?_; rintro e wc ⟨rfl, hb19⟩; have hq := blk_below hq hb19)
        | (go_at_call 14; refine (lives_calls _).mono ?_; rintro e wd ⟨rfl, hb14⟩; have hq := blk_below hq hb14; have hqc := blk_cell hq 0; have hqf := blk_frozen hq 0))
    have HBd := Aside0.mk ((below_step (below_step (below_step (below_step (below_drew1 HHB.out) hb10) hb11) hb19) hb14).setCell (p := ⟨w.heap.size, 0, none⟩) (Nat.le_refl _) (.bool true))
    have hKd := blk_below (blk_below (blk_below (blk_below (blk_drew HKK.out) hb10) hb11) hb19) hb14
    have hK' := Aside0.mk ((KeepsOthers.setCell wd ⟨w.heap.size, 0, none⟩ (.bool true)).same D _ hKd rfl)
    have hRd := Aside0.mk (blk_put hq 0 (.bool true) rfl)
    have hD' := Aside0.mk hD
    clear hq hqc hqf hb10 hb11 hb19 hb14 hKd hD hc c0 heq1 heq2
    go_wp2
    refine ⟨by simp, .inl ⟨_, _, rfl, run_takeDeferred hK'.out, ?_⟩⟩
    have hc5 := cell_kept (blk_cell hRd.out 0) (grownBy_putObj' _ D (.deferred none)) (fun r e => by cases e; exact ⟨_, hK'.out, rfl⟩)
    refine ⟨.bool true, ?_, rfl, HBd.out.trans (belowK_b (w := w) (Nat.le_refl _) _ D _ _ (by have := hD'.out; have := HS0.out; omega) hK'.out rfl rfl)⟩
    simp [results, Try.f5, go_sem, hc5]
  case stop =>
    rintro D c pre W _ ⟨t, ht⟩ ⟨rfl, ini, x, rfl, hne⟩ _
    refine absurd ?_ hne
    rw [← ht, List.map_append, List.map_append]
    simp

/-- With the arguments as the row hands them. -/
theorem law (a : ByteArray) (W : World) (_ : a.size ≤ 140737488351232) : Calls Try.prog 5 #[.string a] W fun e w' => e = .returned (.bool true) ∧ Below W.heap.size W w' := walk a W

end Go.Proofs.Ytpmhbfelhjpalaa.Tsw

/- frame.Read: what it tells, and that it writes nothing. -/
import Derived.Test.YtligkikcfmploaaFPlain
import Derived.Test.YtligkikcfmploaaPFrameCutsx
import Derived.WalkKit
import Derived.Shelf.RegionOpen
import Derived.Deep.RegionHeld3
namespace Go.Proofs.Ytligkikcfmploaa.FP
open Go.RowKit Go.Proofs.YtligkikcfmploaaW.PrintWords Go.Proofs.YtligkikcfmploaaW.PrintLast Go.Proofs.YtligkikcfmploaaW.PrintMore
open Go.Proofs.Ytligkikcfmploaa.PFrameCuts Go.Proofs.Ytligkikcfmploaa.Base
attribute [local go_sem] Oper.semAt_some max2_int min2_int max_two min_two
set_option linter.unusedVariables false
set_option linter.unusedSimpArgs false

theorem slice_nil (a : Addr) (n c : Nat) (w : World) : (binOp .eql 22 (.slice (some a) n c) (.slice none 0 0)).run Try.prog w = .ok (.bool false) w := by kernel_rfl
theorem slice_nil0 (c : Nat) (w : World) : (binOp .eql 22 (.slice none 0 c) (.slice none 0 0)).run Try.prog w = .ok (.bool true) w := by kernel_rfl
theorem R_zero (W : World) (base : Nat) (ok : Nat → Prop) (hb : base ≤ W.heap.size) (hok : ok W.heap.size) :
    (Kd.int .u8).R 5 (W.alloc (.cells #[] 5)) base ok (.slice (some ⟨W.heap.size, 0, none⟩) 0 0) [] :=
  Kd.R_of_own ⟨rfl, .inr ⟨W.heap.size, 0, #[], rfl, hb, blk_new _ _, Nat.le_refl 0, by decide, rfl, rfl⟩⟩ (fun k hk => by simp [Value.ownBlock] at hk; subst hk; exact hok)

set_option maxHeartbeats 4000000 in
theorem clone_calls (A : Option Addr) (n c : Nat) (xs : List Int) (W : World) (hC : (Kd.int .u8).C W A n xs) (hn : xs.length ≤ 70368744177664) :
    Calls Try.prog 28 #[.slice A n c] W fun e W' => ∃ v, e = .returned v ∧ (Kd.int .u8).R 5 W' W.heap.size (fun _ => True) v xs ∧ Below W.heap.size W W' := by
  cases A with
  | none =>
    have hl : xs = [] := by
      rcases Nat.eq_zero_or_pos n with h0 | h0
      · exact List.eq_nil_of_length_eq_zero (hC.1.trans h0)
      · obtain ⟨ad, h, _⟩ := hC.2.2 h0; cases h
    have hn0 : n = 0 := by rw [← hC.1, hl]; rfl
    subst hl hn0
    clear hC
    have hnil := slice_nil0 c
    go_enter Try.func28, Try.ntmps28
    go_wp2_with (fail)
    go_ret
    exact ⟨_, rfl, Kd.R_nil _ _ _ _ _, Below.refl _ _⟩
  | some ad =>
    have hnil := slice_nil ad n c
    have HC := Aside0.mk hC
    have hL : n = xs.length := hC.1.symm
    have HL := Aside0.mk hL
    clear hC hL
    go_enter Try.func28, Try.ntmps28
    go_wp2_with (first | ((with_reducible refine gate_builtin (b := .append) (xs := #[.tmp 5, .tmp 6]) rfl ?_); at_builtin; refine Kd.R_append_rows (Kd.int .u8) (w0 := W) W.heap.size rfl (.tmp 5) (.tmp 6) 22 5 (.int .u8 0) 1 rfl Try.underlying22 info5 rfl (by decide) (by decide) (.slice (some ⟨W.heap.size, 0, none⟩) 0 0) [] xs (some ad) n c (fun _ => True) (fun _ => False) rfl rfl ?aO ?aR (fun _ _ h => h) (fun _ h => h.elim) (fun _ _ => trivial) ?aB ?aS ?aL ?_; (case aO => exact R_zero W _ _ (Nat.le_refl _) trivial); (case aR => exact Kd.C_alloc HC.out _); (case aB => exact below_alloc (Below.refl _ _) _); (case aS => exact below_size (below_alloc (Below.refl _ _) _)); (case aL => have := HL.out; simp; omega); intro v1 w7 ho hb7 hg7 hat; have O7 := Aside0.mk ho; have B7 := Aside0.mk hb7; clear ho hb7 hg7 hat))
    go_ret
    exact ⟨_, rfl, O7.out, B7.out⟩

/-- The cell of one byte of a row. -/
theorem byte_cell {ad : Addr} {l : List Int} {w : World} (hC : (Kd.int .u8).C w (some ad) l.length l) (j : Nat) (hj : j < l.length) : w.cell? (ad.add j) = some (.int .u8 (l.getD j 0)) := by
  obtain ⟨ad', cs, e, _, hK, hc0⟩ := Kd.C_get hC (0 : Int) (j : Int) (by omega) (by omega)
  injection e with e
  subst e
  have e0 : cs = [.int .u8 (l.getD (j : Int).toNat 0)] := hK
  rw [Int.toNat_natCast] at e0
  have := hc0 0 (.int .u8 (l.getD j 0)) (by rw [e0]; rfl)
  rw [show (j : Int).toNat * (Kd.int .u8).sz + 0 = j from by show (j : Int).toNat * 1 + 0 = j; omega] at this
  exact this

/-- 'x[lo:hi]' of bytes. -/
theorem cut_rd' (A : Option Addr) (c : Nat) (l : List Int) (hc : l.length ≤ c) (lo hi : Int) (h0 : 0 ≤ lo) (h1 : lo ≤ hi) (h2 : hi ≤ l.length) :
    ∃ A' c', (∀ w : World, (Instr.slice 22 (.slice A l.length c) (some (.int .i64 lo)) (some (.int .i64 hi)) none).run Try.prog w = .ok (.slice A' ((l.take hi.toNat).drop lo.toNat).length c') w) ∧ (∀ W, (Kd.int .u8).C W A l.length l → (Kd.int .u8).C W A' ((l.take hi.toNat).drop lo.toNat).length ((l.take hi.toNat).drop lo.toNat)) ∧ ((l.take hi.toNat).drop lo.toNat).length ≤ c' := by
  obtain ⟨i0, hi0, _, hsz, _⟩ := info_parts info5
  have hlen : ((l.take hi.toNat).drop lo.toNat).length = hi.toNat - lo.toNat := by rw [List.length_drop, List.length_take]; omega
  refine ⟨_, c - lo.toNat, fun w => ?_, fun W hC => Kd.C_mid hC (by omega) (by omega) hc, by omega⟩
  rw [hlen]
  exact cut_mid (P := Try.prog) 22 5 .i64 .i64 Try.underlying22 hi0 1 hsz A l.length c lo hi h0 h1 h2 hc w
theorem cut_rd {A : Option Addr} {c : Nat} {l : List Int} {W : World} (hC : (Kd.int .u8).C W A l.length l) (hc : l.length ≤ c) (lo hi : Int) (h0 : 0 ≤ lo) (h1 : lo ≤ hi) (h2 : hi ≤ l.length) :
    ∃ A' c', (∀ w : World, (Instr.slice 22 (.slice A l.length c) (some (.int .i64 lo)) (some (.int .i64 hi)) none).run Try.prog w = .ok (.slice A' ((l.take hi.toNat).drop lo.toNat).length c') w) ∧ (Kd.int .u8).C W A' ((l.take hi.toNat).drop lo.toNat).length ((l.take hi.toNat).drop lo.toNat) ∧ ((l.take hi.toNat).drop lo.toNat).length ≤ c' := by
  obtain ⟨A', c', h1, h2, h3⟩ := cut_rd' A c l hc lo hi h0 h1 h2
  exact ⟨A', c', h1, h2 W hC, h3⟩
theorem cut_hd {A : Option Addr} {c : Nat} {l : List Int} {W : World} (hC : (Kd.int .u8).C W A l.length l) (hc : l.length ≤ c) (hi : Int) (h0 : 0 ≤ hi) (h2 : hi ≤ l.length) :
    (∀ w : World, (Instr.slice 22 (.slice A l.length c) none (some (.int .i64 hi)) none).run Try.prog w = .ok (.slice A (l.take hi.toNat).length c) w) ∧ (Kd.int .u8).C W A (l.take hi.toNat).length (l.take hi.toNat) ∧ (l.take hi.toNat).length ≤ c := by
  obtain ⟨i0, hi0, _, hsz, _⟩ := info_parts info5
  have hlen : (l.take hi.toNat).length = hi.toNat := by rw [List.length_take]; omega
  refine ⟨fun w => ?_, Kd.C_take hC (by omega), by omega⟩
  rw [hlen]
  exact cut_to (P := Try.prog) 22 5 .i64 Try.underlying22 hi0 A l.length c hi h0 h2 hc w

theorem R_none {W : World} {base : Nat} : (Kd.int .u8).R 5 W base (fun _ => True) (.slice none 0 0) [] := Kd.R_nil _ _ _ _ _

/-- What is told where nothing is read. -/
theorem res3 {tmps : Array Value} {w : World} {g : Nat} {a b : Int} {v : Value} {n e : Int} (hg : w.heap[g]? = some (.cells #[.int .i64 a, .int .i64 b, v] 24 (0, 0))) (h2 : tmps.getD 2 undef = .pointer (some ⟨g, 0, none⟩)) (h3 : tmps.getD 3 undef = .int .i64 n) (h4 : tmps.getD 4 undef = .int .i64 e) :
    Vals Try.prog tmps w [.cell 2 24, .tmp 3, .tmp 4] [.agg #[.int .i64 a, .int .i64 b, v], .int .i64 n, .int .i64 e] := by
  rw [← h3, ← h4]
  exact .cell g 24 _ (0, 0) _ h2 hg Try.underlying24 rfl (by kernel_rfl) (.tmp (.tmp .nil))

theorem set3_blk {w : World} {g : Nat} {a b v a' b' v' : Value} (h : w.heap[g]? = some (.cells #[a, b, v] 24 (0, 0))) :
    (((w.setCell ⟨g, 0, none⟩ a').setCell ⟨g, 1, none⟩ b').setCell ⟨g, 2, none⟩ v').heap[g]? = some (.cells #[a', b', v'] 24 (0, 0)) := blk_put (blk_put (blk_put h 0 a' rfl) 1 b' rfl) 2 v' rfl
theorem set3_below {w0 w : World} {g : Nat} {a b v : Value} (h : Below w0.heap.size w0 w) (hg : w0.heap.size ≤ g) :
    Below w0.heap.size w0 (((w.setCell ⟨g, 0, none⟩ a).setCell ⟨g, 1, none⟩ b).setCell ⟨g, 2, none⟩ v) := below_set (below_set (below_set h hg) hg) hg
theorem set3_R {w : World} {g base : Nat} {ok : Nat → Prop} {u : Value} {l : List Int} {a b v a' b' v' : Value} (hR : (Kd.int .u8).R 5 w base ok u l) (h : w.heap[g]? = some (.cells #[a, b, v] 24 (0, 0))) :
    (Kd.int .u8).R 5 (((w.setCell ⟨g, 0, none⟩ a').setCell ⟨g, 1, none⟩ b').setCell ⟨g, 2, none⟩ v') base ok u l :=
  Kd.R_set (Kd.R_set (Kd.R_set hR h (by decide) 0 a') (blk_put h 0 a' rfl) (by decide) 1 b') (blk_put (blk_put h 0 a' rfl) 1 b' rfl) (by decide) 2 v'

section
variable {W w w2 : World} {ad : Addr} {o : Value} {g : Nat}
theorem kpN (k : Nat) (h : w.cell? ad = some o ∧ Aside0 (Below W.heap.size W w)) : (w.drewN k).cell? ad = some o ∧ Aside0 (Below W.heap.size W (w.drewN k)) :=
  ⟨pw_cell_below (pw_below_drewN (Below.refl _ _) k) h.1, ⟨pw_below_drewN h.2.out k⟩⟩
theorem kpD (h : w.cell? ad = some o ∧ Aside0 (Below W.heap.size W w)) : w.drew.cell? ad = some o ∧ Aside0 (Below W.heap.size W w.drew) :=
  ⟨pw_cell_below (below_drew1 (Below.refl _ _)) h.1, ⟨below_drew1 h.2.out⟩⟩
theorem kpB (hb : Below w.heap.size w w2) (h : w.cell? ad = some o ∧ Aside0 (Below W.heap.size W w)) : w2.cell? ad = some o ∧ Aside0 (Below W.heap.size W w2) :=
  ⟨pw_cell_below hb h.1, ⟨below_step h.2.out hb⟩⟩
theorem kpS {a b v : Value} (hg : W.heap.size ≤ g) (hn : ad.block < W.heap.size) (h : w.cell? ad = some o ∧ Aside0 (Below W.heap.size W w)) : (((w.setCell ⟨g, 0, none⟩ a).setCell ⟨g, 1, none⟩ b).setCell ⟨g, 2, none⟩ v).cell? ad = some o ∧ Aside0 (Below W.heap.size W (((w.setCell ⟨g, 0, none⟩ a).setCell ⟨g, 1, none⟩ b).setCell ⟨g, 2, none⟩ v)) :=
  ⟨by rw [cell_far (p := ⟨g, 2, none⟩) (by dsimp only; omega), cell_far (p := ⟨g, 1, none⟩) (by dsimp only; omega), cell_far (p := ⟨g, 0, none⟩) (by dsimp only; omega)]; exact h.1, ⟨set3_below h.2.out hg⟩⟩
end

set_option maxRecDepth 100000 in
set_option maxHeartbeats 8000000 in
theorem read_calls (A : Option Addr) (c : Nat) (l : List Int) (W : World) (hC : (Kd.int .u8).C W A l.length l) (hc : l.length ≤ c) (hb : Bd l) :
    Calls Try.prog 17 #[.slice A l.length c] W fun e W' => ∃ v, e = .returned (.tuple #[.agg #[.int .i64 (if rerr l = 0 then l.getD 2 0 else 0), .int .i64 (if rerr l = 0 then id4 l else 0), v], .int .i64 (if rerr l = 0 then len2 l else 0), .int .i64 (rerr l)]) ∧
      (Kd.int .u8).R 5 W' W.heap.size (fun _ => True) v (if rerr l = 0 then (l.take (len2 l).toNat).drop 7 else []) ∧ Below W.heap.size W W' := by
  have hu24 := Try.underlying24
  have hX := blk_new W (.cells #[.int .i64 0, .int .i64 0, .slice none 0 0] 24)
  have HX := Aside0.mk hX
  have HB1 := Aside0.mk (below_alloc (Below.refl W.heap.size W) (.cells #[.int .i64 0, .int .i64 0, .slice none 0 0] 24))
  obtain ⟨x0, x1, x2, f0, f1, f2⟩ := cells3 hX
  by_cases h2 : l.length < 2
  · have e : rerr l = 3 := by unfold rerr; rw [if_pos h2]
    rw [e]
    have d1 : decide ((l.length : Int) < 2) = true := decide_eq_true (by omega)
    have hn : l.length < 2 := h2
    obtain ⟨N, hN⟩ : ∃ N, l.length = N := ⟨_, rfl⟩
    rw [hN] at d1 hn ⊢
    clear hC hc hb hX h2 e hN
    go_enter Try.func17, Try.ntmps17
    go_wp2_with (fail)
    exact bodyPost_ret (results_list (rs := [.cell 2 24, .tmp 3, .tmp 4]) rfl (by simp) (res3 (g := W.heap.size) (a := 0) (b := 0) (v := .slice none 0 0) HX.out rfl rfl rfl)) rfl ⟨_, rfl, Kd.R_nil _ _ _ _ _, HB1.out⟩
  · have hl2 : 2 ≤ l.length := by omega
    obtain ⟨hcut, hC2, hc2⟩ := cut_hd hC hc 2 (by omega) (by omega)
    have hln : (l.take 2).length = 2 := by rw [List.length_take]; omega
    have hnum := fun w (hw : (Kd.int .u8).C w A (l.take 2).length (l.take 2)) => frame_number.calls ((l.take 2).length + 1) A c (l.take 2) (len2 l) w hw hc2 (by rw [number_f (l.take 2) (hb.take 2) (by omega), num_len hl2])
    rw [show (2 : Int).toNat = 2 from rfl, hln] at hcut hC2 hc2
    rw [hln] at hnum
    have hlb := len2_bd hb
    have d1 : decide ((l.length : Int) < 2) = false := decide_eq_false (by omega)
    have hnn : ¬ (l.length : Int) < 2 := by omega
    have HNUM := Aside0.mk hnum
    have HC2 := Aside0.mk hC2
    have HC := Aside0.mk hC
    have Hc := Aside0.mk hc
    have HBD := Aside0.mk hb
    obtain ⟨n, hn⟩ : ∃ n, len2 l = n := ⟨_, rfl⟩
    have HN := Aside0.mk hn
    rw [hn] at hlb HNUM ⊢
    have hrr : rerr l = if n < 7 ∨ 4103 < n then 2 else if (l.length : Int) < n then 3 else 0 := by unfold rerr; rw [if_neg h2, hn]
    by_cases h7 : n < 7
    · have er : rerr l = 2 := by rw [hrr, if_pos (.inl h7)]
      rw [er]
      have d2 : decide (n < 7) = true := decide_eq_true h7
      obtain ⟨N, hN⟩ : ∃ N, l.length = N := ⟨_, rfl⟩
      rw [hN] at d1 hnn hcut ⊢
      clear hC hc hb hX h2 hN er hrr hn hlb hl2 hC2 hc2 hln hnum
      go_enter Try.func17, Try.ntmps17
      go_wp2_with (fail)
      refine (HNUM.out _ (Kd.C_below HC2.out HB1.out)).mono ?_
      rintro e w1 ⟨rfl, hd⟩
      obtain ⟨k, rfl⟩ := hd.out
      go_wp2_with (fail)
      exact bodyPost_ret (results_list (rs := [.cell 2 24, .tmp 3, .tmp 4]) rfl (by simp) (res3 (g := W.heap.size) (a := 0) (b := 0) (v := .slice none 0 0) (set3_blk (blk_drewN HX.out k)) rfl rfl rfl)) rfl ⟨_, rfl, Kd.R_nil _ _ _ _ _, set3_below (pw_below_drewN HB1.out k) (Nat.le_refl _)⟩
    · have d2 : decide (n < 7) = false := decide_eq_false h7
      by_cases h41 : 4103 < n
      · have er : rerr l = 2 := by rw [hrr, if_pos (.inr h41)]
        rw [er]
        have d3 : decide (n > 4103) = true := decide_eq_true h41
        obtain ⟨N, hN⟩ : ∃ N, l.length = N := ⟨_, rfl⟩
        rw [hN] at d1 hnn hcut ⊢
        clear hC hc hb hX h2 hN er hrr hn hlb hl2 hC2 hc2 hln hnum
        go_enter Try.func17, Try.ntmps17
        go_wp2_with (fail)
        refine (HNUM.out _ (Kd.C_below HC2.out HB1.out)).mono ?_
        rintro e w1 ⟨rfl, hd⟩
        obtain ⟨k, rfl⟩ := hd.out
        go_wp2_with (fail)
        exact bodyPost_ret (results_list (rs := [.cell 2 24, .tmp 3, .tmp 4]) rfl (by simp) (res3 (g := W.heap.size) (a := 0) (b := 0) (v := .slice none 0 0) (set3_blk (blk_drewN HX.out k)) rfl rfl rfl)) rfl ⟨_, rfl, Kd.R_nil _ _ _ _ _, set3_below (pw_below_drewN HB1.out k) (Nat.le_refl _)⟩
      · have d3 : decide (n > 4103) = false := decide_eq_false h41
        by_cases hs : (l.length : Int) < n
        · have er : rerr l = 3 := by rw [hrr, if_neg (by omega), if_pos hs]
          rw [er]
          have d4 : decide ((l.length : Int) < n) = true := decide_eq_true hs
          obtain ⟨N, hN⟩ : ∃ N, l.length = N := ⟨_, rfl⟩
          rw [hN] at d1 d4 hnn hcut ⊢
          clear hC hc hb hX h2 hN er hrr hn hlb hl2 hC2 hc2 hln hnum hs
          go_enter Try.func17, Try.ntmps17
          go_wp2_with (fail)
          refine (HNUM.out _ (Kd.C_below HC2.out HB1.out)).mono ?_
          rintro e w1 ⟨rfl, hd⟩
          obtain ⟨k, rfl⟩ := hd.out
          go_wp2_with (fail)
          exact bodyPost_ret (results_list (rs := [.cell 2 24, .tmp 3, .tmp 4]) rfl (by simp) (res3 (g := W.heap.size) (a := 0) (b := 0) (v := .slice none 0 0) (set3_blk (blk_drewN HX.out k)) rfl rfl rfl)) rfl ⟨_, rfl, Kd.R_nil _ _ _ _ _, set3_below (pw_below_drewN HB1.out k) (Nat.le_refl _)⟩
        · have er : rerr l = 0 := by rw [hrr, if_neg (by omega), if_neg hs]
          rw [er]
          have d4 : decide ((l.length : Int) < n) = false := decide_eq_false hs
          have hl7 : 7 ≤ l.length := by omega
          obtain ⟨A3, c3, hcut3, hC3, hc3⟩ := cut_rd hC hc 3 7 (by omega) (by omega) (by omega)
          obtain ⟨A7, c7, hcut7, hC7, hc7⟩ := cut_rd hC hc 7 n (by omega) (by omega) (by omega)
          rw [show (3 : Int).toNat = 3 from rfl, show (7 : Int).toNat = 7 from rfl] at hcut3 hC3 hc3
          rw [show (7 : Int).toNat = 7 from rfl] at hcut7 hC7 hc7
          have hid := id4_bd hb
          have hl4 : ((l.take 7).drop 3).length = 4 := by rw [List.length_drop, List.length_take]; omega
          have hnum4 := fun w (hw : (Kd.int .u8).C w A3 ((l.take 7).drop 3).length ((l.take 7).drop 3)) => frame_number.calls (((l.take 7).drop 3).length + 1) A3 c3 ((l.take 7).drop 3) (id4 l) w hw hc3 (by rw [number_f _ ((hb.take 7).drop 3) (by omega), num_id hl7])
          obtain ⟨ad, hA⟩ : ∃ ad, A = some ad := by
            obtain ⟨ad, h, _⟩ := hC.2.2 (by omega)
            exact ⟨ad, h⟩
          subst hA
          have k2 := byte_cell hC 2 (by omega)
          rw [show ad.add 2 = ⟨ad.block, ad.off + 2, none⟩ from by simp [Addr.add]] at k2
          have ho := hb.at_ 2
          obtain ⟨o, ho2⟩ : ∃ o, l.getD 2 0 = o := ⟨_, rfl⟩
          obtain ⟨i4, hi4⟩ : ∃ o, id4 l = o := ⟨_, rfl⟩
          obtain ⟨bd, hbd⟩ : ∃ o, (l.take n.toNat).drop 7 = o := ⟨_, rfl⟩
          obtain ⟨dd, hdd⟩ : ∃ o, (l.take 7).drop 3 = o := ⟨_, rfl⟩
          have hbl : bd.length ≤ 4096 := by rw [← hbd, List.length_drop, List.length_take]; omega
          rw [ho2] at k2 ho ⊢
          rw [hi4] at hnum4 hid ⊢
          rw [hbd] at hcut7 hC7 hc7 ⊢
          rw [hdd] at hcut3 hC3 hc3 hl4 hnum4
          rw [hl4] at hcut3 hC3 hnum4
          obtain ⟨M, hM⟩ : ∃ M, bd.length = M := ⟨_, rfl⟩
          have HM := Aside0.mk hM
          have HBL := Aside0.mk hbl
          rw [hM] at hcut7 hC7
          have v0 : IntKind.i64.wrap o = o := IntWalk.i64_in _ (by omega)
          have HC3 := Aside0.mk hC3
          have HC7 := Aside0.mk hC7
          have HN4 := Aside0.mk hnum4
          have Hc3 := Aside0.mk hc3
          have Hc7 := Aside0.mk hc7
          have hN2 : (2 : Int) < (l.length : Int) := by omega
          have hK2 := Aside0.mk k2
          obtain ⟨N, hN⟩ : ∃ N, l.length = N := ⟨_, rfl⟩
          rw [hN] at d1 d4 hnn hcut hcut3 hcut7 hN2 ⊢
          have hN2' : 2 < N := by omega
          clear hC hc hb hX h2 hN er hrr hn hlb hl2 hC2 hc2 hln hnum hs hC3 hc3 hC7 hc7 hid hl4 hnum4 ho ho2 hi4 hbd hdd hbl hM k2 hl7 h7 h41
          go_enter Try.func17, Try.ntmps17
          go_wp2_with (fail)
          refine (HNUM.out _ (Kd.C_below HC2.out HB1.out)).mono ?_
          rintro e w1 ⟨rfl, hd⟩
          obtain ⟨k, rfl⟩ := hd.out
          go_wp2_with (fail)
          have HS := Aside0.mk (And.intro (pw_cell_below HB1.out hK2.out) HB1)
          have hlt2 := Aside0.mk (World.block_lt_of_cell? W _ hK2.out)
          go_region_held3 (fun w' => w'.cell? ⟨ad.block, ad.off + 2, none⟩ = some (.int .u8 o) ∧ Aside0 (Below W.heap.size W w')) (first | exact kpD (kpN _ HS.out) | exact kpN _ HS.out | exact kpB hb5 (kpN _ HS.out) | exact kpN _ (kpB hb5 (kpN _ HS.out)) | exact kpS (Nat.le_refl _) hlt2.out (kpB hb5 (kpN _ HS.out)) | exact kpS (Nat.le_refl _) hlt2.out (kpN _ (kpB hb5 (kpN _ HS.out))))
            (first
              | (go_at_call 27; refine (HN4.out _ (Kd.C_below HC3.out (by first | exact pw_below_drewN HB1.out _ | exact below_step (pw_below_drewN HB1.out _) hb5))).mono ?_; rintro e w4 ⟨rfl, hd4⟩; obtain ⟨k4, rfl⟩ := hd4.out)
              | (go_at_call 28; refine (clone_calls A7 _ c7 _ _ (Kd.C_below HC7.out (pw_below_drewN HB1.out _)) (by have := HBL.out; omega)).mono ?_; rintro e w5 ⟨v5, rfl, hR5, hb5⟩; obtain ⟨A5, c5, rfl⟩ := Kd.R_slice hR5; obtain ⟨q0, q1, q2, g0, g1, g2⟩ := cells3 (blk_below (blk_drewN HX.out _) hb5); have HR5 := Aside0.mk hR5))
          go_wp2
          exact bodyPost_ret (results_list (rs := [.cell 2 24, .tmp 3, .tmp 4]) rfl (by simp) (res3 (set3_blk (blk_below (blk_drewN HX.out _) hb5)) rfl rfl rfl)) rfl ⟨_, rfl, set3_R (Kd.R_lower HR5.out (below_size (pw_below_drewN HB1.out _))) (blk_below (blk_drewN HX.out _) hb5), set3_below (below_step (pw_below_drewN HB1.out _) hb5) (Nat.le_refl _)⟩

end Go.Proofs.Ytligkikcfmploaa.FP

/- The document's Add, where the step may not be. -/
import Derived.Test.YtccpclkmackghaaSWalkN
namespace Go.Proofs.Ytccpclkmackghaa.SNo
open Go.RowKit Go.Proofs.YtccpclkmackghaaW.PrintWords Go.Proofs.YtccpclkmackghaaW.PrintLast Go.Proofs.YtccpclkmackghaaW.PrintMore
open Go.Proofs.Ytccpclkmackghaa.PStoryNo Go.Proofs.Ytccpclkmackghaa.SPN Go.Proofs.Ytccpclkmackghaa.SWN
attribute [local go_sem] Oper.semAt_some max2_int min2_int max_two min_two
set_option linter.unusedVariables false
set_option linter.unusedSimpArgs false

theorem last_c (A : Option Addr) (c : Nat) (l : List S24) (kd : Int) (w : World) (hC : k24.C w A l.length l) (hc : l.length ≤ c) (hl : l.length ≤ 1000000) :
    Calls Try.prog 31 #[.slice A l.length c, .int .i64 kd] w fun e w' => e = .returned (.int .i64 (lastK kd 0 l)) ∧ ∃ n, w' = w.drewN n :=
  (rondelref21_last.calls (l.length + 1) A c l kd _ w hC hc (last_f l hl kd _ (Nat.le_refl _))).mono fun e w' h => ⟨h.1, h.2.out⟩
theorem open_c (A : Option Addr) (c : Nat) (l : List S24) (w : World) (hC : k24.C w A l.length l) (hc : l.length ≤ c) (hl : l.length ≤ 1000000) :
    Calls Try.prog 25 #[.slice A l.length c] w fun e w' => e = .returned (.tuple #[.int .i64 (oP (opnF none l)).1, .bool (oP (opnF none l)).2]) ∧ ∃ n, w' = w.drewN n :=
  (rondelref21_Open.calls (l.length + 1) A c l _ _ w hC hc (open_f l hl _ (Nat.le_refl _))).mono fun e w' h => ⟨h.1, h.2.out⟩

set_option maxHeartbeats 8000000 in
theorem refadd_no (A : Option Addr) (c : Nat) (l : List S24) (s : PS) (a b : Int) (W : World) (h : V l s) (hl : l.length ≤ 100000) (hC : k24.C W A l.length l) (hc : l.length ≤ c) (hne : code s a b ≠ 0) :
    Calls Try.prog 13 #[.slice A l.length c, .agg #[.int .i64 a, .int .i64 b]] W fun e W' => e = .returned (.tuple #[.slice A l.length c, .int .i64 (code s a b)]) ∧ Below W.heap.size W W' := by
  have hu24 := Try.underlying24
  have G := h.good
  have g1 := G.c1
  have g0 := G.c0
  have g2 := G.fl
  have gf := G.f2
  have gc := G.c
  have eo : ((oP (opnF none l)).2 = true ↔ s.o ≠ []) := by
    rw [G.o]
    cases opnF none l <;> simp [oP, Option.toList]
  obtain ⟨ov, ob, hop⟩ : ∃ ov ob, oP (opnF none l) = (ov, ob) := ⟨_, _, rfl⟩
  have hO : ∀ w, k24.C w A l.length l → Calls Try.prog 25 #[.slice A l.length c] w fun e w' => e = .returned (.tuple #[.int .i64 ov, .bool ob]) ∧ ∃ n, w' = w.drewN n := fun w hw => by
    have := open_c A c l w hw hc (by omega)
    rw [hop] at this
    exact this
  rw [hop] at eo
  replace eo : ob = true ↔ s.o ≠ [] := eo
  obtain ⟨L0, hL0⟩ : ∃ L, lastK 0 0 l = L := ⟨_, rfl⟩
  obtain ⟨L2, hL2⟩ : ∃ L, lastK 2 0 l = L := ⟨_, rfl⟩
  have hc0 : ∀ w, k24.C w A l.length l → Calls Try.prog 31 #[.slice A l.length c, .int .i64 0] w fun e w' => e = .returned (.int .i64 L0) ∧ ∃ n, w' = w.drewN n := fun w hw => by
    have := last_c A c l 0 w hw hc (by omega)
    rw [hL0] at this
    exact this
  have hc2 : ∀ w, k24.C w A l.length l → Calls Try.prog 31 #[.slice A l.length c, .int .i64 2] w fun e w' => e = .returned (.int .i64 L2) ∧ ∃ n, w' = w.drewN n := fun w hw => by
    have := last_c A c l 2 w hw hc (by omega)
    rw [hL2] at this
    exact this
  rw [hL0] at gc
  rw [hL2] at gf
  have C1 := Aside0.mk (Kd.C_alloc hC (.cells #[.int .i64 a, .int .i64 b] 24))
  have hX := blk_new W (.cells #[.int .i64 a, .int .i64 b] 24)
  have x0 := blk_cell hX 0
  have x1 := blk_cell hX 1
  have v0 : IntKind.i64.wrap (L0 + 1) = L0 + 1 := IntWalk.i64_in _ (by omega)
  have v2 : IntKind.i64.wrap (L2 + 1) = L2 + 1 := IntWalk.i64_in _ (by omega)
  have hb := Aside0.mk (below_alloc (Below.refl W.heap.size W) (.cells #[.int .i64 a, .int .i64 b] 24))
  obtain ⟨r, hr⟩ : ∃ r, code s a b = r := ⟨_, rfl⟩
  have HCODE := Aside0.mk hr
  rw [hr]
  have HH := Aside0.mk (And.intro hO (And.intro hc0 hc2))
  clear hX hC
  by_cases ha : a < 0
  · obtain rfl : r = 1 := by rw [← hr]; unfold code; rw [if_pos (.inl ha)]
    have ha1 : decide (a < 0) = true := decide_eq_true ha
    clear hO hc0 hc2 hr hne ha eo gc gf g0 g1 g2
    go_enter Try.func13, Try.ntmps13
    go_wp2_with (fail)
    go_ret2
    exact ⟨rfl, hb.out⟩
  · have ha1 : decide (a < 0) = false := decide_eq_false ha
    by_cases ha2 : 2 < a
    · obtain rfl : r = 1 := by rw [← hr]; unfold code; rw [if_pos (.inr ha2)]
      have ha3 : decide (a > 2) = true := decide_eq_true ha2
      clear hO hc0 hc2 hr hne ha ha2 eo gc gf g0 g1 g2
      go_enter Try.func13, Try.ntmps13
      go_wp2_with (fail)
      go_ret2
      exact ⟨rfl, hb.out⟩
    · have ha3 : decide (a > 2) = false := decide_eq_false ha2
      have hr11 : r = 11 := by
        rw [← hr] at *
        unfold code at hne ⊢
        rw [if_neg (by omega)] at hne ⊢
        split at hne
        · exact absurd rfl hne
        · rename_i hn; rw [if_neg hn]
      subst hr11
      have hno : ¬ ((a = 0 ∧ b = s.c + 1) ∨ (a = 1 ∧ b = s.c ∧ s.o = []) ∨ (a = 2 ∧ b = s.f.length + 1 ∧ s.o ≠ [])) := fun hh => by
        apply hne
        unfold code
        rw [if_neg (by omega), if_pos hh]
      by_cases a1 : a = 1
      · have a1b : (a == 1) = true := by rw [beq_iff_eq]; exact a1
        have a2b : (a == 2) = false := by rw [beq_eq_false_iff_ne]; omega
        have hob : (b == L0) = true → ob = true := fun e => by
          cases ob
          · exfalso
            apply hno
            refine .inr (.inl ⟨a1, ?_, ?_⟩)
            · rw [gc]; exact eq_of_beq e
            · exact Classical.byContradiction fun hn => by have := eo.2 hn; cases this
          · rfl
        cases e : b == L0
        · clear hO hc0 hc2 hr hne ha ha2 eo gc gf g0 g1 g2 hno a1 hob
          go_enter Try.func13, Try.ntmps13
          go_wp2_with (fail)
          refine (HH.out.1 _ C1.out).mono ?_
          rintro e w1 ⟨rfl, hq⟩
          have C2 := Aside0.mk (show k24.C w1 A l.length l from by obtain ⟨m, rfl⟩ := hq; exact Kd.C_drewN C1.out m)
          have B2 := Aside0.mk (show Below W.heap.size W w1 from by obtain ⟨m, rfl⟩ := hq; exact pw_below_drewN hb.out m)
          have x2 : w1.cell? ⟨W.heap.size, 0, none⟩ = some (.int .i64 a) := by obtain ⟨m, rfl⟩ := hq; exact x0
          have x3 : w1.cell? ⟨W.heap.size, 1, none⟩ = some (.int .i64 b) := by obtain ⟨m, rfl⟩ := hq; exact x1
          clear hq x0 x1
          go_wp2_with (fail)
          repeat (go_quiet ((go_at_call 31; exact Calls.quiet_of (HH.out.2.1 _ (Kd.C_drewN C2.out _)))))
          obtain ⟨w2, hw2⟩ : ∃ w2, w1.drewN nq = w2 := ⟨_, rfl⟩
          have C3 := Aside0.mk (show k24.C w2 A l.length l from by subst hw2; exact Kd.C_drewN C2.out nq)
          have B3 := Aside0.mk (show Below W.heap.size W w2 from by subst hw2; exact pw_below_drewN B2.out nq)
          have x4 : w2.cell? ⟨W.heap.size, 0, none⟩ = some (.int .i64 a) := by subst hw2; exact x2
          have x5 : w2.cell? ⟨W.heap.size, 1, none⟩ = some (.int .i64 b) := by subst hw2; exact x3
          rw [hw2]
          clear hw2 x2 x3
          go_wp2_with (fail)
          repeat (go_quiet ((go_at_call 31; exact Calls.quiet_of (HH.out.2.1 _ (Kd.C_drewN C3.out _)))))
          go_wp2_with (fail)
          go_ret2
          exact ⟨rfl, pw_below_drewN B3.out _⟩
        · obtain rfl := hob e
          clear hO hc0 hc2 hr hne ha ha2 eo gc gf g0 g1 g2 hno a1 hob
          go_enter Try.func13, Try.ntmps13
          go_wp2_with (fail)
          refine (HH.out.1 _ C1.out).mono ?_
          rintro e w1 ⟨rfl, hq⟩
          have C2 := Aside0.mk (show k24.C w1 A l.length l from by obtain ⟨m, rfl⟩ := hq; exact Kd.C_drewN C1.out m)
          have B2 := Aside0.mk (show Below W.heap.size W w1 from by obtain ⟨m, rfl⟩ := hq; exact pw_below_drewN hb.out m)
          have x2 : w1.cell? ⟨W.heap.size, 0, none⟩ = some (.int .i64 a) := by obtain ⟨m, rfl⟩ := hq; exact x0
          have x3 : w1.cell? ⟨W.heap.size, 1, none⟩ = some (.int .i64 b) := by obtain ⟨m, rfl⟩ := hq; exact x1
          clear hq x0 x1
          go_wp2_with (fail)
          repeat (go_quiet ((go_at_call 31; exact Calls.quiet_of (HH.out.2.1 _ (Kd.C_drewN C2.out _)))))
          obtain ⟨w2, hw2⟩ : ∃ w2, w1.drewN nq = w2 := ⟨_, rfl⟩
          have C3 := Aside0.mk (show k24.C w2 A l.length l from by subst hw2; exact Kd.C_drewN C2.out nq)
          have B3 := Aside0.mk (show Below W.heap.size W w2 from by subst hw2; exact pw_below_drewN B2.out nq)
          have x4 : w2.cell? ⟨W.heap.size, 0, none⟩ = some (.int .i64 a) := by subst hw2; exact x2
          have x5 : w2.cell? ⟨W.heap.size, 1, none⟩ = some (.int .i64 b) := by subst hw2; exact x3
          rw [hw2]
          clear hw2 x2 x3
          go_wp2_with (fail)
          repeat (go_quiet ((go_at_call 31; exact Calls.quiet_of (HH.out.2.1 _ (Kd.C_drewN C3.out _)))))
          go_wp2_with (fail)
          go_ret2
          exact ⟨rfl, pw_below_drewN B3.out _⟩
      · have a1b : (a == 1) = false := by rw [beq_eq_false_iff_ne]; exact a1
        by_cases a2 : a = 2
        · have a2b : (a == 2) = true := by rw [beq_iff_eq]; exact a2
          have hob : (b == L2 + 1) = true → ob = false := fun e => by
            cases ob
            · rfl
            · exfalso
              apply hno
              refine .inr (.inr ⟨a2, ?_, eo.1 rfl⟩)
              rw [gf]; exact eq_of_beq e
          cases e : b == L2 + 1
          · clear hO hc0 hc2 hr hne ha ha2 eo gc gf g0 g1 g2 hno a1 a2 hob
            go_enter Try.func13, Try.ntmps13
            go_wp2_with (fail)
            refine (HH.out.1 _ C1.out).mono ?_
            rintro e w1 ⟨rfl, hq⟩
            have C2 := Aside0.mk (show k24.C w1 A l.length l from by obtain ⟨m, rfl⟩ := hq; exact Kd.C_drewN C1.out m)
            have B2 := Aside0.mk (show Below W.heap.size W w1 from by obtain ⟨m, rfl⟩ := hq; exact pw_below_drewN hb.out m)
            have x2 : w1.cell? ⟨W.heap.size, 0, none⟩ = some (.int .i64 a) := by obtain ⟨m, rfl⟩ := hq; exact x0
            have x3 : w1.cell? ⟨W.heap.size, 1, none⟩ = some (.int .i64 b) := by obtain ⟨m, rfl⟩ := hq; exact x1
            clear hq x0 x1
            go_wp2_with (fail)
            repeat (go_quiet ((go_at_call 31; exact Calls.quiet_of (HH.out.2.1 _ (Kd.C_drewN C2.out _)))))
            obtain ⟨w2, hw2⟩ : ∃ w2, w1.drewN nq = w2 := ⟨_, rfl⟩
            have C3 := Aside0.mk (show k24.C w2 A l.length l from by subst hw2; exact Kd.C_drewN C2.out nq)
            have B3 := Aside0.mk (show Below W.heap.size W w2 from by subst hw2; exact pw_below_drewN B2.out nq)
            have x4 : w2.cell? ⟨W.heap.size, 0, none⟩ = some (.int .i64 a) := by subst hw2; exact x2
            have x5 : w2.cell? ⟨W.heap.size, 1, none⟩ = some (.int .i64 b) := by subst hw2; exact x3
            rw [hw2]
            clear hw2 x2 x3
            go_wp2_with (fail)
            repeat (go_quiet ((go_at_call 31; exact Calls.quiet_of (HH.out.2.2 _ (Kd.C_drewN C3.out _)))))
            go_wp2_with (fail)
            go_ret2
            exact ⟨rfl, pw_below_drewN B3.out _⟩
          · obtain rfl := hob e
            clear hO hc0 hc2 hr hne ha ha2 eo gc gf g0 g1 g2 hno a1 a2 hob
            go_enter Try.func13, Try.ntmps13
            go_wp2_with (fail)
            refine (HH.out.1 _ C1.out).mono ?_
            rintro e w1 ⟨rfl, hq⟩
            have C2 := Aside0.mk (show k24.C w1 A l.length l from by obtain ⟨m, rfl⟩ := hq; exact Kd.C_drewN C1.out m)
            have B2 := Aside0.mk (show Below W.heap.size W w1 from by obtain ⟨m, rfl⟩ := hq; exact pw_below_drewN hb.out m)
            have x2 : w1.cell? ⟨W.heap.size, 0, none⟩ = some (.int .i64 a) := by obtain ⟨m, rfl⟩ := hq; exact x0
            have x3 : w1.cell? ⟨W.heap.size, 1, none⟩ = some (.int .i64 b) := by obtain ⟨m, rfl⟩ := hq; exact x1
            clear hq x0 x1
            go_wp2_with (fail)
            repeat (go_quiet ((go_at_call 31; exact Calls.quiet_of (HH.out.2.1 _ (Kd.C_drewN C2.out _)))))
            obtain ⟨w2, hw2⟩ : ∃ w2, w1.drewN nq = w2 := ⟨_, rfl⟩
            have C3 := Aside0.mk (show k24.C w2 A l.length l from by subst hw2; exact Kd.C_drewN C2.out nq)
            have B3 := Aside0.mk (show Below W.heap.size W w2 from by subst hw2; exact pw_below_drewN B2.out nq)
            have x4 : w2.cell? ⟨W.heap.size, 0, none⟩ = some (.int .i64 a) := by subst hw2; exact x2
            have x5 : w2.cell? ⟨W.heap.size, 1, none⟩ = some (.int .i64 b) := by subst hw2; exact x3
            rw [hw2]
            clear hw2 x2 x3
            go_wp2_with (fail)
            repeat (go_quiet ((go_at_call 31; exact Calls.quiet_of (HH.out.2.2 _ (Kd.C_drewN C3.out _)))))
            go_wp2_with (fail)
            go_ret2
            exact ⟨rfl, pw_below_drewN B3.out _⟩
        · have a2b : (a == 2) = false := by rw [beq_eq_false_iff_ne]; exact a2
          have e : (b == L0 + 1) = false := by
            rw [beq_eq_false_iff_ne]
            intro hb0
            exact hno (.inl ⟨by omega, by rw [gc]; exact hb0⟩)
          clear hO hc0 hc2 hr hne ha ha2 eo gc gf g0 g1 g2 hno a1 a2
          go_enter Try.func13, Try.ntmps13
          go_wp2_with (fail)
          refine (HH.out.1 _ C1.out).mono ?_
          rintro e w1 ⟨rfl, hq⟩
          have C2 := Aside0.mk (show k24.C w1 A l.length l from by obtain ⟨m, rfl⟩ := hq; exact Kd.C_drewN C1.out m)
          have B2 := Aside0.mk (show Below W.heap.size W w1 from by obtain ⟨m, rfl⟩ := hq; exact pw_below_drewN hb.out m)
          have x2 : w1.cell? ⟨W.heap.size, 0, none⟩ = some (.int .i64 a) := by obtain ⟨m, rfl⟩ := hq; exact x0
          have x3 : w1.cell? ⟨W.heap.size, 1, none⟩ = some (.int .i64 b) := by obtain ⟨m, rfl⟩ := hq; exact x1
          clear hq x0 x1
          go_wp2_with (fail)
          repeat (go_quiet ((go_at_call 31; exact Calls.quiet_of (HH.out.2.1 _ (Kd.C_drewN C2.out _)))))
          go_wp2_with (fail)
          go_ret2
          exact ⟨rfl, pw_below_drewN B2.out _⟩

end Go.Proofs.Ytccpclkmackghaa.SNo

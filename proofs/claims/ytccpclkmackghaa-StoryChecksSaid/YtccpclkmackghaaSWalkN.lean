/- The story's own walks: what its calls do to what it keeps. -/
import Derived.Test.YtccpclkmackghaaSPlainN
import Derived.Shelf.RegionOpen
import Derived.WalkKit
import Derived.Deep.RegionHeld3
import Derived.Deep.RegionLaw
namespace Go.Proofs.Ytccpclkmackghaa.SWN
open Go.RowKit Go.Proofs.YtccpclkmackghaaW.PrintWords Go.Proofs.YtccpclkmackghaaW.PrintLast Go.Proofs.YtccpclkmackghaaW.PrintMore
open Go.Proofs.Ytccpclkmackghaa.PStoryNo Go.Proofs.Ytccpclkmackghaa.SPN
attribute [local go_sem] Oper.semAt_some
set_option linter.unusedVariables false
set_option linter.unusedSimpArgs false

/-- A story lies at block g: its rows are its own, of the blocks that ok tells. -/
def St (W : World) (base g : Nat) (ok : Nat → Prop) (s : PS) : Prop :=
  ∃ A2 c2 A3 c3, W.heap[g]? = some (.cells #[.int .i64 s.n, .int .i64 s.c, .slice A2 s.o.length c2, .slice A3 s.f.length c3] 61 (0, 0)) ∧ base ≤ g ∧ ok g ∧
    (Kd.int .i64).R 3 W base ok (.slice A2 s.o.length c2) s.o ∧ (Kd.int .i64).R 3 W base ok (.slice A3 s.f.length c3) s.f

theorem St.below {W W1 : World} {base g : Nat} {ok : Nat → Prop} {s : PS} (h : St W base g ok s) (hb : Below W.heap.size W W1) : St W1 base g ok s := by
  obtain ⟨A2, c2, A3, c3, hB, hg, hk, h2, h3⟩ := h
  exact ⟨A2, c2, A3, c3, blk_below hB hb, hg, hk, Kd.R_below h2 hb, Kd.R_below h3 hb⟩
theorem St.kept {W W1 : World} {base g : Nat} {ok S : Nat → Prop} {s : PS} (h : St W base g ok s) (hk : Kept W W1 S) (hne : ∀ k, ok k → ¬ S k) : St W1 base g ok s := by
  obtain ⟨A2, c2, A3, c3, hB, hg, ho, h2, h3⟩ := h
  exact ⟨A2, c2, A3, c3, blk_kept hB hk (hne g ho), hg, ho, Kd.R_kept h2 hk hne, Kd.R_kept h3 hk hne⟩
theorem St.mono {W : World} {base g : Nat} {ok ok' : Nat → Prop} {s : PS} (h : St W base g ok s) (hm : ∀ k, ok k → ok' k) : St W base g ok' s := by
  obtain ⟨A2, c2, A3, c3, hB, hg, hk, h2, h3⟩ := h
  exact ⟨A2, c2, A3, c3, hB, hg, hm g hk, Kd.R_mono h2 hm, Kd.R_mono h3 hm⟩

/-- may: the code of a step whose kind is one. -/
theorem may_code (s : PS) (a b : Int) (h0 : 0 ≤ a) (h2 : a ≤ 2) :
    code s a b = if (if a = 0 then b == s.c + 1 else if a = 1 then (b == s.c && (s.o.length : Int) == 0) else (b == (s.f.length : Int) + 1 && decide (0 < s.o.length))) = true then 0 else 11 := by
  unfold code
  rw [if_neg (by omega)]
  congr 1
  rw [eq_iff_iff]
  by_cases a0 : a = 0
  · simp [a0]
  · by_cases a1 : a = 1
    · simp [a1]
    · have a2 : a = 2 := by omega
      simp [a2, List.length_pos_iff]

set_option maxHeartbeats 4000000 in
theorem may_calls (g : Nat) (n c : Int) (A2 A3 : Option Addr) (c2 c3 ol fl : Nat) (a b : Int) (W : World) (hc : 0 ≤ c ∧ c ≤ 1000000) (hf : fl ≤ 1000000)
    (hB : W.heap[g]? = some (.cells #[.int .i64 n, .int .i64 c, .slice A2 ol c2, .slice A3 fl c3] 61 (0, 0))) :
    Calls Try.prog 32 #[.pointer (some ⟨g, 0, none⟩), .agg #[.int .i64 a, .int .i64 b]] W fun e W' => e = .returned (.bool (if a = 0 then b == c + 1 else if a = 1 then (b == c && (ol : Int) == 0) else (b == (fl : Int) + 1 && decide (0 < ol)))) ∧ Below W.heap.size W W' := by
  have hu31 := Try.underlying31
  have hB1 := blk_alloc hB (.cells #[.int .i64 a, .int .i64 b] 31)
  have hX := blk_new W (.cells #[.int .i64 a, .int .i64 b] 31)
  have k1 := blk_cell hB1 1
  have k2 := blk_cell hB1 2
  have k3 := blk_cell hB1 3
  have x0 := blk_cell hX 0
  have x1 := blk_cell hX 1
  have v1 : IntKind.i64.wrap (c + 1) = c + 1 := IntWalk.i64_in _ (by omega)
  have v2 : IntKind.i64.wrap ((fl : Int) + 1) = (fl : Int) + 1 := IntWalk.i64_in _ (by omega)
  clear hB hB1 hX
  have hb := below_alloc (Below.refl W.heap.size W) (.cells #[.int .i64 a, .int .i64 b] 31)
  by_cases a0 : a = 0
  · have a0b : (a == 0) = true := by rw [beq_iff_eq]; exact a0
    rw [if_pos a0]
    clear a0
    go_enter Try.func32, Try.ntmps32
    go_wp2_with (fail)
    repeat (go_quiet (fail))
    go_wp2
    go_ret
    exact ⟨rfl, pw_below_drewN hb _⟩
  · have a0b : (a == 0) = false := by rw [beq_eq_false_iff_ne]; exact a0
    rw [if_neg a0]
    clear a0
    by_cases a1 : a = 1
    · have a1b : (a == 1) = true := by rw [beq_iff_eq]; exact a1
      rw [if_pos a1]
      clear a1
      cases e : b == c
      · go_enter Try.func32, Try.ntmps32
        go_wp2_with (fail)
        repeat (go_quiet (fail))
        go_wp2
        go_ret
        exact ⟨rfl, pw_below_drewN hb _⟩
      · go_enter Try.func32, Try.ntmps32
        go_wp2_with (fail)
        repeat (go_quiet (fail))
        go_wp2
        go_ret
        exact ⟨rfl, pw_below_drewN hb _⟩
    · have a1b : (a == 1) = false := by rw [beq_eq_false_iff_ne]; exact a1
      rw [if_neg a1]
      clear a1
      cases e : b == (fl : Int) + 1
      · go_enter Try.func32, Try.ntmps32
        go_wp2_with (fail)
        repeat (go_quiet (fail))
        go_wp2
        go_ret
        exact ⟨rfl, pw_below_drewN hb _⟩
      · go_enter Try.func32, Try.ntmps32
        go_wp2_with (fail)
        repeat (go_quiet (fail))
        go_wp2
        go_ret
        exact ⟨rfl, pw_below_drewN hb _⟩

theorem R_one (W : World) (base : Nat) (ok : Nat → Prop) (b : Int) (hb : base ≤ W.heap.size) (hok : ok W.heap.size) :
    (Kd.int .i64).R 3 (W.alloc (.cells #[.int .i64 b] 3)) base ok (.slice (some ⟨W.heap.size, 0, none⟩) 1 1) [b] :=
  Kd.R_of_own ⟨rfl, .inr ⟨W.heap.size, 1, #[.int .i64 b], rfl, hb, blk_new _ _, Nat.le_refl 1, by decide, rfl, rfl⟩⟩ (fun k hk => by simp [Value.ownBlock] at hk; subst hk; exact hok)

set_option maxHeartbeats 4000000 in
theorem add_calls (w0 W : World) (g : Nat) (ok : Nat → Prop) (s : PS) (a b : Int) (hB : Below w0.heap.size w0 W) (hS : St W w0.heap.size g ok s) (hm : Sm s) :
    Calls Try.prog 10 #[.pointer (some ⟨g, 0, none⟩), .agg #[.int .i64 a, .int .i64 b]] W fun e W' => e = .returned (.int .i64 (code s a b)) ∧
      St W' w0.heap.size g (fun k => ok k ∨ W.heap.size ≤ k) (if code s a b = 0 then nxt s a b else s) ∧ Below w0.heap.size w0 W' ∧ Kept W W' ok := by
  have hu31 := Try.underlying31
  obtain ⟨r, hr⟩ : ∃ r, code s a b = r := ⟨_, rfl⟩
  obtain ⟨s', hs'⟩ : ∃ s', (if code s a b = 0 then nxt s a b else s) = s' := ⟨_, rfl⟩
  rw [hs', hr]
  have HR := Aside0.mk hr
  have HS' := Aside0.mk hs'
  clear hr hs'
  obtain ⟨A2, c2, A3, c3, hG, hg, hok, hR2, hR3⟩ := hS
  have HG := Aside0.mk hG
  have HR2 := Aside0.mk hR2
  have HR3 := Aside0.mk hR3
  have HOK := Aside0.mk hok
  have HGG := Aside0.mk hg
  have HB := Aside0.mk hB
  have hX := blk_new W (.cells #[.int .i64 a, .int .i64 b] 31)
  have HX := Aside0.mk hX
  have x0 := blk_cell hX 0
  have x1 := blk_cell hX 1
  have hgl := blk_lt hG
  have hn := hm.n
  have hc := hm.c
  have hf := hm.f
  have hsame : ∀ (x : Int) W1, Below W.heap.size W W1 → code s a b = x → x ≠ 0 → (Ending.returned (.int .i64 x) = Ending.returned (.int .i64 r)) ∧ St W1 w0.heap.size g (fun k => ok k ∨ W.heap.size ≤ k) s' ∧ Below w0.heap.size w0 W1 ∧ Kept W W1 ok := fun x W1 hb he hne => by
    rw [← HS'.out, ← HR.out, he, if_neg hne]
    exact ⟨rfl, (St.below ⟨A2, c2, A3, c3, HG.out, HGG.out, HOK.out, HR2.out, HR3.out⟩ hb).mono (fun k hk => .inl hk), below_step HB.out hb, Kept.of_below hb ok⟩
  have HSA := Aside0.mk hsame
  clear hsame hG hR2 hR3 hok hg hB hX
  by_cases ha : a < 0
  · have ec : code s a b = 1 := by unfold code; rw [if_pos (.inl ha)]
    have ha1 : decide (a < 0) = true := decide_eq_true ha
    have EC := Aside0.mk ec
    clear ec
    clear ha
    go_enter Try.func10, Try.ntmps10
    go_wp2_with (fail)
    go_ret
    exact HSA.out 1 _ (below_alloc (Below.refl _ _) _) EC.out (by decide)
  · have ha1 : decide (a < 0) = false := decide_eq_false ha
    by_cases ha2 : 2 < a
    · have ec : code s a b = 1 := by unfold code; rw [if_pos (.inr ha2)]
      have ha3 : decide (a > 2) = true := decide_eq_true ha2
      have EC := Aside0.mk ec
      clear ec
      clear ha ha2
      go_enter Try.func10, Try.ntmps10
      go_wp2_with (fail)
      go_ret
      exact HSA.out 1 _ (below_alloc (Below.refl _ _) _) EC.out (by decide)
    · have ha3 : decide (a > 2) = false := decide_eq_false ha2
      have ec := may_code s a b (by omega) (by omega)
      obtain ⟨p, hp⟩ : ∃ p, (if a = 0 then b == s.c + 1 else if a = 1 then (b == s.c && (s.o.length : Int) == 0) else (b == (s.f.length : Int) + 1 && decide (0 < s.o.length))) = p := ⟨_, rfl⟩
      rw [hp] at ec
      have HP := Aside0.mk hp
      have HC := Aside0.mk (And.intro ha ha2)
      have EC := Aside0.mk ec
      clear ec hp ha ha2
      go_enter Try.func10, Try.ntmps10
      go_wp2_with (fail)
      refine (may_calls g s.n s.c A2 A3 c2 c3 s.o.length s.f.length a b _ hc hf (blk_alloc HG.out _)).mono ?_
      rw [HP.out]
      rintro e W2 ⟨rfl, hb2⟩
      have HB2 := Aside0.mk (below_step (below_alloc (Below.refl W.heap.size W) (.cells #[.int .i64 a, .int .i64 b] 31)) hb2)
      have HX2 := Aside0.mk (blk_below HX.out hb2)
      clear hb2
      cases p
      · go_wp2_with (fail)
        go_ret
        exact HSA.out 11 _ HB2.out (by rw [EC.out]; rfl) (by decide)
      · have G2 := blk_below HG.out HB2.out
        have k0 := blk_cell G2 0
        have f0 := blk_frozen G2 0
        have v0 : IntKind.i64.wrap (s.n + 1) = s.n + 1 := IntWalk.i64_in _ (by omega)
        have G3 := blk_put G2 0 (.int .i64 (s.n + 1)) rfl
        have X3 := blk_far (p := ⟨g, 0, none⟩) HX2.out (by dsimp only; omega) (.int .i64 (s.n + 1))
        have y0 := blk_cell X3 0
        have y1 := blk_cell X3 1
        have GG2 := Aside0.mk G2
        have GG3 := Aside0.mk G3
        have ec0 : code s a b = 0 := by rw [EC.out]; rfl
        have hr0 : r = 0 := by rw [← HR.out, ec0]
        have hs0 : s' = nxt s a b := by rw [← HS'.out, if_pos ec0]
        subst hr0
        have HS0 := Aside0.mk hs0
        -- a store into the story's block
        have hK2 : Kept W W2 ok := Kept.of_below HB2.out ok
        have hK3 : Kept W (W2.setCell ⟨g, 0, none⟩ (.int .i64 (s.n + 1))) ok := hK2.setCell (.inl HOK.out) _
        have hB3 : Below w0.heap.size w0 (W2.setCell ⟨g, 0, none⟩ (.int .i64 (s.n + 1))) := (below_step HB.out HB2.out).setCell HGG.out _
        have R23 := Kd.R_set (Kd.R_below HR2.out HB2.out) GG2.out (by decide) 0 (.int .i64 (s.n + 1))
        have R33 := Kd.R_set (Kd.R_below HR3.out HB2.out) GG2.out (by decide) 0 (.int .i64 (s.n + 1))
        have K3 := Aside0.mk hK3
        have B3 := Aside0.mk hB3
        have RR23 := Aside0.mk R23
        have RR33 := Aside0.mk R33
        clear x0 x1 ec0 hs0 hK2 hK3 hB3 R23 R33
        by_cases a0 : a = 0
        · have a0b : (a == 0) = true := by rw [beq_iff_eq]; exact a0
          have k1 := blk_cell G3 1
          have f1 := blk_frozen G3 1
          have A0 := Aside0.mk a0
          clear a0 G2 G3 X3
          go_wp2_with (fail)
          go_ret
          refine ⟨rfl, ?_, B3.out.setCell HGG.out _, K3.out.setCell (.inl HOK.out) _⟩
          rw [HS0.out, nxt, if_pos A0.out]
          exact ⟨A2, c2, A3, c3, blk_put GG3.out 1 (.int .i64 b) rfl, HGG.out, .inl HOK.out, Kd.R_mono (Kd.R_set RR23.out GG3.out (by decide) 1 _) (fun k hk => .inl hk), Kd.R_mono (Kd.R_set RR33.out GG3.out (by decide) 1 _) (fun k hk => .inl hk)⟩
        · have a0b : (a == 0) = false := by rw [beq_eq_false_iff_ne]; exact a0
          by_cases a1 : a = 1
          · have a1b : (a == 1) = true := by rw [beq_iff_eq]; exact a1
            have A1 := Aside0.mk a1
            have G4 := blk_alloc G3 (.cells #[.int .i64 b] 3)
            have k2 := blk_cell G4 2
            have f2 := blk_frozen G4 2
            have GG4 := Aside0.mk G4
            clear a0 a1 G2 G3 X3 G4
            go_wp2_with (fail)
            go_ret
            have hsz : W.heap.size ≤ (W2.setCell ⟨g, 0, none⟩ (.int .i64 (s.n + 1))).heap.size := K3.out.1
            have hsz2 : (W2.setCell ⟨g, 0, none⟩ (.int .i64 (s.n + 1))).heap.size = W2.heap.size := by simp [World.setCell]
            have hbs := below_size B3.out
            rw [← hsz2]
            refine ⟨rfl, ?_, (below_alloc B3.out _).setCell HGG.out _, (K3.out.alloc _).setCell (.inl HOK.out) _⟩
            rw [HS0.out, nxt, if_neg (by rw [A1.out]; decide), if_pos A1.out]
            exact ⟨_, 1, A3, c3, blk_put GG4.out 2 _ rfl, HGG.out, .inl HOK.out, Kd.R_set (R_one _ _ _ b hbs (.inr hsz)) GG4.out (by decide) 2 _, Kd.R_mono (Kd.R_set (Kd.R_alloc RR33.out _) GG4.out (by decide) 2 _) (fun k hk => .inl hk)⟩
          · have a1b : (a == 1) = false := by rw [beq_eq_false_iff_ne]; exact a1
            have a2b : (a == 2) = true := by rw [beq_iff_eq]; have := HC.out; omega
            have k2 := blk_cell G3 2
            have k3 := blk_cell G3 3
            have A2' := Aside0.mk (And.intro a0 a1)
            clear a0 a1 G2 G3 X3
            go_wp2_with (fail)
            go_region_law (refine Kd.R_append_rows_step (Kd.int .i64) (w0 := w0) w0.heap.size (by rfl) (.tmp 50) (.tmp 54) 22 3 (.int .i64 0) 8 rfl Try.underlying22 info3 rfl (by decide) (by decide) (.slice A3 s.f.length c3) s.f s.o A2 s.o.length c2 (fun k => ok k ∨ W.heap.size ≤ k) (fun _ => False) rfl rfl ?aO ?aR (fun _ _ h => h) (fun _ h => h.elim) ?aF ?aB ?aS ?aL ?_; (case aO => exact Kd.R_drew (Kd.R_mono RR33.out (fun k h => .inl h))); (case aR => exact (Kd.R_reads' (Kd.R_drew RR23.out)).2.2); (case aF => exact (fun k hk => .inr (Nat.le_trans K3.out.1 hk))); (case aB => exact below_drew1 B3.out); (case aS => exact below_size (below_drew1 B3.out)); (case aL => have := hm.f; have := hm.o; omega); intro v1 w7 ho hb7 hg7 hat; obtain ⟨A7, c7, rfl⟩ := Kd.R_slice ho; obtain ⟨n7, hn7⟩ : ∃ n, (s.f ++ s.o).length = n := ⟨_, rfl⟩; rw [hn7] at ho ⊢; have N7 := Aside0.mk hn7; have O7 := Aside0.mk ho; have B7 := Aside0.mk hb7; have KE7 := Aside0.mk (Kept.of_grown hg7 (K3.out.drew) (fun k hk => .inl (RR33.out.1 k hk))); have G7 := blk_grown (blk_drew GG3.out) hg7 (Kd.R_ne RR33.out GG3.out (by decide)); have q2 := blk_cell G7 2; have p2 := blk_frozen G7 2; have q3 := blk_cell G7 3; have p3 := blk_frozen G7 3; have G8 := blk_put G7 3 (.slice A7 n7 c7) rfl; have GG7 := Aside0.mk G7; have GG8 := Aside0.mk G8; have q82 := blk_cell G8 2; have p82 := blk_frozen G8 2; have G9 := blk_put G7 2 (.slice none 0 0) rfl; have q93 := blk_cell G9 3; have p93 := blk_frozen G9 3; clear ho hb7 hg7 hat G7 G8 G9 hn7)
            all_goals (
              go_wp2
              go_ret
              refine ⟨rfl, ?_, (B7.out.setCell HGG.out _).setCell HGG.out _, (KE7.out.setCell (.inl HOK.out) _).setCell (.inl HOK.out) _⟩
              have hA := A2'.out
              rw [HS0.out, nxt, if_neg hA.1, if_neg hA.2]
              refine ⟨none, 0, A7, c7, ?_, HGG.out, .inl HOK.out, Kd.R_nil _ _ _ _ _, ?_⟩
              · rw [N7.out]; exact blk_put GG8.out 2 _ rfl
              · rw [N7.out]; exact Kd.R_set (Kd.R_set O7.out GG7.out (by decide) 3 _) GG8.out (by decide) 2 _)

set_option maxHeartbeats 4000000 in
theorem new_calls (W : World) : Calls Try.prog 9 #[] W fun e W' => ∃ g, e = .returned (.pointer (some ⟨g, 0, none⟩)) ∧ St W' W.heap.size g (fun k => W.heap.size ≤ k) ⟨0, 0, [], []⟩ ∧ Below W.heap.size W W' := by
  have hu61 := Try.underlying61
  go_enter Try.func9, Try.ntmps9
  go_wp2
  go_ret
  exact ⟨_, rfl, ⟨none, 0, none, 0, blk_new _ _, Nat.le_refl _, Nat.le_refl _, Kd.R_nil _ _ _ _ _, Kd.R_nil _ _ _ _ _⟩, below_alloc (Below.refl _ _) _⟩

theorem ptr_nil (g : Nat) (w : World) : (binOp .eql 27 (.pointer (some ⟨g, 0, none⟩)) (.pointer none)).run Try.prog w = .ok (.bool false) w := by kernel_rfl

set_option maxHeartbeats 4000000 in
theorem len_calls {W : World} {base g : Nat} {ok : Nat → Prop} {s : PS} (h : St W base g ok s) : Calls Try.prog 14 #[.pointer (some ⟨g, 0, none⟩)] W fun e W' => e = .returned (.int .i64 s.n) ∧ W' = W := by
  obtain ⟨A2, c2, A3, c3, hB, hg, hk, h2, h3⟩ := h
  have k0 := blk_cell hB 0
  clear hB h2 h3
  go_enter Try.func14, Try.ntmps14
  go_wp2
  go_ret
  exact ⟨rfl, rfl⟩
set_option maxHeartbeats 4000000 in
theorem changes_calls {W : World} {base g : Nat} {ok : Nat → Prop} {s : PS} (h : St W base g ok s) : Calls Try.prog 16 #[.pointer (some ⟨g, 0, none⟩)] W fun e W' => e = .returned (.int .i64 s.c) ∧ W' = W := by
  obtain ⟨A2, c2, A3, c3, hB, hg, hk, h2, h3⟩ := h
  have k0 := blk_cell hB 1
  clear hB h2 h3
  go_enter Try.func16, Try.ntmps16
  go_wp2
  go_ret
  exact ⟨rfl, rfl⟩

/-- Of what is open, as the program tells it. -/
def oQ : List Int → Int × Bool
  | [] => (0, false)
  | v :: _ => (v, true)
set_option maxHeartbeats 4000000 in
theorem open_calls {W : World} {base g : Nat} {ok : Nat → Prop} {s : PS} (h : St W base g ok s) : Calls Try.prog 12 #[.pointer (some ⟨g, 0, none⟩)] W fun e W' => e = .returned (.tuple #[.int .i64 (oQ s.o).1, .bool (oQ s.o).2]) ∧ W' = W := by
  obtain ⟨A2, c2, A3, c3, hB, hg, hk, h2, h3⟩ := h
  have k0 := blk_cell hB 2
  obtain ⟨o, ho⟩ : ∃ o, s.o = o := ⟨_, rfl⟩
  rw [ho] at h2 k0 ⊢
  cases o with
  | nil =>
    clear hB h2 h3
    go_enter Try.func12, Try.ntmps12
    go_wp2
    go_ret2
    exact ⟨rfl, rfl⟩
  | cons v o =>
    obtain ⟨ad, c, e, _, hK, hc0⟩ := Kd.C_get (Kd.R_reads' h2).2.2 (0 : Int) 0 (by omega) (by simp)
    subst e
    have hc1 : W.cell? ad = some (.int .i64 v) := by
      have e0 : c = [.int .i64 v] := hK
      have := hc0 0 (.int .i64 v) (by rw [e0]; rfl)
      rw [show (0 : Int).toNat * (Kd.int .i64).sz + 0 = 0 from rfl] at this
      rwa [show ad.add 0 = ad from Addr.add_zero' ad] at this
    have hl : 0 < (v :: o).length := by simp
    have hl0 : (((v :: o).length : Int) == 0) = false := by rw [beq_eq_false_iff_ne]; simp; try omega
    obtain ⟨N, hN⟩ : ∃ N, (v :: o).length = N := ⟨_, rfl⟩
    rw [hN] at hl hl0 k0
    clear hB h2 h3 hK hc0 hN
    go_enter Try.func12, Try.ntmps12
    go_wp2
    go_ret2
    exact ⟨rfl, rfl⟩

theorem slice_nil (a : Addr) (n c : Nat) (w : World) : (binOp .eql 22 (.slice (some a) n c) (.slice none 0 0)).run Try.prog w = .ok (.bool false) w := by kernel_rfl
theorem slice_nil0 (c : Nat) (w : World) : (binOp .eql 22 (.slice none 0 c) (.slice none 0 0)).run Try.prog w = .ok (.bool true) w := by kernel_rfl
theorem R_zero (W : World) (base : Nat) (ok : Nat → Prop) (hb : base ≤ W.heap.size) (hok : ok W.heap.size) :
    (Kd.int .i64).R 3 (W.alloc (.cells #[] 3)) base ok (.slice (some ⟨W.heap.size, 0, none⟩) 0 0) [] :=
  Kd.R_of_own ⟨rfl, .inr ⟨W.heap.size, 0, #[], rfl, hb, blk_new _ _, Nat.le_refl 0, by decide, rfl, rfl⟩⟩ (fun k hk => by simp [Value.ownBlock] at hk; subst hk; exact hok)

set_option maxHeartbeats 4000000 in
theorem clone_calls (A : Option Addr) (n c : Nat) (xs : List Int) (W : World) (hC : (Kd.int .i64).C W A n xs) (hn : xs.length ≤ 1000000) :
    Calls Try.prog 33 #[.slice A n c] W fun e W' => ∃ v, e = .returned v ∧ (Kd.int .i64).R 3 W' W.heap.size (fun _ => True) v xs ∧ Below W.heap.size W W' := by
  cases A with
  | none =>
    have hl : xs = [] := by
      rcases Nat.eq_zero_or_pos n with h0 | h0
      · exact List.eq_nil_of_length_eq_zero (hC.1.trans h0)
      · obtain ⟨ad, h, _⟩ := hC.2.2 h0; cases h
    have hn0 : n = 0 := by rw [← hC.1, hl]; rfl
    subst hl hn0
    clear hC
    have hnil := slice_nil0 c
    go_enter Try.func33, Try.ntmps33
    go_wp2_with (fail)
    go_ret
    exact ⟨_, rfl, Kd.R_nil _ _ _ _ _, Below.refl _ _⟩
  | some ad =>
    have hnil := slice_nil ad n c
    have HC := Aside0.mk hC
    have hL : n = xs.length := hC.1.symm
    have HL := Aside0.mk hL
    clear hC hL
    go_enter Try.func33, Try.ntmps33
    go_wp2_with (first | ((with_reducible refine gate_builtin (b := .append) (xs := #[.tmp 5, .tmp 6]) rfl ?_); at_builtin; refine Kd.R_append_rows (Kd.int .i64) (w0 := W) W.heap.size rfl (.tmp 5) (.tmp 6) 22 3 (.int .i64 0) 8 rfl Try.underlying22 info3 rfl (by decide) (by decide) (.slice (some ⟨W.heap.size, 0, none⟩) 0 0) [] xs (some ad) n c (fun _ => True) (fun _ => False) rfl rfl ?aO ?aR (fun _ _ h => h) (fun _ h => h.elim) (fun _ _ => trivial) ?aB ?aS ?aL ?_; (case aO => exact R_zero W _ _ (Nat.le_refl _) trivial); (case aR => exact Kd.C_alloc HC.out _); (case aB => exact below_alloc (Below.refl _ _) _); (case aS => exact below_size (below_alloc (Below.refl _ _) _)); (case aL => have := HL.out; simp; omega); intro v1 w7 ho hb7 hg7 hat; have O7 := Aside0.mk ho; have B7 := Aside0.mk hb7; clear ho hb7 hg7 hat))
    go_ret
    exact ⟨_, rfl, O7.out, B7.out⟩

set_option maxHeartbeats 4000000 in
theorem frames_calls {W : World} {base g : Nat} {ok : Nat → Prop} {s : PS} (h : St W base g ok s) (hm : Sm s) : Calls Try.prog 19 #[.pointer (some ⟨g, 0, none⟩)] W fun e W' => ∃ v, e = .returned v ∧ (Kd.int .i64).R 3 W' W.heap.size (fun _ => True) v s.f ∧ Below W.heap.size W W' := by
  obtain ⟨A2, c2, A3, c3, hB, hg, hk, h2, h3⟩ := h
  have k0 := blk_cell hB 3
  have H3 := Aside0.mk h3
  have HM := hm.f
  clear hB h2 h3
  go_enter Try.func19, Try.ntmps19
  go_wp2_with (fail)
  refine (clone_calls _ _ _ s.f _ (Kd.R_reads' H3.out).2.2 HM).mono ?_
  rintro e W2 ⟨v, rfl, hR, hb⟩
  have O7 := Aside0.mk hR
  have B7 := Aside0.mk hb
  clear hR hb
  go_wp2
  go_ret
  exact ⟨_, rfl, O7.out, B7.out⟩

theorem add_B (ws W : World) (g : Nat) (s : PS) (a b : Int) (hB : Below ws.heap.size ws W) (hS : St W ws.heap.size g (fun k => ws.heap.size ≤ k) s) (hm : Sm s) :
    Calls Try.prog 10 #[.pointer (some ⟨g, 0, none⟩), .agg #[.int .i64 a, .int .i64 b]] W fun e W' => e = .returned (.int .i64 (code s a b)) ∧
      St W' ws.heap.size g (fun k => ws.heap.size ≤ k) (stp s a b) ∧ Below ws.heap.size W W' := by
  refine (add_calls ws W g _ s a b hB hS hm).mono ?_
  rintro e W' ⟨rfl, h1, h2, h3⟩
  exact ⟨rfl, h1.mono (fun k hk => hk.elim id (Nat.le_trans hB.size)), ⟨h2.os.trans hB.os.symm, h2.tape.trans hB.tape.symm, h2.output.trans hB.output.symm, h3.1, fun k hk => h3.2 k (Nat.lt_of_lt_of_le hk hB.size) (by omega)⟩⟩

set_option maxHeartbeats 4000000 in
theorem lives_calls (W : World) : Calls Try.prog 15 #[] W fun e W' => e = .returned (.bool true) ∧ Below W.heap.size W W' := by
  have hu31 := Try.underlying31
  go_enter Try.func15, Try.ntmps15
  go_wp2_with (fail)
  refine (new_calls W).mono ?_
  rintro e W1 ⟨g, rfl, hS1, hb1⟩
  have S1 := Aside0.mk hS1
  have B1 := Aside0.mk hb1
  clear hS1 hb1
  have hnil := ptr_nil g
  go_wp2_with (fail)
  refine (add_B W W1 g ⟨0, 0, [], []⟩ 0 1 B1.out S1.out ⟨by simp, by simp, by simp, by simp⟩).mono ?_
  rw [show code ⟨0, 0, [], []⟩ 0 1 = 0 from by simp [code], show stp ⟨0, 0, [], []⟩ 0 1 = ⟨1, 1, [], []⟩ from by simp [stp, code, nxt]]
  rintro e W2 ⟨rfl, hS2, hb2⟩
  have S2 := Aside0.mk hS2
  have B2 := Aside0.mk (B1.out.trans hb2)
  clear hS2 hb2
  go_wp2_with (fail)
  refine (add_B W W2 g ⟨1, 1, [], []⟩ 1 1 B2.out S2.out ⟨by simp, by simp, by simp, by simp⟩).mono ?_
  rw [show code ⟨1, 1, [], []⟩ 1 1 = 0 from by simp [code], show stp ⟨1, 1, [], []⟩ 1 1 = ⟨2, 1, [1], []⟩ from by simp [stp, code, nxt]]
  rintro e W3 ⟨rfl, hS3, hb3⟩
  have S3 := Aside0.mk hS3
  have B3 := Aside0.mk (B2.out.trans hb3)
  clear hS3 hb3
  go_wp2_with (fail)
  refine (add_B W W3 g ⟨2, 1, [1], []⟩ 0 2 B3.out S3.out ⟨by simp, by simp, by simp, by simp⟩).mono ?_
  rw [show code ⟨2, 1, [1], []⟩ 0 2 = 0 from by simp [code], show stp ⟨2, 1, [1], []⟩ 0 2 = ⟨3, 2, [1], []⟩ from by simp [stp, code, nxt]]
  rintro e W4 ⟨rfl, hS4, hb4⟩
  have S4 := Aside0.mk hS4
  have B4 := Aside0.mk (B3.out.trans hb4)
  clear hS4 hb4
  go_wp2_with (fail)
  refine (add_B W W4 g ⟨3, 2, [1], []⟩ 2 1 B4.out S4.out ⟨by simp, by simp, by simp, by simp⟩).mono ?_
  rw [show code ⟨3, 2, [1], []⟩ 2 1 = 0 from by simp [code], show stp ⟨3, 2, [1], []⟩ 2 1 = ⟨4, 2, [], [1]⟩ from by simp [stp, code, nxt]]
  rintro e W5 ⟨rfl, hS5, hb5⟩
  have S5 := Aside0.mk hS5
  have B5 := Aside0.mk (B4.out.trans hb5)
  clear hS5 hb5
  go_wp2_with (fail)
  refine (frames_calls S5.out ⟨by simp, by simp, by simp, by simp⟩).mono ?_
  rintro e W6 ⟨v, rfl, hR6, hb6⟩
  obtain ⟨A6, c6, rfl⟩ := Kd.R_slice hR6
  have R6 := Aside0.mk hR6
  have B6 := Aside0.mk (below_step B5.out hb6)
  clear hR6 hb6
  go_wp2_with (fail)
  refine (rondelref11_Same.calls 10 A6 c6 [1] (some ⟨W6.heap.size, 0, none⟩) 1 [1] true _ (Kd.C_alloc (Kd.R_reads' R6.out).2.2 _) (Kd.R_reads' R6.out).2.1 (Kd.R_reads' (R_one W6 0 (fun _ => True) 1 (Nat.zero_le _) trivial)).2.2 (Nat.le_refl 1) (same_f [1] (by simp) 10 (by simp))).mono ?_
  rintro e W7 ⟨rfl, h7⟩
  go_wp2_with (fail)
  go_ret
  obtain ⟨nd, rfl⟩ := h7
  exact ⟨rfl, pw_below_drewN (below_alloc B6.out _) nd⟩

end Go.Proofs.Ytccpclkmackghaa.SWN

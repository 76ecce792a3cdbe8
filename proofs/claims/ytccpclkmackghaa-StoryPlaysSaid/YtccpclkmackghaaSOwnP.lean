/- A story and a row of steps beside it: apart by what their blocks hold. -/
import Derived.Test.YtccpclkmackghaaSWalkP
namespace Go.Proofs.Ytccpclkmackghaa.SWP
open Go.RowKit Go.Proofs.YtccpclkmackghaaW.PrintWords Go.Proofs.YtccpclkmackghaaW.PrintLast Go.Proofs.YtccpclkmackghaaW.PrintMore
open Go.Proofs.Ytccpclkmackghaa.PStoryPlays Go.Proofs.Ytccpclkmackghaa.SPP
attribute [local go_sem] Oper.semAt_some max2_int min2_int max_two min_two
set_option linter.unusedVariables false
set_option linter.unusedSimpArgs false

/-- A story's blocks hold no steps. -/
def okS (W : World) (k : Nat) : Prop := k < W.heap.size ∧ ∃ q cells, W.heap[k]? = some (.cells cells q (0, 0)) ∧ q ≠ 24
/-- A row's blocks hold steps. -/
def okR (W : World) (k : Nat) : Prop := k < W.heap.size ∧ ∃ cells, W.heap[k]? = some (.cells cells 24 (0, 0))
theorem ok_apart {W : World} (k : Nat) (h : okS W k) : ¬ okR W k := fun h2 => by
  obtain ⟨_, q, cs, e, hq⟩ := h
  obtain ⟨_, cs2, e2⟩ := h2
  rw [e] at e2
  injection e2 with e2
  injection e2 with _ e3
  exact hq e3
theorem ok_apart' {W : World} (k : Nat) (h : okR W k) : ¬ okS W k := fun h2 => ok_apart k h2 h

theorem St.typed {W : World} {base g : Nat} {ok : Nat → Prop} {s : PS} (h : St W base g ok s) : St W base g (okS W) s := by
  obtain ⟨A2, c2, A3, c3, hB, hg, hk, h2, h3⟩ := h
  refine ⟨A2, c2, A3, c3, hB, hg, ⟨blk_lt hB, 61, _, hB, by decide⟩, Kd.R_mono (Kd.R_bound h2) (fun k hk => ?_), Kd.R_mono (Kd.R_bound h3) (fun k hk => ?_)⟩
  · obtain ⟨_, _, hl, q, hq, cs, hc⟩ := hk
    refine ⟨hl, q, cs, hc, ?_⟩
    rw [List.mem_singleton.1 hq]; decide
  · obtain ⟨_, _, hl, q, hq, cs, hc⟩ := hk
    refine ⟨hl, q, cs, hc, ?_⟩
    rw [List.mem_singleton.1 hq]; decide
theorem R_typed {W : World} {base : Nat} {ok : Nat → Prop} {v : Value} {r : List S24} (h : k24.R 24 W base ok v r) : k24.R 24 W base (okR W) v r :=
  Kd.R_mono (Kd.R_bound h) (fun k hk => by
    obtain ⟨_, _, hl, q, hq, cs, hc⟩ := hk
    obtain rfl := List.mem_singleton.1 hq
    exact ⟨hl, cs, hc⟩)
theorem St.far {W : World} {base g : Nat} {ok : Nat → Prop} {s : PS} (h : St W base g ok s) {p : Addr} (hne : ∀ k, ok k → k ≠ p.block) (u : Value) : St (W.setCell p u) base g ok s := by
  obtain ⟨A2, c2, A3, c3, hB, hg, hk, h2, h3⟩ := h
  exact ⟨A2, c2, A3, c3, blk_far hB (hne g hk) u, hg, hk, Kd.R_far h2 hne u, Kd.R_far h3 hne u⟩

/-- The document's Add, beside a story. -/
theorem rAdd {W0 W : World} {g : Nat} {pS pR : Nat → Prop} {s t : PS} {v : Value} {r : List S24} (a b : Int) (hB : Below W0.heap.size W0 W) (hS : St W W0.heap.size g pS t) (hR : k24.R 24 W W0.heap.size pR v r) (hd : ∀ k, pS k → ¬ pR k)
    (hV : V r s) (hl : r.length ≤ 100000) :
    Calls Try.prog 13 #[v, .agg #[.int .i64 a, .int .i64 b]] W fun e W' => ∃ v', e = .returned (.tuple #[v', .int .i64 (code s a b)]) ∧ k24.R 24 W' W0.heap.size (fun k => pR k ∨ W.heap.size ≤ k) v' (if code s a b = 0 then r ++ [⟨a, b⟩] else r) ∧
      St W' W0.heap.size g pS t ∧ Below W0.heap.size W0 W' ∧ Kept W W' pR := by
  refine (rondelref21_Add.calls (r.length + 5) pR v r a b _ _ W0 W hB hR (add_f hV hl a b _ (Nat.le_refl _))).mono ?_
  rintro e W' ⟨v', rfl, h1, h2, h3⟩
  exact ⟨v', rfl, h1, hS.kept h3 hd, h2, h3⟩
/-- The story's Add, beside a row of steps. -/
theorem sAdd {W0 W : World} {g : Nat} {pS pR : Nat → Prop} {s : PS} {v : Value} {r : List S24} (a b : Int) (hB : Below W0.heap.size W0 W) (hS : St W W0.heap.size g pS s) (hR : k24.R 24 W W0.heap.size pR v r) (hd : ∀ k, pS k → ¬ pR k) (hm : Sm s) :
    Calls Try.prog 10 #[.pointer (some ⟨g, 0, none⟩), .agg #[.int .i64 a, .int .i64 b]] W fun e W' => e = .returned (.int .i64 (code s a b)) ∧ St W' W0.heap.size g (fun k => pS k ∨ W.heap.size ≤ k) (stp s a b) ∧
      k24.R 24 W' W0.heap.size pR v r ∧ Below W0.heap.size W0 W' ∧ Kept W W' pS := by
  refine (add_calls W0 W g pS s a b hB hS hm).mono ?_
  rintro e W' ⟨rfl, h1, h2, h3⟩
  exact ⟨rfl, h1, Kd.R_kept hR h3 (fun k hk hs => hd k hs hk), h2, h3⟩

end Go.Proofs.Ytccpclkmackghaa.SWP

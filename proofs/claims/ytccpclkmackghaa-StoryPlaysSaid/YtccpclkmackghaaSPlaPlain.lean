/- StoryPlays in plain words: what is told, and what the document tells. -/
import Derived.Test.YtccpclkmackghaaSFirstP
namespace Go.Proofs.Ytccpclkmackghaa.SWP
open Go.RowKit Go.Proofs.YtccpclkmackghaaW.PrintWords Go.Proofs.YtccpclkmackghaaW.PrintLast Go.Proofs.YtccpclkmackghaaW.PrintMore
open Go.Proofs.Ytccpclkmackghaa.PStoryPlays Go.Proofs.Ytccpclkmackghaa.SPP
set_option linter.unusedVariables false

theorem first_l0 (k : Int) (l : List Int) (hl : l.length ≤ 1000000) : ∀ (d i K : Nat), l.length - i = d → i ≤ l.length → d + 1 ≤ K →
    rondelref21_First.l0 K k l (i : Int) = some (idxF k i (l.drop i) + 1, decide (idxF k i (l.drop i) ≥ 0)) := by
  intro d
  induction d with
  | zero =>
    intro i K hd hi hK
    obtain ⟨K, rfl⟩ : ∃ m, K = m + 1 := ⟨K - 1, by omega⟩
    simp only [rondelref21_First.l0]
    rw [if_neg (by omega), List.drop_of_length_le (by omega), idxF]
    rfl
  | succ d ih =>
    intro i K hd hi hK
    obtain ⟨K, rfl⟩ : ∃ m, K = m + 1 := ⟨K - 1, by omega⟩
    have h1 : i < l.length := by omega
    have hr : rd l (i : Int) = l[i] := by
      show l.getD (i : Int).toNat 0 = _
      rw [Int.toNat_natCast, List.getD_eq_getElem?_getD, List.getElem?_eq_getElem h1, Option.getD_some]
    simp only [rondelref21_First.l0]
    rw [if_pos (by omega), if_pos (by omega), hr, show wrap64 ((i : Int) + 1) = ((i + 1 : Nat) : Int) from w64 (by omega), List.drop_eq_getElem_cons h1, idxF]
    by_cases h : k ≤ l[i]
    · rw [if_pos h, if_pos h, decide_eq_true (show (i : Int) ≥ 0 by omega)]
      rfl
    · rw [if_neg h, if_neg h]
      exact ih (i + 1) K (by omega) (by omega) (by omega)
theorem first_f {r : List S24} {s : PS} (h : V r s) (hl : r.length ≤ 100000) (k : Int) : rondelref21_First.f (r.length + 2) r k = some (idxF k 0 s.f + 1, decide (idxF k 0 s.f ≥ 0)) := by
  unfold rondelref21_First.f
  have G := h.good
  rw [frames_f r (by omega) _ (by omega), ← G.f, Option.bind_some]
  have := first_l0 k s.f (by have := G.fl; omega) s.f.length 0 (r.length + 2) (by omega) (by omega) (by have := G.fl; omega)
  rw [List.drop_zero] at this
  exact this
theorem opens_same {r : List S24} {s : PS} (h : V r s) : oP (opnF none r) = oQ s.o := by
  rw [h.good.o]
  cases opnF none r <;> rfl
theorem around_f (a : Int) (h : -9223372036854775808 ≤ a ∧ a ≤ 9223372036854775807) : ∃ r, rondelref01_Around.f a 3 = some r := by
  unfold rondelref01_Around.f
  split
  · rw [if_neg (by decide)]; exact ⟨_, rfl⟩
  · rw [if_neg (by decide)]; exact ⟨_, rfl⟩
end Go.Proofs.Ytccpclkmackghaa.SWP

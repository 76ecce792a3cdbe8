/- The bytes of messages, cut off anywhere, in plain words. -/
import Derived.Test.YtligkikcfmploaaFAll
namespace Go.Proofs.Ytligkikcfmploaa.FP
open Go.RowKit Go.Proofs.YtligkikcfmploaaW.PrintWords Go.Proofs.YtligkikcfmploaaW.PrintLast Go.Proofs.YtligkikcfmploaaW.PrintMore
open Go.Proofs.Ytligkikcfmploaa.PFrameCuts Go.Proofs.Ytligkikcfmploaa.Base Go.Proofs.Ytligkikcfmploaa.Msg
set_option linter.unusedVariables false
set_option linter.unusedSimpArgs false

/-- Where each message ends. -/
def ends (l : List S24) : List Int := (List.range l.length).map fun i => ((ab (l.take (i + 1))).length : Int)
theorem ends_length (l : List S24) : (ends l).length = l.length := by simp [ends]
theorem ends_at (l : List S24) (i : Nat) (h : i < l.length) : (ends l).getD i 0 = ((ab (l.take (i + 1))).length : Int) := by
  unfold ends
  simp [List.getD_eq_getElem?_getD, h]
theorem ends_snoc (l : List S24) (y : S24) : ends (l ++ [y]) = ends l ++ [((ab (l ++ [y])).length : Int)] := by
  unfold ends
  rw [List.length_append, List.length_singleton, List.range_succ, List.map_append]
  congr 1
  · apply List.map_congr_left
    intro i hi
    rw [List.mem_range] at hi
    rw [List.take_append_of_le_length (by omega)]
  · simp [List.take_of_length_le]

theorem getD_take (l : List Int) (n i : Nat) (h : i < n) : (l.take n).getD i 0 = l.getD i 0 := by
  rw [List.getD_eq_getElem?_getD, List.getD_eq_getElem?_getD, List.getElem?_take, if_pos h]
theorem stop_one {y : S24} (h : OkM y) (cut : Nat) (hc : cut < (mb y).length) (t : List Int) : sp ((mb y ++ t).take cut) = ([], 0, if cut = 0 then 0 else 3) := by
  have hl := mb_length y
  have hlen : ((mb y ++ t).take cut).length = cut := by rw [List.length_take, List.length_append]; omega
  by_cases h0 : cut = 0
  · rw [if_pos h0, sp_nil (by rw [hlen]; exact h0)]
  · have hr : rerr ((mb y ++ t).take cut) = 3 := by
      unfold rerr
      rw [hlen]
      by_cases h2 : cut < 2
      · rw [if_pos h2]
      · have e3 : len2 ((mb y ++ t).take cut) = 7 + (y.f2.length : Int) := by
          have e : len2 ((mb y ++ t).take cut) = len2 (mb y ++ t) := by
            unfold len2
            rw [getD_take _ _ _ (by omega), getD_take _ _ _ (by omega)]
          rw [e]
          exact len2_frame _ _ _ _
        have := h.2.2.1
        rw [if_neg h2, e3, if_neg (by omega), if_pos (by omega)]
    rw [if_neg h0, sp_err (by rw [hlen]; exact h0) (by rw [hr]; decide), hr]

theorem stop_law : ∀ (gs : List S24) (cut : Nat), (∀ y ∈ gs, OkM y) → cut ≤ (ab gs).length →
    ∃ n, n ≤ gs.length ∧ (∀ j, j < gs.length → ((ab (gs.take (j + 1))).length ≤ cut ↔ j < n)) ∧ sp ((ab gs).take cut) = (gs.take n, ((ab (gs.take n)).length : Int), if (ab (gs.take n)).length = cut then 0 else 3)
  | [], cut, _, hc => by
    have h0 : cut = 0 := by simpa [ab] using hc
    subst h0
    exact ⟨0, Nat.le_refl _, fun j hj => absurd hj (by simp), by simp [ab, sp_nil]⟩
  | y :: l, cut, h, hc => by
    have hy := h y List.mem_cons_self
    by_cases hm : (mb y).length ≤ cut
    · rw [ab, List.length_append] at hc
      obtain ⟨n, hn, hi, hs⟩ := stop_law l (cut - (mb y).length) (fun z hz => h z (List.mem_cons_of_mem _ hz)) (by omega)
      refine ⟨n + 1, by simp; omega, fun j hj => ?_, ?_⟩
      · cases j with
        | zero => simp [ab]; omega
        | succ j =>
          rw [List.take_succ_cons, ab, List.length_append]
          have := hi j (by simpa using hj)
          omega
      · rw [ab, List.take_append, List.take_of_length_le hm, sp_mb hy, hs]
        rw [List.take_succ_cons, ab, List.length_append, mb_length] 
        rw [mb_length] at hm
        simp only [Prod.mk.injEq, true_and]
        refine ⟨by omega, ?_⟩
        by_cases e : (ab (l.take n)).length = cut - (7 + y.f2.length)
        · rw [if_pos e, if_pos (by omega)]
        · rw [if_neg e, if_neg (by omega)]
    · refine ⟨0, Nat.zero_le _, fun j hj => ⟨fun hle => ?_, fun hlt => absurd hlt (by omega)⟩, ?_⟩
      · rw [List.take_succ_cons, ab, List.length_append] at hle
        omega
      · rw [ab, stop_one hy cut (by omega)]
        simp only [List.take_zero, ab, List.length_nil, Prod.mk.injEq, true_and]
        refine ⟨rfl, ?_⟩
        by_cases e : cut = 0
        · rw [if_pos e, if_pos e.symm]
        · rw [if_neg e, if_neg (fun h => e h.symm)]

end Go.Proofs.Ytligkikcfmploaa.FP

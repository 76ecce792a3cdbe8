/- The reference's width of a text is the plain one. -/
import Derived.Test.YtpmhbfelhjpalaaTRefC
import Derived.Test.YtpmhbfelhjpalaaPTitleCutsx3
namespace Go.Proofs.Ytpmhbfelhjpalaa.TWRC
open Go.RowKit Go.Proofs.YtpmhbfelhjpalaaW.PrintWords Go.Proofs.YtpmhbfelhjpalaaW.PrintLast Go.Proofs.YtpmhbfelhjpalaaW.PrintMore
open Go.Proofs.Ytpmhbfelhjpalaa.PTitleCuts Go.Proofs.Ytpmhbfelhjpalaa.TP Go.Proofs.Ytpmhbfelhjpalaa.TJ Go.Proofs.Ytpmhbfelhjpalaa.TRC
set_option linter.unusedVariables false
set_option linter.unusedSimpArgs false

theorem wide_end (k : Nat) (r : Int) (a b : List Int) : rondelref06_Wide.l0 (k + 1) r a b 5 = some 1 := by
  simp only [rondelref06_Wide.l0]
  rw [if_neg (by omega)]
theorem wide_step (k : Nat) (r : Int) (a b : List Int) (i : Nat) (x y : Int) (hi : i < 5) (ha : a.length = 5) (hb : b.length = 5) (hx : rd a (i : Int) = x) (hy : rd b (i : Int) = y) :
    rondelref06_Wide.l0 (k + 1) r a b (i : Int) = if x ≤ r ∧ r ≤ y then some 2 else rondelref06_Wide.l0 k r a b ((i + 1 : Nat) : Int) := by
  simp only [rondelref06_Wide.l0]
  rw [if_pos (by omega), if_pos (by omega), if_pos (by omega), hx, hy, show wrap64 ((i : Int) + 1) = ((i + 1 : Nat) : Int) from w64 (by omega)]
  by_cases h1 : r ≥ x
  · rw [if_pos h1, if_pos (by omega)]
    by_cases h2 : r ≤ y
    · rw [if_pos h2, if_pos ⟨h1, h2⟩]
    · rw [if_neg h2, if_neg (fun h => h2 h.2)]
  · rw [if_neg h1, if_neg (fun h => h1 h.1)]
theorem wide_l0 (k : Nat) (r : Int) : rondelref06_Wide.l0 (k + 6) r [4352, 11904, 44032, 65280, 127744] [4447, 42191, 55203, 65376, 129791] 0 =
    some (if (4352 ≤ r ∧ r ≤ 4447) ∨ (11904 ≤ r ∧ r ≤ 42191) ∨ (44032 ≤ r ∧ r ≤ 55203) ∨ (65280 ≤ r ∧ r ≤ 65376) ∨ (127744 ≤ r ∧ r ≤ 129791) then 2 else 1) := by
  have e0 := wide_step (k + 5) r [4352, 11904, 44032, 65280, 127744] [4447, 42191, 55203, 65376, 129791] 0 4352 4447 (by omega) rfl rfl rfl rfl
  have e1 := wide_step (k + 4) r [4352, 11904, 44032, 65280, 127744] [4447, 42191, 55203, 65376, 129791] 1 11904 42191 (by omega) rfl rfl rfl rfl
  have e2 := wide_step (k + 3) r [4352, 11904, 44032, 65280, 127744] [4447, 42191, 55203, 65376, 129791] 2 44032 55203 (by omega) rfl rfl rfl rfl
  have e3 := wide_step (k + 2) r [4352, 11904, 44032, 65280, 127744] [4447, 42191, 55203, 65376, 129791] 3 65280 65376 (by omega) rfl rfl rfl rfl
  have e4 := wide_step (k + 1) r [4352, 11904, 44032, 65280, 127744] [4447, 42191, 55203, 65376, 129791] 4 127744 129791 (by omega) rfl rfl rfl rfl
  have e5 := wide_end k r [4352, 11904, 44032, 65280, 127744] [4447, 42191, 55203, 65376, 129791]
  rw [show ((0 : Nat) : Int) = 0 from rfl, show ((0 + 1 : Nat) : Int) = 1 from rfl] at e0
  rw [show ((1 : Nat) : Int) = 1 from rfl, show ((1 + 1 : Nat) : Int) = 2 from rfl] at e1
  rw [show ((2 : Nat) : Int) = 2 from rfl, show ((2 + 1 : Nat) : Int) = 3 from rfl] at e2
  rw [show ((3 : Nat) : Int) = 3 from rfl, show ((3 + 1 : Nat) : Int) = 4 from rfl] at e3
  rw [show ((4 : Nat) : Int) = 4 from rfl, show ((4 + 1 : Nat) : Int) = 5 from rfl] at e4
  rw [show k + 6 = k + 5 + 1 from rfl, e0, show k + 5 = k + 4 + 1 from rfl, e1, show k + 4 = k + 3 + 1 from rfl, e2, show k + 3 = k + 2 + 1 from rfl, e3, show k + 2 = k + 1 + 1 from rfl, e4, e5]
  by_cases h0 : 4352 ≤ r ∧ r ≤ 4447
  · rw [if_pos h0, if_pos (.inl h0)]
  · rw [if_neg h0]
    by_cases h1 : 11904 ≤ r ∧ r ≤ 42191
    · rw [if_pos h1, if_pos (.inr (.inl h1))]
    · rw [if_neg h1]
      by_cases h2 : 44032 ≤ r ∧ r ≤ 55203
      · rw [if_pos h2, if_pos (.inr (.inr (.inl h2)))]
      · rw [if_neg h2]
        by_cases h3 : 65280 ≤ r ∧ r ≤ 65376
        · rw [if_pos h3, if_pos (.inr (.inr (.inr (.inl h3))))]
        · rw [if_neg h3]
          by_cases h4 : 127744 ≤ r ∧ r ≤ 129791
          · rw [if_pos h4, if_pos (.inr (.inr (.inr (.inr h4))))]
          · rw [if_neg h4, if_neg (by omega)]
theorem wide_f (r : Nat) (k : Nat) (hk : 7 ≤ k) : rondelref06_Wide.f k (r : Int) = some ((wd r : Nat) : Int) := by
  obtain ⟨k, rfl⟩ : ∃ m, k = m + 7 := ⟨k - 7, by omega⟩
  have e : ((wd r : Nat) : Int) = if 768 ≤ (r : Int) ∧ (r : Int) ≤ 879 then 0 else if (4352 ≤ (r : Int) ∧ (r : Int) ≤ 4447) ∨ (11904 ≤ (r : Int) ∧ (r : Int) ≤ 42191) ∨ (44032 ≤ (r : Int) ∧ (r : Int) ≤ 55203) ∨ (65280 ≤ (r : Int) ∧ (r : Int) ≤ 65376) ∨ (127744 ≤ (r : Int) ∧ (r : Int) ≤ 129791) then 2 else 1 := by
    unfold wd
    split <;> split <;> first | omega | (split <;> split <;> omega)
  rw [e]
  unfold rondelref06_Wide.f
  simp only [Option.bind_some]
  by_cases h1 : (r : Int) ≥ 768
  · rw [if_pos h1]
    by_cases h2 : (r : Int) ≤ 879
    · simp only [rondelref06_Wide.j0]
      rw [if_pos (by simpa using h2), if_pos ⟨h1, h2⟩]
    · simp only [rondelref06_Wide.j0]
      rw [if_neg (by simpa using h2), wide_l0, if_neg (show ¬ (768 ≤ (r : Int) ∧ (r : Int) ≤ 879) from fun h => h2 h.2)]
  · rw [if_neg h1]
    simp only [rondelref06_Wide.j0]
    rw [if_neg (by simp), wide_l0, if_neg (show ¬ (768 ≤ (r : Int) ∧ (r : Int) ≤ 879) from fun h => h1 h.1)]

theorem rd_map (l : List Sg) (i : Nat) (h : i < l.length) : rd_T36 (l.map rs) (i : Int) = rs l[i] := by
  unfold rd_T36
  simp [List.getElem?_map, List.getElem?_eq_getElem h]

theorem width_l0 (l : List Sg) (hl : l.length ≤ 4398046511104) : ∀ (d i acc k : Nat), l.length - i = d → i ≤ l.length → acc ≤ 2 * i → d + 8 ≤ k → rondelref06_Width.l0 k (l.map rs) (acc : Int) (i : Int) = some ((acc + wds (l.drop i) : Nat) : Int) := by
  intro d
  induction d with
  | zero =>
    intro i acc k hd hi ha hk
    obtain ⟨k, rfl⟩ : ∃ m, k = m + 1 := ⟨k - 1, by omega⟩
    simp only [rondelref06_Width.l0, List.length_map]
    rw [if_neg (by omega), List.drop_of_length_le (by omega)]
    rfl
  | succ d ih =>
    intro i acc k hd hi ha hk
    obtain ⟨k, rfl⟩ : ∃ m, k = m + 1 := ⟨k - 1, by omega⟩
    have h1 : i < l.length := by omega
    have hw := wd_le l[i].r
    simp only [rondelref06_Width.l0, List.length_map]
    rw [if_pos (by omega), if_pos (by omega), rd_map l i h1, show (rs l[i]).f2 = ((l[i].r : Nat) : Int) from rfl, wide_f _ k (by omega)]
    simp only [Option.bind_some]
    rw [show wrap64 ((acc : Int) + ((wd l[i].r : Nat) : Int)) = ((acc + wd l[i].r : Nat) : Int) from w64 (by omega), show wrap64 ((i : Int) + 1) = ((i + 1 : Nat) : Int) from w64 (by omega), ih (i + 1) _ k (by omega) (by omega) (by omega) (by omega), List.drop_eq_getElem_cons h1, wds]
    congr 2
    omega

theorem width_f (s : ByteArray) (hs : s.size < 4398046511104) : ∃ k, rondelref06_Width.f k s = some ((wds (sgs s 0) : Nat) : Int) := by
  obtain ⟨k, hk⟩ := signs_f s hs
  have hl := sgs_length s 0
  refine ⟨k + (sgs s 0).length + 8, ?_⟩
  unfold rondelref06_Width.f
  rw [at_rounds (g := fun k => rondelref06_Signs.f k s) (rondelref06_Signs.mono s) (show k ≤ k + (sgs s 0).length + 8 by omega) hk]
  simp only [Option.bind_some]
  have := width_l0 (sgs s 0) (by omega) (sgs s 0).length 0 0 (k + (sgs s 0).length + 8) (by omega) (by omega) (by omega) (by omega)
  rw [List.drop_zero, Nat.zero_add] at this
  exact this
theorem rwidth_calls (s : ByteArray) (hs : s.size < 4398046511104) (w : World) : Calls Try.prog 19 #[.string s] w fun e w' => e = .returned (.int .i64 (wds (sgs s 0))) ∧ Below w.heap.size w w' := by
  obtain ⟨k, hk⟩ := width_f s hs
  exact rondelref06_Width.calls k s _ w hk

end Go.Proofs.Ytpmhbfelhjpalaa.TWRC

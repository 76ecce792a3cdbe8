/- A reader, in plain words. -/
import Derived.Test.YtligkikcfmploaaFAll
namespace Go.Proofs.Ytligkikcfmploaa.FP
open Go.RowKit Go.Proofs.YtligkikcfmploaaW.PrintWords Go.Proofs.YtligkikcfmploaaW.PrintLast Go.Proofs.YtligkikcfmploaaW.PrintMore
open Go.Proofs.Ytligkikcfmploaa.PFrameCuts Go.Proofs.Ytligkikcfmploaa.Base Go.Proofs.Ytligkikcfmploaa.Msg
set_option linter.unusedVariables false
set_option linter.unusedSimpArgs false

theorem getD_app (l q : List Int) (i : Nat) (h : i < l.length) : (l ++ q).getD i 0 = l.getD i 0 := by
  rw [List.getD_eq_getElem?_getD, List.getD_eq_getElem?_getD, List.getElem?_append_left h]
theorem len2_app (l q : List Int) (h : 2 ≤ l.length) : len2 (l ++ q) = len2 l := by
  unfold len2
  rw [getD_app _ _ _ (by omega), getD_app _ _ _ (by omega)]
theorem rerr_2 {l : List Int} (h : rerr l = 2) : 2 ≤ l.length ∧ (len2 l < 7 ∨ 4103 < len2 l) := by
  unfold rerr at h
  by_cases h2 : l.length < 2
  · rw [if_pos h2] at h; exact absurd h (by decide)
  · rw [if_neg h2] at h
    by_cases h3 : len2 l < 7 ∨ 4103 < len2 l
    · exact ⟨by omega, h3⟩
    · rw [if_neg h3] at h
      by_cases h4 : (l.length : Int) < len2 l
      · rw [if_pos h4] at h; exact absurd h (by decide)
      · rw [if_neg h4] at h; exact absurd h (by decide)
theorem rerr_app2 (l q : List Int) (h : rerr l = 2) : rerr (l ++ q) = 2 := by
  obtain ⟨h1, h2⟩ := rerr_2 h
  unfold rerr
  rw [len2_app l q h1, if_neg (by rw [List.length_append]; omega), if_pos h2]
theorem rerr_app0 (l q : List Int) (h : rerr l = 0) : rerr (l ++ q) = 0 ∧ len2 (l ++ q) = len2 l ∧ msg (l ++ q) = msg l := by
  obtain ⟨h1, h2, h3⟩ := rerr_ok h
  have hl := len2_app l q (by omega)
  refine ⟨?_, hl, ?_⟩
  · unfold rerr
    rw [hl, if_neg (by rw [List.length_append]; omega), if_neg (by omega), if_neg (by rw [List.length_append]; omega)]
  · unfold msg
    rw [hl, getD_app _ _ _ (by omega)]
    have e : id4 (l ++ q) = id4 l := by
      unfold id4
      rw [getD_app _ _ _ (by omega), getD_app _ _ _ (by omega), getD_app _ _ _ (by omega), getD_app _ _ _ (by omega)]
    rw [e, List.take_append_of_le_length (by omega)]

theorem spl_bd : ∀ (d : Nat) (l : List Int), 0 ≤ (spl d l).2.1 ∧ (spl d l).2.1 ≤ l.length ∧ 0 ≤ (spl d l).2.2 ∧ (spl d l).2.2 ≤ 3
  | 0, l => by simp [spl]
  | d + 1, l => by
    simp only [spl]
    by_cases h0 : l.length = 0
    · rw [if_pos h0]; simp
    · rw [if_neg h0]
      by_cases h1 : rerr l = 0
      · have h2 := rerr_ok h1
        have h3 := spl_bd d (l.drop (len2 l).toNat)
        rw [List.length_drop] at h3
        rw [if_pos h1]
        dsimp only
        omega
      · have := rerr_bd l
        rw [if_neg h1]; dsimp only; omega
theorem sp_bd (l : List Int) : 0 ≤ (sp l).2.1 ∧ (sp l).2.1 ≤ l.length ∧ 0 ≤ (sp l).2.2 ∧ (sp l).2.2 ≤ 3 := spl_bd _ _

/-- More bytes behind. -/
theorem sp_app_aux : ∀ (d : Nat) (l q : List Int), l.length ≤ d → ((sp l).2.2 = 2 → sp (l ++ q) = sp l) ∧
    ((sp l).2.2 ≠ 2 → sp (l ++ q) = ((sp l).1 ++ (sp (l.drop (sp l).2.1.toNat ++ q)).1, (sp l).2.1 + (sp (l.drop (sp l).2.1.toNat ++ q)).2.1, (sp (l.drop (sp l).2.1.toNat ++ q)).2.2)) := by
  intro d
  induction d with
  | zero =>
    intro l q hl
    obtain rfl : l = [] := List.eq_nil_of_length_eq_zero (by omega)
    rw [sp_nil rfl]
    refine ⟨fun h => absurd h (by decide), fun _ => ?_⟩
    simp
  | succ d ih =>
    intro l q hl
    by_cases h0 : l.length = 0
    · obtain rfl : l = [] := List.eq_nil_of_length_eq_zero h0
      rw [sp_nil rfl]
      refine ⟨fun h => absurd h (by decide), fun _ => ?_⟩
      simp
    · by_cases h1 : rerr l = 0
      · have h2 := rerr_ok h1
        obtain ⟨a0, a1, a2⟩ := rerr_app0 l q h1
        have hd : (l ++ q).drop (len2 l).toNat = l.drop (len2 l).toNat ++ q := List.drop_append_of_le_length (by omega)
        rw [sp_ok h1, sp_ok a0, a1, a2, hd]
        obtain ⟨i1, i2⟩ := ih (l.drop (len2 l).toNat) q (by rw [List.length_drop]; omega)
        have hb := sp_bd (l.drop (len2 l).toNat)
        refine ⟨fun h => ?_, fun h => ?_⟩
        · rw [i1 h]
        · rw [i2 h]
          dsimp only
          have e : (len2 l + (sp (l.drop (len2 l).toNat)).2.1).toNat = (len2 l).toNat + (sp (l.drop (len2 l).toNat)).2.1.toNat := by omega
          rw [e, ← List.drop_drop]
          simp only [List.cons_append, Prod.mk.injEq, true_and, and_true]
          omega
      · rw [sp_err h0 h1]
        dsimp only
        refine ⟨fun h => ?_, fun h => ?_⟩
        · rw [sp_err (by rw [List.length_append]; omega) (by rw [rerr_app2 l q h]; decide), rerr_app2 l q h, h]
        · simp
theorem sp_app2 {l : List Int} (q : List Int) (h : (sp l).2.2 = 2) : sp (l ++ q) = sp l := (sp_app_aux l.length l q (Nat.le_refl _)).1 h
theorem sp_app {l : List Int} (q : List Int) (h : (sp l).2.2 ≠ 2) : sp (l ++ q) = ((sp l).1 ++ (sp (l.drop (sp l).2.1.toNat ++ q)).1, (sp l).2.1 + (sp (l.drop (sp l).2.1.toNat ++ q)).2.1, (sp (l.drop (sp l).2.1.toNat ++ q)).2.2) := (sp_app_aux l.length l q (Nat.le_refl _)).2 h
theorem sp_rest {l : List Int} (h : (sp l).2.2 ≠ 2) : (sp (l.drop (sp l).2.1.toNat)).1 = [] := by
  have h1 := sp_app [] h
  rw [List.append_nil, List.append_nil] at h1
  have h2 := congrArg Prod.fst h1
  dsimp only at h2
  have h3 := congrArg List.length h2
  rw [List.length_append] at h3
  exact List.eq_nil_of_length_eq_zero (by omega)

/-- What a reader keeps of the bytes told it. -/
def rb (l : List Int) : List Int := if (sp l).2.2 = 2 then [] else l.drop (sp l).2.1.toNat
theorem rb_len (l : List Int) : (rb l).length ≤ l.length := by
  unfold rb
  split
  · simp
  · rw [List.length_drop]; omega
theorem rb_bd {l : List Int} (h : Bd l) : Bd (rb l) := by
  unfold rb
  split
  · exact fun b hb => by simp at hb
  · exact h.drop _
/-- One more piece, where the reader is whole. -/
theorem rb_step {l : List Int} (q : List Int) (h : (sp l).2.2 ≠ 2) : (sp (l ++ q)).1 = (sp l).1 ++ (sp (rb l ++ q)).1 ∧ (sp (l ++ q)).2.2 = (sp (rb l ++ q)).2.2 ∧ rb (l ++ q) = rb (rb l ++ q) := by
  have hb := sp_bd l
  have hr : rb l = l.drop (sp l).2.1.toNat := by unfold rb; rw [if_neg h]
  have hs := sp_app q h
  rw [hr]
  refine ⟨by rw [hs], by rw [hs], ?_⟩
  unfold rb
  rw [hs]
  dsimp only
  have hb2 := sp_bd (l.drop (sp l).2.1.toNat ++ q)
  by_cases h2 : (sp (l.drop (sp l).2.1.toNat ++ q)).2.2 = 2
  · rw [if_pos h2, if_pos h2]
  · rw [if_neg h2, if_neg h2]
    have e : l ++ q = l.take (sp l).2.1.toNat ++ (l.drop (sp l).2.1.toNat ++ q) := by rw [← List.append_assoc, List.take_append_drop]
    have el : (l.take (sp l).2.1.toNat).length = (sp l).2.1.toNat := by rw [List.length_take]; omega
    rw [e, show ((sp l).2.1 + (sp (l.drop (sp l).2.1.toNat ++ q)).2.1).toNat = (l.take (sp l).2.1.toNat).length + (sp (l.drop (sp l).2.1.toNat ++ q)).2.1.toNat from by rw [el]; omega, ← List.drop_drop, List.drop_left]

end Go.Proofs.Ytligkikcfmploaa.FP

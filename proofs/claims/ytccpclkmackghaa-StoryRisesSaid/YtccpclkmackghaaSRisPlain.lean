/- StoryRises in plain words: what frames show never falls. -/
import Derived.Test.YtccpclkmackghaaSPlainR
namespace Go.Proofs.Ytccpclkmackghaa.SPR
open Go.RowKit Go.Proofs.YtccpclkmackghaaW.PrintWords Go.Proofs.YtccpclkmackghaaW.PrintLast Go.Proofs.YtccpclkmackghaaW.PrintMore
open Go.Proofs.Ytccpclkmackghaa.PStoryRises
set_option linter.unusedVariables false

/-- The first j + 1 numbers do not fall. -/
def upTo (l : List Int) : Nat → Bool
  | 0 => true
  | j + 1 => upTo l j && decide (l.getD j 0 ≤ l.getD (j + 1) 0)
theorem upTo_mono (l : List Int) : ∀ (n m : Nat), m ≤ n → upTo l n = true → upTo l m = true
  | 0, m, h, e => by
    obtain rfl : m = 0 := by omega
    exact e
  | n + 1, m, h, e => by
    by_cases h1 : m = n + 1
    · subst h1; exact e
    · rw [upTo, Bool.and_eq_true] at e
      exact upTo_mono l n m (by omega) e.1
theorem upTo_app (l : List Int) (v : Int) : ∀ m, m < l.length ∨ m = 0 → upTo (l ++ [v]) m = upTo l m
  | 0, _ => rfl
  | m + 1, h => by
    have h : m + 1 < l.length := by omega
    rw [upTo, upTo, upTo_app l v m (.inl (by omega))]
    simp only [List.getD_eq_getElem?_getD]
    rw [List.getElem?_append_left (by omega), List.getElem?_append_left h]
theorem upTo_snoc (l : List Int) (v : Int) (h : upTo l (l.length - 1) = true) (hv : ∀ x ∈ l, x ≤ v) : upTo (l ++ [v]) l.length = true := by
  rcases Nat.eq_zero_or_pos l.length with h0 | h0
  · rw [h0]; rfl
  · obtain ⟨n, hn⟩ : ∃ n, l.length = n + 1 := ⟨l.length - 1, by omega⟩
    rw [hn] at h ⊢
    rw [Nat.add_sub_cancel] at h
    rw [upTo, upTo_app l v n (.inl (by omega)), h, Bool.true_and]
    refine decide_eq_true ?_
    simp only [List.getD_eq_getElem?_getD]
    rw [List.getElem?_append_left (by omega), List.getElem?_append_right (by omega), hn, Nat.sub_self, List.getElem?_eq_getElem (show n < l.length by omega)]
    exact hv _ (List.getElem_mem _)

theorem rd_int (l : List Int) (i : Nat) : rd l (i : Int) = l.getD i 0 := rfl

theorem less_f (a b : Int) : cmp_Less_int.f a b = some (decide (a < b)) := by
  unfold cmp_Less_int.f cmp_isNaN_int.f
  have e : (a != a) = false := by simp
  rw [Option.bind_some, e, if_neg (by decide)]

theorem isSorted_l0 (l : List Int) (hl : l.length ≤ 1000000) : ∀ (i k : Nat), (i < l.length ∨ i = 0) → i + 1 ≤ k → slices_IsSorted_int_int.l0 k l (i : Int) = some (upTo l i) := by
  intro i
  induction i with
  | zero =>
    intro k hi hk
    obtain ⟨k, rfl⟩ : ∃ m, k = m + 1 := ⟨k - 1, by omega⟩
    simp only [slices_IsSorted_int_int.l0]
    rw [if_neg (by omega)]
    rfl
  | succ i ih =>
    intro k hi hk
    have hi : i + 1 < l.length := by omega
    obtain ⟨k, rfl⟩ : ∃ m, k = m + 1 := ⟨k - 1, by omega⟩
    simp only [slices_IsSorted_int_int.l0]
    rw [if_pos (by omega), if_pos (by omega), if_pos (by omega), show wrap64 (((i + 1 : Nat) : Int) - 1) = ((i : Nat) : Int) from by rw [w64 (by omega)]; omega, if_pos (by omega), if_pos (by omega), less_f, Option.bind_some, rd_int, rd_int, upTo]
    by_cases h : l.getD (i + 1) 0 < l.getD i 0
    · rw [decide_eq_true h, if_pos rfl, decide_eq_false (by omega), Bool.and_false]
    · rw [decide_eq_false h, if_neg (by decide), decide_eq_true (show l.getD i 0 ≤ l.getD (i + 1) 0 by omega), Bool.and_true]
      exact ih k (.inl (by omega)) (by omega)
theorem rises_f (l : List Int) (hl : l.length ≤ 1000000) (k : Nat) (hk : l.length + 2 ≤ k) : story_Rises.f k l = some (upTo l (l.length - 1)) := by
  unfold story_Rises.f slices_IsSorted_int_int.f
  rw [w64 (by omega)]
  rcases Nat.eq_zero_or_pos l.length with h0 | h0
  · obtain ⟨k, rfl⟩ : ∃ m, k = m + 1 := ⟨k - 1, by omega⟩
    simp only [slices_IsSorted_int_int.l0]
    rw [if_neg (by omega), h0]
    rfl
  · rw [show ((l.length : Int) - 1) = ((l.length - 1 : Nat) : Int) from by omega, isSorted_l0 l hl _ k (.inl (by omega)) (by omega)]
    rfl

theorem sorted_l0 (l : List Int) (hl : l.length ≤ 1000000) : ∀ (d i k : Nat), l.length - i = d → 1 ≤ i → upTo l (i - 1) = true → i ≤ l.length → d + 1 ≤ k → rondellaw21_sorted.l0 k l (i : Int) = some (upTo l (l.length - 1)) := by
  intro d
  induction d with
  | zero =>
    intro i k hd h1 hu hi hk
    obtain ⟨k, rfl⟩ : ∃ m, k = m + 1 := ⟨k - 1, by omega⟩
    simp only [rondellaw21_sorted.l0]
    rw [if_neg (by omega), ← hu, show i - 1 = l.length - 1 from by omega]
  | succ d ih =>
    intro i k hd h1 hu hi hk
    obtain ⟨k, rfl⟩ : ∃ m, k = m + 1 := ⟨k - 1, by omega⟩
    obtain ⟨i, rfl⟩ : ∃ m, i = m + 1 := ⟨i - 1, by omega⟩
    rw [Nat.add_sub_cancel] at hu
    simp only [rondellaw21_sorted.l0]
    rw [if_pos (by omega), if_pos (by omega), show wrap64 (((i + 1 : Nat) : Int) - 1) = ((i : Nat) : Int) from by rw [w64 (by omega)]; omega, if_pos (by omega), if_pos (by omega), rd_int, rd_int, show wrap64 (((i + 1 : Nat) : Int) + 1) = ((i + 1 + 1 : Nat) : Int) from by rw [w64 (by omega)]; omega]
    by_cases h : l.getD (i + 1) 0 < l.getD i 0
    · rw [if_pos h]
      cases e : upTo l (l.length - 1)
      · rfl
      · have := upTo_mono l _ (i + 1) (by omega) e
        rw [upTo, decide_eq_false (by omega), Bool.and_false] at this
        cases this
    · rw [if_neg h]
      exact ih (i + 1 + 1) k (by omega) (by omega) (by rw [Nat.add_sub_cancel, upTo, hu, Bool.true_and]; exact decide_eq_true (by omega)) (by omega) (by omega)
theorem sorted_f (l : List Int) (hl : l.length ≤ 1000000) (k : Nat) (hk : l.length + 2 ≤ k) : rondellaw21_sorted.f k l = some (upTo l (l.length - 1)) := by
  unfold rondellaw21_sorted.f
  rcases Nat.eq_zero_or_pos l.length with h0 | h0
  · obtain ⟨k, rfl⟩ : ∃ m, k = m + 1 := ⟨k - 1, by omega⟩
    simp only [rondellaw21_sorted.l0]
    rw [if_neg (by omega), h0]
    rfl
  · exact sorted_l0 l hl (l.length - 1) 1 k rfl (Nat.le_refl 1) rfl h0 (by omega)

theorem numbers_l0 (l : List S24) (hl : l.length ≤ 1000000) : ∀ (d i : Nat) (out : List Int) (k : Nat), l.length - i = d → i ≤ l.length → out.length = i → d + 1 ≤ k → rondellaw21_numbers.l0 k l out (i : Int) = some (out ++ (l.drop i).map (·.f1)) := by
  intro d
  induction d with
  | zero =>
    intro i out k hd hi ho hk
    obtain ⟨k, rfl⟩ : ∃ m, k = m + 1 := ⟨k - 1, by omega⟩
    simp only [rondellaw21_numbers.l0]
    rw [if_neg (by omega), List.drop_of_length_le (by omega)]
    simp
  | succ d ih =>
    intro i out k hd hi ho hk
    obtain ⟨k, rfl⟩ : ∃ m, k = m + 1 := ⟨k - 1, by omega⟩
    have h1 : i < l.length := by omega
    simp only [rondellaw21_numbers.l0]
    rw [if_pos (by omega), if_pos (by omega), if_pos (by omega), rd_at l i h1, show wrap64 ((i : Int) + 1) = ((i + 1 : Nat) : Int) from w64 (by omega), ih (i + 1) _ k (by omega) (by omega) (by simp [ho]) (by omega), List.drop_eq_getElem_cons h1, List.append_assoc]
    rfl
theorem numbers_f (l : List S24) (hl : l.length ≤ 1000000) (k : Nat) (hk : l.length + 1 ≤ k) : rondellaw21_numbers.f k l = some (l.map (·.f1)) := by
  have := numbers_l0 l hl l.length 0 [] k (by omega) (by omega) rfl hk
  rw [List.drop_zero, List.nil_append] at this
  exact this

structure Ris (l : List S24) (s : PS) : Prop where
  u : upTo s.f (s.f.length - 1) = true
  b : ∀ x ∈ s.f, x ≤ lastK 1 0 l
  c : lastK 1 0 l ≤ s.c
theorem V.ris {l : List S24} {s : PS} (h : V l s) : Ris l s := by
  induction h with
  | nil => exact ⟨rfl, fun x hx => by simp at hx, Int.le_refl _⟩
  | @snoc l s x h hc ih =>
    have G := h.good
    rcases code_zero hc with ⟨ha, hb⟩ | ⟨ha, hb, ho⟩ | ⟨ha, hb, ho⟩
    · have en : nxt s x.f0 x.f1 = ⟨s.n + 1, x.f1, s.o, s.f⟩ := by unfold nxt; rw [if_pos ha]
      rw [en]
      refine ⟨ih.u, ?_, ?_⟩ <;> rw [lastK_snoc, if_neg (by omega)]
      · exact ih.b
      · have := ih.c; dsimp only; omega
    · have en : nxt s x.f0 x.f1 = ⟨s.n + 1, s.c, [x.f1], s.f⟩ := by unfold nxt; rw [if_neg (by omega), if_pos ha]
      rw [en]
      refine ⟨ih.u, ?_, ?_⟩ <;> rw [lastK_snoc, if_pos ha]
      · intro y hy; have := ih.b y hy; have := ih.c; omega
      · dsimp only; omega
    · have en : nxt s x.f0 x.f1 = ⟨s.n + 1, s.c, [], s.f ++ s.o⟩ := by unfold nxt; rw [if_neg (by omega), if_neg (by omega)]
      obtain ⟨v, hv⟩ : ∃ v, opnF none l = some v := by
        cases e : opnF none l with
        | none => rw [G.o, e] at ho; exact absurd rfl ho
        | some v => exact ⟨v, rfl⟩
      have eo : s.o = [lastK 1 0 l] := by rw [G.o, hv, ← G.ov v hv]; rfl
      rw [en, eo]
      refine ⟨?_, ?_, ?_⟩
      · dsimp only
        rw [List.length_append, List.length_singleton, Nat.add_sub_cancel]
        exact upTo_snoc s.f _ ih.u ih.b
      · rw [lastK_snoc, if_neg (by omega)]
        intro y hy
        rcases List.mem_append.1 hy with h1 | h1
        · exact ih.b y h1
        · rw [List.mem_singleton.1 h1]; exact Int.le_refl _
      · rw [lastK_snoc, if_neg (by omega)]
        exact ih.c
/-- Behind a frame that was shown: the last of them is what was latched. -/
theorem V.shown {l : List S24} {s : PS} (h : V l s) {a b : Int} (hc : code s a b = 0) (ha : a = 2) : (nxt s a b).f = s.f ++ [lastK 1 0 l] ∧ b = ((nxt s a b).f.length : Int) := by
  have G := h.good
  rcases code_zero hc with ⟨h1, _⟩ | ⟨h1, _⟩ | ⟨_, hb, ho⟩
  · omega
  · omega
  · obtain ⟨v, hv⟩ : ∃ v, opnF none l = some v := by
      cases e : opnF none l with
      | none => rw [G.o, e] at ho; exact absurd rfl ho
      | some v => exact ⟨v, rfl⟩
    have eo : s.o = [lastK 1 0 l] := by rw [G.o, hv, ← G.ov v hv]; rfl
    have en : nxt s a b = ⟨s.n + 1, s.c, [], s.f ++ s.o⟩ := by unfold nxt; rw [if_neg (by omega), if_neg (by omega)]
    rw [en, eo]
    exact ⟨rfl, by rw [hb]; simp⟩
end Go.Proofs.Ytccpclkmackghaa.SPR

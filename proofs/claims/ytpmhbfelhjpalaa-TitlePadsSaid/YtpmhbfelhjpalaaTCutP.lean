/- The beginning of a text, and blanks behind it, in plain words. -/
import Derived.Test.YtpmhbfelhjpalaaTJoin
import Derived.Test.YtpmhbfelhjpalaaTWalks
namespace Go.Proofs.Ytpmhbfelhjpalaa.TC
open Go.Proofs.Ytpmhbfelhjpalaa.TP Go.Proofs.Ytpmhbfelhjpalaa.TJ Go.Proofs.Ytpmhbfelhjpalaa.TW
set_option linter.unusedVariables false
set_option linter.unusedSimpArgs false

/-- Bytes that are no tails do not count. -/
theorem decP_irrel {c b1 b2 b3 b1' b2' b3' : Nat} {q1 q2 q3 : Bool} (h1 : q1 = true → b1' = b1) (h2 : q2 = true → b2' = b2) (h3 : q3 = true → b3' = b3) : decP c b1' b2' b3' q1 q2 q3 = decP c b1 b2 b3 q1 q2 q3 := by
  cases q1
  · simp [decP]
  · obtain rfl := h1 rfl
    cases q2
    · simp [decP]
    · obtain rfl := h2 rfl
      cases q3
      · simp [decP]
      · obtain rfl := h3 rfl
        rfl
/-- What is broken stays so where tails are taken away. -/
theorem decP_broken {c b1 b2 b3 : Nat} {q1 q2 q3 q1' q2' q3' : Bool} (h : decP c b1 b2 b3 q1 q2 q3 = (65533, 1)) (h1 : q1' = true → q1 = true) (h2 : q2' = true → q2 = true) (h3 : q3' = true → q3 = true) : decP c b1 b2 b3 q1' q2' q3' = (65533, 1) := by
  unfold decP at h ⊢
  by_cases c1 : c < 128
  · rw [if_pos c1] at h
    simp only [Prod.mk.injEq] at h
    omega
  rw [if_neg c1] at h ⊢
  by_cases c2 : c / 32 = 6
  · have d3 : (c / 16 == 14) = false := by rw [beq_eq_false_iff_ne]; omega
    have d4 : (c / 8 == 30) = false := by rw [beq_eq_false_iff_ne]; omega
    simp only [c2, d3, d4, beq_self_eq_true, Bool.true_and, Bool.false_and, Bool.false_eq_true, if_false] at h ⊢
    cases q1'
    · rfl
    · rw [h1 rfl] at h
      exact h
  have d2 : (c / 32 == 6) = false := by rw [beq_eq_false_iff_ne]; exact c2
  by_cases c3 : c / 16 = 14
  · have d4 : (c / 8 == 30) = false := by rw [beq_eq_false_iff_ne]; omega
    simp only [d2, c3, d4, beq_self_eq_true, Bool.true_and, Bool.false_and, Bool.false_eq_true, if_false] at h ⊢
    cases q1'
    · rfl
    · cases q2'
      · rfl
      · rw [h1 rfl, h2 rfl] at h
        exact h
  have d3 : (c / 16 == 14) = false := by rw [beq_eq_false_iff_ne]; exact c3
  by_cases c4 : c / 8 = 30
  · simp only [d2, d3, c4, beq_self_eq_true, Bool.true_and, Bool.false_and, Bool.false_eq_true, if_false] at h ⊢
    cases q1'
    · rfl
    · cases q2'
      · rfl
      · cases q3'
        · rfl
        · rw [h1 rfl, h2 rfl, h3 rfl] at h
          exact h
  · have d4 : (c / 8 == 30) = false := by rw [beq_eq_false_iff_ne]; exact c4
    simp [d2, d3, d4]

theorem more_left (a b : ByteArray) (j : Nat) (h : more a j = true) : more (a ++ b) j = true ∧ by_ (a ++ b) j = by_ a j := by
  unfold more at h ⊢
  simp only [Bool.and_eq_true, decide_eq_true_eq] at h ⊢
  have e := by_left a b j h.1
  exact ⟨⟨by rw [ByteArray.size_append]; omega, by rw [e]; exact h.2⟩, e⟩
theorem more_in (a b : ByteArray) (j : Nat) (h : j < a.size) : more (a ++ b) j = more a j := by
  unfold more
  rw [by_left a b j h, ByteArray.size_append]
  simp [h, show j < a.size + b.size by omega]
theorem more_out (a : ByteArray) (j : Nat) (h : ¬ j < a.size) : more a j = false := by
  unfold more
  simp [h]

/-- A sign that ends within a: what lies behind does not count. -/
theorem dec_in (a b : ByteArray) (i : Nat) (h : i < a.size) (hf : i + (Utf8.decode (a ++ b) i).2 ≤ a.size) : Utf8.decode a i = Utf8.decode (a ++ b) i := by
  obtain ⟨⟨r, n⟩, hd⟩ : ∃ p, Utf8.decode (a ++ b) i = p := ⟨_, rfl⟩
  rw [hd] at hf ⊢
  dsimp only at hf
  rw [dec_by] at hd
  rw [dec_by]
  rw [by_left a b i h] at hd
  by_cases hb : r = 65533 ∧ n = 1
  · obtain ⟨rfl, rfl⟩ := hb
    have h1 := decP_broken hd (q1' := more a (i + 1)) (q2' := more a (i + 2)) (q3' := more a (i + 3)) (fun h => (more_left a b _ h).1) (fun h => (more_left a b _ h).1) (fun h => (more_left a b _ h).1)
    rw [← h1]
    exact decP_irrel (fun h => ((more_left a b _ h).2).symm) (fun h => ((more_left a b _ h).2).symm) (fun h => ((more_left a b _ h).2).symm)
  · exact decP_local hd hb (fun hn => ⟨(by_left a b _ (by omega)).symm, (more_in a b _ (by omega)).symm⟩) (fun hn => ⟨(by_left a b _ (by omega)).symm, (more_in a b _ (by omega)).symm⟩) (fun hn => ⟨(by_left a b _ (by omega)).symm, (more_in a b _ (by omega)).symm⟩)

/-- Bytes below 128. -/
def Asc (b : ByteArray) : Prop := ∀ j, j < b.size → by_ b j < 128
theorem more_asc (a b : ByteArray) (hb : Asc b) (j : Nat) : more (a ++ b) j = more a j := by
  by_cases h : j < a.size
  · exact more_in a b j h
  · rw [more_out a j h]
    obtain ⟨m, rfl⟩ : ∃ m, j = a.size + m := ⟨j - a.size, by omega⟩
    rw [more_right]
    unfold more
    by_cases hm : m < b.size
    · have := hb m hm
      have : by_ b m / 64 ≠ 2 := by omega
      simp [this]
    · simp [hm]
/-- Blanks behind it do not turn a text's signs. -/
theorem dec_asc (a b : ByteArray) (hb : Asc b) (i : Nat) (h : i < a.size) : Utf8.decode (a ++ b) i = Utf8.decode a i := by
  rw [dec_by, dec_by, more_asc a b hb, more_asc a b hb, more_asc a b hb, by_left a b i h]
  exact decP_irrel (fun h => (more_left a b _ h).2) (fun h => (more_left a b _ h).2) (fun h => (more_left a b _ h).2)
theorem sgs_asc (a b : ByteArray) (hb : Asc b) : ∀ i, i ≤ a.size → sgs (a ++ b) i = sgs a i ++ sgs (a ++ b) a.size := by
  refine along a (fun i => i ≤ a.size → sgs (a ++ b) i = sgs a i ++ sgs (a ++ b) a.size) ?_ ?_
  · intro i h hi
    obtain rfl : i = a.size := by omega
    rw [sgs_end a _ h]
    rfl
  · intro i h ih hi
    rw [sgs_step (a ++ b) i (by rw [ByteArray.size_append]; omega), sgs_step a i h, dec_asc a b hb i h, ih (dec_fits a i h), List.cons_append]

/-- Blanks. -/
def sp_ (m : Nat) : ByteArray := ⟨(List.replicate m 32).toArray⟩
theorem sp_size (m : Nat) : (sp_ m).size = m := by simp [sp_, ByteArray.size]
theorem sp_by (m j : Nat) (h : j < m) : by_ (sp_ m) j = 32 := by
  rw [by_list]
  simp [sp_, List.getElem?_replicate, h]
theorem sp_asc (m : Nat) : Asc (sp_ m) := fun j hj => by
  rw [sp_size] at hj
  rw [sp_by m j hj]
  omega
theorem wds_sp (a : ByteArray) (m : Nat) : ∀ d j, m - j = d → j ≤ m → wds (sgs (a ++ sp_ m) (a.size + j)) = d := by
  intro d
  induction d with
  | zero =>
    intro j hd hj
    rw [sgs_end _ _ (by rw [ByteArray.size_append, sp_size]; omega)]
    rfl
  | succ d ih =>
    intro j hd hj
    have hdec : Utf8.decode (a ++ sp_ m) (a.size + j) = (32, 1) := by
      rw [dec_right, dec_by, sp_by m j (by omega)]
      rfl
    rw [sgs_step _ _ (by rw [ByteArray.size_append, sp_size]; omega), hdec]
    have := ih (j + 1) (by omega) (by omega)
    dsimp only
    rw [show a.size + j + 1 = a.size + (j + 1) from rfl, wds, this]
    show wd 32 + d = d + 1
    rw [show wd 32 = 1 from rfl]
    omega
/-- The width of a text with blanks behind it. -/
theorem wds_pad (a : ByteArray) (m : Nat) : wds (sgs (a ++ sp_ m) 0) = wds (sgs a 0) + m := by
  rw [sgs_asc a (sp_ m) (sp_asc m) 0 (Nat.zero_le _), wds_append]
  have := wds_sp a m m 0 (by omega) (by omega)
  rw [Nat.add_zero] at this
  rw [this]

theorem split_at (s : ByteArray) (e : Nat) (he : e ≤ s.size) : s.extract 0 e ++ s.extract e s.size = s ∧ (s.extract 0 e).size = e := by
  refine ⟨?_, by simp [ByteArray.size_extract]; omega⟩
  apply ba_ext
  rw [list_append, extract_list, extract_list]
  have hl : s.data.toList.length = s.size := by simp
  rw [List.drop_zero, Nat.sub_zero, List.take_of_length_le (l := s.data.toList.drop e) (by rw [List.length_drop]; omega), List.take_append_drop]

/-- What is cut is no wider. -/
theorem cut_wide (s : ByteArray) : ∀ (i : Nat) (n : Int) (e : Nat), i ≤ s.size → 0 ≤ n → cutAt s i n = e → (wds (sgs (s.extract 0 e) i) : Int) ≤ n := by
  refine along s (fun i => ∀ (n : Int) (e : Nat), i ≤ s.size → 0 ≤ n → cutAt s i n = e → (wds (sgs (s.extract 0 e) i) : Int) ≤ n) ?_ ?_
  · intro i h n e hi hn he
    rw [cutAt_end s i n h] at he
    subst he
    rw [(show s.extract 0 s.size = s from by simp), sgs_end s i h]
    simpa [wds] using hn
  · intro i h ih n e hi hn he
    by_cases hw : n < wd (Utf8.decode s i).1
    · rw [cutAt_stop s i n h hw] at he
      subst he
      rw [sgs_end _ _ (by rw [(split_at s i hi).2]; omega)]
      simpa [wds] using hn
    · rw [cutAt_step s i n h hw] at he
      have hf := dec_fits s i h
      have hle := cutAt_le s (n - wd (Utf8.decode s i).1) (i + (Utf8.decode s i).2) hf
      rw [he] at hle
      have hd := dec_pos s i h
      obtain ⟨hs, hz⟩ := split_at s e hle.2
      have hdec : Utf8.decode (s.extract 0 e) i = Utf8.decode s i := by
        have := dec_in (s.extract 0 e) (s.extract e s.size) i (by rw [hz]; omega) (by rw [hs, hz]; omega)
        rw [this, hs]
      rw [sgs_step _ _ (by rw [hz]; omega), hdec]
      have := ih (n - wd (Utf8.decode s i).1) e hf (by omega) he
      rw [wds]
      dsimp only
      omega

/-- A text padded. -/
def padN (s : ByteArray) (n : Int) : Nat := (n - wds (sgs (cut s n) 0)).toNat
def pad (s : ByteArray) (n : Int) : ByteArray := cut s n ++ sp_ (padN s n)
theorem cut_le (s : ByteArray) (n : Int) (hn : 0 ≤ n) : (wds (sgs (cut s n) 0) : Int) ≤ n := by
  unfold cut
  rw [if_neg (by omega)]
  exact cut_wide s 0 n _ (Nat.zero_le _) hn rfl
theorem pad_wide (s : ByteArray) (n : Int) (hn : 0 ≤ n) : (wds (sgs (pad s n) 0) : Int) = n := by
  unfold pad
  rw [wds_pad]
  have := cut_le s n hn
  unfold padN
  omega
theorem cut_pre (s : ByteArray) (n : Int) : (cut s n).size ≤ s.size ∧ s.extract 0 (cut s n).size = cut s n := by
  unfold cut
  split
  · refine ⟨Nat.zero_le _, ?_⟩
    apply ba_ext
    rw [extract_list]
    simp [ByteArray.size]
  · have h := cutAt_le s n 0 (Nat.zero_le _)
    obtain ⟨_, hz⟩ := split_at s (cutAt s 0 n) h.2
    rw [hz]
    exact ⟨h.2, rfl⟩
theorem pad_size (s : ByteArray) (n : Int) : (pad s n).size = (cut s n).size + padN s n := by
  unfold pad
  rw [ByteArray.size_append, sp_size]
theorem pad_pre (s : ByteArray) (n : Int) : (pad s n).extract 0 (cut s n).size = cut s n := by
  unfold pad
  apply ba_ext
  rw [extract_list, list_append]
  have hl : (cut s n).data.toList.length = (cut s n).size := by simp
  rw [List.drop_zero, Nat.sub_zero, ← hl, List.take_left]
theorem pad_neg (s : ByteArray) : pad s (-1) = ⟨#[]⟩ := by
  have h : cut s (-1) = ⟨#[]⟩ := if_pos (by decide)
  unfold pad padN
  rw [h, sgs_end _ _ (by simp [ByteArray.size])]
  rfl

end Go.Proofs.Ytpmhbfelhjpalaa.TC

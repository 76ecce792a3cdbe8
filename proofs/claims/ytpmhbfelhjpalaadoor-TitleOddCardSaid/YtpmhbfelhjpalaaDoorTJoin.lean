/- Texts of whole signs, in plain Lean: their signs, one behind the other, in whatever text they stand. -/
import Derived.Test.YtpmhbfelhjpalaaDoorTPlain
namespace Go.Proofs.YtpmhbfelhjpalaaDoor.TJ
open Go Go.Proofs.YtpmhbfelhjpalaaDoor.TP

theorem by_list (s : ByteArray) (i : Nat) : by_ s i = ((s.data.toList[i]?).getD 0).toNat := by
  unfold by_
  have e : s.get! i = (s.data.toList[i]?).getD 0 := by
    show s.data[i]! = _
    by_cases h : i < s.data.size
    · rw [getElem!_pos s.data i h, List.getElem?_eq_getElem (by simpa using h)]
      simp
    · rw [getElem!_neg s.data i h, List.getElem?_eq_none (by simpa using h)]
      rfl
  rw [e]
theorem size_list (s : ByteArray) : s.size = s.data.toList.length := by simp
theorem list_append (a b : ByteArray) : (a ++ b).data.toList = a.data.toList ++ b.data.toList := by simp
theorem ba_ext {a b : ByteArray} (h : a.data.toList = b.data.toList) : a = b := by
  cases a; cases b
  simp only [ByteArray.mk.injEq]
  exact Array.toList_inj.1 h
theorem by_right (a b : ByteArray) (i : Nat) : by_ (a ++ b) (a.size + i) = by_ b i := by
  rw [by_list, by_list, list_append, size_list, List.getElem?_append_right (by omega)]
  simp
theorem by_left (a b : ByteArray) (i : Nat) (h : i < a.size) : by_ (a ++ b) i = by_ a i := by
  rw [by_list, by_list, list_append, List.getElem?_append_left (by rwa [← size_list])]
theorem more_right (a b : ByteArray) (i : Nat) : more (a ++ b) (a.size + i) = more b i := by
  unfold more
  rw [by_right, ByteArray.size_append]
  congr 1
  rw [decide_eq_decide]
  omega

theorem dec_right (a b : ByteArray) (i : Nat) : Utf8.decode (a ++ b) (a.size + i) = Utf8.decode b i := by
  rw [dec_by, dec_by, by_right, Nat.add_assoc, Nat.add_assoc, Nat.add_assoc, by_right, by_right, by_right, more_right, more_right, more_right]

/-- What decodes, and is not broken, hangs on its own bytes alone. -/
theorem decP_local {c b1 b2 b3 b1' b2' b3' : Nat} {q1 q2 q3 q1' q2' q3' : Bool} {r n : Nat} (h : decP c b1 b2 b3 q1 q2 q3 = (r, n)) (hb : ¬ (r = 65533 ∧ n = 1))
    (h1 : 2 ≤ n → b1' = b1 ∧ q1' = q1) (h2 : 3 ≤ n → b2' = b2 ∧ q2' = q2) (h3 : 4 ≤ n → b3' = b3 ∧ q3' = q3) : decP c b1' b2' b3' q1' q2' q3' = (r, n) := by
  unfold decP at h ⊢
  by_cases c1 : c < 128
  · rw [if_pos c1] at h ⊢; exact h
  rw [if_neg c1] at h ⊢
  have no : ∀ {r n : Nat}, (65533, 1) = (r, n) → ¬ (r = 65533 ∧ n = 1) → False := fun e hb => by
    simp only [Prod.mk.injEq] at e
    exact hb ⟨e.1.symm, e.2.symm⟩
  by_cases c2 : c / 32 = 6
  · have d3 : (c / 16 == 14) = false := by rw [beq_eq_false_iff_ne]; omega
    have d4 : (c / 8 == 30) = false := by rw [beq_eq_false_iff_ne]; omega
    simp only [c2, d3, d4, beq_self_eq_true, Bool.true_and, Bool.false_and, Bool.false_eq_true, if_false] at h ⊢
    cases q1
    · simp only [Bool.false_eq_true, if_false] at h
      exact (no h hb).elim
    · simp only [if_true] at h
      by_cases k : (c % 32) * 64 + b1 % 64 ≥ 128
      · rw [if_pos k] at h
        simp only [Prod.mk.injEq] at h
        obtain ⟨rfl, rfl⟩ := h
        obtain ⟨rfl, rfl⟩ := h1 (by omega)
        rw [if_pos rfl, if_pos k]
      · rw [if_neg k] at h
        exact (no h hb).elim
  have d2 : (c / 32 == 6) = false := by rw [beq_eq_false_iff_ne]; exact c2
  by_cases c3 : c / 16 = 14
  · have d4 : (c / 8 == 30) = false := by rw [beq_eq_false_iff_ne]; omega
    simp only [d2, c3, d4, beq_self_eq_true, Bool.true_and, Bool.false_and, Bool.false_eq_true, if_false] at h ⊢
    cases q1
    · simp only [Bool.false_and, Bool.false_eq_true, if_false] at h
      exact (no h hb).elim
    cases q2
    · simp only [Bool.and_false, Bool.false_eq_true, if_false] at h
      exact (no h hb).elim
    simp only [Bool.and_self, if_true] at h
    by_cases k : ((c % 16) * 4096 + (b1 % 64) * 64 + b2 % 64 ≥ 2048 && Utf8.valid ((c % 16) * 4096 + (b1 % 64) * 64 + b2 % 64 : Nat)) = true
    · rw [if_pos k] at h
      simp only [Prod.mk.injEq] at h
      obtain ⟨rfl, rfl⟩ := h
      obtain ⟨rfl, rfl⟩ := h1 (by omega)
      obtain ⟨rfl, rfl⟩ := h2 (by omega)
      rw [Bool.and_self, if_pos rfl, if_pos k]
    · rw [if_neg k] at h
      exact (no h hb).elim
  have d3 : (c / 16 == 14) = false := by rw [beq_eq_false_iff_ne]; exact c3
  by_cases c4 : c / 8 = 30
  · simp only [d2, d3, c4, beq_self_eq_true, Bool.true_and, Bool.false_and, Bool.false_eq_true, if_false] at h ⊢
    cases q1
    · simp only [Bool.false_and, Bool.false_eq_true, if_false] at h
      exact (no h hb).elim
    cases q2
    · simp only [Bool.and_false, Bool.false_and, Bool.false_eq_true, if_false] at h
      exact (no h hb).elim
    cases q3
    · simp only [Bool.and_false, Bool.false_eq_true, if_false] at h
      exact (no h hb).elim
    simp only [Bool.and_self, if_true] at h
    by_cases k : ((c % 8) * 262144 + (b1 % 64) * 4096 + (b2 % 64) * 64 + b3 % 64 ≥ 65536 && Utf8.valid ((c % 8) * 262144 + (b1 % 64) * 4096 + (b2 % 64) * 64 + b3 % 64 : Nat)) = true
    · rw [if_pos k] at h
      simp only [Prod.mk.injEq] at h
      obtain ⟨rfl, rfl⟩ := h
      obtain ⟨rfl, rfl⟩ := h1 (by omega)
      obtain ⟨rfl, rfl⟩ := h2 (by omega)
      obtain ⟨rfl, rfl⟩ := h3 (by omega)
      rw [Bool.and_self, Bool.and_self, if_pos rfl, if_pos k]
    · rw [if_neg k] at h
      exact (no h hb).elim
  have d4 : (c / 8 == 30) = false := by rw [beq_eq_false_iff_ne]; exact c4
  simp only [d2, d3, d4, Bool.false_and, Bool.false_eq_true, if_false] at h
  exact (no h hb).elim

/-- Bytes that are one whole sign, wherever they stand. -/
def IsSign (p : ByteArray) (r : Nat) : Prop := 0 < p.size ∧ (∀ a b : ByteArray, Utf8.decode (a ++ p ++ b) a.size = (r, p.size)) ∧ ¬ (r = 65533 ∧ p.size = 1)

theorem extract_list (s : ByteArray) (i j : Nat) : (s.extract i j).data.toList = (s.data.toList.drop i).take (j - i) := by
  simp [List.extract_eq_take_drop]

theorem sign_of (s : ByteArray) (i : Nat) (h : i < s.size) (hb : ¬ ((Utf8.decode s i).1 = 65533 ∧ (Utf8.decode s i).2 = 1)) : IsSign (s.extract i (i + (Utf8.decode s i).2)) (Utf8.decode s i).1 := by
  have hp := dec_pos s i h
  have hf := dec_fits s i h
  have h4 := dec_four s i
  obtain ⟨r, n, e⟩ : ∃ r n, Utf8.decode s i = (r, n) := ⟨_, _, rfl⟩
  rw [e] at hb hp hf h4 ⊢
  dsimp only at hb hp hf h4 ⊢
  have hsz : (s.extract i (i + n)).size = n := by rw [ByteArray.size_extract]; omega
  refine ⟨by omega, fun a b => ?_, by rw [hsz]; exact hb⟩
  rw [hsz]
  have hby : ∀ j, j < n → by_ (a ++ s.extract i (i + n) ++ b) (a.size + j) = by_ s (i + j) := by
    intro j hj
    rw [by_left _ _ _ (by rw [ByteArray.size_append, hsz]; omega), by_right, by_list, by_list, extract_list, List.getElem?_take, if_pos (by omega), List.getElem?_drop]
  have hmo : ∀ j, j < n → more (a ++ s.extract i (i + n) ++ b) (a.size + j) = more s (i + j) := by
    intro j hj
    unfold more
    rw [hby j hj]
    have e1 : decide (a.size + j < (a ++ s.extract i (i + n) ++ b).size) = true := decide_eq_true (by rw [ByteArray.size_append, ByteArray.size_append, hsz]; omega)
    have e2 : decide (i + j < s.size) = true := decide_eq_true (by omega)
    rw [e1, e2]
  rw [dec_by] at e
  rw [dec_by]
  have h0 := hby 0 (by omega)
  rw [Nat.add_zero, Nat.add_zero] at h0
  rw [h0]
  exact decP_local e hb (fun k => ⟨hby 1 (by omega), hmo 1 (by omega)⟩) (fun k => ⟨hby 2 (by omega), hmo 2 (by omega)⟩) (fun k => ⟨hby 3 (by omega), hmo 3 (by omega)⟩)

theorem sign_ascii (c : UInt8) (h : c.toNat < 128) : IsSign ⟨#[c]⟩ c.toNat := by
  refine ⟨Nat.zero_lt_one, fun a b => ?_, by omega⟩
  have h0 : by_ (a ++ ⟨#[c]⟩ ++ b) a.size = c.toNat := by
    rw [by_left _ _ _ (by rw [ByteArray.size_append]; show a.size < a.size + 1; omega)]
    have := by_right a ⟨#[c]⟩ 0
    rw [Nat.add_zero] at this
    rw [this]
    rfl
  rw [dec_by, h0]
  unfold decP
  rw [if_pos h]
  rfl

/-- Pieces, one behind the other. -/
def cat : List (ByteArray × Nat) → ByteArray
  | [] => ByteArray.empty
  | x :: l => x.1 ++ cat l
/-- Their signs, from a place on. -/
def lay : Nat → List (ByteArray × Nat) → List Sg
  | _, [] => []
  | o, x :: l => ⟨o, x.1.size, x.2⟩ :: lay (o + x.1.size) l
theorem cat_append (a b : List (ByteArray × Nat)) : cat (a ++ b) = cat a ++ cat b := by
  induction a with
  | nil => simp [cat]
  | cons x l ih => simp [cat, ih, ByteArray.append_assoc]
theorem lay_length (o : Nat) (l : List (ByteArray × Nat)) : (lay o l).length = l.length := by
  induction l generalizing o with
  | nil => rfl
  | cons x l ih => simp [lay, ih]
theorem lay_append (o : Nat) (a b : List (ByteArray × Nat)) : lay o (a ++ b) = lay o a ++ lay (o + (cat a).size) b := by
  induction a generalizing o with
  | nil => simp [lay, cat]
  | cons x l ih => simp [lay, cat, ih, ByteArray.size_append, Nat.add_assoc]
/-- How wide pieces are. -/
def wsum (l : List (ByteArray × Nat)) : Nat := match l with
  | [] => 0
  | x :: l => wd x.2 + wsum l
theorem wds_lay (o : Nat) (l : List (ByteArray × Nat)) : wds (lay o l) = wsum l := by
  induction l generalizing o with
  | nil => rfl
  | cons x l ih => simp [lay, wds, wsum, ih]
theorem wsum_append (a b : List (ByteArray × Nat)) : wsum (a ++ b) = wsum a + wsum b := by
  induction a with
  | nil => simp [wsum]
  | cons x l ih => simp [wsum, ih]; omega

def Whole (l : List (ByteArray × Nat)) : Prop := ∀ q ∈ l, IsSign q.1 q.2

theorem sgs_cat (l : List (ByteArray × Nat)) (hl : Whole l) : ∀ a b : ByteArray, sgs (a ++ cat l ++ b) a.size = lay a.size l ++ sgs (a ++ cat l ++ b) (a.size + (cat l).size) := by
  induction l with
  | nil => intro a b; simp [cat, lay]
  | cons x l ih =>
    intro a b
    obtain ⟨h0, hd, _⟩ := hl x (by simp)
    have e : a ++ cat (x :: l) ++ b = a ++ x.1 ++ cat l ++ b := by simp [cat, ByteArray.append_assoc]
    have e2 : a ++ cat (x :: l) ++ b = a ++ x.1 ++ (cat l ++ b) := by simp [cat, ByteArray.append_assoc]
    have hlt : a.size < (a ++ cat (x :: l) ++ b).size := by rw [e2]; simp only [ByteArray.size_append]; omega
    have hdec : Utf8.decode (a ++ cat (x :: l) ++ b) a.size = (x.2, x.1.size) := by rw [e2]; exact hd _ _
    rw [sgs_step _ _ hlt, hdec]
    dsimp only
    have := ih (fun q hq => hl q (by simp [hq])) (a ++ x.1) b
    rw [ByteArray.size_append] at this
    rw [e, this]
    simp [lay, cat, ByteArray.size_append, Nat.add_assoc]
theorem sgs_whole (l : List (ByteArray × Nat)) (hl : Whole l) : sgs (cat l) 0 = lay 0 l := by
  have := sgs_cat l hl ByteArray.empty ByteArray.empty
  simp only [ByteArray.empty_append, ByteArray.append_empty, ByteArray.size_empty, Nat.zero_add] at this
  rw [this, sgs_end _ _ (by omega), List.append_nil]

/-- Behind pieces that fit a beginning goes on. -/
theorem cutAt_cat (l : List (ByteArray × Nat)) (hl : Whole l) : ∀ (a b : ByteArray) (n : Int), (wsum l : Int) ≤ n → cutAt (a ++ cat l ++ b) a.size n = cutAt (a ++ cat l ++ b) (a.size + (cat l).size) (n - wsum l) := by
  induction l with
  | nil => intro a b n _; simp [cat, wsum]
  | cons x l ih =>
    intro a b n hn
    obtain ⟨h0, hd, _⟩ := hl x (by simp)
    have e : a ++ cat (x :: l) ++ b = a ++ x.1 ++ cat l ++ b := by simp [cat, ByteArray.append_assoc]
    have e2 : a ++ cat (x :: l) ++ b = a ++ x.1 ++ (cat l ++ b) := by simp [cat, ByteArray.append_assoc]
    have hlt : a.size < (a ++ cat (x :: l) ++ b).size := by rw [e2]; simp only [ByteArray.size_append]; omega
    have hdec : Utf8.decode (a ++ cat (x :: l) ++ b) a.size = (x.2, x.1.size) := by rw [e2]; exact hd _ _
    simp only [wsum] at hn
    rw [cutAt_step _ _ _ hlt (by rw [hdec]; dsimp only; omega), hdec]
    dsimp only
    have := ih (fun q hq => hl q (by simp [hq])) (a ++ x.1) b (n - wd x.2) (by omega)
    rw [ByteArray.size_append] at this
    rw [e, this]
    congr 1
    · simp [cat, ByteArray.size_append, Nat.add_assoc]
    · simp only [wsum]; omega

/-- A sign that is odd. -/
def odd (r : Nat) : Bool := decide (r < 32) || r == 127 || (decide (8232 ≤ r) && decide (r ≤ 8238))
/-- A sign's piece of a clean text. -/
def piece (s : ByteArray) (x : Sg) : ByteArray × Nat := if odd x.r || x.brk then (⟨#[63]⟩, 63) else (s.extract x.at_ (x.at_ + x.n), x.r)
def cleanPs (s : ByteArray) : List (ByteArray × Nat) := ((sgs s 0).take 64).map (piece s)
/-- The title of a text. -/
def clean (s : ByteArray) : ByteArray := cat (cleanPs s)

theorem mem_sgs (s : ByteArray) (x : Sg) : ∀ i, x ∈ sgs s i → x.at_ < s.size ∧ Utf8.decode s x.at_ = (x.r, x.n) := by
  apply along s
  · intro i h hx; rw [sgs_end s i h] at hx; simp at hx
  · intro i h ih hx
    rw [sgs_step s i h] at hx
    rcases List.mem_cons.1 hx with rfl | hx
    · exact ⟨h, rfl⟩
    · exact ih hx
theorem piece_sign (s : ByteArray) (x : Sg) (hx : x ∈ sgs s 0) : IsSign (piece s x).1 (piece s x).2 := by
  obtain ⟨h1, h2⟩ := mem_sgs s x 0 hx
  unfold piece
  split
  · exact sign_ascii 63 (by decide)
  · rename_i hn
    have h3 := sign_of s x.at_ h1 (by
      rw [h2]
      intro h
      apply hn
      unfold Sg.brk
      simp only at h
      simp [h.1, h.2])
    rw [h2] at h3
    exact h3
theorem whole_clean (s : ByteArray) : Whole (cleanPs s) := by
  intro q hq
  unfold cleanPs at hq
  obtain ⟨x, hx, rfl⟩ := List.mem_map.1 hq
  exact piece_sign s x (List.mem_of_mem_take hx)
theorem cat_size_le (s : ByteArray) (l : List Sg) (h : ∀ x ∈ l, x ∈ sgs s 0) : (cat (l.map (piece s))).size ≤ 4 * l.length := by
  induction l with
  | nil => simp [cat]
  | cons x l ih =>
    have h1 := ih (fun y hy => h y (by simp [hy]))
    have h2 : (piece s x).1.size ≤ 4 := by
      obtain ⟨h3, h4⟩ := mem_sgs s x 0 (h x (by simp))
      have h5 := dec_four s x.at_
      rw [h4] at h5
      unfold piece
      split
      · show 1 ≤ 4; omega
      · simp only [ByteArray.size_extract]; dsimp only at h5; omega
    simp only [List.map_cons, cat, ByteArray.size_append, List.length_cons]
    omega
theorem clean_size (s : ByteArray) : (clean s).size ≤ 256 := by
  have := cat_size_le s ((sgs s 0).take 64) (fun x hx => List.mem_of_mem_take hx)
  have h : ((sgs s 0).take 64).length ≤ 64 := by rw [List.length_take]; omega
  unfold clean cleanPs
  omega

end Go.Proofs.YtpmhbfelhjpalaaDoor.TJ

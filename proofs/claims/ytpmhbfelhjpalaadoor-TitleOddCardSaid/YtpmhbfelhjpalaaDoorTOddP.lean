/- Titles in plain Lean: a title is its own title; behind a title one odd or broken byte is a question mark; a long text's title is its first 64 signs. -/
import Derived.Test.YtpmhbfelhjpalaaDoorTJoin
namespace Go.Proofs.YtpmhbfelhjpalaaDoor.TO
open Go Go.Proofs.YtpmhbfelhjpalaaDoor.TP Go.Proofs.YtpmhbfelhjpalaaDoor.TJ

def NoOdd (l : List (ByteArray × Nat)) : Prop := ∀ q ∈ l, odd q.2 = false

theorem extract_mid (a p b : ByteArray) : (a ++ p ++ b).extract a.size (a.size + p.size) = p := by
  apply ba_ext
  rw [extract_list, list_append, list_append, List.append_assoc, size_list, List.drop_left, List.take_append_of_le_length (by rw [size_list]; omega), List.take_of_length_le (by rw [size_list]; omega)]

theorem piece_lay (l : List (ByteArray × Nat)) (hl : Whole l) (ho : NoOdd l) : ∀ a b : ByteArray, (lay a.size l).map (piece (a ++ cat l ++ b)) = l := by
  induction l with
  | nil => intro a b; rfl
  | cons x l ih =>
    intro a b
    obtain ⟨h0, hd, hb⟩ := hl x (by simp)
    have e : a ++ cat (x :: l) ++ b = (a ++ x.1) ++ cat l ++ b := by simp [cat, ByteArray.append_assoc]
    have e2 : a ++ cat (x :: l) ++ b = a ++ x.1 ++ (cat l ++ b) := by simp [cat, ByteArray.append_assoc]
    have hx := ho x (by simp)
    have := ih (fun q hq => hl q (by simp [hq])) (fun q hq => ho q (by simp [hq])) (a ++ x.1) b
    rw [ByteArray.size_append, ← e] at this
    simp only [lay, List.map_cons, this]
    congr 1
    unfold piece Sg.brk
    dsimp only
    have hbk : (x.2 == 65533 && x.1.size == 1) = false := by
      rw [Bool.eq_false_iff]
      intro h
      rw [Bool.and_eq_true, beq_iff_eq, beq_iff_eq] at h
      exact hb h
    rw [hx, hbk, if_neg (by simp), e2, extract_mid]

theorem clean_cat (l : List (ByteArray × Nat)) (hl : Whole l) (ho : NoOdd l) : clean (cat l) = cat (l.take 64) := by
  have h := piece_lay l hl ho ByteArray.empty ByteArray.empty
  simp only [ByteArray.empty_append, ByteArray.append_empty, ByteArray.size_empty] at h
  unfold clean cleanPs
  rw [sgs_whole l hl, List.map_take, h]

theorem noodd_clean (s : ByteArray) : NoOdd (cleanPs s) := by
  intro q hq
  unfold cleanPs at hq
  obtain ⟨x, hx, rfl⟩ := List.mem_map.1 hq
  unfold piece
  split
  · decide
  · rename_i hn
    cases ho : odd x.r
    · rfl
    · exact absurd (by simp [ho]) hn
theorem cleanPs_le (s : ByteArray) : (cleanPs s).length ≤ 64 := by
  unfold cleanPs
  rw [List.length_map, List.length_take]
  omega
theorem clean_clean (s : ByteArray) : clean (clean s) = clean s := by
  show clean (cat (cleanPs s)) = _
  rw [clean_cat _ (whole_clean s) (noodd_clean s), List.take_of_length_le (cleanPs_le s)]
  rfl

/-- May it be a title? -/
def good (s : ByteArray) : Bool := (sgs s 0).all (fun x => !odd x.r && !x.brk) && decide ((sgs s 0).length ≤ 64)
theorem extract_self (s : ByteArray) (i j : Nat) (h1 : i ≤ j) (h2 : j ≤ s.size) : s.extract i j ++ s.extract j s.size = s.extract i s.size := by
  apply ba_ext
  have e1 : (s.data.toList.drop j).take (s.size - j) = s.data.toList.drop j := List.take_of_length_le (by rw [List.length_drop, ← size_list]; omega)
  have e2 : (s.data.toList.drop i).take (s.size - i) = s.data.toList.drop i := List.take_of_length_le (by rw [List.length_drop, ← size_list]; omega)
  have e : s.data.toList.drop j = (s.data.toList.drop i).drop (j - i) := by rw [List.drop_drop]; congr 1; omega
  rw [list_append, extract_list, extract_list, extract_list, e1, e2, e, List.take_append_drop]
theorem cat_sgs (s : ByteArray) : ∀ i, i ≤ s.size → cat ((sgs s i).map fun x => (s.extract x.at_ (x.at_ + x.n), x.r)) = s.extract i s.size := by
  refine along s (fun i => i ≤ s.size → cat ((sgs s i).map fun x => (s.extract x.at_ (x.at_ + x.n), x.r)) = s.extract i s.size) ?_ ?_
  · intro i h hi
    rw [sgs_end s i h]
    apply ba_ext
    rw [extract_list]
    simp only [List.map_nil, cat]
    have : s.size - i = 0 := by omega
    rw [this]
    rfl
  · intro i h ih hi
    rw [sgs_step s i h, List.map_cons, cat]
    have hf := dec_fits s i h
    rw [ih hf, extract_self s i _ (by omega) hf]
theorem good_same (s : ByteArray) (h : good s = true) : clean s = s := by
  unfold good at h
  rw [Bool.and_eq_true, decide_eq_true_eq, List.all_eq_true] at h
  unfold clean cleanPs
  rw [List.take_of_length_le h.2]
  have e : (sgs s 0).map (piece s) = (sgs s 0).map fun x => (s.extract x.at_ (x.at_ + x.n), x.r) := by
    apply List.map_congr_left
    intro x hx
    have := h.1 x hx
    unfold piece
    rw [if_neg]
    intro hc
    rw [Bool.or_eq_true] at hc
    rcases hc with hc | hc <;> simp [hc] at this
  rw [e, cat_sgs s 0 (Nat.zero_le _)]
  apply ba_ext
  rw [extract_list, List.drop_zero, List.take_of_length_le (by rw [← size_list]; omega)]
theorem lay_mem (l : List (ByteArray × Nat)) : ∀ o, ∀ x ∈ lay o l, ∃ q ∈ l, x.r = q.2 ∧ x.n = q.1.size := by
  induction l with
  | nil => intro o x hx; simp [lay] at hx
  | cons y l ih =>
    intro o x hx
    rcases List.mem_cons.1 hx with rfl | hx
    · exact ⟨y, by simp, rfl, rfl⟩
    · obtain ⟨q, hq, h⟩ := ih _ x hx
      exact ⟨q, by simp [hq], h⟩
theorem good_clean (s : ByteArray) : good (clean s) = true := by
  unfold good clean
  rw [sgs_whole _ (whole_clean s), Bool.and_eq_true, decide_eq_true_eq, lay_length, List.all_eq_true]
  refine ⟨fun x hx => ?_, cleanPs_le s⟩
  obtain ⟨q, hq, hr, hn⟩ := lay_mem _ _ x hx
  have h1 := noodd_clean s q hq
  have h2 := (whole_clean s q hq).2.2
  rw [Bool.and_eq_true, hr, h1]
  refine ⟨rfl, ?_⟩
  unfold Sg.brk
  rw [hr, hn]
  cases hb : (q.2 == 65533 && q.1.size == 1)
  · rfl
  · rw [Bool.and_eq_true, beq_iff_eq, beq_iff_eq] at hb
    exact absurd hb h2
theorem good_iff (s : ByteArray) : good s = decide (clean s = s) := by
  rw [Bool.eq_iff_iff, decide_eq_true_eq]
  exact ⟨good_same s, fun h => by rw [← h]; exact good_clean s⟩

/-- Behind a title, one byte that is odd or broken. -/
theorem clean_own (s : ByteArray) (hl : (cleanPs s).length ≤ 63) (c : UInt8) (hc : c.toNat < 32 ∨ (128 ≤ c.toNat ∧ c.toNat < 192)) :
    clean (clean s ++ ⟨#[c]⟩) = clean s ++ ⟨#[63]⟩ ∧ (sgs (clean s ++ ⟨#[c]⟩) 0).length = (sgs (clean s) 0).length + 1 := by
  have hsz : (clean s ++ ⟨#[c]⟩ : ByteArray).size = (clean s).size + 1 := by rw [ByteArray.size_append]; rfl
  obtain ⟨r, hd, hr⟩ : ∃ r, Utf8.decode (clean s ++ ⟨#[c]⟩) (clean s).size = (r, 1) ∧ (odd r || (r == 65533)) = true := by
    have h0 : by_ (⟨#[c]⟩ : ByteArray) 0 = c.toNat := rfl
    have h1 := dec_right (clean s) ⟨#[c]⟩ 0
    rw [Nat.add_zero] at h1
    rw [h1, dec_by, h0]
    have hm : ∀ j, more (⟨#[c]⟩ : ByteArray) (0 + (j + 1)) = false := by
      intro j
      unfold more
      have : decide (0 + (j + 1) < (⟨#[c]⟩ : ByteArray).size) = false := decide_eq_false (by show ¬ (0 + (j + 1) < 1); omega)
      rw [this, Bool.false_and]
    rw [hm 0, hm 1, hm 2]
    unfold decP
    rcases hc with hc | ⟨hc, hc2⟩
    · rw [if_pos (by omega)]
      exact ⟨_, rfl, by simp [odd, hc]⟩
    · rw [if_neg (by omega)]
      simp only [Bool.and_false, Bool.false_eq_true, if_false]
      exact ⟨_, rfl, by decide⟩
  have hs : sgs (clean s ++ ⟨#[c]⟩) 0 = lay 0 (cleanPs s) ++ [⟨(clean s).size, 1, r⟩] := by
    have h := sgs_cat (cleanPs s) (whole_clean s) ByteArray.empty ⟨#[c]⟩
    simp only [ByteArray.empty_append, ByteArray.size_empty, Nat.zero_add] at h
    rw [show clean s = cat (cleanPs s) from rfl, h]
    congr 1
    have hd' : Utf8.decode (cat (cleanPs s) ++ ⟨#[c]⟩) (cat (cleanPs s)).size = (r, 1) := hd
    have hz : (cat (cleanPs s)).size < (cat (cleanPs s) ++ ⟨#[c]⟩ : ByteArray).size := by
      have : (cat (cleanPs s) ++ ⟨#[c]⟩ : ByteArray).size = (cat (cleanPs s)).size + 1 := hsz
      omega
    rw [sgs_step _ _ hz, hd']
    dsimp only
    rw [sgs_end]
    have : (cat (cleanPs s) ++ ⟨#[c]⟩ : ByteArray).size = (cat (cleanPs s)).size + 1 := hsz
    omega
  have hp := piece_lay (cleanPs s) (whole_clean s) (noodd_clean s) ByteArray.empty ⟨#[c]⟩
  simp only [ByteArray.empty_append, ByteArray.size_empty] at hp
  constructor
  · show cat (((sgs (clean s ++ ⟨#[c]⟩) 0).take 64).map (piece (clean s ++ ⟨#[c]⟩))) = _
    rw [hs, List.take_of_length_le (by rw [List.length_append, lay_length, List.length_singleton]; omega), List.map_append]
    have hp' : (lay 0 (cleanPs s)).map (piece (clean s ++ ⟨#[c]⟩)) = cleanPs s := hp
    rw [hp', cat_append]
    congr 1
    have : piece (clean s ++ ⟨#[c]⟩) ⟨(clean s).size, 1, r⟩ = (⟨#[63]⟩, 63) := by
      unfold piece Sg.brk
      rw [if_pos (by simpa using hr)]
    rw [List.map_cons, this]
    rfl
  · rw [hs, List.length_append, lay_length, List.length_singleton]
    show _ = (sgs (cat (cleanPs s)) 0).length + 1
    rw [sgs_whole _ (whole_clean s), lay_length]

/-- So many of one sign. -/
def rep (p : ByteArray × Nat) (n : Nat) : ByteArray := cat (List.replicate n p)
theorem rep_whole (p : ByteArray × Nat) (hp : IsSign p.1 p.2) (n : Nat) : Whole (List.replicate n p) := by
  intro q hq
  rw [List.eq_of_mem_replicate hq]
  exact hp
theorem rep_noodd (p : ByteArray × Nat) (hp : odd p.2 = false) (n : Nat) : NoOdd (List.replicate n p) := by
  intro q hq
  rw [List.eq_of_mem_replicate hq]
  exact hp
theorem rep_succ (p : ByteArray × Nat) (n : Nat) : rep p (n + 1) = rep p n ++ p.1 := by
  unfold rep
  rw [List.replicate_succ', cat_append]
  simp [cat]
theorem rep_size (p : ByteArray × Nat) (n : Nat) : (rep p n).size = n * p.1.size := by
  induction n with
  | zero => simp [rep, cat]
  | succ n ih => rw [rep_succ, ByteArray.size_append, ih, Nat.succ_mul]
theorem rep_count (p : ByteArray × Nat) (hp : IsSign p.1 p.2) (n : Nat) : (sgs (rep p n) 0).length = n := by
  unfold rep
  rw [sgs_whole _ (rep_whole p hp n), lay_length, List.length_replicate]
theorem rep_clean (p : ByteArray × Nat) (hp : IsSign p.1 p.2) (ho : odd p.2 = false) (n : Nat) : clean (rep p n) = rep p (min n 64) := by
  unfold rep
  rw [clean_cat _ (rep_whole p hp n) (rep_noodd p ho n), List.take_replicate, Nat.min_comm]
theorem rep_good (p : ByteArray × Nat) (hp : IsSign p.1 p.2) (ho : odd p.2 = false) (n : Nat) : decide (clean (rep p n) = rep p n) = decide (n ≤ 64) := by
  rw [decide_eq_decide, rep_clean p hp ho n]
  constructor
  · intro h
    have := congrArg (fun s => (sgs s 0).length) h
    simp only [rep_count p hp] at this
    omega
  · intro h
    rw [Nat.min_eq_left h]
end Go.Proofs.YtpmhbfelhjpalaaDoor.TO

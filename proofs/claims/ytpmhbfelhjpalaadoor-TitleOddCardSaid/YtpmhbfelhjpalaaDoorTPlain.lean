/- Signs of a text, in plain Lean over the model's own decoding: how many, how wide, the beginning that is so wide. -/
import Derived.Lib.RuneCount
namespace Go.Proofs.YtpmhbfelhjpalaaDoor.TP
open Go

theorem dec_pos (s : ByteArray) (i : Nat) (h : i < s.size) : 1 ≤ (Utf8.decode s i).2 := Lib.decode_width_pos s i h
theorem dec_fits (s : ByteArray) (i : Nat) (h : i < s.size) : i + (Utf8.decode s i).2 ≤ s.size := by
  simp only [Utf8.decode]
  repeat' split
  all_goals simp_all
  all_goals omega
theorem dec_four (s : ByteArray) (i : Nat) : (Utf8.decode s i).2 ≤ 4 := by
  simp only [Utf8.decode]
  repeat' split
  all_goals simp_all
theorem dec_le (s : ByteArray) (i : Nat) : (Utf8.decode s i).1 ≤ 1114111 := by
  have hb : ∀ k, (s.get! (i + k)).toNat < 256 := fun k => (s.get! (i + k)).toNat_lt
  have h0 := hb 0; have h1 := hb 1; have h2 := hb 2; have h3 := hb 3
  simp only [Utf8.decode]
  repeat' split
  all_goals simp_all [Utf8.runeError, Utf8.valid]
  all_goals omega

/-- A sign: where it begins, how many bytes it has, what it is. -/
structure Sg where
  at_ : Nat
  n : Nat
  r : Nat
/-- Is it broken? -/
def Sg.brk (x : Sg) : Bool := x.r == 65533 && x.n == 1

/-- The signs from a place on. -/
def sgs (s : ByteArray) (i : Nat) : List Sg :=
  if h : i < s.size then ⟨i, (Utf8.decode s i).2, (Utf8.decode s i).1⟩ :: sgs s (i + (Utf8.decode s i).2) else []
termination_by s.size - i
decreasing_by have := dec_pos s i h; omega

theorem sgs_step (s : ByteArray) (i : Nat) (h : i < s.size) : sgs s i = ⟨i, (Utf8.decode s i).2, (Utf8.decode s i).1⟩ :: sgs s (i + (Utf8.decode s i).2) := by
  rw [sgs, dif_pos h]
theorem sgs_end (s : ByteArray) (i : Nat) (h : ¬ i < s.size) : sgs s i = [] := by
  rw [sgs, dif_neg h]

/-- Induction along a text's signs. -/
theorem along (s : ByteArray) (P : Nat → Prop) (h0 : ∀ i, ¬ i < s.size → P i) (h1 : ∀ i, i < s.size → P (i + (Utf8.decode s i).2) → P i) : ∀ i, P i := by
  have key : ∀ d i, s.size - i ≤ d → P i := by
    intro d
    induction d with
    | zero => exact fun i hi => h0 i (by omega)
    | succ d ih =>
      intro i hi
      by_cases h : i < s.size
      · have := dec_pos s i h
        exact h1 i h (ih _ (by omega))
      · exact h0 i h
  exact fun i => key _ i (Nat.le_refl _)

/-- A sign's width. -/
def wd (r : Nat) : Nat :=
  if 768 ≤ r ∧ r ≤ 879 then 0
  else if (4352 ≤ r ∧ r ≤ 4447) ∨ (11904 ≤ r ∧ r ≤ 42191) ∨ (44032 ≤ r ∧ r ≤ 55203) ∨ (65280 ≤ r ∧ r ≤ 65376) ∨ (127744 ≤ r ∧ r ≤ 129791) then 2 else 1
theorem wd_le (r : Nat) : wd r ≤ 2 := by unfold wd; split <;> (try split) <;> omega

/-- How wide signs are. -/
def wds : List Sg → Nat
  | [] => 0
  | x :: l => wd x.r + wds l
theorem wds_le (l : List Sg) : wds l ≤ 2 * l.length := by
  induction l with
  | nil => simp [wds]
  | cons x l ih => have := wd_le x.r; simp [wds]; omega
theorem wds_append (a b : List Sg) : wds (a ++ b) = wds a + wds b := by
  induction a with
  | nil => simp [wds]
  | cons x l ih => simp [wds, ih]; omega

theorem sgs_length (s : ByteArray) : ∀ i, (sgs s i).length ≤ s.size - i := by
  apply along s
  · intro i h; rw [sgs_end s i h]; simp
  · intro i h ih
    rw [sgs_step s i h]
    have := dec_pos s i h
    simp; omega

/-- Where the beginning ends, from a place on, that is at most n wide. -/
def cutAt (s : ByteArray) (i : Nat) (n : Int) : Nat :=
  if h : i < s.size then (if n < wd (Utf8.decode s i).1 then i else cutAt s (i + (Utf8.decode s i).2) (n - wd (Utf8.decode s i).1)) else s.size
termination_by s.size - i
decreasing_by have := dec_pos s i h; omega
theorem cutAt_stop (s : ByteArray) (i : Nat) (n : Int) (h : i < s.size) (hn : n < wd (Utf8.decode s i).1) : cutAt s i n = i := by
  rw [cutAt, dif_pos h, if_pos hn]
theorem cutAt_step (s : ByteArray) (i : Nat) (n : Int) (h : i < s.size) (hn : ¬ n < wd (Utf8.decode s i).1) : cutAt s i n = cutAt s (i + (Utf8.decode s i).2) (n - wd (Utf8.decode s i).1) := by
  rw [cutAt, dif_pos h, if_neg hn]
theorem cutAt_end (s : ByteArray) (i : Nat) (n : Int) (h : ¬ i < s.size) : cutAt s i n = s.size := by
  rw [cutAt, dif_neg h]
/-- The beginning that is at most n wide. -/
def cut (s : ByteArray) (n : Int) : ByteArray := if n < 0 then ⟨#[]⟩ else s.extract 0 (cutAt s 0 n)

/-- A byte at a place, 0 beyond. -/
def by_ (s : ByteArray) (i : Nat) : Nat := (s.get! i).toNat
theorem by_lt (s : ByteArray) (i : Nat) : by_ s i < 256 := (s.get! i).toNat_lt
/-- The model's decoding by its bytes. -/
def decP (c b1 b2 b3 : Nat) (q1 q2 q3 : Bool) : Nat × Nat :=
  if c < 128 then (c, 1)
  else if c / 32 == 6 && q1 then (if (c % 32) * 64 + b1 % 64 ≥ 128 then ((c % 32) * 64 + b1 % 64, 2) else (65533, 1))
  else if c / 16 == 14 && q1 && q2 then (if (c % 16) * 4096 + (b1 % 64) * 64 + b2 % 64 ≥ 2048 && Utf8.valid ((c % 16) * 4096 + (b1 % 64) * 64 + b2 % 64 : Nat) then ((c % 16) * 4096 + (b1 % 64) * 64 + b2 % 64, 3) else (65533, 1))
  else if c / 8 == 30 && q1 && q2 && q3 then (if (c % 8) * 262144 + (b1 % 64) * 4096 + (b2 % 64) * 64 + b3 % 64 ≥ 65536 && Utf8.valid ((c % 8) * 262144 + (b1 % 64) * 4096 + (b2 % 64) * 64 + b3 % 64 : Nat) then ((c % 8) * 262144 + (b1 % 64) * 4096 + (b2 % 64) * 64 + b3 % 64, 4) else (65533, 1))
  else (65533, 1)
/-- Is there a byte of 128 to 191 at a place? -/
def more (s : ByteArray) (i : Nat) : Bool := i < s.size && by_ s i / 64 == 2
theorem dec_by (s : ByteArray) (i : Nat) : Utf8.decode s i = decP (by_ s i) (by_ s (i + 1)) (by_ s (i + 2)) (by_ s (i + 3)) (more s (i + 1)) (more s (i + 2)) (more s (i + 3)) := rfl
theorem valid_iff (n : Nat) : Utf8.valid (n : Int) = true ↔ n < 55296 ∨ (57344 ≤ n ∧ n ≤ 1114111) := by
  unfold Utf8.valid
  simp only [Bool.or_eq_true, Bool.and_eq_true, decide_eq_true_eq]
  omega

end Go.Proofs.YtpmhbfelhjpalaaDoor.TP

/- The reference's signs (chapter 6) are the model's own decoding. -/
import Derived.Test.YtpmhbfelhjpalaaDoorPMayx2
import Derived.Test.YtpmhbfelhjpalaaDoorTJoin
namespace Go.Proofs.YtpmhbfelhjpalaaDoor.TRM
open Go.RowKit Go.Proofs.YtpmhbfelhjpalaaDoorW.PrintWords Go.Proofs.YtpmhbfelhjpalaaDoorW.PrintLast Go.Proofs.YtpmhbfelhjpalaaDoorW.PrintMore
open Go.Proofs.YtpmhbfelhjpalaaDoor.PMay Go.Proofs.YtpmhbfelhjpalaaDoor.TP Go.Proofs.YtpmhbfelhjpalaaDoor.TJ

theorem bt_by (s : ByteArray) (i : Nat) (h : i < s.size) : bt s (i : Int) = by_ s i := by
  unfold bt by_
  rw [dif_pos (by simpa using h)]
  have e : s.get! i = s[i] := by
    show s.data[i]! = _
    rw [getElem!_pos s.data i (by simpa using h)]
    rfl
  rw [e]
  rfl

/-- The six bits of a byte of 128 to 191, or -1. -/
def tl (s : ByteArray) (i : Nat) : Int := if i < s.size ∧ 128 ≤ by_ s i ∧ by_ s i ≤ 191 then (by_ s i : Int) - 128 else -1
theorem w64 {x : Int} (h : -9223372036854775808 ≤ x ∧ x ≤ 9223372036854775807) : wrap64 x = x := IntWalk.wrap64_in x h
theorem tail_f (s : ByteArray) (i : Nat) : rondelref06_tail.f s (i : Int) = some (tl s i) := by
  unfold rondelref06_tail.f tl
  by_cases h : i < s.size
  · have hb := by_lt s i
    rw [if_neg (by omega), if_pos (by omega), if_pos (by omega), bt_by s i h, w64 (by omega)]
    by_cases h1 : (by_ s i : Int) < 128
    · rw [if_pos h1, if_neg (by omega)]
    · by_cases h2 : (by_ s i : Int) > 191
      · rw [if_neg h1, if_pos h2, if_neg (by omega)]
      · rw [if_neg h1, if_neg h2, if_pos (by omega), w64 (by omega)]
  · rw [if_pos (by omega), if_neg (fun hh => h hh.1)]

/-- The sign that begins at i, by its byte and the tails behind it. -/
def oneP (i c x y z : Int) : Int × Int × Int × Bool :=
  if c < 128 then (i, 1, c, false)
  else if 194 ≤ c ∧ c ≤ 223 ∧ 0 ≤ x then (i, 2, (c - 192) * 64 + x, false)
  else if (224 ≤ c ∧ c ≤ 239 ∧ 0 ≤ x ∧ 0 ≤ y) ∧ 2048 ≤ (c - 224) * 4096 + x * 64 + y ∧ ((c - 224) * 4096 + x * 64 + y < 55296 ∨ 57343 < (c - 224) * 4096 + x * 64 + y) then (i, 3, (c - 224) * 4096 + x * 64 + y, false)
  else if (240 ≤ c ∧ c ≤ 244 ∧ 0 ≤ x ∧ 0 ≤ y ∧ 0 ≤ z) ∧ 65536 ≤ (c - 240) * 262144 + x * 4096 + y * 64 + z ∧ (c - 240) * 262144 + x * 4096 + y * 64 + z ≤ 1114111 then (i, 4, (c - 240) * 262144 + x * 4096 + y * 64 + z, false)
  else (i, 1, 65533, true)

section
variable {k : Nat} {i c x y z : Int} (hc : 0 ≤ c ∧ c < 256) (hx : -1 ≤ x ∧ x < 64) (hy : -1 ≤ y ∧ y < 64) (hz : -1 ≤ z ∧ z < 64)
include hc hx hy hz
theorem j3_f (b : Bool) : rondelref06_one.j3 (k + 1) i c x y z b = some (if b = true ∧ 65536 ≤ (c - 240) * 262144 + x * 4096 + y * 64 + z ∧ (c - 240) * 262144 + x * 4096 + y * 64 + z ≤ 1114111 then (i, 4, (c - 240) * 262144 + x * 4096 + y * 64 + z, false) else (i, 1, 65533, true)) := by
  simp only [rondelref06_one.j3]
  rw [w64 (x := c - 240) (by omega), w64 (x := (c - 240) * 262144) (by omega), w64 (x := x * 4096) (by omega), w64 (x := y * 64) (by omega), w64 (x := (c - 240) * 262144 + x * 4096) (by omega), w64 (x := (c - 240) * 262144 + x * 4096 + y * 64) (by omega), w64 (x := (c - 240) * 262144 + x * 4096 + y * 64 + z) (by omega)]
  cases b
  · simp
  · by_cases h1 : (c - 240) * 262144 + x * 4096 + y * 64 + z ≥ 65536
    · by_cases h2 : (c - 240) * 262144 + x * 4096 + y * 64 + z ≤ 1114111
      · rw [if_pos rfl, if_pos h1, if_pos h2, if_pos ⟨rfl, h1, h2⟩]
      · rw [if_pos rfl, if_pos h1, if_neg h2, if_neg (fun h => h2 h.2.2)]
    · rw [if_pos rfl, if_neg h1, if_neg (fun h => h1 h.2.1)]
theorem j2_f : rondelref06_one.j2 (k + 2) i c x y z = some (if (240 ≤ c ∧ c ≤ 244 ∧ 0 ≤ x ∧ 0 ≤ y ∧ 0 ≤ z) ∧ 65536 ≤ (c - 240) * 262144 + x * 4096 + y * 64 + z ∧ (c - 240) * 262144 + x * 4096 + y * 64 + z ≤ 1114111 then (i, 4, (c - 240) * 262144 + x * 4096 + y * 64 + z, false) else (i, 1, 65533, true)) := by
  simp only [rondelref06_one.j2, j3_f hc hx hy hz]
  by_cases h1 : c ≥ 240
  · by_cases h2 : c ≤ 244
    · by_cases h3 : x ≥ 0
      · by_cases h4 : y ≥ 0
        · rw [if_pos h1, if_pos h2, if_pos h3, if_pos h4]
          by_cases h5 : z ≥ 0
          · simp [h1, h2, h3, h4, h5]
          · rw [if_neg (by simp [h5]), if_neg (fun h => h5 h.1.2.2.2.2)]
        · rw [if_pos h1, if_pos h2, if_pos h3, if_neg h4, if_neg (by simp), if_neg (fun h => h4 h.1.2.2.2.1)]
      · rw [if_pos h1, if_pos h2, if_neg h3, if_neg (by simp), if_neg (fun h => h3 h.1.2.2.1)]
    · rw [if_pos h1, if_neg h2, if_neg (by simp), if_neg (fun h => h2 h.1.2.1)]
  · rw [if_neg h1, if_neg (by simp), if_neg (fun h => h1 h.1.1)]
theorem j1_f (b : Bool) (hb : b = true → 0 ≤ x ∧ 0 ≤ y ∧ 224 ≤ c ∧ c ≤ 239) : rondelref06_one.j1 (k + 3) i c x y z b = some (if b = true ∧ 2048 ≤ (c - 224) * 4096 + x * 64 + y ∧ ((c - 224) * 4096 + x * 64 + y < 55296 ∨ 57343 < (c - 224) * 4096 + x * 64 + y) then (i, 3, (c - 224) * 4096 + x * 64 + y, false) else if (240 ≤ c ∧ c ≤ 244 ∧ 0 ≤ x ∧ 0 ≤ y ∧ 0 ≤ z) ∧ 65536 ≤ (c - 240) * 262144 + x * 4096 + y * 64 + z ∧ (c - 240) * 262144 + x * 4096 + y * 64 + z ≤ 1114111 then (i, 4, (c - 240) * 262144 + x * 4096 + y * 64 + z, false) else (i, 1, 65533, true)) := by
  simp only [rondelref06_one.j1, j2_f hc hx hy hz]
  rw [w64 (x := c - 224) (by omega), w64 (x := (c - 224) * 4096) (by omega), w64 (x := x * 64) (by omega), w64 (x := (c - 224) * 4096 + x * 64) (by omega), w64 (x := (c - 224) * 4096 + x * 64 + y) (by omega)]
  cases b
  · simp
  · rw [if_pos rfl]
    by_cases h1 : (c - 224) * 4096 + x * 64 + y ≥ 2048
    · rw [if_pos h1]
      by_cases h2 : (c - 224) * 4096 + x * 64 + y < 55296
      · rw [if_pos h2, if_pos ⟨rfl, h1, .inl h2⟩]
      · rw [if_neg h2]
        by_cases h3 : (c - 224) * 4096 + x * 64 + y > 57343
        · rw [if_pos h3, if_pos ⟨rfl, h1, .inr h3⟩]
        · rw [if_neg h3, if_neg (show ¬ (true = true ∧ 2048 ≤ (c - 224) * 4096 + x * 64 + y ∧ ((c - 224) * 4096 + x * 64 + y < 55296 ∨ 57343 < (c - 224) * 4096 + x * 64 + y)) from fun h => h.2.2.elim h2 h3)]
    · rw [if_neg h1, if_neg (show ¬ (true = true ∧ 2048 ≤ (c - 224) * 4096 + x * 64 + y ∧ ((c - 224) * 4096 + x * 64 + y < 55296 ∨ 57343 < (c - 224) * 4096 + x * 64 + y)) from fun h => h1 h.2.1)]
theorem j0_f (b : Bool) (hb : b = true → 0 ≤ x ∧ 194 ≤ c ∧ c ≤ 223) (hc8 : 128 ≤ c) (hb' : 194 ≤ c ∧ c ≤ 223 ∧ 0 ≤ x → b = true) : rondelref06_one.j0 (k + 4) i c x y z b = some (oneP i c x y z) := by
  simp only [rondelref06_one.j0]
  rw [w64 (x := c - 192) (by omega), w64 (x := (c - 192) * 64) (by omega), w64 (x := (c - 192) * 64 + x) (by omega)]
  unfold oneP
  rw [if_neg (show ¬ c < 128 by omega)]
  cases b
  · rw [if_neg (by simp), if_neg (show ¬ (194 ≤ c ∧ c ≤ 223 ∧ 0 ≤ x) from fun h => by simpa using hb' h)]
    have key : ∀ b : Bool, (b = true → 0 ≤ x ∧ 0 ≤ y ∧ 224 ≤ c ∧ c ≤ 239) → ((224 ≤ c ∧ c ≤ 239 ∧ 0 ≤ x ∧ 0 ≤ y) → b = true) → rondelref06_one.j1 (k + 3) i c x y z b = some (if (224 ≤ c ∧ c ≤ 239 ∧ 0 ≤ x ∧ 0 ≤ y) ∧ 2048 ≤ (c - 224) * 4096 + x * 64 + y ∧ ((c - 224) * 4096 + x * 64 + y < 55296 ∨ 57343 < (c - 224) * 4096 + x * 64 + y) then (i, 3, (c - 224) * 4096 + x * 64 + y, false) else if (240 ≤ c ∧ c ≤ 244 ∧ 0 ≤ x ∧ 0 ≤ y ∧ 0 ≤ z) ∧ 65536 ≤ (c - 240) * 262144 + x * 4096 + y * 64 + z ∧ (c - 240) * 262144 + x * 4096 + y * 64 + z ≤ 1114111 then (i, 4, (c - 240) * 262144 + x * 4096 + y * 64 + z, false) else (i, 1, 65533, true)) := by
      intro b h1 h2
      rw [j1_f hc hx hy hz b h1]
      have e : (b = true) ↔ (224 ≤ c ∧ c ≤ 239 ∧ 0 ≤ x ∧ 0 ≤ y) := ⟨fun h => ⟨(h1 h).2.2.1, (h1 h).2.2.2, (h1 h).1, (h1 h).2.1⟩, h2⟩
      simp only [e]
    by_cases h1 : c ≥ 224
    · by_cases h2 : c ≤ 239
      · by_cases h3 : x ≥ 0
        · rw [if_pos h1, if_pos h2, if_pos h3]
          exact key _ (fun h => ⟨h3, by simpa using h, h1, h2⟩) (fun h => by simpa using h.2.2.2)
        · rw [if_pos h1, if_pos h2, if_neg h3]
          exact key _ (fun h => by simp at h) (fun h => absurd h.2.2.1 h3)
      · rw [if_pos h1, if_neg h2]
        exact key _ (fun h => by simp at h) (fun h => absurd h.2.1 h2)
    · rw [if_neg h1]
      exact key _ (fun h => by simp at h) (fun h => absurd h.1 h1)
  · rw [if_pos rfl, if_pos ⟨(hb rfl).2.1, (hb rfl).2.2, (hb rfl).1⟩]
end
theorem tl_range (s : ByteArray) (i : Nat) : -1 ≤ tl s i ∧ tl s i < 64 := by
  unfold tl
  split <;> omega
theorem one_p (s : ByteArray) (i : Nat) (h : i < s.size) (hs : s.size ≤ 140737488351232) (k : Nat) (hk : 4 ≤ k) :
    rondelref06_one.f k s (i : Int) = some (oneP i (by_ s i) (tl s (i + 1)) (tl s (i + 2)) (tl s (i + 3))) := by
  obtain ⟨k, rfl⟩ : ∃ m, k = m + 4 := ⟨k - 4, by omega⟩
  have hb := by_lt s i
  have hx := tl_range s (i + 1)
  have hy := tl_range s (i + 2)
  have hz := tl_range s (i + 3)
  unfold rondelref06_one.f
  rw [if_pos (by omega), if_pos (by omega), w64 (x := (i : Int) + 1) (by omega), w64 (x := (i : Int) + 2) (by omega), w64 (x := (i : Int) + 3) (by omega)]
  rw [show ((i : Int) + 1) = ((i + 1 : Nat) : Int) from rfl, show ((i : Int) + 2) = ((i + 2 : Nat) : Int) from rfl, show ((i : Int) + 3) = ((i + 3 : Nat) : Int) from rfl, tail_f, tail_f, tail_f]
  simp only [Option.bind_some]
  rw [bt_by s i h, w64 (x := (by_ s i : Int)) (by omega)]
  have hc : (0 : Int) ≤ (by_ s i : Int) ∧ (by_ s i : Int) < 256 := by omega
  by_cases h1 : (by_ s i : Int) < 128
  · rw [if_pos h1]; unfold oneP; rw [if_pos h1]
  · rw [if_neg h1]
    by_cases h2 : (by_ s i : Int) ≥ 194
    · by_cases h3 : (by_ s i : Int) ≤ 223
      · rw [if_pos h2, if_pos h3]
        exact j0_f hc hx hy hz _ (fun h => ⟨by simpa using h, h2, h3⟩) (by omega) (fun h => by simpa using h.2.2)
      · rw [if_pos h2, if_neg h3]
        exact j0_f hc hx hy hz _ (fun h => by simp at h) (by omega) (fun h => absurd h.2.1 h3)
    · rw [if_neg h2]
      exact j0_f hc hx hy hz _ (fun h => by simp at h) (by omega) (fun h => absurd h.1 h2)

theorem tl_by (s : ByteArray) (i : Nat) : tl s i = if more s i = true then ((by_ s i % 64 : Nat) : Int) else -1 := by
  have hb := by_lt s i
  unfold tl more
  by_cases h1 : i < s.size
  · by_cases h2 : by_ s i / 64 = 2
    · rw [if_pos (by omega), if_pos (by simp [h1, h2])]; omega
    · rw [if_neg (by omega), if_neg (by simp [h2])]
  · rw [if_neg (fun h => h1 h.1), if_neg (by simp [h1])]

/-- The reference's sign is the decoding's. -/
theorem one_bytes (i c b1 b2 b3 : Nat) (q1 q2 q3 : Bool) (hc : c < 256) :
    oneP i c (if q1 = true then ((b1 % 64 : Nat) : Int) else -1) (if q2 = true then ((b2 % 64 : Nat) : Int) else -1) (if q3 = true then ((b3 % 64 : Nat) : Int) else -1) =
      ((i : Int), ((decP c b1 b2 b3 q1 q2 q3).2 : Int), ((decP c b1 b2 b3 q1 q2 q3).1 : Int), ((decP c b1 b2 b3 q1 q2 q3).1 == 65533 && (decP c b1 b2 b3 q1 q2 q3).2 == 1)) := by
  have n1 : b1 % 64 < 64 := by omega
  have n2 : b2 % 64 < 64 := by omega
  have n3 : b3 % 64 < 64 := by omega
  unfold decP
  generalize b1 % 64 = m1 at *
  generalize b2 % 64 = m2 at *
  generalize b3 % 64 = m3 at *
  have broken : ∀ x y z : Int, ¬ ((c : Int) < 128) → ¬ (194 ≤ (c : Int) ∧ (c : Int) ≤ 223 ∧ 0 ≤ x) → ¬ ((224 ≤ (c : Int) ∧ (c : Int) ≤ 239 ∧ 0 ≤ x ∧ 0 ≤ y) ∧ 2048 ≤ ((c : Int) - 224) * 4096 + x * 64 + y ∧ (((c : Int) - 224) * 4096 + x * 64 + y < 55296 ∨ 57343 < ((c : Int) - 224) * 4096 + x * 64 + y)) →
      ¬ ((240 ≤ (c : Int) ∧ (c : Int) ≤ 244 ∧ 0 ≤ x ∧ 0 ≤ y ∧ 0 ≤ z) ∧ 65536 ≤ ((c : Int) - 240) * 262144 + x * 4096 + y * 64 + z ∧ ((c : Int) - 240) * 262144 + x * 4096 + y * 64 + z ≤ 1114111) → oneP i c x y z = ((i : Int), 1, 65533, true) := by
    intro x y z h1 h2 h3 h4
    unfold oneP
    rw [if_neg h1, if_neg h2, if_neg h3, if_neg h4]
  by_cases c1 : c < 128
  · rw [if_pos c1]
    unfold oneP
    rw [if_pos (by omega)]
    have : (c == 65533) = false := by rw [beq_eq_false_iff_ne]; omega
    simp [this]
  rw [if_neg c1]
  by_cases c2 : c / 32 = 6
  · have d3 : (c / 16 == 14) = false := by rw [beq_eq_false_iff_ne]; omega
    have d4 : (c / 8 == 30) = false := by rw [beq_eq_false_iff_ne]; omega
    simp only [c2, d3, d4, beq_self_eq_true, Bool.true_and, Bool.false_and, Bool.false_eq_true, if_false]
    cases q1
    · simp only [Bool.false_eq_true, if_false]
      rw [broken _ _ _ (by omega) (by omega) (by omega) (by omega)]
      rfl
    · simp only [if_true]
      by_cases h : (c % 32) * 64 + m1 ≥ 128
      · rw [if_pos h]
        unfold oneP
        rw [if_neg (by omega), if_pos (by omega)]
        simp only [Prod.mk.injEq, true_and]
        refine ⟨by omega, by omega, ?_⟩
        simp
      · rw [if_neg h, broken _ _ _ (by omega) (by omega) (by omega) (by omega)]
        rfl
  have d2 : (c / 32 == 6) = false := by rw [beq_eq_false_iff_ne]; exact c2
  by_cases c3 : c / 16 = 14
  · have d4 : (c / 8 == 30) = false := by rw [beq_eq_false_iff_ne]; omega
    generalize (if q3 = true then ((m3 : Nat) : Int) else -1) = z3
    simp only [d2, c3, d4, beq_self_eq_true, Bool.true_and, Bool.false_and, Bool.false_eq_true, if_false]
    cases q1
    · simp only [Bool.false_eq_true, if_false, Bool.false_and]
      rw [broken _ _ _ (by omega) (by omega) (by omega) (by omega)]
      rfl
    · cases q2
      · simp only [Bool.false_eq_true, if_false, Bool.and_false, if_true]
        rw [broken _ _ _ (by omega) (by omega) (by omega) (by omega)]
        rfl
      · simp only [if_true, Bool.and_self]
        have hv := valid_iff ((c % 16) * 4096 + m1 * 64 + m2)
        by_cases h : (c % 16) * 4096 + m1 * 64 + m2 ≥ 2048 ∧ ((c % 16) * 4096 + m1 * 64 + m2 < 55296 ∨ (57344 ≤ (c % 16) * 4096 + m1 * 64 + m2 ∧ (c % 16) * 4096 + m1 * 64 + m2 ≤ 1114111))
        · rw [if_pos (by rw [Bool.and_eq_true, decide_eq_true_eq]; exact ⟨h.1, hv.2 h.2⟩)]
          unfold oneP
          rw [if_neg (by omega), if_neg (by omega), if_pos (by omega)]
          simp only [Prod.mk.injEq, true_and]
          refine ⟨by omega, by omega, ?_⟩
          simp
        · rw [if_neg (by rw [Bool.and_eq_true, decide_eq_true_eq, hv]; exact h), broken _ _ _ (by omega) (by omega) (by omega) (by omega)]
          rfl
  have d3 : (c / 16 == 14) = false := by rw [beq_eq_false_iff_ne]; exact c3
  by_cases c4 : c / 8 = 30
  · simp only [d2, d3, c4, beq_self_eq_true, Bool.true_and, Bool.false_and, Bool.false_eq_true, if_false]
    cases q1
    · simp only [Bool.false_eq_true, if_false, Bool.false_and]
      rw [broken _ _ _ (by omega) (by omega) (by omega) (by omega)]
      rfl
    · cases q2
      · simp only [Bool.false_eq_true, if_false, Bool.and_false, if_true, Bool.false_and]
        rw [broken _ _ _ (by omega) (by omega) (by omega) (by omega)]
        rfl
      · cases q3
        · simp only [Bool.false_eq_true, if_false, Bool.and_false, if_true]
          rw [broken _ _ _ (by omega) (by omega) (by omega) (by omega)]
          rfl
        · simp only [if_true, Bool.and_self]
          have hv := valid_iff ((c % 8) * 262144 + m1 * 4096 + m2 * 64 + m3)
          by_cases h : (c % 8) * 262144 + m1 * 4096 + m2 * 64 + m3 ≥ 65536 ∧ ((c % 8) * 262144 + m1 * 4096 + m2 * 64 + m3 < 55296 ∨ (57344 ≤ (c % 8) * 262144 + m1 * 4096 + m2 * 64 + m3 ∧ (c % 8) * 262144 + m1 * 4096 + m2 * 64 + m3 ≤ 1114111))
          · rw [if_pos (by rw [Bool.and_eq_true, decide_eq_true_eq]; exact ⟨h.1, hv.2 h.2⟩)]
            unfold oneP
            rw [if_neg (by omega), if_neg (by omega), if_neg (by omega), if_pos (by omega)]
            simp only [Prod.mk.injEq, true_and]
            refine ⟨by omega, by omega, ?_⟩
            simp
          · rw [if_neg (by rw [Bool.and_eq_true, decide_eq_true_eq, hv]; exact h), broken _ _ _ (by omega) (by omega) (by omega) (by omega)]
            rfl
  have d4 : (c / 8 == 30) = false := by rw [beq_eq_false_iff_ne]; exact c4
  simp only [d2, d3, d4, Bool.false_and, Bool.false_eq_true, if_false]
  rw [broken _ _ _ (by omega) (by omega) (by omega) (by omega)]
  rfl

theorem one_dec (s : ByteArray) (i : Nat) :
    oneP i (by_ s i) (tl s (i + 1)) (tl s (i + 2)) (tl s (i + 3)) = ((i : Int), ((Utf8.decode s i).2 : Int), ((Utf8.decode s i).1 : Int), ((Utf8.decode s i).1 == 65533 && (Utf8.decode s i).2 == 1)) := by
  rw [tl_by, tl_by, tl_by, dec_by]
  exact one_bytes _ _ _ _ _ _ _ _ (by_lt s i)

theorem one_f (s : ByteArray) (i : Nat) (h : i < s.size) (hs : s.size ≤ 140737488351232) (k : Nat) (hk : 4 ≤ k) :
    rondelref06_one.f k s (i : Int) = some ((i : Int), ((Utf8.decode s i).2 : Int), ((Utf8.decode s i).1 : Int), ((Utf8.decode s i).1 == 65533 && (Utf8.decode s i).2 == 1)) := by
  rw [one_p s i h hs k hk, one_dec]

/-- A sign as the reference has it. -/
def rs (x : Sg) : S47 := ⟨x.at_, x.n, x.r, x.brk⟩

theorem signs_l0 (s : ByteArray) (hs : s.size ≤ 140737488351232) : ∀ i, ∀ (acc : List S47) (k : Nat), i ≤ s.size → acc.length + (s.size - i) < 4398046511104 → (s.size - i) + 5 ≤ k → rondelref06_Signs.l0 k s acc (i : Int) = some (acc ++ (sgs s i).map rs) := by
  apply along s
  · intro i h acc k hi hl hk
    obtain ⟨k, rfl⟩ : ∃ m, k = m + 1 := ⟨k - 1, by omega⟩
    simp only [rondelref06_Signs.l0]
    rw [if_neg (by omega), sgs_end s i h]
    simp
  · intro i h ih acc k hi hl hk
    obtain ⟨k, rfl⟩ : ∃ m, k = m + 1 := ⟨k - 1, by omega⟩
    have h1 := dec_pos s i h
    have h2 := dec_fits s i h
    simp only [rondelref06_Signs.l0]
    rw [if_pos (by omega), one_f s i h hs k (by omega)]
    simp only [Option.bind_some]
    rw [if_pos (by omega), w64 (by omega)]
    have := ih (acc ++ [rs ⟨i, (Utf8.decode s i).2, (Utf8.decode s i).1⟩]) k h2 (by simp; omega) (by omega)
    rw [sgs_step s i h, List.map_cons, ← List.singleton_append (l := List.map rs _), ← List.append_assoc]
    exact this

theorem signs_f (s : ByteArray) (hs : s.size < 4398046511104) : ∃ k, rondelref06_Signs.f k s = some ((sgs s 0).map rs) := by
  refine ⟨s.size + 5, ?_⟩
  unfold rondelref06_Signs.f
  have := signs_l0 s (by omega) 0 [] (s.size + 5) (by omega) (by simp; omega) (by omega)
  simpa using this

end Go.Proofs.YtpmhbfelhjpalaaDoor.TRM

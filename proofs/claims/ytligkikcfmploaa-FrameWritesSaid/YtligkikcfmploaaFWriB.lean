/- May, Write, Same of both sides: their answers in plain words. -/
import Derived.Test.YtligkikcfmploaaFRead
import Derived.Test.YtligkikcfmploaaPFrameWritesx
namespace Go.Proofs.Ytligkikcfmploaa.FP
open Go.RowKit Go.Proofs.YtligkikcfmploaaW.PrintWords Go.Proofs.YtligkikcfmploaaW.PrintLast Go.Proofs.YtligkikcfmploaaW.PrintMore
open Go.Proofs.Ytligkikcfmploaa.Base
set_option linter.unusedVariables false
set_option linter.unusedSimpArgs false

/-- Whether a message may be. -/
def mayB (op id : Int) (l : List Int) : Bool := decide (0 ≤ op ∧ op < 256 ∧ 0 ≤ id ∧ id < 4294967296 ∧ (l.length : Int) ≤ 4096)
theorem mayB_iff (op id : Int) (l : List Int) : mayB op id l = true ↔ (0 ≤ op ∧ op < 256 ∧ 0 ≤ id ∧ id < 4294967296 ∧ (l.length : Int) ≤ 4096) := by unfold mayB; exact decide_eq_true_iff
/-- A message's bytes; none, if it may not be. -/
def wrB (op id : Int) (l : List Int) : List Int := if mayB op id l = true then frameBytes op id l else []
/-- Its error. -/
def wrE (op id : Int) (l : List Int) : Int := if mayB op id l = true then 0 else 1

theorem may_own (op id : Int) (l : List Int) : PFrameWrites.frame_May.f op id l = some (mayB op id l) := by
  unfold PFrameWrites.frame_May.f mayB
  by_cases h1 : op ≥ 0
  · by_cases h2 : op ≤ 255
    · by_cases h3 : id ≥ 0
      · by_cases h4 : id ≤ 4294967295
        · rw [if_pos h1, if_pos h2, if_pos h3, if_pos h4]
          congr 1
          rw [decide_eq_decide]
          omega
        · rw [if_pos h1, if_pos h2, if_pos h3, if_neg h4, decide_eq_false (by omega)]
      · rw [if_pos h1, if_pos h2, if_neg h3, decide_eq_false (by omega)]
    · rw [if_pos h1, if_neg h2, decide_eq_false (by omega)]
  · rw [if_neg h1, decide_eq_false (by omega)]
theorem may_ref (op id : Int) (l : List Int) : PFrameWrites.rondelref07_May.f op id l = some (mayB op id l) := by
  unfold PFrameWrites.rondelref07_May.f mayB
  by_cases h1 : op ≥ 0
  · by_cases h2 : op < 256
    · by_cases h3 : id ≥ 0
      · by_cases h4 : id < 4294967296
        · rw [if_pos h1, if_pos h2, if_pos h3, if_pos h4]
          congr 1
          rw [decide_eq_decide]
          omega
        · rw [if_pos h1, if_pos h2, if_pos h3, if_neg h4, decide_eq_false (by omega)]
      · rw [if_pos h1, if_pos h2, if_neg h3, decide_eq_false (by omega)]
    · rw [if_pos h1, if_neg h2, decide_eq_false (by omega)]
  · rw [if_neg h1, decide_eq_false (by omega)]

theorem write_own (op id : Int) (l : List Int) : PFrameWrites.frame_Write.f op id l = some (wrB op id l, wrE op id l) := by
  unfold PFrameWrites.frame_Write.f wrB wrE
  rw [may_own]
  simp only [Option.bind_some]
  by_cases h : mayB op id l = true
  · rw [if_pos h, if_pos h, if_pos h]
    rw [mayB_iff] at h
    rw [show wrap64 (7 + (l.length : Int)) = 7 + (l.length : Int) from IntWalk.wrap64_in _ (by omega), if_pos (by simp; omega)]
    unfold frameBytes
    rw [show (7 + (l.length : Int)) / 256 % 256 = (7 + (l.length : Int)) / 256 from by omega, show op % 256 = op from by omega, show id / 16777216 % 256 = id / 16777216 from by omega]
  · rw [if_neg h, if_neg h, if_neg h]
theorem tdiv_pos {a b : Int} (h : 0 ≤ a) : Int.tdiv a b = a / b := Int.tdiv_eq_ediv_of_nonneg h
theorem tmod_pos {a b : Int} (h : 0 ≤ a) : Int.tmod a b = a % b := Int.tmod_eq_emod_of_nonneg h
theorem write_ref (op id : Int) (l : List Int) : PFrameWrites.rondelref07_Write.f op id l = some (wrB op id l, wrE op id l) := by
  unfold PFrameWrites.rondelref07_Write.f wrB wrE
  rw [may_ref]
  simp only [Option.bind_some]
  by_cases h : mayB op id l = true
  · rw [if_pos h, if_pos h, if_pos h]
    rw [mayB_iff] at h
    rw [show wrap64 (7 + (l.length : Int)) = 7 + (l.length : Int) from IntWalk.wrap64_in _ (by omega), if_pos (by simp; omega)]
    rw [tdiv_pos (a := 7 + (l.length : Int)) (by omega), tdiv_pos (a := id) (by omega), tdiv_pos (a := id) (by omega), tdiv_pos (a := id) (by omega), tmod_pos (a := 7 + (l.length : Int)) (by omega), tmod_pos (a := id) (by omega)]
    rw [show wrap64 ((7 + (l.length : Int)) / 256) = (7 + (l.length : Int)) / 256 from IntWalk.wrap64_in _ (by omega), show wrap64 (id / 16777216) = id / 16777216 from IntWalk.wrap64_in _ (by omega), show wrap64 (id / 65536) = id / 65536 from IntWalk.wrap64_in _ (by omega), show wrap64 (id / 256) = id / 256 from IntWalk.wrap64_in _ (by omega)]
    rw [tmod_pos (a := id / 65536) (by omega), tmod_pos (a := id / 256) (by omega)]
    unfold frameBytes
    rw [show (7 + (l.length : Int)) / 256 % 256 = (7 + (l.length : Int)) / 256 from by omega, show op % 256 = op from by omega, show id / 16777216 % 256 = id / 16777216 from by omega, show (7 + (l.length : Int)) % 256 % 256 = (7 + (l.length : Int)) % 256 from by omega, show id / 65536 % 256 % 256 = id / 65536 % 256 from by omega, show id / 256 % 256 % 256 = id / 256 % 256 from by omega, show id % 256 % 256 = id % 256 from by omega]
  · rw [if_neg h, if_neg h, if_neg h]
theorem wr_good {op id : Int} {l : List Int} (h1 : 0 ≤ op ∧ op < 256) (h2 : 0 ≤ id ∧ id < 4294967296) (h3 : l.length ≤ 4096) : wrB op id l = frameBytes op id l ∧ wrE op id l = 0 := by
  have h : mayB op id l = true := by rw [mayB_iff]; omega
  unfold wrB wrE
  rw [if_pos h, if_pos h]
  exact ⟨rfl, rfl⟩

theorem same_ref (a b : Int) (l : List Int) : PFrameWrites.rondelref07_Same.f a b l a b l = some true := by
  unfold PFrameWrites.rondelref07_Same.f
  rw [if_pos rfl, if_pos rfl]
  congr 1
  rw [beq_iff_eq]
theorem equal_l0 (l : List Int) (hl : l.length ≤ 100000) : ∀ (d i k : Nat), l.length - i = d → i ≤ l.length → d < k → PFrameWrites.slices_Equal_byte_byte.l0 k l l (l.length : Int) (i : Int) = some true := by
  intro d
  induction d with
  | zero =>
    intro i k hd hi hk
    obtain ⟨k, rfl⟩ : ∃ m, k = m + 1 := ⟨k - 1, by omega⟩
    simp only [PFrameWrites.slices_Equal_byte_byte.l0]
    rw [if_neg (by omega)]
  | succ d ih =>
    intro i k hd hi hk
    obtain ⟨k, rfl⟩ : ∃ m, k = m + 1 := ⟨k - 1, by omega⟩
    simp only [PFrameWrites.slices_Equal_byte_byte.l0]
    rw [if_pos (by omega), if_pos (by omega), if_pos (by omega), if_pos (by omega), if_pos (by trivial), show wrap64 ((i : Int) + 1) = ((i + 1 : Nat) : Int) from IntWalk.wrap64_in _ (by omega)]
    exact ih (i + 1) k (by omega) (by omega) (by omega)
theorem same_own (a b : Int) (l : List Int) (hl : l.length ≤ 100000) : PFrameWrites.frame_Same.f (l.length + 1) a b l a b l = some true := by
  unfold PFrameWrites.frame_Same.f PFrameWrites.slices_Equal_byte_byte.f
  have h := equal_l0 l hl l.length 0 (l.length + 1) (by omega) (by omega) (by omega)
  rw [show ((0 : Nat) : Int) = 0 from rfl] at h
  rw [if_pos rfl, if_pos rfl, if_pos rfl, h]
  rfl

/-- 'string(b)', where the bytes lie in every world that keeps them. -/
theorem str_of_R {w : World} {base : Nat} {ok : Nat → Prop} {v : Value} {xs : List Int} (h : (Kd.int .u8).R 5 w base ok v xs) :
    ∃ A c, v = .slice A xs.length c ∧ ∀ w1, Below w.heap.size w w1 → (convert 22 9 (.slice A xs.length c)).run Try.prog w1 = .ok (.string (strOfNums xs)) w1 := by
  obtain ⟨A, c, hv⟩ := Kd.R_slice h
  subst hv
  refine ⟨A, c, rfl, fun w1 hb => ?_⟩
  have ho := Kd.own_of_R (Kd.R_below h hb)
  exact own_string (e' := 5) (e := 5) Try.underlying22 Try.underlying5 Try.underlying9 ho

end Go.Proofs.Ytligkikcfmploaa.FP

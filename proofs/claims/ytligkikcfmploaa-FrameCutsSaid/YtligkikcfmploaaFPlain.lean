/- A message's bytes, in plain words: number, Read, Split. -/
import Derived.Test.YtligkikcfmploaaBase
import Derived.Laws.BitsLemmas
namespace Go.Proofs.Ytligkikcfmploaa.FP
open Go.RowKit Go.Proofs.YtligkikcfmploaaW.PrintWords Go.Proofs.YtligkikcfmploaaW.PrintLast Go.Proofs.YtligkikcfmploaaW.PrintMore
open Go.Proofs.Ytligkikcfmploaa.PFrameCuts Go.Proofs.Ytligkikcfmploaa.Base
set_option linter.unusedVariables false

theorem w64 {x : Int} (h : -9223372036854775808 ≤ x ∧ x ≤ 9223372036854775807) : wrap64 x = x := IntWalk.wrap64_in x h

/-- These numbers are bytes. -/
def Bd (l : List Int) : Prop := ∀ b ∈ l, 0 ≤ b ∧ b < 256
theorem Bd.take {l : List Int} (h : Bd l) (n : Nat) : Bd (l.take n) := fun b hb => h b (List.mem_of_mem_take hb)
theorem Bd.drop {l : List Int} (h : Bd l) (n : Nat) : Bd (l.drop n) := fun b hb => h b (List.mem_of_mem_drop hb)
theorem Bd.app {l m : List Int} (h : Bd l) (k : Bd m) : Bd (l ++ m) := fun b hb => (List.mem_append.1 hb).elim (h b) (k b)
theorem Bd.at_ {l : List Int} (h : Bd l) (i : Nat) : 0 ≤ l.getD i 0 ∧ l.getD i 0 < 256 := by
  rw [List.getD_eq_getElem?_getD]
  rcases Nat.lt_or_ge i l.length with hi | hi
  · rw [List.getElem?_eq_getElem hi]; exact h _ (List.getElem_mem _)
  · rw [List.getElem?_eq_none hi]; exact ⟨by decide, by decide⟩

theorem or_byte (x c : Int) (h0 : 0 ≤ x) (h1 : x < 18014398509481984) (h2 : 0 ≤ c) (h3 : c < 256) : Go.bits .or .i64 (x * 256) c = x * 256 + c :=
  bits_join .i64 62 (by decide) (fun n hn hn2 => IntWalk.i64_in n (by omega)) 8 (x * 256) c (by omega) (by omega) (by omega) h2 (by omega) (by omega)

/-- A number of bytes. -/
def num : Int → List Int → Int
  | n, [] => n
  | n, c :: l => num (n * 256 + c) l

theorem number_l0 (l : List Int) (hb : Bd l) (hl : l.length ≤ 4) : ∀ (d i : Nat) (n : Int) (k : Nat), l.length - i = d → i ≤ l.length → 0 ≤ n → n < 256 ^ i → d + 1 ≤ k → frame_number.l0 k n l (l.length : Int) (i : Int) = some (num n (l.drop i)) := by
  intro d
  induction d with
  | zero =>
    intro i n k hd hi h0 h1 hk
    obtain ⟨k, rfl⟩ : ∃ m, k = m + 1 := ⟨k - 1, by omega⟩
    simp only [frame_number.l0]
    rw [if_neg (by omega), List.drop_of_length_le (by omega)]
    rfl
  | succ d ih =>
    intro i n k hd hi h0 h1 hk
    obtain ⟨k, rfl⟩ : ∃ m, k = m + 1 := ⟨k - 1, by omega⟩
    have hil : i < l.length := by omega
    have hn : n < 16777216 := by
      have : i ≤ 3 := by omega
      have h2 : (256 : Int) ^ i ≤ 256 ^ 3 := by
        rcases (show i = 0 ∨ i = 1 ∨ i = 2 ∨ i = 3 by omega) with rfl | rfl | rfl | rfl <;> decide
      exact Int.lt_of_lt_of_le h1 h2
    have hr : rd l (i : Int) = l[i] := by
      show l.getD (i : Int).toNat 0 = _
      rw [Int.toNat_natCast, List.getD_eq_getElem?_getD, List.getElem?_eq_getElem hil, Option.getD_some]
    have hc := hb _ (List.getElem_mem hil)
    simp only [frame_number.l0]
    rw [if_pos (by omega), if_pos (by omega), if_pos (by omega), hr, w64 (x := n * 256) (by omega), w64 (x := l[i]) (by omega), or_byte n l[i] h0 (by omega) hc.1 hc.2, show wrap64 ((i : Int) + 1) = ((i + 1 : Nat) : Int) from w64 (by omega), List.drop_eq_getElem_cons hil, num]
    refine ih (i + 1) _ k (by omega) (by omega) (by omega) ?_ (by omega)
    rw [Int.pow_succ]
    omega
theorem number_f (l : List Int) (hb : Bd l) (hl : l.length ≤ 4) : frame_number.f (l.length + 1) l = some (num 0 l) := by
  have := number_l0 l hb hl l.length 0 0 (l.length + 1) (by omega) (by omega) (by omega) (by decide) (by omega)
  rw [List.drop_zero] at this
  exact this

/-- How many bytes a message says that it has. -/
def len2 (l : List Int) : Int := l.getD 0 0 * 256 + l.getD 1 0
/-- A message's Id. -/
def id4 (l : List Int) : Int := l.getD 3 0 * 16777216 + l.getD 4 0 * 65536 + l.getD 5 0 * 256 + l.getD 6 0
/-- The error, or 0. -/
def rerr (l : List Int) : Int := if l.length < 2 then 3 else if len2 l < 7 ∨ 4103 < len2 l then 2 else if (l.length : Int) < len2 l then 3 else 0

theorem drop_cons {l : List Int} {i : Nat} (h : i < l.length) : l.drop i = l.getD i 0 :: l.drop (i + 1) := by
  rw [List.drop_eq_getElem_cons h, List.getD_eq_getElem?_getD, List.getElem?_eq_getElem h, Option.getD_some]
theorem num_len {l : List Int} (h : 2 ≤ l.length) : num 0 (l.take 2) = len2 l := by
  have e : l.take 2 = [l.getD 0 0, l.getD 1 0] := by
    match l, h with
    | a :: b :: l, _ => rfl
  rw [e]
  simp only [num, len2]
  omega
theorem num_id {l : List Int} (h : 7 ≤ l.length) : num 0 ((l.take 7).drop 3) = id4 l := by
  have e : (l.take 7).drop 3 = [l.getD 3 0, l.getD 4 0, l.getD 5 0, l.getD 6 0] := by
    match l, h with
    | _ :: _ :: _ :: a :: b :: c :: d :: l, _ => rfl
  rw [e]
  simp only [num, id4]
  omega
theorem len2_bd {l : List Int} (h : Bd l) : 0 ≤ len2 l ∧ len2 l < 65536 := by
  have h0 := h.at_ 0
  have h1 := h.at_ 1
  unfold len2
  omega
theorem id4_bd {l : List Int} (h : Bd l) : 0 ≤ id4 l ∧ id4 l < 4294967296 := by
  have h0 := h.at_ 3
  have h1 := h.at_ 4
  have h2 := h.at_ 5
  have h3 := h.at_ 6
  unfold id4
  omega

/-- What is read of a message's own bytes, whatever lies behind. -/
theorem frameBytes_bd (op id : Int) (b : List Int) (h1 : 0 ≤ op ∧ op < 256) (h2 : 0 ≤ id ∧ id < 4294967296) (h3 : b.length ≤ 4096) (hb : Bd b) : Bd (frameBytes op id b) := by
  intro x hx
  unfold frameBytes at hx
  rcases List.mem_append.1 hx with hx | hx
  · simp only [List.mem_cons, List.not_mem_nil, or_false] at hx
    rcases hx with rfl | rfl | rfl | rfl | rfl | rfl | rfl <;> omega
  · exact hb x hx
theorem len2_frame (op id : Int) (b t : List Int) : len2 (frameBytes op id b ++ t) = 7 + (b.length : Int) := by
  show (7 + (b.length : Int)) / 256 * 256 + (7 + (b.length : Int)) % 256 = _
  omega
theorem id4_frame (op id : Int) (b t : List Int) (h2 : 0 ≤ id ∧ id < 4294967296) : id4 (frameBytes op id b ++ t) = id := by
  show id / 16777216 * 16777216 + id / 65536 % 256 * 65536 + id / 256 % 256 * 256 + id % 256 = id
  omega
theorem op_frame (op id : Int) (b t : List Int) : (frameBytes op id b ++ t).getD 2 0 = op := rfl
theorem body_frame (op id : Int) (b t : List Int) : ((frameBytes op id b ++ t).take (7 + b.length)).drop 7 = b := by
  have e : (frameBytes op id b ++ t).take (7 + b.length) = frameBytes op id b := by
    rw [List.take_append_of_le_length (by rw [frameBytes_length]; exact Nat.le_refl _), List.take_of_length_le (by rw [frameBytes_length]; exact Nat.le_refl _)]
  rw [e]
  rfl
theorem rerr_frame (op id : Int) (b t : List Int) (h3 : b.length ≤ 4096) : rerr (frameBytes op id b ++ t) = 0 := by
  have hl : (frameBytes op id b ++ t).length = 7 + b.length + t.length := by rw [List.length_append, frameBytes_length]
  unfold rerr
  rw [len2_frame, hl, if_neg (by omega), if_neg (by omega), if_neg (by omega)]

end Go.Proofs.Ytligkikcfmploaa.FP

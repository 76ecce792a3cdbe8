/- Contracts of the reference's Few and Good (chapter 7) at slices that came in: they write nothing. -/
import Derived.Test.YtligkikcfmploaaPFrameCutsx1
import Derived.Test.YtligkikcfmploaaPFrameCutsx2
namespace Go.Proofs.Ytligkikcfmploaa.Base
open Go.RowKit Go.Proofs.YtligkikcfmploaaW.PrintWords Go.Proofs.YtligkikcfmploaaW.PrintLast Go.Proofs.YtligkikcfmploaaW.PrintMore
open Go.Proofs.Ytligkikcfmploaa.PFrameCuts
attribute [local go_sem] max2_int min2_int max_two min_two max_three min_three max_four min_four
set_option linter.unusedVariables false
set_option linter.unusedSimpArgs false

set_option maxHeartbeats 400000 in
theorem few_calls (A : Option Addr) (c : Nat) (l : List Int) (m : Int) (w : World) (hm : 0 ≤ m) (hc : l.length ≤ c) :
    Calls Try.prog 16 #[.slice A l.length c, .int .i64 m] w fun e w' => e = .returned (.slice A (l.take m.toNat).length c) ∧ w = w' := by
  by_cases h : m < (l.length : Int)
  · have hl : (l.take m.toNat).length = m.toNat := by rw [List.length_take]; omega
    have h1 : decide (m < (l.length : Int)) = true := decide_eq_true h
    obtain ⟨i0, hi, _, hsz, _⟩ := info_parts info5
    have hcut := cut_to (P := Try.prog) 22 5 .i64 Try.underlying22 hi A l.length c m hm (by omega) hc
    have Hl := Aside0.mk hl
    clear hi hsz hl
    go_enter Try.func16, Try.ntmps16
    go_wp2
    go_ret
    exact ⟨by first | (rw [Hl.out]; rfl) | rfl, rfl⟩
  · have hl : l.take m.toNat = l := List.take_of_length_le (by omega)
    have h1 : decide (m < (l.length : Int)) = false := decide_eq_false h
    have Hl := Aside0.mk hl
    clear hl
    go_enter Try.func16, Try.ntmps16
    go_wp2
    go_ret
    exact ⟨by first | (rw [Hl.out]; rfl) | rfl, rfl⟩

/-- What Good makes of a number: its rest, without its sign. -/
def gd (x n : Int) : Int := mx (Int.tmod x n) (wrap64 (-(Int.tmod x n)))

theorem gd_spec (x n : Int) (h : 0 < n) (hn : n ≤ 4294967296) : 0 ≤ gd x n ∧ gd x n < n := by
  have h1 : -n < Int.tmod x n := by
    have := Int.lt_tmod_of_pos x h
    omega
  have h2 : Int.tmod x n < n := Int.tmod_lt_of_pos x h
  unfold gd mx
  rw [show wrap64 (-(Int.tmod x n)) = -(Int.tmod x n) from IntWalk.wrap64_in _ (by omega)]
  split <;> omega

set_option maxHeartbeats 400000 in
theorem good_calls (op id : Int) (A : Option Addr) (c : Nat) (l : List Int) (m : Int) (w : World) (hm : 0 ≤ m) (hc : l.length ≤ c) :
    Calls Try.prog 9 #[.agg #[.int .i64 op, .int .i64 id, .slice A l.length c], .int .i64 m] w fun e w' => e = .returned (.agg #[.int .i64 (gd op 256), .int .i64 (gd id 4294967296), .slice A (l.take m.toNat).length c]) ∧ Below w.heap.size w w' := by
  have hu24 := Try.underlying24
  obtain ⟨o1, ho1⟩ : ∃ y, gd op 256 = y := ⟨_, rfl⟩
  obtain ⟨o2, ho2⟩ : ∃ y, gd id 4294967296 = y := ⟨_, rfl⟩
  have ho1_ : (if (Int.tmod op 256) < (wrap64 (-(Int.tmod op 256))) then (wrap64 (-(Int.tmod op 256))) else (Int.tmod op 256)) = o1 := ho1
  have ho2_ : (if (Int.tmod id 4294967296) < (wrap64 (-(Int.tmod id 4294967296))) then (wrap64 (-(Int.tmod id 4294967296))) else (Int.tmod id 4294967296)) = o2 := ho2
  have H1 := Aside0.mk ho1
  have H2 := Aside0.mk ho2
  clear ho1 ho2
  go_enter Try.func9, Try.ntmps9
  go_wp2_with ((go_at_call 16; refine (few_calls A c l m _ hm hc).mono ?_; rintro e w1 ⟨rfl, rfl⟩))
  refine bodyPost_ret (v := .agg #[.int .i64 o1, .int .i64 o2, .slice A (l.take m.toNat).length c]) (by simp [results, Try.results9, go_sem]) rfl ⟨by rw [H1.out, H2.out], ?_⟩
  exact ((Below.refl _ _).alloc (Nat.le_refl _) _).alloc (by simp) _

/-- What Around makes of a number. -/
def ar (a b : Int) : Int := if a < 0 then Int.tmod (wrap64 (-(wrap64 (a + 1)))) b else Int.tmod a b
theorem ar_spec (a b : Int) (hb : 0 < b) (h : -9223372036854775808 ≤ a ∧ a ≤ 9223372036854775807) : 0 ≤ ar a b ∧ ar a b < b := by
  unfold ar
  split
  · rw [show wrap64 (a + 1) = a + 1 from IntWalk.wrap64_in _ (by omega), show wrap64 (-(a + 1)) = -(a + 1) from IntWalk.wrap64_in _ (by omega)]
    exact ⟨Int.tmod_nonneg _ (by omega), Int.tmod_lt_of_pos _ hb⟩
  · exact ⟨Int.tmod_nonneg _ (by omega), Int.tmod_lt_of_pos _ hb⟩
theorem around_calls (a b : Int) (w : World) (hb : 0 < b) : Calls Try.prog 10 #[.int .i64 a, .int .i64 b] w fun e w' => e = .returned (.int .i64 (ar a b)) ∧ ∃ k, w' = w.drewN k := by
  refine (rondelref01_Around.calls a b (ar a b) w ?_).mono ?_
  · unfold rondelref01_Around.f ar
    by_cases h : a < 0
    · rw [if_pos h, if_pos h, if_neg (by omega)]
    · rw [if_neg h, if_neg h, if_neg (by omega)]
  · rintro e w' ⟨rfl, h⟩
    exact ⟨rfl, h.out⟩

/-- A message's bytes: how many there are (two), its Op, its Id (four), its Body. -/
def frameBytes (op id : Int) (l : List Int) : List Int :=
  [(7 + (l.length : Int)) / 256, (7 + (l.length : Int)) % 256, op, id / 16777216, id / 65536 % 256, id / 256 % 256, id % 256] ++ l
theorem frameBytes_length (op id : Int) (l : List Int) : (frameBytes op id l).length = 7 + l.length := by simp [frameBytes]; omega
theorem may_f (op id : Int) (l : List Int) (h1 : 0 ≤ op ∧ op < 256) (h2 : 0 ≤ id ∧ id < 4294967296) (h3 : l.length ≤ 4096) : frame_May.f op id l = some true := by
  unfold frame_May.f
  rw [if_pos (by omega), if_pos (by omega), if_pos (by omega), if_pos (by omega), decide_eq_true (by omega)]
theorem write_f (op id : Int) (l : List Int) (h1 : 0 ≤ op ∧ op < 256) (h2 : 0 ≤ id ∧ id < 4294967296) (h3 : l.length ≤ 4096) : frame_Write.f op id l = some (frameBytes op id l, 0) := by
  unfold frame_Write.f
  rw [may_f op id l h1 h2 h3]
  simp only [Option.bind_some, if_true]
  rw [show wrap64 (7 + (l.length : Int)) = 7 + (l.length : Int) from IntWalk.wrap64_in _ (by omega), if_pos (by simp; omega)]
  unfold frameBytes
  rw [show (7 + (l.length : Int)) / 256 % 256 = (7 + (l.length : Int)) / 256 from by omega, show op % 256 = op from by omega, show id / 16777216 % 256 = id / 16777216 from by omega]
theorem write_calls (op id : Int) (A : Option Addr) (n c : Nat) (l : List Int) (w : World) (hC : Kd.C (Kd.int .u8) w A n l) (hc : n ≤ c) (h1 : 0 ≤ op ∧ op < 256) (h2 : 0 ≤ id ∧ id < 4294967296) (h3 : l.length ≤ 4096) :
    Calls Try.prog 11 #[.agg #[.int .i64 op, .int .i64 id, .slice A n c]] w fun e w' => ∃ v, e = .returned (.tuple #[v, .int .i64 0]) ∧ Kd.R (Kd.int .u8) 5 w' w.heap.size (fun _ => True) v (frameBytes op id l) ∧ Below w.heap.size w w' := by
  obtain rfl : l.length = n := hC.1
  exact frame_Write.calls op id A c l (frameBytes op id l) 0 w hC hc (write_f op id l h1 h2 h3)

theorem lives_f : rondellaw07_lives.f = some true := by kernel_rfl
theorem lives_calls (w : World) : Calls Try.prog 12 #[] w fun e w' => e = .returned (.bool true) ∧ Below w.heap.size w w' := rondellaw07_lives.calls true w lives_f

/-- The cells of a block of three. -/
theorem cells3 {w : World} {B : Nat} {t : TypeId} {a b c : Value} (h : w.heap[B]? = some (.cells #[a, b, c] t (0, 0))) :
    w.cell? ⟨B, 0, none⟩ = some a ∧ w.cell? ⟨B, 1, none⟩ = some b ∧ w.cell? ⟨B, 2, none⟩ = some c ∧ w.frozen? ⟨B, 0, none⟩ = false ∧ w.frozen? ⟨B, 1, none⟩ = false ∧ w.frozen? ⟨B, 2, none⟩ = false :=
  ⟨blk_cell h 0, blk_cell h 1, blk_cell h 2, blk_frozen h 0, blk_frozen h 1, blk_frozen h 2⟩

end Go.Proofs.Ytligkikcfmploaa.Base

/- First: the first frame that shows a change. -/
import Derived.Test.YtccpclkmackghaaSWalkP
namespace Go.Proofs.Ytccpclkmackghaa.SWP
open Go.RowKit Go.Proofs.YtccpclkmackghaaW.PrintWords Go.Proofs.YtccpclkmackghaaW.PrintLast Go.Proofs.YtccpclkmackghaaW.PrintMore
open Go.Proofs.Ytccpclkmackghaa.PStoryPlays Go.Proofs.Ytccpclkmackghaa.SPP
attribute [local go_sem] Oper.semAt_some max2_int min2_int max_two min_two
set_option linter.unusedVariables false
set_option linter.unusedSimpArgs false

/-- The first place whose number is no less, or -1; i places lie ahead. -/
def idxF (k : Int) : Nat → List Int → Int
  | _, [] => -1
  | i, x :: l => if k ≤ x then (i : Int) else idxF k (i + 1) l
theorem idxF_le (k : Int) : ∀ (l : List Int) (i : Nat), (idxF k i l = -1 ∧ ∀ x ∈ l, x < k) ∨ ∃ j, j < l.length ∧ idxF k i l = ((i + j : Nat) : Int) ∧ k ≤ l.getD j 0 ∧ ∀ m, m < j → l.getD m 0 < k
  | [], i => .inl ⟨rfl, fun x hx => by simp at hx⟩
  | x :: l, i => by
    unfold idxF
    by_cases h : k ≤ x
    · rw [if_pos h]
      exact .inr ⟨0, by simp, by simp, by simpa using h, fun m hm => by omega⟩
    · rw [if_neg h]
      rcases idxF_le k l (i + 1) with ⟨h1, h2⟩ | ⟨j, h1, h2, h3, h4⟩
      · refine .inl ⟨h1, fun y hy => ?_⟩
        rcases List.mem_cons.1 hy with rfl | hy
        · omega
        · exact h2 y hy
      · refine .inr ⟨j + 1, by simp; omega, by rw [h2]; omega, by simpa using h3, fun m hm => ?_⟩
        cases m with
        | zero => simp; omega
        | succ m => simpa using h4 m (by omega)

set_option maxHeartbeats 4000000 in
theorem lit_calls (x k : Int) (B : Nat) (W : World) (hk : W.cell? ⟨B, 0, none⟩ = some (.int .i64 k)) :
    Calls Try.prog 36 #[.int .i64 x, .pointer (some ⟨B, 0, none⟩)] W fun e W' => e = .returned (.bool (decide (x ≥ k))) ∧ W' = W := by
  go_enter Try.func36, Try.ntmps36
  go_wp2
  go_ret
  exact ⟨rfl, rfl⟩

set_option maxRecDepth 100000 in
set_option maxHeartbeats 8000000 in
theorem index_func (A : Option Addr) (c : Nat) (l : List Int) (k : Int) (B : Nat) (W : World) (hC : (Kd.int .i64).C W A l.length l) (hl : l.length ≤ 1000000) (hk : W.cell? ⟨B, 0, none⟩ = some (.int .i64 k)) :
    Calls Try.prog 35 #[.slice A l.length c, .func (.func 36) #[] #[.pointer (some ⟨B, 0, none⟩)]] W fun e W' => e = .returned (.int .i64 (idxF k 0 l)) ∧ W' = W := by
  obtain ⟨N, hN⟩ : ∃ N, l.length = N := ⟨_, rfl⟩
  obtain ⟨r, hr⟩ : ∃ r, idxF k 0 l = r := ⟨_, rfl⟩
  have HC := Aside0.mk hC
  have HN := Aside0.mk hN
  have HK := Aside0.mk hk
  rw [hN] at hl ⊢
  rw [hr]
  have HR := Aside0.mk hr
  clear hC hN hr hk
  go_enter Try.func35, Try.ntmps35
  go_wp2_with (fail)
  go_loopw [8] (fun i wr => ∃ (j : Nat), i = .int .i64 j ∧ j ≤ N ∧ Aside0 (wr = W) ∧ Aside0 (idxF k j (l.drop j) = r)) (fun i _ => N - (intOf i).toNat)
  case atStart => exact ⟨0, rfl, by omega, ⟨rfl⟩, ⟨by rw [List.drop_zero]; exact HR.out⟩⟩
  case round =>
    clear HR
    obtain ⟨j, rfl, hj, hW, hR⟩ := hrel
    obtain rfl := hW.out
    clear hW
    by_cases hlt : j < N
    · have hlt' : decide ((j : Int) < (N : Int)) = true := decide_eq_true (by omega)
      have hjl : j < l.length := by rw [HN.out]; exact hlt
      obtain ⟨ad, cs, e, _, hK, hc0⟩ := Kd.C_get HC.out (0 : Int) (j : Int) (by omega) (by omega)
      subst e
      have hdr := List.drop_eq_getElem_cons hjl
      obtain ⟨y, hy⟩ : ∃ y, l[j] = y := ⟨_, rfl⟩
      rw [hy] at hdr
      have h0 : wr.cell? (ad.add j) = some (.int .i64 y) := by
        have e0 : cs = [.int .i64 (l.getD (j : Int).toNat 0)] := hK
        rw [Int.toNat_natCast, List.getD_eq_getElem?_getD, List.getElem?_eq_getElem hjl, Option.getD_some, hy] at e0
        have := hc0 0 (.int .i64 y) (by rw [e0]; rfl)
        rw [show (j : Int).toNat * (Kd.int .i64).sz + 0 = j from by show (j : Int).toNat * 1 + 0 = j; omega] at this
        exact this
      have HDR := Aside0.mk hdr
      have v1 : IntKind.i64.wrap ((j : Int) + 1) = (j : Int) + 1 := IntWalk.i64_in _ (by omega)
      clear hdr hy hjl hK hc0
      go_wp2_with (fail)
      refine (lit_calls y k B _ HK.out).mono ?_
      rintro e W1 ⟨rfl, rfl⟩
      by_cases hky : k ≤ y
      · have b0 : decide (y ≥ k) = true := decide_eq_true hky
        have hR5 := hR.out
        rw [HDR.out, idxF, if_pos hky] at hR5
        subst hR5
        rw [b0]
        clear hky b0
        go_wp2_with (fail)
        go_ret
        exact ⟨rfl, rfl⟩
      · have b0 : decide (y ≥ k) = false := decide_eq_false hky
        have hR5 := hR.out
        rw [HDR.out, idxF, if_neg hky] at hR5
        have HR5 := Aside0.mk hR5
        rw [b0]
        clear hky b0 hR5
        go_wp2_with (fail)
        go_roundw
        case rel => exact ⟨j + 1, by go_num, by omega, ⟨by first | trivial | rfl⟩, HR5⟩
        case measure => simp [intOf]; omega
    · obtain rfl : j = N := by omega
      have hlt2 : decide ((j : Int) < (j : Int)) = false := decide_eq_false (by omega)
      have hR5 := hR.out
      rw [List.drop_of_length_le (by rw [HN.out]; omega), idxF] at hR5
      subst hR5
      clear hlt
      go_wp2_with (fail)
      go_ret
      exact ⟨rfl, rfl⟩

set_option maxHeartbeats 8000000 in
theorem first_calls {W : World} {base g : Nat} {ok : Nat → Prop} {s : PS} (k : Int) (h : St W base g ok s) (hm : Sm s) :
    Calls Try.prog 26 #[.pointer (some ⟨g, 0, none⟩), .int .i64 k] W fun e W' => e = .returned (.tuple #[.int .i64 (idxF k 0 s.f + 1), .bool (decide (idxF k 0 s.f ≥ 0))]) ∧ Below W.heap.size W W' := by
  obtain ⟨A2, c2, A3, c3, hG, hg, hok, h2, h3⟩ := h
  have hG1 := blk_alloc hG (.cells #[.int .i64 k] 3)
  have k3 := blk_cell hG1 3
  have HI := Aside0.mk (index_func A3 c3 s.f k W.heap.size _ (Kd.R_reads' (Kd.R_alloc h3 (.cells #[.int .i64 k] 3))).2.2 hm.f (by have := blk_cell (blk_new W (.cells #[.int .i64 k] 3)) 0; exact this))
  have HB := Aside0.mk (below_alloc (Below.refl W.heap.size W) (.cells #[.int .i64 k] 3))
  obtain ⟨r, hr⟩ : ∃ r, idxF k 0 s.f = r := ⟨_, rfl⟩
  have hle := idxF_le k s.f 0
  rw [hr] at HI hle ⊢
  have hfl := hm.f
  have hr0 : -1 ≤ r ∧ r ≤ 1000000 := by
    rcases hle with ⟨h, _⟩ | ⟨j, h1, h2, _⟩ <;> omega
  have v1 : IntKind.i64.wrap (r + 1) = r + 1 := IntWalk.i64_in _ (by omega)
  obtain ⟨M, hM⟩ : ∃ M, s.f.length = M := ⟨_, rfl⟩
  rw [hM] at k3 HI
  clear hG hG1 hg hok h2 h3 hle hr hM hfl
  go_enter Try.func26, Try.ntmps26
  go_wp2_with (fail)
  refine HI.out.mono ?_
  rintro e W1 ⟨rfl, rfl⟩
  go_wp2_with (fail)
  go_ret2
  exact ⟨rfl, HB.out⟩

end Go.Proofs.Ytccpclkmackghaa.SWP

/- What the three laws call comes to, each by its plain word. -/
import Derived.Test.YtpmhbfelhjpalaaDoorTRefC
import Derived.Test.YtpmhbfelhjpalaaDoorTRefM
import Derived.Test.YtpmhbfelhjpalaaDoorTWalks
import Derived.Test.YtpmhbfelhjpalaaDoorTCln
import Derived.Test.YtpmhbfelhjpalaaDoorTOddP
import Derived.Test.YtpmhbfelhjpalaaDoorPFewx1
import Derived.Test.YtpmhbfelhjpalaaDoorPAroundx1
import Derived.Test.YtpmhbfelhjpalaaDoorPCleanx2
import Derived.Test.YtpmhbfelhjpalaaDoorPMayx2
namespace Go.Proofs.YtpmhbfelhjpalaaDoor.TS
open Go.RowKit Go.Proofs.YtpmhbfelhjpalaaDoorW.PrintWords Go.Proofs.YtpmhbfelhjpalaaDoorW.PrintLast Go.Proofs.YtpmhbfelhjpalaaDoorW.PrintMore
open Go.Proofs.YtpmhbfelhjpalaaDoor.TP Go.Proofs.YtpmhbfelhjpalaaDoor.TJ Go.Proofs.YtpmhbfelhjpalaaDoor.TO
set_option linter.unusedVariables false
set_option linter.unusedSimpArgs false

/-- The document's example, in its bytes. -/
theorem lives_cut : cut ⟨#[230, 151, 165, 230, 156, 172]⟩ 3 = ⟨#[230, 151, 165]⟩ := by
  unfold cut
  rw [if_neg (by omega)]
  have d0 : Utf8.decode ⟨#[230, 151, 165, 230, 156, 172]⟩ 0 = (26085, 3) := by decide +kernel
  have d3 : Utf8.decode ⟨#[230, 151, 165, 230, 156, 172]⟩ 3 = (26412, 3) := by decide +kernel
  have w0 : wd 26085 = 2 := by decide
  have w3 : wd 26412 = 2 := by decide
  rw [cutAt_step _ 0 _ (by decide) (by rw [d0]; dsimp only; rw [w0]; omega), d0]
  dsimp only
  rw [w0, cutAt_stop _ _ _ (by decide) (by rw [d3]; dsimp only; rw [w3]; omega)]
  decide +kernel

set_option maxHeartbeats 400000 in
theorem lives_calls (w : World) : Calls Tryd.prog 11 #[] w fun e w' => e = .returned (.bool true) ∧ Below w.heap.size w w' := by
  have hc := Aside0.mk lives_cut
  go_enter Tryd.func11, Tryd.ntmps11
  go_wp2_with ((go_at_call 21; refine (TW.cut_calls _ 3 _ (by decide) (by omega)).mono ?_; rintro e w1 ⟨rfl, hb⟩; rw [hc.out]))
  go_ret
  exact ⟨rfl, hb⟩

theorem few_f (s : ByteArray) (n : Nat) : PFew.rondelref06_Few.f s (n : Int) = some (s.extract 0 n) := by
  unfold PFew.rondelref06_Few.f
  by_cases h : n < s.size
  · rw [if_pos (by omega), if_pos (by omega), if_pos (by omega)]; simp
  · rw [if_neg (by omega)]
    congr 1
    apply ba_ext
    rw [extract_list]
    simp [List.take_of_length_le, ← size_list, show s.size ≤ n by omega]
theorem few_calls (s : ByteArray) (n : Nat) (w : World) : Calls Tryd.prog 6 #[.string s, .int .i64 n] w fun e w' => e = .returned (.string (s.extract 0 n)) ∧ Below w.heap.size w w' := by
  refine (PFew.rondelref06_Few.calls s n (s.extract 0 n) w (few_f s n)).mono ?_
  rintro e w' ⟨rfl, h⟩
  exact ⟨rfl, h.below⟩
theorem around_calls (n : Int) (hn : -9223372036854775808 ≤ n ∧ n ≤ 9223372036854775807) (w : World) : ∃ m : Nat, m ≤ 100 ∧ Calls Tryd.prog 14 #[.int .i64 n, .int .i64 101] w fun e w' => e = .returned (.int .i64 m) ∧ Below w.heap.size w w' := by
  obtain ⟨m, hm, hf⟩ : ∃ m : Nat, m ≤ 100 ∧ PAround.rondelref01_Around.f n 101 = some (m : Int) := by
    unfold PAround.rondelref01_Around.f
    by_cases h : n < 0
    · rw [if_pos h, if_neg (by omega), IntWalk.wrap64_in (n + 1) (by omega), IntWalk.wrap64_in (-(n + 1)) (by omega), Int.tmod_eq_emod_of_nonneg (by omega)]
      exact ⟨(-(n + 1) % 101).toNat, by omega, by congr 1; omega⟩
    · rw [if_neg h, if_neg (by omega), Int.tmod_eq_emod_of_nonneg (by omega)]
      exact ⟨(n % 101).toNat, by omega, by congr 1; omega⟩
  refine ⟨m, hm, (PAround.rondelref01_Around.calls n 101 m w hf).mono ?_⟩
  rintro e w' ⟨rfl, h⟩
  exact ⟨rfl, h.below⟩
theorem rclean_calls (s : ByteArray) (hs : s.size < 4398046511104) (w : World) : Calls Tryd.prog 8 #[.string s] w fun e w' => e = .returned (.string (clean s)) ∧ Below w.heap.size w w' := by
  obtain ⟨k, hk⟩ := TRC.clean_f s hs
  exact PClean.rondelref06_Clean.calls k s (clean s) w hk

theorem modd_f (r : Nat) : PMay.rondelref06_Odd.f (r : Int) = some (odd r) := by
  unfold PMay.rondelref06_Odd.f odd
  by_cases h1 : r < 32
  · rw [if_pos (by omega)]; simp [h1]
  · rw [if_neg (by omega)]
    by_cases h2 : r = 127
    · rw [if_pos (by omega)]; simp [h2]
    · rw [if_neg (by omega)]
      by_cases h3 : r ≥ 8232
      · rw [if_pos (by omega)]
        have e : decide ((r : Int) ≤ 8238) = decide (r ≤ 8238) := by rw [decide_eq_decide]; omega
        rw [e]
        simp [h1, h2, h3]
      · rw [if_neg (by omega)]
        simp [h1, h2, h3]
theorem mrd_map (l : List Sg) (i : Nat) (h : i < l.length) : PMay.rd_T47 (l.map TRM.rs) (i : Int) = TRM.rs l[i] := by
  unfold PMay.rd_T47
  simp [List.getElem?_map, List.getElem?_eq_getElem h]
theorem may_l0 (l : List Sg) (hl : l.length ≤ 9223372036854775806) : ∀ (d i : Nat), l.length - i ≤ d → i ≤ l.length →
    PMay.rondelref06_May.l0 (d + 1) (l.map TRM.rs) (i : Int) = some ((l.drop i).all (fun x => !odd x.r && !x.brk) && decide (l.length ≤ 64)) := by
  intro d
  induction d with
  | zero =>
    intro i hd hi
    simp only [PMay.rondelref06_May.l0, List.length_map]
    rw [if_neg (by omega), List.drop_of_length_le (by omega)]
    simp only [List.all_nil, Bool.true_and, Option.some.injEq, decide_eq_decide]
    omega
  | succ d ih =>
    intro i hd hi
    generalize d + 1 = D at ih ⊢
    simp only [PMay.rondelref06_May.l0, List.length_map]
    by_cases hlt : i < l.length
    · rw [if_pos (by omega), if_pos (by omega), mrd_map l i hlt, List.drop_eq_getElem_cons hlt, List.all_cons, show (TRM.rs l[i]).f2 = ((l[i].r : Nat) : Int) from rfl, modd_f]
      simp only [Option.bind_some]
      cases ho : odd l[i].r
      · rw [if_neg (by simp)]
        cases hb : l[i].brk
        · rw [if_neg (by simp [TRM.rs, hb]), show wrap64 ((i : Int) + 1) = ((i + 1 : Nat) : Int) from IntWalk.wrap64_in _ (by omega), ih (i + 1) (by omega) (by omega)]
          simp
        · rw [if_pos (by simp [TRM.rs, hb])]
          simp
      · rw [if_pos rfl]
        simp
    · rw [if_neg (by omega), List.drop_of_length_le (by omega)]
      simp only [List.all_nil, Bool.true_and, Option.some.injEq, decide_eq_decide]
      omega
theorem may_f (s : ByteArray) (hs : s.size < 4398046511104) : ∃ k, PMay.rondelref06_May.f k s = some (good s) := by
  obtain ⟨k, hk⟩ := TRM.signs_f s hs
  have hlen := sgs_length s 0
  refine ⟨k + ((sgs s 0).length + 1), ?_⟩
  have hm : ∀ d j, PMay.rondelref06_May.l0 (d + 1) ((sgs s 0).map TRM.rs) 0 = some (good s) → PMay.rondelref06_May.l0 (j + (d + 1)) ((sgs s 0).map TRM.rs) 0 = some (good s) := by
    intro d j h
    induction j with
    | zero => rw [Nat.zero_add]; exact h
    | succ j ih =>
      rw [show j + 1 + (d + 1) = (j + (d + 1)) + 1 from by omega]
      exact PMay.rondelref06_May.mono_l _ _ _ _ ih
  have h0 := may_l0 (sgs s 0) (by omega) (sgs s 0).length 0 (by omega) (by omega)
  unfold PMay.rondelref06_May.f
  rw [at_rounds (g := fun k => PMay.rondelref06_Signs.f k s) (PMay.rondelref06_Signs.mono s) (show k ≤ k + ((sgs s 0).length + 1) by omega) hk]
  simp only [Option.bind_some]
  refine hm _ k ?_
  rw [show (0 : Int) = ((0 : Nat) : Int) from rfl, h0]
  rfl
theorem rmay_calls (s : ByteArray) (hs : s.size < 4398046511104) (w : World) : Calls Tryd.prog 10 #[.string s] w fun e w' => e = .returned (.bool (decide (clean s = s))) ∧ Below w.heap.size w w' := by
  obtain ⟨k, hk⟩ := may_f s hs
  rw [← good_iff]
  exact PMay.rondelref06_May.calls k s (good s) w hk
theorem rsigns_calls (s : ByteArray) (hs : s.size < 4398046511104) (w : World) : Calls Tryd.prog 12 #[.string s] w fun e w' => ∃ a c, e = .returned (.slice a (sgs s 0).length c) ∧ Below w.heap.size w w' := by
  obtain ⟨k, hk⟩ := TRM.signs_f s hs
  refine (PMay.rondelref06_Signs.calls k s _ w hk).mono ?_
  rintro e w' ⟨v, rfl, hR, hb⟩
  obtain ⟨A, c, rfl⟩ := Kd.R_slice hR
  rw [List.length_map]
  exact ⟨A, c, rfl, hb⟩
/-- Two strings, compared byte by byte. -/
theorem str_eq (a b : ByteArray) : (a.toList == b.toList) = decide (a = b) := by
  rw [Bool.eq_iff_iff, beq_iff_eq, decide_eq_true_eq]
  rw [ByteArray.toList_eq, ByteArray.toList_eq]
  exact ⟨ba_ext, fun h => by rw [h]⟩
set_option maxHeartbeats 400000 in
theorem may_calls (s : ByteArray) (hs : s.size ≤ 140737488351232) (w : World) (hT : Lib.Utf8Tabs 0 1 w) : Calls Tryd.prog 9 #[.string s] w fun e w' => e = .returned (.bool (decide (clean s = s))) ∧ Below w.heap.size w w' := by
  go_enter Tryd.func9, Tryd.ntmps9
  go_wp2_with ((go_at_call 7; refine (TC.clean_calls s hs _ hT).mono ?_; rintro e w1 ⟨rfl, hb⟩))
  go_ret
  exact ⟨congrArg (fun b => Ending.returned (.bool b)) (str_eq _ _), hb⟩
end Go.Proofs.YtpmhbfelhjpalaaDoor.TS

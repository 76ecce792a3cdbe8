-- PRINTED BY print.sh 35421559b90ae4d0a3588c463048766b98c2df88dd9212a6774a882060cdf62d: not written by this session
import Derived.Test.YtpmhbfelhjpalaaDoorPMayx0
namespace Go.Proofs.YtpmhbfelhjpalaaDoor.PMay
open Go.RowKit Go.Proofs.YtpmhbfelhjpalaaDoorW.PrintWords Go.Proofs.YtpmhbfelhjpalaaDoorW.PrintLast Go.Proofs.YtpmhbfelhjpalaaDoorW.PrintMore
attribute [local go_sem] max2_int min2_int max_two min_two max_three min_three max_four min_four   -- for this text's walks alone
set_option linter.unusedVariables false
set_option linter.unusedSimpArgs false

/-! ### rondelref06_tail: function 28 -/
def rondelref06_tail.f (a0 : ByteArray) (a1 : Int) : Option (Int) := if a1 ≥ (a0.size : Int) then (some (-1)) else (if 0 ≤ a1 then (if a1 < (a0.size : Int) then (if (wrap64 (bt a0 a1)) < 128 then (some (-1)) else (if (wrap64 (bt a0 a1)) > 191 then (some (-1)) else (some (wrap64 ((wrap64 (bt a0 a1)) - 128))))) else (none)) else (none))
set_option maxHeartbeats 8000000 in
set_option maxRecDepth 100000 in
theorem rondelref06_tail.calls (a0 : ByteArray) (a1 : Int) (r : Int) (w : World) (h : rondelref06_tail.f a0 a1 = some r) :
    Calls Tryd.prog 28 #[.string a0, .int .i64 a1] w fun e w' => e = .returned (.int .i64 r) ∧ Drawn0 w w' := by
  have H : (if a1 ≥ (a0.size : Int) then (some (-1)) else (if 0 ≤ a1 then (if a1 < (a0.size : Int) then (if (wrap64 (bt a0 a1)) < 128 then (some (-1)) else (if (wrap64 (bt a0 a1)) > 191 then (some (-1)) else (some (wrap64 ((wrap64 (bt a0 a1)) - 128))))) else (none)) else (none))) = some r := h
  clear h
  by_cases c3 : a1 ≥ (a0.size : Int)
  · rw [if_pos c3] at H
    have c3b0 : decide ((a0.size : Int) ≤ a1) = true := decide_eq_true c3
    clear c3
    obtain rfl := Option.some.inj H
    go_enter Tryd.func28, Tryd.ntmps28
    go_wp2
    go_ret
    exact ⟨by first | rfl | (simp; done) | (simp [*]; done), by repeat (first | exact Drawn0.refl _ | apply Drawn0.step)⟩
  · rw [if_neg c3] at H
    have c3b0 : decide ((a0.size : Int) ≤ a1) = false := decide_eq_false c3
    clear c3
    by_cases c4 : 0 ≤ a1
    · rw [if_pos c4] at H
      have c4b0 : decide (0 ≤ a1) = true := decide_eq_true c4
      clear c4
      by_cases c5 : a1 < (a0.size : Int)
      · rw [if_pos c5] at H
        have c5b0 : decide (a1 < (a0.size : Int)) = true := decide_eq_true c5
        clear c5
        by_cases c7 : (wrap64 (bt a0 a1)) < 128
        · rw [if_pos c7] at H
          have c7b0 : decide ((wrap64 (bt a0 a1)) < 128) = true := decide_eq_true c7
          clear c7
          obtain rfl := Option.some.inj H
          have p6 : 0 ≤ (a1 : Int) := of_decide_eq_true (by first | (with_reducible assumption) | assumption)
          have q6 : a1 < (a0.size : Int) := of_decide_eq_true (by first | (with_reducible assumption) | assumption)
          have hx6 := bt_at a0 a1
          replace p6 := eq_true p6
          replace q6 := eq_true q6
          go_enter Tryd.func28, Tryd.ntmps28
          go_wp2
          go_ret
          exact ⟨by first | rfl | (simp; done) | (simp [*]; done), by repeat (first | exact Drawn0.refl _ | apply Drawn0.step)⟩
        · rw [if_neg c7] at H
          have c7b0 : decide ((wrap64 (bt a0 a1)) < 128) = false := decide_eq_false c7
          clear c7
          by_cases c8 : (wrap64 (bt a0 a1)) > 191
          · rw [if_pos c8] at H
            have c8b0 : decide (191 < (wrap64 (bt a0 a1))) = true := decide_eq_true c8
            clear c8
            obtain rfl := Option.some.inj H
            have p6 : 0 ≤ (a1 : Int) := of_decide_eq_true (by first | (with_reducible assumption) | assumption)
            have q6 : a1 < (a0.size : Int) := of_decide_eq_true (by first | (with_reducible assumption) | assumption)
            have hx6 := bt_at a0 a1
            replace p6 := eq_true p6
            replace q6 := eq_true q6
            go_enter Tryd.func28, Tryd.ntmps28
            go_wp2
            go_ret
            exact ⟨by first | rfl | (simp; done) | (simp [*]; done), by repeat (first | exact Drawn0.refl _ | apply Drawn0.step)⟩
          · rw [if_neg c8] at H
            have c8b0 : decide (191 < (wrap64 (bt a0 a1))) = false := decide_eq_false c8
            clear c8
            obtain rfl := Option.some.inj H
            have p6 : 0 ≤ (a1 : Int) := of_decide_eq_true (by first | (with_reducible assumption) | assumption)
            have q6 : a1 < (a0.size : Int) := of_decide_eq_true (by first | (with_reducible assumption) | assumption)
            have hx6 := bt_at a0 a1
            replace p6 := eq_true p6
            replace q6 := eq_true q6
            go_enter Tryd.func28, Tryd.ntmps28
            go_wp2
            go_ret
            exact ⟨by first | rfl | (simp; done) | (simp [*]; done), by repeat (first | exact Drawn0.refl _ | apply Drawn0.step)⟩
      · rw [if_neg c5] at H
        exact absurd H (by simp)
    · rw [if_neg c4] at H
      exact absurd H (by simp)

/-! ### rondelref06_one: function 22 -/
mutual
def rondelref06_one.j0 : Nat → Int → Int → Int → Int → Int → Bool → Option (Int × Int × Int × Bool)
  | 0, _, _, _, _, _, _ => none
  | k + 1, x1, x5, x6, x7, x8, x41 => if x41 = true then (some (x1, 2, wrap64 ((wrap64 ((wrap64 (x5 - 192)) * 64)) + x6), false)) else (if x5 ≥ 224 then (if x5 ≤ 239 then (if x6 ≥ 0 then (rondelref06_one.j1 k x1 x5 x6 x7 x8 (decide (x7 ≥ 0))) else (rondelref06_one.j1 k x1 x5 x6 x7 x8 false)) else (rondelref06_one.j1 k x1 x5 x6 x7 x8 false)) else (rondelref06_one.j1 k x1 x5 x6 x7 x8 false))
def rondelref06_one.j1 : Nat → Int → Int → Int → Int → Int → Bool → Option (Int × Int × Int × Bool)
  | 0, _, _, _, _, _, _ => none
  | k + 1, x1, x5, x6, x7, x8, x62 => if x62 = true then (if (wrap64 ((wrap64 ((wrap64 ((wrap64 (x5 - 224)) * 4096)) + (wrap64 (x6 * 64)))) + x7)) ≥ 2048 then (if (wrap64 ((wrap64 ((wrap64 ((wrap64 (x5 - 224)) * 4096)) + (wrap64 (x6 * 64)))) + x7)) < 55296 then (some (x1, 3, wrap64 ((wrap64 ((wrap64 ((wrap64 (x5 - 224)) * 4096)) + (wrap64 (x6 * 64)))) + x7), false)) else (if (wrap64 ((wrap64 ((wrap64 ((wrap64 (x5 - 224)) * 4096)) + (wrap64 (x6 * 64)))) + x7)) > 57343 then (some (x1, 3, wrap64 ((wrap64 ((wrap64 ((wrap64 (x5 - 224)) * 4096)) + (wrap64 (x6 * 64)))) + x7), false)) else (rondelref06_one.j2 k x1 x5 x6 x7 x8))) else (rondelref06_one.j2 k x1 x5 x6 x7 x8)) else (rondelref06_one.j2 k x1 x5 x6 x7 x8)
def rondelref06_one.j2 : Nat → Int → Int → Int → Int → Int → Option (Int × Int × Int × Bool)
  | 0, _, _, _, _, _ => none
  | k + 1, x1, x5, x6, x7, x8 => if x5 ≥ 240 then (if x5 ≤ 244 then (if x6 ≥ 0 then (if x7 ≥ 0 then (rondelref06_one.j3 k x1 x5 x6 x7 x8 (decide (x8 ≥ 0))) else (rondelref06_one.j3 k x1 x5 x6 x7 x8 false)) else (rondelref06_one.j3 k x1 x5 x6 x7 x8 false)) else (rondelref06_one.j3 k x1 x5 x6 x7 x8 false)) else (rondelref06_one.j3 k x1 x5 x6 x7 x8 false)
def rondelref06_one.j3 : Nat → Int → Int → Int → Int → Int → Bool → Option (Int × Int × Int × Bool)
  | 0, _, _, _, _, _, _ => none
  | k + 1, x1, x5, x6, x7, x8, x101 => if x101 = true then (if (wrap64 ((wrap64 ((wrap64 ((wrap64 ((wrap64 (x5 - 240)) * 262144)) + (wrap64 (x6 * 4096)))) + (wrap64 (x7 * 64)))) + x8)) ≥ 65536 then (if (wrap64 ((wrap64 ((wrap64 ((wrap64 ((wrap64 (x5 - 240)) * 262144)) + (wrap64 (x6 * 4096)))) + (wrap64 (x7 * 64)))) + x8)) ≤ 1114111 then (some (x1, 4, wrap64 ((wrap64 ((wrap64 ((wrap64 ((wrap64 (x5 - 240)) * 262144)) + (wrap64 (x6 * 4096)))) + (wrap64 (x7 * 64)))) + x8), false)) else (some (x1, 1, 65533, true))) else (some (x1, 1, 65533, true))) else (some (x1, 1, 65533, true))
end
def rondelref06_one.f (k : Nat) (a0 : ByteArray) (a1 : Int) : Option (Int × Int × Int × Bool) := if 0 ≤ a1 then (if a1 < (a0.size : Int) then ((rondelref06_tail.f a0 (wrap64 (a1 + 1))).bind fun t102 => ((rondelref06_tail.f a0 (wrap64 (a1 + 2))).bind fun t103 => ((rondelref06_tail.f a0 (wrap64 (a1 + 3))).bind fun t104 => (if (wrap64 (bt a0 a1)) < 128 then (some (a1, 1, wrap64 (bt a0 a1), false)) else (if (wrap64 (bt a0 a1)) ≥ 194 then (if (wrap64 (bt a0 a1)) ≤ 223 then (rondelref06_one.j0 k a1 (wrap64 (bt a0 a1)) t102 t103 t104 (decide (t102 ≥ 0))) else (rondelref06_one.j0 k a1 (wrap64 (bt a0 a1)) t102 t103 t104 false)) else (rondelref06_one.j0 k a1 (wrap64 (bt a0 a1)) t102 t103 t104 false)))))) else (none)) else (none)
theorem rondelref06_one.mono_l : ∀ k, (∀ y0 y1 y2 y3 y4 y5, LeO (rondelref06_one.j0 k y0 y1 y2 y3 y4 y5) (rondelref06_one.j0 (k + 1) y0 y1 y2 y3 y4 y5)) ∧ (∀ y0 y1 y2 y3 y4 y5, LeO (rondelref06_one.j1 k y0 y1 y2 y3 y4 y5) (rondelref06_one.j1 (k + 1) y0 y1 y2 y3 y4 y5)) ∧ (∀ y0 y1 y2 y3 y4, LeO (rondelref06_one.j2 k y0 y1 y2 y3 y4) (rondelref06_one.j2 (k + 1) y0 y1 y2 y3 y4)) ∧ (∀ y0 y1 y2 y3 y4 y5, LeO (rondelref06_one.j3 k y0 y1 y2 y3 y4 y5) (rondelref06_one.j3 (k + 1) y0 y1 y2 y3 y4 y5))
  | 0 => ⟨fun _ _ _ _ _ _ r h => by simp [rondelref06_one.j0] at h, fun _ _ _ _ _ _ r h => by simp [rondelref06_one.j1] at h, fun _ _ _ _ _ r h => by simp [rondelref06_one.j2] at h, fun _ _ _ _ _ _ r h => by simp [rondelref06_one.j3] at h⟩
  | k + 1 => by
    obtain ⟨ih0, ih1, ih2, ih3⟩ := rondelref06_one.mono_l k
    refine ⟨?_, ?_, ?_, ?_⟩
    · intro y0 y1 y2 y3 y4 y5
      unfold rondelref06_one.j0
      repeat' first
      | (with_reducible exact ih0 _ _ _ _ _ _)
      | (with_reducible exact ih1 _ _ _ _ _ _)
      | (with_reducible exact ih2 _ _ _ _ _)
      | (with_reducible exact ih3 _ _ _ _ _ _)
      | (with_reducible exact LeO.refl _)
      | (with_reducible exact LeO.none _)
      | (with_reducible refine LeO.ite ?_ ?_)
      | (with_reducible refine LeO.bind ?_ (fun _ => ?_))
      | exact ih0 _ _ _ _ _ _
      | exact ih1 _ _ _ _ _ _
      | exact ih2 _ _ _ _ _
      | exact ih3 _ _ _ _ _ _
      | exact LeO.none _
      | refine LeO.ite ?_ ?_
      | refine LeO.bind ?_ (fun _ => ?_)
    · intro y0 y1 y2 y3 y4 y5
      unfold rondelref06_one.j1
      repeat' first
      | (with_reducible exact ih0 _ _ _ _ _ _)
      | (with_reducible exact ih1 _ _ _ _ _ _)
      | (with_reducible exact ih2 _ _ _ _ _)
      | (with_reducible exact ih3 _ _ _ _ _ _)
      | (with_reducible exact LeO.refl _)
      | (with_reducible exact LeO.none _)
      | (with_reducible refine LeO.ite ?_ ?_)
      | (with_reducible refine LeO.bind ?_ (fun _ => ?_))
      | exact ih0 _ _ _ _ _ _
      | exact ih1 _ _ _ _ _ _
      | exact ih2 _ _ _ _ _
      | exact ih3 _ _ _ _ _ _
      | exact LeO.none _
      | refine LeO.ite ?_ ?_
      | refine LeO.bind ?_ (fun _ => ?_)
    · intro y0 y1 y2 y3 y4
      unfold rondelref06_one.j2
      repeat' first
      | (with_reducible exact ih0 _ _ _ _ _ _)
      | (with_reducible exact ih1 _ _ _ _ _ _)
      | (with_reducible exact ih2 _ _ _ _ _)
      | (with_reducible exact ih3 _ _ _ _ _ _)
      | (with_reducible exact LeO.refl _)
      | (with_reducible exact LeO.none _)
      | (with_reducible refine LeO.ite ?_ ?_)
      | (with_reducible refine LeO.bind ?_ (fun _ => ?_))
      | exact ih0 _ _ _ _ _ _
      | exact ih1 _ _ _ _ _ _
      | exact ih2 _ _ _ _ _
      | exact ih3 _ _ _ _ _ _
      | exact LeO.none _
      | refine LeO.ite ?_ ?_
      | refine LeO.bind ?_ (fun _ => ?_)
    · intro y0 y1 y2 y3 y4 y5
      unfold rondelref06_one.j3
      repeat' first
      | (with_reducible exact ih0 _ _ _ _ _ _)
      | (with_reducible exact ih1 _ _ _ _ _ _)
      | (with_reducible exact ih2 _ _ _ _ _)
      | (with_reducible exact ih3 _ _ _ _ _ _)
      | (with_reducible exact LeO.refl _)
      | (with_reducible exact LeO.none _)
      | (with_reducible refine LeO.ite ?_ ?_)
      | (with_reducible refine LeO.bind ?_ (fun _ => ?_))
      | exact ih0 _ _ _ _ _ _
      | exact ih1 _ _ _ _ _ _
      | exact ih2 _ _ _ _ _
      | exact ih3 _ _ _ _ _ _
      | exact LeO.none _
      | refine LeO.ite ?_ ?_
      | refine LeO.bind ?_ (fun _ => ?_)
theorem rondelref06_one.mono : ∀ a0 a1 k, LeO (rondelref06_one.f k a0 a1) (rondelref06_one.f (k + 1) a0 a1) := by
  intro a0 a1 k
  obtain ⟨ih0, ih1, ih2, ih3⟩ := rondelref06_one.mono_l k
  unfold rondelref06_one.f
  repeat' first
      | (with_reducible exact ih0 _ _ _ _ _ _)
      | (with_reducible exact ih1 _ _ _ _ _ _)
      | (with_reducible exact ih2 _ _ _ _ _)
      | (with_reducible exact ih3 _ _ _ _ _ _)
      | (with_reducible exact LeO.refl _)
      | (with_reducible exact LeO.none _)
      | (with_reducible refine LeO.ite ?_ ?_)
      | (with_reducible refine LeO.bind ?_ (fun _ => ?_))
      | exact ih0 _ _ _ _ _ _
      | exact ih1 _ _ _ _ _ _
      | exact ih2 _ _ _ _ _
      | exact ih3 _ _ _ _ _ _
      | exact LeO.none _
      | refine LeO.ite ?_ ?_
      | refine LeO.bind ?_ (fun _ => ?_)
set_option maxHeartbeats 8000000 in
set_option maxRecDepth 100000 in
theorem rondelref06_one.calls (k : Nat) (a0 : ByteArray) (a1 : Int) (r1 : Int) (r2 : Int) (r3 : Int) (r4 : Bool) (w : World) (h : rondelref06_one.f k a0 a1 = some (r1, r2, r3, r4)) :
    Calls Tryd.prog 22 #[.string a0, .int .i64 a1] w fun e w' => e = .returned (.agg #[.int .i64 r1, .int .i64 r2, .int .i64 r3, .bool r4]) ∧ Below w.heap.size w w' := by
  have hu47 := Tryd.underlying47
  have HB := Aside0.mk (Below.refl w.heap.size w)
  have H : (if 0 ≤ a1 then (if a1 < (a0.size : Int) then ((rondelref06_tail.f a0 (wrap64 (a1 + 1))).bind fun t102 => ((rondelref06_tail.f a0 (wrap64 (a1 + 2))).bind fun t103 => ((rondelref06_tail.f a0 (wrap64 (a1 + 3))).bind fun t104 => (if (wrap64 (bt a0 a1)) < 128 then (some (a1, 1, wrap64 (bt a0 a1), false)) else (if (wrap64 (bt a0 a1)) ≥ 194 then (if (wrap64 (bt a0 a1)) ≤ 223 then (rondelref06_one.j0 k a1 (wrap64 (bt a0 a1)) t102 t103 t104 (decide (t102 ≥ 0))) else (rondelref06_one.j0 k a1 (wrap64 (bt a0 a1)) t102 t103 t104 false)) else (rondelref06_one.j0 k a1 (wrap64 (bt a0 a1)) t102 t103 t104 false)))))) else (none)) else (none)) = some (r1, r2, r3, r4) := h
  clear h
  by_cases c3 : 0 ≤ a1
  · rw [if_pos c3] at H
    have c3b0 : decide (0 ≤ a1) = true := decide_eq_true c3
    clear c3
    by_cases c4 : a1 < (a0.size : Int)
    · rw [if_pos c4] at H
      have c4b0 : decide (a1 < (a0.size : Int)) = true := decide_eq_true c4
      clear c4
      replace H := Option.bind_eq_some_iff.mp H
      obtain ⟨t102, A60, H⟩ := H
      replace H : ((rondelref06_tail.f a0 (wrap64 (a1 + 2))).bind fun t103 => ((rondelref06_tail.f a0 (wrap64 (a1 + 3))).bind fun t104 => (if (wrap64 (bt a0 a1)) < 128 then (some (a1, 1, wrap64 (bt a0 a1), false)) else (if (wrap64 (bt a0 a1)) ≥ 194 then (if (wrap64 (bt a0 a1)) ≤ 223 then (rondelref06_one.j0 k a1 (wrap64 (bt a0 a1)) t102 t103 t104 (decide (t102 ≥ 0))) else (rondelref06_one.j0 k a1 (wrap64 (bt a0 a1)) t102 t103 t104 false)) else (rondelref06_one.j0 k a1 (wrap64 (bt a0 a1)) t102 t103 t104 false))))) = some (r1, r2, r3, r4) := H
      have A6 := Aside0.mk A60
      clear A60
      replace H := Option.bind_eq_some_iff.mp H
      obtain ⟨t103, A70, H⟩ := H
      replace H : ((rondelref06_tail.f a0 (wrap64 (a1 + 3))).bind fun t104 => (if (wrap64 (bt a0 a1)) < 128 then (some (a1, 1, wrap64 (bt a0 a1), false)) else (if (wrap64 (bt a0 a1)) ≥ 194 then (if (wrap64 (bt a0 a1)) ≤ 223 then (rondelref06_one.j0 k a1 (wrap64 (bt a0 a1)) t102 t103 t104 (decide (t102 ≥ 0))) else (rondelref06_one.j0 k a1 (wrap64 (bt a0 a1)) t102 t103 t104 false)) else (rondelref06_one.j0 k a1 (wrap64 (bt a0 a1)) t102 t103 t104 false)))) = some (r1, r2, r3, r4) := H
      have A7 := Aside0.mk A70
      clear A70
      replace H := Option.bind_eq_some_iff.mp H
      obtain ⟨t104, A80, H⟩ := H
      replace H : (if (wrap64 (bt a0 a1)) < 128 then (some (a1, 1, wrap64 (bt a0 a1), false)) else (if (wrap64 (bt a0 a1)) ≥ 194 then (if (wrap64 (bt a0 a1)) ≤ 223 then (rondelref06_one.j0 k a1 (wrap64 (bt a0 a1)) t102 t103 t104 (decide (t102 ≥ 0))) else (rondelref06_one.j0 k a1 (wrap64 (bt a0 a1)) t102 t103 t104 false)) else (rondelref06_one.j0 k a1 (wrap64 (bt a0 a1)) t102 t103 t104 false))) = some (r1, r2, r3, r4) := H
      have A8 := Aside0.mk A80
      clear A80
      by_cases c9 : (wrap64 (bt a0 a1)) < 128
      · rw [if_pos c9] at H
        have c9b0 : decide ((wrap64 (bt a0 a1)) < 128) = true := decide_eq_true c9
        clear c9
        simp only [Option.some.injEq, Prod.mk.injEq] at H
        obtain ⟨rfl, rfl, rfl, rfl⟩ := H
        go_enter Tryd.func22, Tryd.ntmps22
        go_wp2_with (first | ((with_reducible refine gate_dst (N := 4) rfl ?_); refine box_event ?hg (N := 4) ?hd (cs := #[.int .i64 0, .int .i64 0, .int .i64 0, .bool false]) (t := 47) ?hr ?_; (case hd => rfl); (case hg => rfl); (case hr => first | (go_simp; done) | (go_simp; rfl)); intro gb101 hg w10 hbox hb; have n0_ := Aside0.mk (below_step (by repeat (first | (with_reducible first | exact HB.out | apply below_alloc | apply pw_below_drewN | apply below_drew1) | exact HB.out)) hb); have n1_ := Aside0.mk (hbox); have n2_ := Aside0.mk ((by rw [hg]; exact (below_size (by repeat (first | (with_reducible first | exact HB.out | apply below_alloc | apply pw_below_drewN | apply below_drew1) | exact HB.out))) : w.heap.size ≤ gb101)); have n3_ := Aside0.mk ((by rw [hg]; exact (below_size (by repeat (first | (with_reducible first | exact HB.out | apply below_alloc | apply pw_below_drewN | apply below_drew1) | exact HB.out))) : w.heap.size ≤ gb101)); clear HB; have HB := n0_; have BK101 := n1_; have GW101 := n2_; have GE101 := n3_; clear n0_ n1_ n2_ n3_; clear hb hbox hg; have p5 : 0 ≤ (a1 : Int) := of_decide_eq_true (by first | (with_reducible assumption) | assumption); have q5 : a1 < (a0.size : Int) := of_decide_eq_true (by first | (with_reducible assumption) | assumption); have hx5 := bt_at a0 a1; replace p5 := eq_true p5; replace q5 := eq_true q5) | ((with_reducible refine gate_callee (f := 28) rfl ?_); refine goesL_ (some 18) rfl rfl Tryd.func28 (by kernel_rfl) rfl #[.string a0, .int .i64 (wrap64 (a1 + 1))] rfl (by (try simp only [List.map_toArray, List.map_cons, List.map_nil]); first | done | rfl | (simp only [List.length_drop, List.length_take]; rfl)) ?_; (with_reducible refine (rondelref06_tail.calls a0 (wrap64 (a1 + 1)) t102 _ A6.out).mono ?_); rintro e w' ⟨rfl, ⟨nd, rfl⟩⟩; refine ⟨_, rfl, ?_⟩; (try (rw [drewN_self w10]; generalize hq_ : World.drewN w10 _ = w10; have n0_ : Aside0 (w10.heap[gb101]? = some (.cells #[.int .i64 0, .int .i64 0, .int .i64 0, .bool false] 47 (0, 0))) := ⟨by rw [← hq_]; exact (by (with_reducible repeat (first | refine blk_drewN ?_ _ | refine blk_drew ?_ | refine blk_alloc ?_ _)); exact BK101.out)⟩; have n1_ : Aside0 (Below w.heap.size w w10) := ⟨by rw [← hq_]; exact (by repeat (first | (with_reducible first | exact HB.out | apply below_alloc | apply pw_below_drewN | apply below_drew1 | refine below_set ?_ GE101.out) | exact HB.out))⟩; clear BK101 HB hq_; have BK101 := n0_; have HB := n1_; clear n0_ n1_))) | ((with_reducible refine gate_callee (f := 28) rfl ?_); refine goesL_ (some 22) rfl rfl Tryd.func28 (by kernel_rfl) rfl #[.string a0, .int .i64 (wrap64 (a1 + 2))] rfl (by (try simp only [List.map_toArray, List.map_cons, List.map_nil]); first | done | rfl | (simp only [List.length_drop, List.length_take]; rfl)) ?_; (with_reducible refine (rondelref06_tail.calls a0 (wrap64 (a1 + 2)) t103 _ A7.out).mono ?_); rintro e w' ⟨rfl, ⟨nd, rfl⟩⟩; refine ⟨_, rfl, ?_⟩; (try (rw [drewN_self w10]; generalize hq_ : World.drewN w10 _ = w10; have n0_ : Aside0 (w10.heap[gb101]? = some (.cells #[.int .i64 0, .int .i64 0, .int .i64 0, .bool false] 47 (0, 0))) := ⟨by rw [← hq_]; exact (by (with_reducible repeat (first | refine blk_drewN ?_ _ | refine blk_drew ?_ | refine blk_alloc ?_ _)); exact BK101.out)⟩; have n1_ : Aside0 (Below w.heap.size w w10) := ⟨by rw [← hq_]; exact (by repeat (first | (with_reducible first | exact HB.out | apply below_alloc | apply pw_below_drewN | apply below_drew1 | refine below_set ?_ GE101.out) | exact HB.out))⟩; clear BK101 HB hq_; have BK101 := n0_; have HB := n1_; clear n0_ n1_))) | ((with_reducible refine gate_callee (f := 28) rfl ?_); refine goesL_ (some 26) rfl rfl Tryd.func28 (by kernel_rfl) rfl #[.string a0, .int .i64 (wrap64 (a1 + 3))] rfl (by (try simp only [List.map_toArray, List.map_cons, List.map_nil]); first | done | rfl | (simp only [List.length_drop, List.length_take]; rfl)) ?_; (with_reducible refine (rondelref06_tail.calls a0 (wrap64 (a1 + 3)) t104 _ A8.out).mono ?_); rintro e w' ⟨rfl, ⟨nd, rfl⟩⟩; refine ⟨_, rfl, ?_⟩; (try (rw [drewN_self w10]; generalize hq_ : World.drewN w10 _ = w10; have n0_ : Aside0 (w10.heap[gb101]? = some (.cells #[.int .i64 0, .int .i64 0, .int .i64 0, .bool false] 47 (0, 0))) := ⟨by rw [← hq_]; exact (by (with_reducible repeat (first | refine blk_drewN ?_ _ | refine blk_drew ?_ | refine blk_alloc ?_ _)); exact BK101.out)⟩; have n1_ : Aside0 (Below w.heap.size w w10) := ⟨by rw [← hq_]; exact (by repeat (first | (with_reducible first | exact HB.out | apply below_alloc | apply pw_below_drewN | apply below_drew1 | refine below_set ?_ GE101.out) | exact HB.out))⟩; clear BK101 HB hq_; have BK101 := n0_; have HB := n1_; clear n0_ n1_)); have hcz11_0 : w10.cell? ⟨gb101, 0, none⟩ = some (.int .i64 0) := (blk_cell BK101.out 0).trans rfl; have hcz11_1 : w10.cell? ⟨gb101, 1, none⟩ = some (.int .i64 0) := (blk_cell BK101.out 1).trans rfl; have hcz11_2 : w10.cell? ⟨gb101, 2, none⟩ = some (.int .i64 0) := (blk_cell BK101.out 2).trans rfl; have hcz11_3 : w10.cell? ⟨gb101, 3, none⟩ = some (.bool false) := (blk_cell BK101.out 3).trans rfl; have hfz11_0 := blk_frozen BK101.out 0; have hfz11_1 := blk_frozen BK101.out 1; have hfz11_2 := blk_frozen BK101.out 2; have hfz11_3 := blk_frozen BK101.out 3))
        refine bodyPost_ret (results_cell_row rfl _ _ gb101 47 #[.int .i64 a1, .int .i64 1, .int .i64 (wrap64 (bt a0 a1)), .bool false] (0, 0) _ rfl (by (with_reducible repeat (first | refine blk_drewN ?_ _ | refine blk_drew ?_ | refine blk_alloc ?_ _)); refine blk_put (cs := #[.int .i64 a1, .int .i64 1, .int .i64 (wrap64 (bt a0 a1)), .bool false]) ?_ 3 _ rfl; (with_reducible repeat (first | refine blk_drewN ?_ _ | refine blk_drew ?_ | refine blk_alloc ?_ _)); refine blk_put (cs := #[.int .i64 a1, .int .i64 1, .int .i64 0, .bool false]) ?_ 2 _ rfl; (with_reducible repeat (first | refine blk_drewN ?_ _ | refine blk_drew ?_ | refine blk_alloc ?_ _)); refine blk_put (cs := #[.int .i64 a1, .int .i64 0, .int .i64 0, .bool false]) ?_ 1 _ rfl; (with_reducible repeat (first | refine blk_drewN ?_ _ | refine blk_drew ?_ | refine blk_alloc ?_ _)); refine blk_put (cs := #[.int .i64 0, .int .i64 0, .int .i64 0, .bool false]) ?_ 0 _ rfl; (with_reducible repeat (first | refine blk_drewN ?_ _ | refine blk_drew ?_ | refine blk_alloc ?_ _)); exact BK101.out) Tryd.underlying47 rfl (by kernel_rfl)) rfl ?_
        exact ⟨by first | rfl | (simp [errW_none, errW_some] <;> rfl) | (simp [*, errW_none, errW_some] <;> rfl), by repeat (first | (with_reducible first | exact HB.out | apply below_alloc | apply pw_below_drewN | apply below_drew1 | refine below_set ?_ GE101.out) | exact HB.out)⟩
      · rw [if_neg c9] at H
        have c9b0 : decide ((wrap64 (bt a0 a1)) < 128) = false := decide_eq_false c9
        clear c9
        have HC12 := Aside0.mk H
        clear H
        go_enter Tryd.func22, Tryd.ntmps22
        go_upto_region 7 with (first | ((with_reducible refine gate_dst (N := 4) rfl ?_); refine box_event ?hg (N := 4) ?hd (cs := #[.int .i64 0, .int .i64 0, .int .i64 0, .bool false]) (t := 47) ?hr ?_; (case hd => rfl); (case hg => rfl); (case hr => first | (go_simp; done) | (go_simp; rfl)); intro gb101 hg w13 hbox hb; have n0_ := Aside0.mk (below_step (by repeat (first | (with_reducible first | exact HB.out | apply below_alloc | apply pw_below_drewN | apply below_drew1) | exact HB.out)) hb); have n1_ := Aside0.mk (hbox); have n2_ := Aside0.mk ((by rw [hg]; exact (below_size (by repeat (first | (with_reducible first | exact HB.out | apply below_alloc | apply pw_below_drewN | apply below_drew1) | exact HB.out))) : w.heap.size ≤ gb101)); have n3_ := Aside0.mk ((by rw [hg]; exact (below_size (by repeat (first | (with_reducible first | exact HB.out | apply below_alloc | apply pw_below_drewN | apply below_drew1) | exact HB.out))) : w.heap.size ≤ gb101)); clear HB; have HB := n0_; have BK101 := n1_; have GW101 := n2_; have GE101 := n3_; clear n0_ n1_ n2_ n3_; clear hb hbox hg; have p5 : 0 ≤ (a1 : Int) := of_decide_eq_true (by first | (with_reducible assumption) | assumption); have q5 : a1 < (a0.size : Int) := of_decide_eq_true (by first | (with_reducible assumption) | assumption); have hx5 := bt_at a0 a1; replace p5 := eq_true p5; replace q5 := eq_true q5) | ((with_reducible refine gate_callee (f := 28) rfl ?_); refine goesL_ (some 18) rfl rfl Tryd.func28 (by kernel_rfl) rfl #[.string a0, .int .i64 (wrap64 (a1 + 1))] rfl (by (try simp only [List.map_toArray, List.map_cons, List.map_nil]); first | done | rfl | (simp only [List.length_drop, List.length_take]; rfl)) ?_; (with_reducible refine (rondelref06_tail.calls a0 (wrap64 (a1 + 1)) t102 _ A6.out).mono ?_); rintro e w' ⟨rfl, ⟨nd, rfl⟩⟩; refine ⟨_, rfl, ?_⟩) | ((with_reducible refine gate_callee (f := 28) rfl ?_); refine goesL_ (some 22) rfl rfl Tryd.func28 (by kernel_rfl) rfl #[.string a0, .int .i64 (wrap64 (a1 + 2))] rfl (by (try simp only [List.map_toArray, List.map_cons, List.map_nil]); first | done | rfl | (simp only [List.length_drop, List.length_take]; rfl)) ?_; (with_reducible refine (rondelref06_tail.calls a0 (wrap64 (a1 + 2)) t103 _ A7.out).mono ?_); rintro e w' ⟨rfl, ⟨nd, rfl⟩⟩; refine ⟨_, rfl, ?_⟩) | ((with_reducible refine gate_callee (f := 28) rfl ?_); refine goesL_ (some 26) rfl rfl Tryd.func28 (by kernel_rfl) rfl #[.string a0, .int .i64 (wrap64 (a1 + 3))] rfl (by (try simp only [List.map_toArray, List.map_cons, List.map_nil]); first | done | rfl | (simp only [List.length_drop, List.length_take]; rfl)) ?_; (with_reducible refine (rondelref06_tail.calls a0 (wrap64 (a1 + 3)) t104 _ A8.out).mono ?_); rintro e w' ⟨rfl, ⟨nd, rfl⟩⟩; refine ⟨_, rfl, ?_⟩))
        (try simp only [Act.put, List.setIfInBounds_toArray, List.set_cons_zero, List.set_cons_succ])
        go_cut [41] (fun v41 wc => ∃ (kq : Nat) (x41_11 : Bool), v41 = .bool x41_11 ∧ Aside0 (rondelref06_one.j0 kq a1 (wrap64 (bt a0 a1)) t102 t103 t104 x41_11 = some (r1, r2, r3, r4)) ∧ Aside0 (kq ≤ k) ∧ Aside0 (wc.heap[gb101]? = some (.cells #[.int .i64 0, .int .i64 0, .int .i64 0, .bool false] 47 (0, 0))) ∧ Aside0 (Below w.heap.size w wc))
        case first =>
          have H := HC12.out
          clear HC12
          by_cases c14 : (wrap64 (bt a0 a1)) ≥ 194
          · rw [if_pos c14] at H
            have c14b0 : decide (194 ≤ (wrap64 (bt a0 a1))) = true := decide_eq_true c14
            clear c14
            (first | rw [c14b0] | (simp only [i64_w, i32_w]; rw [c14b0]) | skip)
            by_cases c15 : (wrap64 (bt a0 a1)) ≤ 223
            · rw [if_pos c15] at H
              have c15b0 : decide ((wrap64 (bt a0 a1)) ≤ 223) = true := decide_eq_true c15
              clear c15
              have H' := Aside0.mk H
              clear H
              go_wp2
              go_meet
              case rel => exact ⟨_, (decide (t102 ≥ 0)), (by first | rfl | (simp; done) | (simp [*]; done)), H', ⟨by first | omega | exact Nat.le_refl _⟩, ⟨by (with_reducible repeat (first | refine blk_drewN ?_ _ | refine blk_drew ?_ | refine blk_alloc ?_ _)); exact BK101.out⟩, ⟨by repeat (first | (with_reducible first | exact HB.out | apply below_alloc | apply pw_below_drewN | apply below_drew1 | refine below_set ?_ GE101.out) | exact HB.out)⟩⟩
            · rw [if_neg c15] at H
              have c15b0 : decide ((wrap64 (bt a0 a1)) ≤ 223) = false := decide_eq_false c15
              clear c15
              have H' := Aside0.mk H
              clear H
              go_wp2
              go_meet
              case rel => exact ⟨_, (false), (by first | rfl | (simp; done) | (simp [*]; done)), H', ⟨by first | omega | exact Nat.le_refl _⟩, ⟨by (with_reducible repeat (first | refine blk_drewN ?_ _ | refine blk_drew ?_ | refine blk_alloc ?_ _)); exact BK101.out⟩, ⟨by repeat (first | (with_reducible first | exact HB.out | apply below_alloc | apply pw_below_drewN | apply below_drew1 | refine below_set ?_ GE101.out) | exact HB.out)⟩⟩
          · rw [if_neg c14] at H
            have c14b0 : decide (194 ≤ (wrap64 (bt a0 a1))) = false := decide_eq_false c14
            clear c14
            (first | rw [c14b0] | (simp only [i64_w, i32_w]; rw [c14b0]) | skip)
            have H' := Aside0.mk H
            clear H
            go_wp2
            go_meet
            case rel => exact ⟨_, (false), (by first | rfl | (simp; done) | (simp [*]; done)), H', ⟨by first | omega | exact Nat.le_refl _⟩, ⟨by (with_reducible repeat (first | refine blk_drewN ?_ _ | refine blk_drew ?_ | refine blk_alloc ?_ _)); exact BK101.out⟩, ⟨by repeat (first | (with_reducible first | exact HB.out | apply below_alloc | apply pw_below_drewN | apply below_drew1 | refine below_set ?_ GE101.out) | exact HB.out)⟩⟩
        case rest =>
          clear HC12
          try clear c1
          try clear c2
          try clear p2
          try clear c3
          try clear c3b0
          try clear c4
          try clear c4b0
          try clear p5
          try clear q5
          try clear hx5
          try clear p6
          try clear c9
          try clear c9b0
          try clear c14
          try clear c14b0
          try clear c15
          try clear c15b0
          try clear hcz11_0
          try clear hcz11_1
          try clear hcz11_2
          try clear hcz11_3
          try clear hfz11_0
          try clear hfz11_1
          try clear hfz11_2
          try clear hfz11_3
          try clear p5
          try clear q5
          obtain ⟨kq, x41_11, rfl, HA, HJ11, BK101, HB⟩ := hcut
          cases kq with
          | zero => exact absurd HA.out (by simp [rondelref06_one.j0])
          | succ kj11 =>
            have H := HA.out
            clear HA
            simp only [rondelref06_one.j0] at H
            by_cases c16 : x41_11 = true
            · subst c16
              have H1 : (some (a1, 2, wrap64 ((wrap64 ((wrap64 ((wrap64 (bt a0 a1)) - 192)) * 64)) + t102), false)) = some (r1, r2, r3, r4) := by rw [if_pos rfl] at H; exact H
              clear H
              have H := H1
              clear H1
              simp only [Option.some.injEq, Prod.mk.injEq] at H
              obtain ⟨rfl, rfl, rfl, rfl⟩ := H
              have hcz17_0 : wc.cell? ⟨gb101, 0, none⟩ = some (.int .i64 0) := (blk_cell BK101.out 0).trans rfl
              have hcz17_1 : wc.cell? ⟨gb101, 1, none⟩ = some (.int .i64 0) := (blk_cell BK101.out 1).trans rfl
              have hcz17_2 : wc.cell? ⟨gb101, 2, none⟩ = some (.int .i64 0) := (blk_cell BK101.out 2).trans rfl
              have hcz17_3 : wc.cell? ⟨gb101, 3, none⟩ = some (.bool false) := (blk_cell BK101.out 3).trans rfl
              have hfz17_0 := blk_frozen BK101.out 0
              have hfz17_1 := blk_frozen BK101.out 1
              have hfz17_2 := blk_frozen BK101.out 2
              have hfz17_3 := blk_frozen BK101.out 3
              go_wp2
              refine bodyPost_ret (results_cell_row rfl _ _ gb101 47 #[.int .i64 a1, .int .i64 2, .int .i64 (wrap64 ((wrap64 ((wrap64 ((wrap64 (bt a0 a1)) - 192)) * 64)) + t102)), .bool false] (0, 0) _ rfl (by (with_reducible repeat (first | refine blk_drewN ?_ _ | refine blk_drew ?_ | refine blk_alloc ?_ _)); refine blk_put (cs := #[.int .i64 a1, .int .i64 2, .int .i64 (wrap64 ((wrap64 ((wrap64 ((wrap64 (bt a0 a1)) - 192)) * 64)) + t102)), .bool false]) ?_ 3 _ rfl; (with_reducible repeat (first | refine blk_drewN ?_ _ | refine blk_drew ?_ | refine blk_alloc ?_ _)); refine blk_put (cs := #[.int .i64 a1, .int .i64 2, .int .i64 0, .bool false]) ?_ 2 _ rfl; (with_reducible repeat (first | refine blk_drewN ?_ _ | refine blk_drew ?_ | refine blk_alloc ?_ _)); refine blk_put (cs := #[.int .i64 a1, .int .i64 0, .int .i64 0, .bool false]) ?_ 1 _ rfl; (with_reducible repeat (first | refine blk_drewN ?_ _ | refine blk_drew ?_ | refine blk_alloc ?_ _)); refine blk_put (cs := #[.int .i64 0, .int .i64 0, .int .i64 0, .bool false]) ?_ 0 _ rfl; (with_reducible repeat (first | refine blk_drewN ?_ _ | refine blk_drew ?_ | refine blk_alloc ?_ _)); exact BK101.out) Tryd.underlying47 rfl (by kernel_rfl)) rfl ?_
              exact ⟨by first | rfl | (simp [errW_none, errW_some] <;> rfl) | (simp [*, errW_none, errW_some] <;> rfl), by repeat (first | (with_reducible first | exact HB.out | apply below_alloc | apply pw_below_drewN | apply below_drew1 | refine below_set ?_ GE101.out) | exact HB.out)⟩
            · replace c16 := Bool.eq_false_iff.mpr c16
              subst c16
              have H1 : (if (wrap64 (bt a0 a1)) ≥ 224 then (if (wrap64 (bt a0 a1)) ≤ 239 then (if t102 ≥ 0 then (rondelref06_one.j1 kj11 a1 (wrap64 (bt a0 a1)) t102 t103 t104 (decide (t103 ≥ 0))) else (rondelref06_one.j1 kj11 a1 (wrap64 (bt a0 a1)) t102 t103 t104 false)) else (rondelref06_one.j1 kj11 a1 (wrap64 (bt a0 a1)) t102 t103 t104 false)) else (rondelref06_one.j1 kj11 a1 (wrap64 (bt a0 a1)) t102 t103 t104 false)) = some (r1, r2, r3, r4) := by rw [if_neg (show ¬ (false = true) by decide)] at H; exact H
              clear H
              have H := H1
              clear H1
              have HC18 := Aside0.mk H
              clear H
              go_upto_region 9 with (fail)
              go_cut [62] (fun v62 wc => ∃ (kq : Nat) (x62_17 : Bool), v62 = .bool x62_17 ∧ Aside0 (rondelref06_one.j1 kq a1 (wrap64 (bt a0 a1)) t102 t103 t104 x62_17 = some (r1, r2, r3, r4)) ∧ Aside0 (kq ≤ kj11) ∧ Aside0 (wc.heap[gb101]? = some (.cells #[.int .i64 0, .int .i64 0, .int .i64 0, .bool false] 47 (0, 0))) ∧ Aside0 (Below w.heap.size w wc))
              case first =>
                have H := HC18.out
                clear HC18
                by_cases c19 : (wrap64 (bt a0 a1)) ≥ 224
                · rw [if_pos c19] at H
                  have c19b0 : decide (224 ≤ (wrap64 (bt a0 a1))) = true := decide_eq_true c19
                  clear c19
                  (first | rw [c19b0] | (simp only [i64_w, i32_w]; rw [c19b0]) | skip)
                  by_cases c20 : (wrap64 (bt a0 a1)) ≤ 239
                  · rw [if_pos c20] at H
                    have c20b0 : decide ((wrap64 (bt a0 a1)) ≤ 239) = true := decide_eq_true c20
                    clear c20
                    by_cases c21 : t102 ≥ 0
                    · rw [if_pos c21] at H
                      have c21b0 : decide (0 ≤ t102) = true := decide_eq_true c21
                      clear c21
                      have H' := Aside0.mk H
                      clear H
                      go_wp2
                      go_meet
                      case rel => exact ⟨_, (decide (t103 ≥ 0)), (by first | rfl | (simp; done) | (simp [*]; done)), H', ⟨by have := HJ11.out; first | omega | exact Nat.le_refl _⟩, ⟨by (with_reducible repeat (first | refine blk_drewN ?_ _ | refine blk_drew ?_ | refine blk_alloc ?_ _)); exact BK101.out⟩, ⟨by repeat (first | (with_reducible first | exact HB.out | apply below_alloc | apply pw_below_drewN | apply below_drew1 | refine below_set ?_ GE101.out) | exact HB.out)⟩⟩
                    · rw [if_neg c21] at H
                      have c21b0 : decide (0 ≤ t102) = false := decide_eq_false c21
                      clear c21
                      have H' := Aside0.mk H
                      clear H
                      go_wp2
                      go_meet
                      case rel => exact ⟨_, (false), (by first | rfl | (simp; done) | (simp [*]; done)), H', ⟨by have := HJ11.out; first | omega | exact Nat.le_refl _⟩, ⟨by (with_reducible repeat (first | refine blk_drewN ?_ _ | refine blk_drew ?_ | refine blk_alloc ?_ _)); exact BK101.out⟩, ⟨by repeat (first | (with_reducible first | exact HB.out | apply below_alloc | apply pw_below_drewN | apply below_drew1 | refine below_set ?_ GE101.out) | exact HB.out)⟩⟩
                  · rw [if_neg c20] at H
                    have c20b0 : decide ((wrap64 (bt a0 a1)) ≤ 239) = false := decide_eq_false c20
                    clear c20
                    have H' := Aside0.mk H
                    clear H
                    go_wp2
                    go_meet
                    case rel => exact ⟨_, (false), (by first | rfl | (simp; done) | (simp [*]; done)), H', ⟨by have := HJ11.out; first | omega | exact Nat.le_refl _⟩, ⟨by (with_reducible repeat (first | refine blk_drewN ?_ _ | refine blk_drew ?_ | refine blk_alloc ?_ _)); exact BK101.out⟩, ⟨by repeat (first | (with_reducible first | exact HB.out | apply below_alloc | apply pw_below_drewN | apply below_drew1 | refine below_set ?_ GE101.out) | exact HB.out)⟩⟩
                · rw [if_neg c19] at H
                  have c19b0 : decide (224 ≤ (wrap64 (bt a0 a1))) = false := decide_eq_false c19
                  clear c19
                  (first | rw [c19b0] | (simp only [i64_w, i32_w]; rw [c19b0]) | skip)
                  have H' := Aside0.mk H
                  clear H
                  go_wp2
                  go_meet
                  case rel => exact ⟨_, (false), (by first | rfl | (simp; done) | (simp [*]; done)), H', ⟨by have := HJ11.out; first | omega | exact Nat.le_refl _⟩, ⟨by (with_reducible repeat (first | refine blk_drewN ?_ _ | refine blk_drew ?_ | refine blk_alloc ?_ _)); exact BK101.out⟩, ⟨by repeat (first | (with_reducible first | exact HB.out | apply below_alloc | apply pw_below_drewN | apply below_drew1 | refine below_set ?_ GE101.out) | exact HB.out)⟩⟩
              case rest =>
                clear HC18
                try clear c1
                try clear c2
                try clear p2
                try clear c3
                try clear c3b0
                try clear c4
                try clear c4b0
                try clear p5
                try clear q5
                try clear hx5
                try clear p6
                try clear c9
                try clear c9b0
                try clear c14
                try clear c14b0
                try clear c15
                try clear c15b0
                try clear c16
                try clear c19
                try clear c19b0
                try clear c20
                try clear c20b0
                try clear c21
                try clear c21b0
                try clear hcz11_0
                try clear hcz11_1
                try clear hcz11_2
                try clear hcz11_3
                try clear hcz17_0
                try clear hcz17_1
                try clear hcz17_2
                try clear hcz17_3
                try clear hfz11_0
                try clear hfz11_1
                try clear hfz11_2
                try clear hfz11_3
                try clear hfz17_0
                try clear hfz17_1
                try clear hfz17_2
                try clear hfz17_3
                try clear p2
                try clear p5
                try clear p6
                try clear q5
                obtain ⟨kq, x62_17, rfl, HA, HJ17, BK101, HB⟩ := hcut
                cases kq with
                | zero => exact absurd HA.out (by simp [rondelref06_one.j1])
                | succ kj17 =>
                  have H := HA.out
                  clear HA
                  simp only [rondelref06_one.j1] at H
                  have HC22 := Aside0.mk H
                  clear H
                  go_upto_if 62 with (fail)
                  go_cut [] (fun wc => ∃ (kq : Nat) (x102000_21 : Int) (x102001_21 : Int) (x102002_21 : Int) (x102003_21 : Bool), Aside0 (rondelref06_one.j2 kq a1 (wrap64 (bt a0 a1)) t102 t103 t104 = some (r1, r2, r3, r4)) ∧ Aside0 (kq ≤ kj17) ∧ Aside0 (wc.heap[gb101]? = some (.cells #[.int .i64 x102000_21, .int .i64 x102001_21, .int .i64 x102002_21, .bool x102003_21] 47 (0, 0))) ∧ Aside0 (Below w.heap.size w wc))
                  case first =>
                    have H := HC22.out
                    clear HC22
                    by_cases c23 : x62_17 = true
                    · subst c23
                      have H1 : (if (wrap64 ((wrap64 ((wrap64 ((wrap64 ((wrap64 (bt a0 a1)) - 224)) * 4096)) + (wrap64 (t102 * 64)))) + t103)) ≥ 2048 then (if (wrap64 ((wrap64 ((wrap64 ((wrap64 ((wrap64 (bt a0 a1)) - 224)) * 4096)) + (wrap64 (t102 * 64)))) + t103)) < 55296 then (some (a1, 3, wrap64 ((wrap64 ((wrap64 ((wrap64 ((wrap64 (bt a0 a1)) - 224)) * 4096)) + (wrap64 (t102 * 64)))) + t103), false)) else (if (wrap64 ((wrap64 ((wrap64 ((wrap64 ((wrap64 (bt a0 a1)) - 224)) * 4096)) + (wrap64 (t102 * 64)))) + t103)) > 57343 then (some (a1, 3, wrap64 ((wrap64 ((wrap64 ((wrap64 ((wrap64 (bt a0 a1)) - 224)) * 4096)) + (wrap64 (t102 * 64)))) + t103), false)) else (rondelref06_one.j2 kj17 a1 (wrap64 (bt a0 a1)) t102 t103 t104))) else (rondelref06_one.j2 kj17 a1 (wrap64 (bt a0 a1)) t102 t103 t104)) = some (r1, r2, r3, r4) := by rw [if_pos rfl] at H; exact H
                      clear H
                      have H := H1
                      clear H1
                      by_cases c24 : (wrap64 ((wrap64 ((wrap64 ((wrap64 ((wrap64 (bt a0 a1)) - 224)) * 4096)) + (wrap64 (t102 * 64)))) + t103)) ≥ 2048
                      · rw [if_pos c24] at H
                        have c24b0 : decide (2048 ≤ (wrap64 ((wrap64 ((wrap64 ((wrap64 ((wrap64 (bt a0 a1)) - 224)) * 4096)) + (wrap64 (t102 * 64)))) + t103))) = true := decide_eq_true c24
                        clear c24
                        (first | rw [c24b0] | (simp only [i64_w, i32_w]; rw [c24b0]) | skip)
                        by_cases c25 : (wrap64 ((wrap64 ((wrap64 ((wrap64 ((wrap64 (bt a0 a1)) - 224)) * 4096)) + (wrap64 (t102 * 64)))) + t103)) < 55296
                        · rw [if_pos c25] at H
                          have c25b0 : decide ((wrap64 ((wrap64 ((wrap64 ((wrap64 ((wrap64 (bt a0 a1)) - 224)) * 4096)) + (wrap64 (t102 * 64)))) + t103)) < 55296) = true := decide_eq_true c25
                          clear c25
                          simp only [Option.some.injEq, Prod.mk.injEq] at H
                          obtain ⟨rfl, rfl, rfl, rfl⟩ := H
                          have hcz26_0 : wc.cell? ⟨gb101, 0, none⟩ = some (.int .i64 0) := (blk_cell BK101.out 0).trans rfl
                          have hcz26_1 : wc.cell? ⟨gb101, 1, none⟩ = some (.int .i64 0) := (blk_cell BK101.out 1).trans rfl
                          have hcz26_2 : wc.cell? ⟨gb101, 2, none⟩ = some (.int .i64 0) := (blk_cell BK101.out 2).trans rfl
                          have hcz26_3 : wc.cell? ⟨gb101, 3, none⟩ = some (.bool false) := (blk_cell BK101.out 3).trans rfl
                          have hfz26_0 := blk_frozen BK101.out 0
                          have hfz26_1 := blk_frozen BK101.out 1
                          have hfz26_2 := blk_frozen BK101.out 2
                          have hfz26_3 := blk_frozen BK101.out 3
                          go_wp2
                          refine bodyPost_ret (results_cell_row rfl _ _ gb101 47 #[.int .i64 a1, .int .i64 3, .int .i64 (wrap64 ((wrap64 ((wrap64 ((wrap64 ((wrap64 (bt a0 a1)) - 224)) * 4096)) + (wrap64 (t102 * 64)))) + t103)), .bool false] (0, 0) _ rfl (by (with_reducible repeat (first | refine blk_drewN ?_ _ | refine blk_drew ?_ | refine blk_alloc ?_ _)); refine blk_put (cs := #[.int .i64 a1, .int .i64 3, .int .i64 (wrap64 ((wrap64 ((wrap64 ((wrap64 ((wrap64 (bt a0 a1)) - 224)) * 4096)) + (wrap64 (t102 * 64)))) + t103)), .bool false]) ?_ 3 _ rfl; (with_reducible repeat (first | refine blk_drewN ?_ _ | refine blk_drew ?_ | refine blk_alloc ?_ _)); refine blk_put (cs := #[.int .i64 a1, .int .i64 3, .int .i64 0, .bool false]) ?_ 2 _ rfl; (with_reducible repeat (first | refine blk_drewN ?_ _ | refine blk_drew ?_ | refine blk_alloc ?_ _)); refine blk_put (cs := #[.int .i64 a1, .int .i64 0, .int .i64 0, .bool false]) ?_ 1 _ rfl; (with_reducible repeat (first | refine blk_drewN ?_ _ | refine blk_drew ?_ | refine blk_alloc ?_ _)); refine blk_put (cs := #[.int .i64 0, .int .i64 0, .int .i64 0, .bool false]) ?_ 0 _ rfl; (with_reducible repeat (first | refine blk_drewN ?_ _ | refine blk_drew ?_ | refine blk_alloc ?_ _)); exact BK101.out) Tryd.underlying47 rfl (by kernel_rfl)) rfl ?_
                          exact ⟨by first | rfl | (simp [errW_none, errW_some] <;> rfl) | (simp [*, errW_none, errW_some] <;> rfl), by repeat (first | (with_reducible first | exact HB.out | apply below_alloc | apply pw_below_drewN | apply below_drew1 | refine below_set ?_ GE101.out) | exact HB.out)⟩
                        · rw [if_neg c25] at H
                          have c25b0 : decide ((wrap64 ((wrap64 ((wrap64 ((wrap64 ((wrap64 (bt a0 a1)) - 224)) * 4096)) + (wrap64 (t102 * 64)))) + t103)) < 55296) = false := decide_eq_false c25
                          clear c25
                          by_cases c27 : (wrap64 ((wrap64 ((wrap64 ((wrap64 ((wrap64 (bt a0 a1)) - 224)) * 4096)) + (wrap64 (t102 * 64)))) + t103)) > 57343
                          · rw [if_pos c27] at H
                            have c27b0 : decide (57343 < (wrap64 ((wrap64 ((wrap64 ((wrap64 ((wrap64 (bt a0 a1)) - 224)) * 4096)) + (wrap64 (t102 * 64)))) + t103))) = true := decide_eq_true c27
                            clear c27
                            simp only [Option.some.injEq, Prod.mk.injEq] at H
                            obtain ⟨rfl, rfl, rfl, rfl⟩ := H
                            have hcz28_0 : wc.cell? ⟨gb101, 0, none⟩ = some (.int .i64 0) := (blk_cell BK101.out 0).trans rfl
                            have hcz28_1 : wc.cell? ⟨gb101, 1, none⟩ = some (.int .i64 0) := (blk_cell BK101.out 1).trans rfl
                            have hcz28_2 : wc.cell? ⟨gb101, 2, none⟩ = some (.int .i64 0) := (blk_cell BK101.out 2).trans rfl
                            have hcz28_3 : wc.cell? ⟨gb101, 3, none⟩ = some (.bool false) := (blk_cell BK101.out 3).trans rfl
                            have hfz28_0 := blk_frozen BK101.out 0
                            have hfz28_1 := blk_frozen BK101.out 1
                            have hfz28_2 := blk_frozen BK101.out 2
                            have hfz28_3 := blk_frozen BK101.out 3
                            go_wp2
                            refine bodyPost_ret (results_cell_row rfl _ _ gb101 47 #[.int .i64 a1, .int .i64 3, .int .i64 (wrap64 ((wrap64 ((wrap64 ((wrap64 ((wrap64 (bt a0 a1)) - 224)) * 4096)) + (wrap64 (t102 * 64)))) + t103)), .bool false] (0, 0) _ rfl (by (with_reducible repeat (first | refine blk_drewN ?_ _ | refine blk_drew ?_ | refine blk_alloc ?_ _)); refine blk_put (cs := #[.int .i64 a1, .int .i64 3, .int .i64 (wrap64 ((wrap64 ((wrap64 ((wrap64 ((wrap64 (bt a0 a1)) - 224)) * 4096)) + (wrap64 (t102 * 64)))) + t103)), .bool false]) ?_ 3 _ rfl; (with_reducible repeat (first | refine blk_drewN ?_ _ | refine blk_drew ?_ | refine blk_alloc ?_ _)); refine blk_put (cs := #[.int .i64 a1, .int .i64 3, .int .i64 0, .bool false]) ?_ 2 _ rfl; (with_reducible repeat (first | refine blk_drewN ?_ _ | refine blk_drew ?_ | refine blk_alloc ?_ _)); refine blk_put (cs := #[.int .i64 a1, .int .i64 0, .int .i64 0, .bool false]) ?_ 1 _ rfl; (with_reducible repeat (first | refine blk_drewN ?_ _ | refine blk_drew ?_ | refine blk_alloc ?_ _)); refine blk_put (cs := #[.int .i64 0, .int .i64 0, .int .i64 0, .bool false]) ?_ 0 _ rfl; (with_reducible repeat (first | refine blk_drewN ?_ _ | refine blk_drew ?_ | refine blk_alloc ?_ _)); exact BK101.out) Tryd.underlying47 rfl (by kernel_rfl)) rfl ?_
                            exact ⟨by first | rfl | (simp [errW_none, errW_some] <;> rfl) | (simp [*, errW_none, errW_some] <;> rfl), by repeat (first | (with_reducible first | exact HB.out | apply below_alloc | apply pw_below_drewN | apply below_drew1 | refine below_set ?_ GE101.out) | exact HB.out)⟩
                          · rw [if_neg c27] at H
                            have c27b0 : decide (57343 < (wrap64 ((wrap64 ((wrap64 ((wrap64 ((wrap64 (bt a0 a1)) - 224)) * 4096)) + (wrap64 (t102 * 64)))) + t103))) = false := decide_eq_false c27
                            clear c27
                            have H' := Aside0.mk H
                            clear H
                            go_wp2
                            go_meet
                            case rel => exact ⟨_, (0), (0), (0), (false), H', ⟨by have := HJ11.out; have := HJ17.out; first | omega | exact Nat.le_refl _⟩, ⟨by (with_reducible repeat (first | refine blk_drewN ?_ _ | refine blk_drew ?_ | refine blk_alloc ?_ _)); exact BK101.out⟩, ⟨by repeat (first | (with_reducible first | exact HB.out | apply below_alloc | apply pw_below_drewN | apply below_drew1 | refine below_set ?_ GE101.out) | exact HB.out)⟩⟩
                      · rw [if_neg c24] at H
                        have c24b0 : decide (2048 ≤ (wrap64 ((wrap64 ((wrap64 ((wrap64 ((wrap64 (bt a0 a1)) - 224)) * 4096)) + (wrap64 (t102 * 64)))) + t103))) = false := decide_eq_false c24
                        clear c24
                        (first | rw [c24b0] | (simp only [i64_w, i32_w]; rw [c24b0]) | skip)
                        have H' := Aside0.mk H
                        clear H
                        go_wp2
                        go_meet
                        case rel => exact ⟨_, (0), (0), (0), (false), H', ⟨by have := HJ11.out; have := HJ17.out; first | omega | exact Nat.le_refl _⟩, ⟨by (with_reducible repeat (first | refine blk_drewN ?_ _ | refine blk_drew ?_ | refine blk_alloc ?_ _)); exact BK101.out⟩, ⟨by repeat (first | (with_reducible first | exact HB.out | apply below_alloc | apply pw_below_drewN | apply below_drew1 | refine below_set ?_ GE101.out) | exact HB.out)⟩⟩
                    · replace c23 := Bool.eq_false_iff.mpr c23
                      subst c23
                      have H1 : (rondelref06_one.j2 kj17 a1 (wrap64 (bt a0 a1)) t102 t103 t104) = some (r1, r2, r3, r4) := by rw [if_neg (show ¬ (false = true) by decide)] at H; exact H
                      clear H
                      have H := H1
                      clear H1
                      have H' := Aside0.mk H
                      clear H
                      go_wp2
                      go_meet
                      case rel => exact ⟨_, (0), (0), (0), (false), H', ⟨by have := HJ11.out; have := HJ17.out; first | omega | exact Nat.le_refl _⟩, ⟨by (with_reducible repeat (first | refine blk_drewN ?_ _ | refine blk_drew ?_ | refine blk_alloc ?_ _)); exact BK101.out⟩, ⟨by repeat (first | (with_reducible first | exact HB.out | apply below_alloc | apply pw_below_drewN | apply below_drew1 | refine below_set ?_ GE101.out) | exact HB.out)⟩⟩
                  case rest =>
                    clear HC22
                    try clear c1
                    try clear c2
                    try clear p2
                    try clear c3
                    try clear c3b0
                    try clear c4
                    try clear c4b0
                    try clear p5
                    try clear q5
                    try clear hx5
                    try clear p6
                    try clear c9
                    try clear c9b0
                    try clear c14
                    try clear c14b0
                    try clear c15
                    try clear c15b0
                    try clear c16
                    try clear c19
                    try clear c19b0
                    try clear c20
                    try clear c20b0
                    try clear c21
                    try clear c21b0
                    try clear c22
                    try clear c23
                    try clear c24
                    try clear c24b0
                    try clear c25
                    try clear c25b0
                    try clear c27
                    try clear c27b0
                    try clear c28
                    try clear hcz11_0
                    try clear hcz11_1
                    try clear hcz11_2
                    try clear hcz11_3
                    try clear hcz17_0
                    try clear hcz17_1
                    try clear hcz17_2
                    try clear hcz17_3
                    try clear hcz26_0
                    try clear hcz26_1
                    try clear hcz26_2
                    try clear hcz26_3
                    try clear hcz28_0
                    try clear hcz28_1
                    try clear hcz28_2
                    try clear hcz28_3
                    try clear hfz11_0
                    try clear hfz11_1
                    try clear hfz11_2
                    try clear hfz11_3
                    try clear hfz17_0
                    try clear hfz17_1
                    try clear hfz17_2
                    try clear hfz17_3
                    try clear hfz26_0
                    try clear hfz26_1
                    try clear hfz26_2
                    try clear hfz26_3
                    try clear hfz28_0
                    try clear hfz28_1
                    try clear hfz28_2
                    try clear hfz28_3
                    try clear p2
                    try clear p5
                    try clear p6
                    try clear q5
                    obtain ⟨kq, x102000_21, x102001_21, x102002_21, x102003_21, HA, HJ21, BK101, HB⟩ := hcut
                    cases kq with
                    | zero => exact absurd HA.out (by simp [rondelref06_one.j2])
                    | succ kj21 =>
                      have H := HA.out
                      clear HA
                      simp only [rondelref06_one.j2] at H
                      have HC29 := Aside0.mk H
                      clear H
                      go_upto_region 13 with (fail)
                      go_cut [101] (fun v101 wc => ∃ (kq : Nat) (x101_28 : Bool), v101 = .bool x101_28 ∧ Aside0 (rondelref06_one.j3 kq a1 (wrap64 (bt a0 a1)) t102 t103 t104 x101_28 = some (r1, r2, r3, r4)) ∧ Aside0 (kq ≤ kj21) ∧ Aside0 (wc.heap[gb101]? = some (.cells #[.int .i64 x102000_21, .int .i64 x102001_21, .int .i64 x102002_21, .bool x102003_21] 47 (0, 0))) ∧ Aside0 (Below w.heap.size w wc))
                      case first =>
                        have H := HC29.out
                        clear HC29
                        by_cases c30 : (wrap64 (bt a0 a1)) ≥ 240
                        · rw [if_pos c30] at H
                          have c30b0 : decide (240 ≤ (wrap64 (bt a0 a1))) = true := decide_eq_true c30
                          clear c30
                          (first | rw [c30b0] | (simp only [i64_w, i32_w]; rw [c30b0]) | skip)
                          by_cases c31 : (wrap64 (bt a0 a1)) ≤ 244
                          · rw [if_pos c31] at H
                            have c31b0 : decide ((wrap64 (bt a0 a1)) ≤ 244) = true := decide_eq_true c31
                            clear c31
                            by_cases c32 : t102 ≥ 0
                            · rw [if_pos c32] at H
                              have c32b0 : decide (0 ≤ t102) = true := decide_eq_true c32
                              clear c32
                              by_cases c33 : t103 ≥ 0
                              · rw [if_pos c33] at H
                                have c33b0 : decide (0 ≤ t103) = true := decide_eq_true c33
                                clear c33
                                have H' := Aside0.mk H
                                clear H
                                go_wp2
                                go_meet
                                case rel => exact ⟨_, (decide (t104 ≥ 0)), (by first | rfl | (simp; done) | (simp [*]; done)), H', ⟨by have := HJ11.out; have := HJ17.out; have := HJ21.out; first | omega | exact Nat.le_refl _⟩, ⟨by (with_reducible repeat (first | refine blk_drewN ?_ _ | refine blk_drew ?_ | refine blk_alloc ?_ _)); exact BK101.out⟩, ⟨by repeat (first | (with_reducible first | exact HB.out | apply below_alloc | apply pw_below_drewN | apply below_drew1 | refine below_set ?_ GE101.out) | exact HB.out)⟩⟩
                              · rw [if_neg c33] at H
                                have c33b0 : decide (0 ≤ t103) = false := decide_eq_false c33
                                clear c33
                                have H' := Aside0.mk H
                                clear H
                                go_wp2
                                go_meet
                                case rel => exact ⟨_, (false), (by first | rfl | (simp; done) | (simp [*]; done)), H', ⟨by have := HJ11.out; have := HJ17.out; have := HJ21.out; first | omega | exact Nat.le_refl _⟩, ⟨by (with_reducible repeat (first | refine blk_drewN ?_ _ | refine blk_drew ?_ | refine blk_alloc ?_ _)); exact BK101.out⟩, ⟨by repeat (first | (with_reducible first | exact HB.out | apply below_alloc | apply pw_below_drewN | apply below_drew1 | refine below_set ?_ GE101.out) | exact HB.out)⟩⟩
                            · rw [if_neg c32] at H
                              have c32b0 : decide (0 ≤ t102) = false := decide_eq_false c32
                              clear c32
                              have H' := Aside0.mk H
                              clear H
                              go_wp2
                              go_meet
                              case rel => exact ⟨_, (false), (by first | rfl | (simp; done) | (simp [*]; done)), H', ⟨by have := HJ11.out; have := HJ17.out; have := HJ21.out; first | omega | exact Nat.le_refl _⟩, ⟨by (with_reducible repeat (first | refine blk_drewN ?_ _ | refine blk_drew ?_ | refine blk_alloc ?_ _)); exact BK101.out⟩, ⟨by repeat (first | (with_reducible first | exact HB.out | apply below_alloc | apply pw_below_drewN | apply below_drew1 | refine below_set ?_ GE101.out) | exact HB.out)⟩⟩
                          · rw [if_neg c31] at H
                            have c31b0 : decide ((wrap64 (bt a0 a1)) ≤ 244) = false := decide_eq_false c31
                            clear c31
                            have H' := Aside0.mk H
                            clear H
                            go_wp2
                            go_meet
                            case rel => exact ⟨_, (false), (by first | rfl | (simp; done) | (simp [*]; done)), H', ⟨by have := HJ11.out; have := HJ17.out; have := HJ21.out; first | omega | exact Nat.le_refl _⟩, ⟨by (with_reducible repeat (first | refine blk_drewN ?_ _ | refine blk_drew ?_ | refine blk_alloc ?_ _)); exact BK101.out⟩, ⟨by repeat (first | (with_reducible first | exact HB.out | apply below_alloc | apply pw_below_drewN | apply below_drew1 | refine below_set ?_ GE101.out) | exact HB.out)⟩⟩
                        · rw [if_neg c30] at H
                          have c30b0 : decide (240 ≤ (wrap64 (bt a0 a1))) = false := decide_eq_false c30
                          clear c30
                          (first | rw [c30b0] | (simp only [i64_w, i32_w]; rw [c30b0]) | skip)
                          have H' := Aside0.mk H
                          clear H
                          go_wp2
                          go_meet
                          case rel => exact ⟨_, (false), (by first | rfl | (simp; done) | (simp [*]; done)), H', ⟨by have := HJ11.out; have := HJ17.out; have := HJ21.out; first | omega | exact Nat.le_refl _⟩, ⟨by (with_reducible repeat (first | refine blk_drewN ?_ _ | refine blk_drew ?_ | refine blk_alloc ?_ _)); exact BK101.out⟩, ⟨by repeat (first | (with_reducible first | exact HB.out | apply below_alloc | apply pw_below_drewN | apply below_drew1 | refine below_set ?_ GE101.out) | exact HB.out)⟩⟩
                      case rest =>
                        clear HC29
                        try clear c1
                        try clear c2
                        try clear p2
                        try clear c3
                        try clear c3b0
                        try clear c4
                        try clear c4b0
                        try clear p5
                        try clear q5
                        try clear hx5
                        try clear p6
                        try clear c9
                        try clear c9b0
                        try clear c14
                        try clear c14b0
                        try clear c15
                        try clear c15b0
                        try clear c16
                        try clear c19
                        try clear c19b0
                        try clear c20
                        try clear c20b0
                        try clear c21
                        try clear c21b0
                        try clear c22
                        try clear c23
                        try clear c24
                        try clear c24b0
                        try clear c25
                        try clear c25b0
                        try clear c27
                        try clear c27b0
                        try clear c28
                        try clear c30
                        try clear c30b0
                        try clear c31
                        try clear c31b0
                        try clear c32
                        try clear c32b0
                        try clear c33
                        try clear c33b0
                        try clear hcz11_0
                        try clear hcz11_1
                        try clear hcz11_2
                        try clear hcz11_3
                        try clear hcz17_0
                        try clear hcz17_1
                        try clear hcz17_2
                        try clear hcz17_3
                        try clear hcz26_0
                        try clear hcz26_1
                        try clear hcz26_2
                        try clear hcz26_3
                        try clear hcz28_0
                        try clear hcz28_1
                        try clear hcz28_2
                        try clear hcz28_3
                        try clear hfz11_0
                        try clear hfz11_1
                        try clear hfz11_2
                        try clear hfz11_3
                        try clear hfz17_0
                        try clear hfz17_1
                        try clear hfz17_2
                        try clear hfz17_3
                        try clear hfz26_0
                        try clear hfz26_1
                        try clear hfz26_2
                        try clear hfz26_3
                        try clear hfz28_0
                        try clear hfz28_1
                        try clear hfz28_2
                        try clear hfz28_3
                        try clear p2
                        try clear p5
                        try clear p6
                        try clear q5
                        obtain ⟨kq, x101_28, rfl, HA, HJ28, BK101, HB⟩ := hcut
                        cases kq with
                        | zero => exact absurd HA.out (by simp [rondelref06_one.j3])
                        | succ kj28 =>
                          have H := HA.out
                          clear HA
                          simp only [rondelref06_one.j3] at H
                          by_cases c34 : x101_28 = true
                          · subst c34
                            have H1 : (if (wrap64 ((wrap64 ((wrap64 ((wrap64 ((wrap64 ((wrap64 (bt a0 a1)) - 240)) * 262144)) + (wrap64 (t102 * 4096)))) + (wrap64 (t103 * 64)))) + t104)) ≥ 65536 then (if (wrap64 ((wrap64 ((wrap64 ((wrap64 ((wrap64 ((wrap64 (bt a0 a1)) - 240)) * 262144)) + (wrap64 (t102 * 4096)))) + (wrap64 (t103 * 64)))) + t104)) ≤ 1114111 then (some (a1, 4, wrap64 ((wrap64 ((wrap64 ((wrap64 ((wrap64 ((wrap64 (bt a0 a1)) - 240)) * 262144)) + (wrap64 (t102 * 4096)))) + (wrap64 (t103 * 64)))) + t104), false)) else (some (a1, 1, 65533, true))) else (some (a1, 1, 65533, true))) = some (r1, r2, r3, r4) := by rw [if_pos rfl] at H; exact H
                            clear H
                            have H := H1
                            clear H1
                            by_cases c35 : (wrap64 ((wrap64 ((wrap64 ((wrap64 ((wrap64 ((wrap64 (bt a0 a1)) - 240)) * 262144)) + (wrap64 (t102 * 4096)))) + (wrap64 (t103 * 64)))) + t104)) ≥ 65536
                            · rw [if_pos c35] at H
                              have c35b0 : decide (65536 ≤ (wrap64 ((wrap64 ((wrap64 ((wrap64 ((wrap64 ((wrap64 (bt a0 a1)) - 240)) * 262144)) + (wrap64 (t102 * 4096)))) + (wrap64 (t103 * 64)))) + t104))) = true := decide_eq_true c35
                              clear c35
                              by_cases c36 : (wrap64 ((wrap64 ((wrap64 ((wrap64 ((wrap64 ((wrap64 (bt a0 a1)) - 240)) * 262144)) + (wrap64 (t102 * 4096)))) + (wrap64 (t103 * 64)))) + t104)) ≤ 1114111
                              · rw [if_pos c36] at H
                                have c36b0 : decide ((wrap64 ((wrap64 ((wrap64 ((wrap64 ((wrap64 ((wrap64 (bt a0 a1)) - 240)) * 262144)) + (wrap64 (t102 * 4096)))) + (wrap64 (t103 * 64)))) + t104)) ≤ 1114111) = true := decide_eq_true c36
                                clear c36
                                simp only [Option.some.injEq, Prod.mk.injEq] at H
                                obtain ⟨rfl, rfl, rfl, rfl⟩ := H
                                have hcz37_0 : wc.cell? ⟨gb101, 0, none⟩ = some (.int .i64 x102000_21) := (blk_cell BK101.out 0).trans rfl
                                have hcz37_1 : wc.cell? ⟨gb101, 1, none⟩ = some (.int .i64 x102001_21) := (blk_cell BK101.out 1).trans rfl
                                have hcz37_2 : wc.cell? ⟨gb101, 2, none⟩ = some (.int .i64 x102002_21) := (blk_cell BK101.out 2).trans rfl
                                have hcz37_3 : wc.cell? ⟨gb101, 3, none⟩ = some (.bool x102003_21) := (blk_cell BK101.out 3).trans rfl
                                have hfz37_0 := blk_frozen BK101.out 0
                                have hfz37_1 := blk_frozen BK101.out 1
                                have hfz37_2 := blk_frozen BK101.out 2
                                have hfz37_3 := blk_frozen BK101.out 3
                                go_wp2
                                refine bodyPost_ret (results_cell_row rfl _ _ gb101 47 #[.int .i64 a1, .int .i64 4, .int .i64 (wrap64 ((wrap64 ((wrap64 ((wrap64 ((wrap64 ((wrap64 (bt a0 a1)) - 240)) * 262144)) + (wrap64 (t102 * 4096)))) + (wrap64 (t103 * 64)))) + t104)), .bool false] (0, 0) _ rfl (by (with_reducible repeat (first | refine blk_drewN ?_ _ | refine blk_drew ?_ | refine blk_alloc ?_ _)); refine blk_put (cs := #[.int .i64 a1, .int .i64 4, .int .i64 (wrap64 ((wrap64 ((wrap64 ((wrap64 ((wrap64 ((wrap64 (bt a0 a1)) - 240)) * 262144)) + (wrap64 (t102 * 4096)))) + (wrap64 (t103 * 64)))) + t104)), .bool x102003_21]) ?_ 3 _ rfl; (with_reducible repeat (first | refine blk_drewN ?_ _ | refine blk_drew ?_ | refine blk_alloc ?_ _)); refine blk_put (cs := #[.int .i64 a1, .int .i64 4, .int .i64 x102002_21, .bool x102003_21]) ?_ 2 _ rfl; (with_reducible repeat (first | refine blk_drewN ?_ _ | refine blk_drew ?_ | refine blk_alloc ?_ _)); refine blk_put (cs := #[.int .i64 a1, .int .i64 x102001_21, .int .i64 x102002_21, .bool x102003_21]) ?_ 1 _ rfl; (with_reducible repeat (first | refine blk_drewN ?_ _ | refine blk_drew ?_ | refine blk_alloc ?_ _)); refine blk_put (cs := #[.int .i64 x102000_21, .int .i64 x102001_21, .int .i64 x102002_21, .bool x102003_21]) ?_ 0 _ rfl; (with_reducible repeat (first | refine blk_drewN ?_ _ | refine blk_drew ?_ | refine blk_alloc ?_ _)); exact BK101.out) Tryd.underlying47 rfl (by kernel_rfl)) rfl ?_
                                exact ⟨by first | rfl | (simp [errW_none, errW_some] <;> rfl) | (simp [*, errW_none, errW_some] <;> rfl), by repeat (first | (with_reducible first | exact HB.out | apply below_alloc | apply pw_below_drewN | apply below_drew1 | refine below_set ?_ GE101.out) | exact HB.out)⟩
                              · rw [if_neg c36] at H
                                have c36b0 : decide ((wrap64 ((wrap64 ((wrap64 ((wrap64 ((wrap64 ((wrap64 (bt a0 a1)) - 240)) * 262144)) + (wrap64 (t102 * 4096)))) + (wrap64 (t103 * 64)))) + t104)) ≤ 1114111) = false := decide_eq_false c36
                                clear c36
                                simp only [Option.some.injEq, Prod.mk.injEq] at H
                                obtain ⟨rfl, rfl, rfl, rfl⟩ := H
                                have hcz38_0 : wc.cell? ⟨gb101, 0, none⟩ = some (.int .i64 x102000_21) := (blk_cell BK101.out 0).trans rfl
                                have hcz38_1 : wc.cell? ⟨gb101, 1, none⟩ = some (.int .i64 x102001_21) := (blk_cell BK101.out 1).trans rfl
                                have hcz38_2 : wc.cell? ⟨gb101, 2, none⟩ = some (.int .i64 x102002_21) := (blk_cell BK101.out 2).trans rfl
                                have hcz38_3 : wc.cell? ⟨gb101, 3, none⟩ = some (.bool x102003_21) := (blk_cell BK101.out 3).trans rfl
                                have hfz38_0 := blk_frozen BK101.out 0
                                have hfz38_1 := blk_frozen BK101.out 1
                                have hfz38_2 := blk_frozen BK101.out 2
                                have hfz38_3 := blk_frozen BK101.out 3
                                go_wp2
                                refine bodyPost_ret (results_cell_row rfl _ _ gb101 47 #[.int .i64 a1, .int .i64 1, .int .i64 65533, .bool true] (0, 0) _ rfl (by (with_reducible repeat (first | refine blk_drewN ?_ _ | refine blk_drew ?_ | refine blk_alloc ?_ _)); refine blk_put (cs := #[.int .i64 a1, .int .i64 1, .int .i64 65533, .bool x102003_21]) ?_ 3 _ rfl; (with_reducible repeat (first | refine blk_drewN ?_ _ | refine blk_drew ?_ | refine blk_alloc ?_ _)); refine blk_put (cs := #[.int .i64 a1, .int .i64 1, .int .i64 x102002_21, .bool x102003_21]) ?_ 2 _ rfl; (with_reducible repeat (first | refine blk_drewN ?_ _ | refine blk_drew ?_ | refine blk_alloc ?_ _)); refine blk_put (cs := #[.int .i64 a1, .int .i64 x102001_21, .int .i64 x102002_21, .bool x102003_21]) ?_ 1 _ rfl; (with_reducible repeat (first | refine blk_drewN ?_ _ | refine blk_drew ?_ | refine blk_alloc ?_ _)); refine blk_put (cs := #[.int .i64 x102000_21, .int .i64 x102001_21, .int .i64 x102002_21, .bool x102003_21]) ?_ 0 _ rfl; (with_reducible repeat (first | refine blk_drewN ?_ _ | refine blk_drew ?_ | refine blk_alloc ?_ _)); exact BK101.out) Tryd.underlying47 rfl (by kernel_rfl)) rfl ?_
                                exact ⟨by first | rfl | (simp [errW_none, errW_some] <;> rfl) | (simp [*, errW_none, errW_some] <;> rfl), by repeat (first | (with_reducible first | exact HB.out | apply below_alloc | apply pw_below_drewN | apply below_drew1 | refine below_set ?_ GE101.out) | exact HB.out)⟩
                            · rw [if_neg c35] at H
                              have c35b0 : decide (65536 ≤ (wrap64 ((wrap64 ((wrap64 ((wrap64 ((wrap64 ((wrap64 (bt a0 a1)) - 240)) * 262144)) + (wrap64 (t102 * 4096)))) + (wrap64 (t103 * 64)))) + t104))) = false := decide_eq_false c35
                              clear c35
                              simp only [Option.some.injEq, Prod.mk.injEq] at H
                              obtain ⟨rfl, rfl, rfl, rfl⟩ := H
                              have hcz39_0 : wc.cell? ⟨gb101, 0, none⟩ = some (.int .i64 x102000_21) := (blk_cell BK101.out 0).trans rfl
                              have hcz39_1 : wc.cell? ⟨gb101, 1, none⟩ = some (.int .i64 x102001_21) := (blk_cell BK101.out 1).trans rfl
                              have hcz39_2 : wc.cell? ⟨gb101, 2, none⟩ = some (.int .i64 x102002_21) := (blk_cell BK101.out 2).trans rfl
                              have hcz39_3 : wc.cell? ⟨gb101, 3, none⟩ = some (.bool x102003_21) := (blk_cell BK101.out 3).trans rfl
                              have hfz39_0 := blk_frozen BK101.out 0
                              have hfz39_1 := blk_frozen BK101.out 1
                              have hfz39_2 := blk_frozen BK101.out 2
                              have hfz39_3 := blk_frozen BK101.out 3
                              go_wp2
                              refine bodyPost_ret (results_cell_row rfl _ _ gb101 47 #[.int .i64 a1, .int .i64 1, .int .i64 65533, .bool true] (0, 0) _ rfl (by (with_reducible repeat (first | refine blk_drewN ?_ _ | refine blk_drew ?_ | refine blk_alloc ?_ _)); refine blk_put (cs := #[.int .i64 a1, .int .i64 1, .int .i64 65533, .bool x102003_21]) ?_ 3 _ rfl; (with_reducible repeat (first | refine blk_drewN ?_ _ | refine blk_drew ?_ | refine blk_alloc ?_ _)); refine blk_put (cs := #[.int .i64 a1, .int .i64 1, .int .i64 x102002_21, .bool x102003_21]) ?_ 2 _ rfl; (with_reducible repeat (first | refine blk_drewN ?_ _ | refine blk_drew ?_ | refine blk_alloc ?_ _)); refine blk_put (cs := #[.int .i64 a1, .int .i64 x102001_21, .int .i64 x102002_21, .bool x102003_21]) ?_ 1 _ rfl; (with_reducible repeat (first | refine blk_drewN ?_ _ | refine blk_drew ?_ | refine blk_alloc ?_ _)); refine blk_put (cs := #[.int .i64 x102000_21, .int .i64 x102001_21, .int .i64 x102002_21, .bool x102003_21]) ?_ 0 _ rfl; (with_reducible repeat (first | refine blk_drewN ?_ _ | refine blk_drew ?_ | refine blk_alloc ?_ _)); exact BK101.out) Tryd.underlying47 rfl (by kernel_rfl)) rfl ?_
                              exact ⟨by first | rfl | (simp [errW_none, errW_some] <;> rfl) | (simp [*, errW_none, errW_some] <;> rfl), by repeat (first | (with_reducible first | exact HB.out | apply below_alloc | apply pw_below_drewN | apply below_drew1 | refine below_set ?_ GE101.out) | exact HB.out)⟩
                          · replace c34 := Bool.eq_false_iff.mpr c34
                            subst c34
                            have H1 : (some (a1, 1, 65533, true)) = some (r1, r2, r3, r4) := by rw [if_neg (show ¬ (false = true) by decide)] at H; exact H
                            clear H
                            have H := H1
                            clear H1
                            simp only [Option.some.injEq, Prod.mk.injEq] at H
                            obtain ⟨rfl, rfl, rfl, rfl⟩ := H
                            have hcz40_0 : wc.cell? ⟨gb101, 0, none⟩ = some (.int .i64 x102000_21) := (blk_cell BK101.out 0).trans rfl
                            have hcz40_1 : wc.cell? ⟨gb101, 1, none⟩ = some (.int .i64 x102001_21) := (blk_cell BK101.out 1).trans rfl
                            have hcz40_2 : wc.cell? ⟨gb101, 2, none⟩ = some (.int .i64 x102002_21) := (blk_cell BK101.out 2).trans rfl
                            have hcz40_3 : wc.cell? ⟨gb101, 3, none⟩ = some (.bool x102003_21) := (blk_cell BK101.out 3).trans rfl
                            have hfz40_0 := blk_frozen BK101.out 0
                            have hfz40_1 := blk_frozen BK101.out 1
                            have hfz40_2 := blk_frozen BK101.out 2
                            have hfz40_3 := blk_frozen BK101.out 3
                            go_wp2
                            refine bodyPost_ret (results_cell_row rfl _ _ gb101 47 #[.int .i64 a1, .int .i64 1, .int .i64 65533, .bool true] (0, 0) _ rfl (by (with_reducible repeat (first | refine blk_drewN ?_ _ | refine blk_drew ?_ | refine blk_alloc ?_ _)); refine blk_put (cs := #[.int .i64 a1, .int .i64 1, .int .i64 65533, .bool x102003_21]) ?_ 3 _ rfl; (with_reducible repeat (first | refine blk_drewN ?_ _ | refine blk_drew ?_ | refine blk_alloc ?_ _)); refine blk_put (cs := #[.int .i64 a1, .int .i64 1, .int .i64 x102002_21, .bool x102003_21]) ?_ 2 _ rfl; (with_reducible repeat (first | refine blk_drewN ?_ _ | refine blk_drew ?_ | refine blk_alloc ?_ _)); refine blk_put (cs := #[.int .i64 a1, .int .i64 x102001_21, .int .i64 x102002_21, .bool x102003_21]) ?_ 1 _ rfl; (with_reducible repeat (first | refine blk_drewN ?_ _ | refine blk_drew ?_ | refine blk_alloc ?_ _)); refine blk_put (cs := #[.int .i64 x102000_21, .int .i64 x102001_21, .int .i64 x102002_21, .bool x102003_21]) ?_ 0 _ rfl; (with_reducible repeat (first | refine blk_drewN ?_ _ | refine blk_drew ?_ | refine blk_alloc ?_ _)); exact BK101.out) Tryd.underlying47 rfl (by kernel_rfl)) rfl ?_
                            exact ⟨by first | rfl | (simp [errW_none, errW_some] <;> rfl) | (simp [*, errW_none, errW_some] <;> rfl), by repeat (first | (with_reducible first | exact HB.out | apply below_alloc | apply pw_below_drewN | apply below_drew1 | refine below_set ?_ GE101.out) | exact HB.out)⟩
    · rw [if_neg c4] at H
      exact absurd H (by simp)
  · rw [if_neg c3] at H
    exact absurd H (by simp)

end Go.Proofs.YtpmhbfelhjpalaaDoor.PMay

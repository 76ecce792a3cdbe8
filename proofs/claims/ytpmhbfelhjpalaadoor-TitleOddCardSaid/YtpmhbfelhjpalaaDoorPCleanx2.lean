-- PRINTED BY print.sh 35421559b90ae4d0a3588c463048766b98c2df88dd9212a6774a882060cdf62d: not written by this session
import Derived.Test.YtpmhbfelhjpalaaDoorPCleanx0
import Derived.Test.YtpmhbfelhjpalaaDoorPCleanx1
namespace Go.Proofs.YtpmhbfelhjpalaaDoor.PClean
open Go.RowKit Go.Proofs.YtpmhbfelhjpalaaDoorW.PrintWords Go.Proofs.YtpmhbfelhjpalaaDoorW.PrintLast Go.Proofs.YtpmhbfelhjpalaaDoorW.PrintMore
attribute [local go_sem] max2_int min2_int max_two min_two max_three min_three max_four min_four   -- for this text's walks alone
set_option linter.unusedVariables false
set_option linter.unusedSimpArgs false

/-! ### rondelref06_Signs: function 12 -/
def rondelref06_Signs.l0 : Nat → ByteArray → List (S47) → Int → Option ((List (S47)))
  | 0, _, _, _ => none
  | k + 1, x0, x3, x4 => if x4 < (x0.size : Int) then ((rondelref06_one.f k x0 x4).bind fun bt105 => (if x3.length < 4398046511104 then (rondelref06_Signs.l0 k x0 (x3 ++ [(⟨bt105.1, bt105.2.1, bt105.2.2.1, bt105.2.2.2⟩ : S47)]) (wrap64 (x4 + bt105.2.1))) else (none))) else (some x3)
def rondelref06_Signs.f (k : Nat) (a0 : ByteArray) : Option ((List (S47))) := rondelref06_Signs.l0 k a0 ([] : List (S47)) 0
theorem rondelref06_Signs.mono_l : ∀ k, (∀ y0 y1 y2, LeO (rondelref06_Signs.l0 k y0 y1 y2) (rondelref06_Signs.l0 (k + 1) y0 y1 y2))
  | 0 => fun _ _ _ r h => by simp [rondelref06_Signs.l0] at h
  | k + 1 => by
    have ih0 := rondelref06_Signs.mono_l k
    · intro y0 y1 y2
      unfold rondelref06_Signs.l0
      repeat' first
      | (with_reducible exact ih0 _ _ _)
      | (with_reducible exact rondelref06_one.mono _ _ _)
      | (with_reducible exact LeO.refl _)
      | (with_reducible exact LeO.none _)
      | (with_reducible refine LeO.ite ?_ ?_)
      | (with_reducible refine LeO.bind ?_ (fun _ => ?_))
      | exact ih0 _ _ _
      | exact rondelref06_one.mono _ _ _
      | exact LeO.none _
      | refine LeO.ite ?_ ?_
      | refine LeO.bind ?_ (fun _ => ?_)
theorem rondelref06_Signs.mono : ∀ a0 k, LeO (rondelref06_Signs.f k a0) (rondelref06_Signs.f (k + 1) a0) := by
  intro a0 k
  have ih0 := rondelref06_Signs.mono_l k
  unfold rondelref06_Signs.f
  repeat' first
      | (with_reducible exact ih0 _ _ _)
      | (with_reducible exact rondelref06_one.mono _ _ _)
      | (with_reducible exact LeO.refl _)
      | (with_reducible exact LeO.none _)
      | (with_reducible refine LeO.ite ?_ ?_)
      | (with_reducible refine LeO.bind ?_ (fun _ => ?_))
      | exact ih0 _ _ _
      | exact rondelref06_one.mono _ _ _
      | exact LeO.none _
      | refine LeO.ite ?_ ?_
      | refine LeO.bind ?_ (fun _ => ?_)
set_option maxHeartbeats 8000000 in
set_option maxRecDepth 100000 in
theorem rondelref06_Signs.calls (k : Nat) (a0 : ByteArray) (r : List (S47)) (w : World) (h : rondelref06_Signs.f k a0 = some r) :
    Calls Tryd.prog 12 #[.string a0] w fun e w' => ∃ v0_ : Value, e = .returned (v0_) ∧ Kd.R k47 47 w' w.heap.size (fun _ => True) v0_ r ∧ Below w.heap.size w w' := by
  have hu47 := Tryd.underlying47
  have HB := Aside0.mk (Below.refl w.heap.size w)
  have H : (rondelref06_Signs.l0 k a0 ([] : List (S47)) 0) = some r := h
  clear h
  have H' := Aside0.mk H
  clear H
  go_enter Tryd.func12, Tryd.ntmps12
  go_wp2
  go_loopg [3, 4] k (fun kq v3 v4 w' => ∃ (x3_1 : List (S47)) (x4_1 : Int), v4 = .int .i64 x4_1 ∧ Aside0 (rondelref06_Signs.l0 kq a0 x3_1 x4_1 = some r) ∧ Aside0 (kq ≤ k) ∧ Aside0 (Kd.R k47 47 w' w.heap.size (fun _ => True) v3 x3_1) ∧ Aside0 (Below w.heap.size w w'))
  case atStart => exact ⟨(([] : List (S47))), (0), (by first | rfl | (simp; done) | (simp [*]; done)), H', ⟨Nat.le_refl _⟩, ⟨by first | exact Kd.R_nil _ _ _ _ _ | exact Kd.N_nil _ _ _ _ _ | exact Kd.V_nil _ _ _ _ _ | exact Kd.Q_nil _ _ _ _ _ | exact Kd.S_nil _ _ _ _ _⟩, ⟨by repeat (first | (with_reducible first | exact HB.out | apply below_alloc | apply pw_below_drewN | apply below_drew1) | exact HB.out)⟩⟩
  case round =>
    clear H'
    try clear c1
    obtain ⟨x3_1, x4_1, rfl, HA, HK1, HO_3, HB⟩ := hrel
    cases gk with
    | zero => exact absurd HA.out (by simp [rondelref06_Signs.l0])
    | succ k1 =>
      have H := HA.out
      clear HA
      simp only [rondelref06_Signs.l0] at H
      by_cases c2 : x4_1 < (a0.size : Int)
      · rw [if_pos c2] at H
        have c2b0 : decide (x4_1 < (a0.size : Int)) = true := decide_eq_true c2
        clear c2
        replace H := Option.bind_eq_some_iff.mp H
        obtain ⟨⟨t105, t106, t107, t108⟩, A30, H⟩ := H
        replace H : (if x3_1.length < 4398046511104 then (rondelref06_Signs.l0 k1 a0 (x3_1 ++ [(⟨t105, t106, t107, t108⟩ : S47)]) (wrap64 (x4_1 + t106))) else (none)) = some r := H
        have A3 := Aside0.mk A30
        clear A30
        by_cases c4 : x3_1.length < 4398046511104
        · rw [if_pos c4] at H
          have LMc4 := Aside0.mk c4
          clear c4
          obtain ⟨y110, hy110⟩ : ∃ y_ : List (S47), y_ = (x3_1 ++ [(⟨t105, t106, t107, t108⟩ : S47)]) := ⟨_, rfl⟩
          replace H : (rondelref06_Signs.l0 k1 a0 y110 (wrap64 (x4_1 + t106))) = some r := by first | (rw [hy110]; with_reducible exact H) | (have H2_ := (Option.bind_some _ _).symm.trans H; rw [hy110]; with_reducible exact H2_) | (have H2_ := (Option.bind_some _ _).symm.trans H; with_reducible exact H2_) | with_reducible exact H | (rw [hy110]; exact H) | exact H
          have Ny110 := Aside0.mk hy110
          clear hy110
          have H' := Aside0.mk H
          clear H
          go_wp2_with (first | ((with_reducible refine gate_callee (f := 22) rfl ?_); refine goesL_ (some 12) rfl rfl Tryd.func22 (by kernel_rfl) rfl #[.string a0, .int .i64 x4_1] rfl (by (try simp only [List.map_toArray, List.map_cons, List.map_nil]); first | done | rfl | (simp only [List.length_drop, List.length_take]; rfl)) ?_; (with_reducible refine (rondelref06_one.calls k1 a0 x4_1 t105 t106 t107 t108 _ A3.out).mono ?_); rintro e w5 ⟨rfl, hb⟩; refine ⟨_, rfl, ?_⟩; have n0_ := Aside0.mk (Kd.R_below (by (with_reducible repeat (first | apply Kd.R_alloc | apply Kd.R_drewN | apply Kd.R_drew)); exact HO_3.out) hb); have n1_ := Aside0.mk (below_step (by repeat (first | (with_reducible first | exact HB.out | apply below_alloc | apply pw_below_drewN | apply below_drew1) | exact HB.out)) hb); clear HO_3; clear HB; have HO_3 := n0_; have HB := n1_; clear n0_ n1_; (try clear hb); (try clear hb2); (try clear hk); (try clear hi)) | ((with_reducible refine gate_dst (N := 5) rfl ?_); refine box_event ?hg (N := 5) ?hd (cs := #[.int .i64 0, .int .i64 0, .int .i64 0, .bool false]) (t := 47) ?hr ?_; (case hd => rfl); (case hg => rfl); (case hr => first | (go_simp; done) | (go_simp; rfl)); intro gb109 hg w6 hbox hb; have n0_ := Aside0.mk (Kd.R_below (Kd.R_elderB (by (with_reducible repeat (first | apply Kd.R_alloc | apply Kd.R_drewN | apply Kd.R_drew)); exact HO_3.out) gb109 (Nat.le_of_eq hg.symm)) hb); have n1_ := Aside0.mk (below_step (by repeat (first | (with_reducible first | exact HB.out | apply below_alloc | apply pw_below_drewN | apply below_drew1) | exact HB.out)) hb); have n2_ := Aside0.mk (hbox); have n3_ := Aside0.mk ((by rw [hg]; exact (below_size (by repeat (first | (with_reducible first | exact HB.out | apply below_alloc | apply pw_below_drewN | apply below_drew1) | exact HB.out))) : w.heap.size ≤ gb109)); have n4_ := Aside0.mk ((by rw [hg]; exact (below_size (by repeat (first | (with_reducible first | exact HB.out | apply below_alloc | apply pw_below_drewN | apply below_drew1) | exact HB.out))) : w.heap.size ≤ gb109)); clear HO_3; clear HB; have HO_3 := n0_; have HB := n1_; have BK109 := n2_; have GW109 := n3_; have GE109 := n4_; clear n0_ n1_ n2_ n3_ n4_; clear hb hbox hg; have hcz7_0 : w6.cell? ⟨gb109, 0, none⟩ = some (.int .i64 0) := (blk_cell BK109.out 0).trans rfl; have hcz7_1 : w6.cell? ⟨gb109, 1, none⟩ = some (.int .i64 0) := (blk_cell BK109.out 1).trans rfl; have hcz7_2 : w6.cell? ⟨gb109, 2, none⟩ = some (.int .i64 0) := (blk_cell BK109.out 2).trans rfl; have hcz7_3 : w6.cell? ⟨gb109, 3, none⟩ = some (.bool false) := (blk_cell BK109.out 3).trans rfl; have hfz7_0 := blk_frozen BK109.out 0; have hfz7_1 := blk_frozen BK109.out 1; have hfz7_2 := blk_frozen BK109.out 2; have hfz7_3 := blk_frozen BK109.out 3) | ((with_reducible refine gate_builtin (b := .append) (xs := #[.tmp 13, .tmp 15]) rfl ?_); at_builtin; refine Kd.R_append k47 (w0 := w) w.heap.size rfl (.tmp 13) (.tmp 15) 27 47 (.agg #[(.int .i64 0), (.int .i64 0), (.int .i64 0), (.bool false)]) 32 rfl Tryd.underlying27 info47 rfl (by decide) (by omega) u3 x3_1 (⟨t105, t106, t107, t108⟩ : S47) [.int .i64 t105, .int .i64 t106, .int .i64 t107, .bool t108] (fun k_ => k_ ≠ gb109) (fun _ => False) rfl (by first | (go_simp; done) | (go_simp; rfl)) ?aP (fun _ hk => hk.elim) ?aF ?aO ?aB ?aS ?aL ?_; (case aP => exact k47_mkM _ _ _ (⟨t105, t106, t107, t108⟩ : S47)); (case aB => exact (by repeat (first | (with_reducible first | exact HB.out | apply below_alloc | apply pw_below_drewN | apply below_drew1 | refine below_set ?_ GE109.out) | exact HB.out))); (case aF => exact (fun k_ hk => Kd.freshB (g := gb109) (o := .cells #[.int .i64 t105, .int .i64 t106, .int .i64 t107, .bool t108] 47 (0, 0)) (by (with_reducible repeat (first | refine blk_drewN ?_ _ | refine blk_drew ?_ | refine blk_alloc ?_ _)); refine blk_put (cs := #[.int .i64 t105, .int .i64 t106, .int .i64 t107, .bool false]) ?_ 3 _ rfl; (with_reducible repeat (first | refine blk_drewN ?_ _ | refine blk_drew ?_ | refine blk_alloc ?_ _)); refine blk_put (cs := #[.int .i64 t105, .int .i64 t106, .int .i64 0, .bool false]) ?_ 2 _ rfl; (with_reducible repeat (first | refine blk_drewN ?_ _ | refine blk_drew ?_ | refine blk_alloc ?_ _)); refine blk_put (cs := #[.int .i64 t105, .int .i64 0, .int .i64 0, .bool false]) ?_ 1 _ rfl; (with_reducible repeat (first | refine blk_drewN ?_ _ | refine blk_drew ?_ | refine blk_alloc ?_ _)); refine blk_put (cs := #[.int .i64 0, .int .i64 0, .int .i64 0, .bool false]) ?_ 0 _ rfl; (with_reducible repeat (first | refine blk_drewN ?_ _ | refine blk_drew ?_ | refine blk_alloc ?_ _)); exact BK109.out) k_ hk)); (case aO => exact (by (with_reducible repeat (first | apply Kd.R_alloc | apply Kd.R_drewN | apply Kd.R_drew)); exact Kd.R_mono (Kd.R_far (p := ⟨gb109, 3, none⟩) (Kd.R_far (p := ⟨gb109, 2, none⟩) (Kd.R_far (p := ⟨gb109, 1, none⟩) (Kd.R_far (p := ⟨gb109, 0, none⟩) (Kd.R_mono HO_3.out (fun k_ hk => (⟨hk, hk.2⟩ : _ ∧ k_ ≠ gb109))) (fun _ hk => hk.2) (.int .i64 t105)) (fun _ hk => hk.2) (.int .i64 t106)) (fun _ hk => hk.2) (.int .i64 t107)) (fun _ hk => hk.2) (.bool t108)) (fun _ hk => hk.1.2))); (case aS => exact (below_size (by repeat (first | (with_reducible first | exact HB.out | apply below_alloc | apply pw_below_drewN | apply below_drew1 | refine below_set ?_ GE109.out) | exact HB.out)))); (case aL => have := LMc4.out; omega); intro v111 w8 ho hb hg hat; rw [← Ny110.out] at ho; have n0_ := Aside0.mk (blk_grown (g := gb109) (o := .cells #[.int .i64 t105, .int .i64 t106, .int .i64 t107, .bool t108] 47 (0, 0)) (by (with_reducible repeat (first | refine blk_drewN ?_ _ | refine blk_drew ?_ | refine blk_alloc ?_ _)); refine blk_put (cs := #[.int .i64 t105, .int .i64 t106, .int .i64 t107, .bool false]) ?_ 3 _ rfl; (with_reducible repeat (first | refine blk_drewN ?_ _ | refine blk_drew ?_ | refine blk_alloc ?_ _)); refine blk_put (cs := #[.int .i64 t105, .int .i64 t106, .int .i64 0, .bool false]) ?_ 2 _ rfl; (with_reducible repeat (first | refine blk_drewN ?_ _ | refine blk_drew ?_ | refine blk_alloc ?_ _)); refine blk_put (cs := #[.int .i64 t105, .int .i64 0, .int .i64 0, .bool false]) ?_ 1 _ rfl; (with_reducible repeat (first | refine blk_drewN ?_ _ | refine blk_drew ?_ | refine blk_alloc ?_ _)); refine blk_put (cs := #[.int .i64 0, .int .i64 0, .int .i64 0, .bool false]) ?_ 0 _ rfl; (with_reducible repeat (first | refine blk_drewN ?_ _ | refine blk_drew ?_ | refine blk_alloc ?_ _)); exact BK109.out) hg (Kd.R_away HO_3.out (fun _ hk => hk.2))); have n1_ := Aside0.mk (hb); have n2_ := Aside0.mk (ho); clear BK109; clear HB; clear HO_3; have BK109 := n0_; have HB := n1_; have HO112 := n2_; clear n0_ n1_ n2_; clear ho hb hg hat; have hcz9_0 : w8.cell? ⟨gb109, 0, none⟩ = some (.int .i64 t105) := (blk_cell BK109.out 0).trans rfl; have hcz9_1 : w8.cell? ⟨gb109, 1, none⟩ = some (.int .i64 t106) := (blk_cell BK109.out 1).trans rfl; have hcz9_2 : w8.cell? ⟨gb109, 2, none⟩ = some (.int .i64 t107) := (blk_cell BK109.out 2).trans rfl; have hcz9_3 : w8.cell? ⟨gb109, 3, none⟩ = some (.bool t108) := (blk_cell BK109.out 3).trans rfl; have hfz9_0 := blk_frozen BK109.out 0; have hfz9_1 := blk_frozen BK109.out 1; have hfz9_2 := blk_frozen BK109.out 2; have hfz9_3 := blk_frozen BK109.out 3))
          go_roundg k1
          case measure => have := HK1.out; omega
          case rel => exact ⟨(y110), (wrap64 (x4_1 + t106)), (by first | rfl | (simp; done) | (simp [*]; done)), H', ⟨by have := HK1.out; omega⟩, ⟨by (with_reducible repeat (first | apply Kd.R_alloc | apply Kd.R_drewN | apply Kd.R_drew)); exact Kd.R_mono HO112.out (fun _ hk => trivial)⟩, ⟨by repeat (first | (with_reducible first | exact HB.out | apply below_alloc | apply pw_below_drewN | apply below_drew1 | refine below_set ?_ GE109.out) | exact HB.out)⟩⟩
        · rw [if_neg c4] at H
          exact absurd H (by simp)
      · rw [if_neg c2] at H
        have c2b0 : decide (x4_1 < (a0.size : Int)) = false := decide_eq_false c2
        clear c2
        obtain rfl := Option.some.inj H
        go_wp2
        go_ret
        exact ⟨_, by first | rfl | (simp [errW_none, errW_some] <;> rfl) | (simp [*, errW_none, errW_some] <;> rfl), by (with_reducible repeat (first | apply Kd.R_alloc | apply Kd.R_drewN | apply Kd.R_drew)); exact HO_3.out, by repeat (first | (with_reducible first | exact HB.out | apply below_alloc | apply pw_below_drewN | apply below_drew1) | exact HB.out)⟩

/-! ### rondelref06_Odd: function 20 -/
def rondelref06_Odd.f (a0 : Int) : Option (Bool) := if a0 < 32 then (some true) else (if a0 = 127 then (some true) else (if a0 ≥ 8232 then (some (decide (a0 ≤ 8238))) else (some false)))
set_option maxHeartbeats 8000000 in
set_option maxRecDepth 100000 in
theorem rondelref06_Odd.calls (a0 : Int) (r : Bool) (w : World) (h : rondelref06_Odd.f a0 = some r) :
    Calls Tryd.prog 20 #[.int .i64 a0] w fun e w' => e = .returned (.bool r) ∧ Drawn0 w w' := by
  have H : (if a0 < 32 then (some true) else (if a0 = 127 then (some true) else (if a0 ≥ 8232 then (some (decide (a0 ≤ 8238))) else (some false)))) = some r := h
  clear h
  by_cases c2 : a0 < 32
  · rw [if_pos c2] at H
    have c2b0 : decide (a0 < 32) = true := decide_eq_true c2
    clear c2
    obtain rfl := Option.some.inj H
    go_enter Tryd.func20, Tryd.ntmps20
    go_wp2
    go_ret
    exact ⟨by first | rfl | (simp; done) | (simp [*]; done), by repeat (first | exact Drawn0.refl _ | apply Drawn0.step)⟩
  · rw [if_neg c2] at H
    have c2b0 : decide (a0 < 32) = false := decide_eq_false c2
    clear c2
    by_cases c3 : a0 = 127
    · rw [if_pos c3] at H
      have c3b0 : (a0 == 127) = true := beq_iff_eq.mpr c3
      have c3b1 : (a0 != 127) = false := bne_eq_false_iff_eq.mpr c3
      clear c3
      obtain rfl := Option.some.inj H
      go_enter Tryd.func20, Tryd.ntmps20
      go_wp2
      go_ret
      exact ⟨by first | rfl | (simp; done) | (simp [*]; done), by repeat (first | exact Drawn0.refl _ | apply Drawn0.step)⟩
    · rw [if_neg c3] at H
      have c3b0 : (a0 == 127) = false := beq_eq_false_iff_ne.mpr c3
      have c3b1 : (a0 != 127) = true := bne_iff_ne.mpr c3
      by_cases c4 : a0 ≥ 8232
      · rw [if_pos c4] at H
        have c4b0 : decide (8232 ≤ a0) = true := decide_eq_true c4
        clear c4
        obtain rfl := Option.some.inj H
        go_enter Tryd.func20, Tryd.ntmps20
        go_wp2
        go_ret
        exact ⟨by first | rfl | (simp; done) | (simp [*]; done), by repeat (first | exact Drawn0.refl _ | apply Drawn0.step)⟩
      · rw [if_neg c4] at H
        have c4b0 : decide (8232 ≤ a0) = false := decide_eq_false c4
        clear c4
        obtain rfl := Option.some.inj H
        go_enter Tryd.func20, Tryd.ntmps20
        go_wp2
        go_ret
        exact ⟨by first | rfl | (simp; done) | (simp [*]; done), by repeat (first | exact Drawn0.refl _ | apply Drawn0.step)⟩

/-! ### rondelref06_Clean: function 8 -/
mutual
def rondelref06_Clean.l0 : Nat → ByteArray → List (S47) → ByteArray → Int → Option (ByteArray)
  | 0, _, _, _, _ => none
  | k + 1, x0, x3, x4, x5 => if x5 < (x3.length : Int) then (rondelref06_Clean.j1 k x0 x3 x4 x5 (decide (x5 < 64))) else (rondelref06_Clean.j1 k x0 x3 x4 x5 false)
def rondelref06_Clean.j1 : Nat → ByteArray → List (S47) → ByteArray → Int → Bool → Option (ByteArray)
  | 0, _, _, _, _, _ => none
  | k + 1, x0, x3, x4, x5, x15 => if x15 = true then (if 0 ≤ x5 then (if x5 < (x3.length : Int) then ((rondelref06_Odd.f ((rd_T47 x3 x5).f2)).bind fun t117 => (if t117 = true then (if x4.size + 1 ≤ 9223372036854775807 then (rondelref06_Clean.l0 k x0 x3 (x4 ++ (⟨#[63]⟩ : ByteArray)) (wrap64 (x5 + 1))) else (none)) else (if (rd_T47 x3 x5).f3 = true then (if x4.size + 1 ≤ 9223372036854775807 then (rondelref06_Clean.l0 k x0 x3 (x4 ++ (⟨#[63]⟩ : ByteArray)) (wrap64 (x5 + 1))) else (none)) else (if 0 ≤ ((rd_T47 x3 x5).f0) then (if ((rd_T47 x3 x5).f0) ≤ (wrap64 (((rd_T47 x3 x5).f0) + ((rd_T47 x3 x5).f1))) then (if (wrap64 (((rd_T47 x3 x5).f0) + ((rd_T47 x3 x5).f1))) ≤ (x0.size : Int) then (if x4.size + (x0.extract (((rd_T47 x3 x5).f0) : Int).toNat ((wrap64 (((rd_T47 x3 x5).f0) + ((rd_T47 x3 x5).f1))) : Int).toNat).size ≤ 9223372036854775807 then (rondelref06_Clean.l0 k x0 x3 (x4 ++ (x0.extract (((rd_T47 x3 x5).f0) : Int).toNat ((wrap64 (((rd_T47 x3 x5).f0) + ((rd_T47 x3 x5).f1))) : Int).toNat)) (wrap64 (x5 + 1))) else (none)) else (none)) else (none)) else (none))))) else (none)) else (none)) else (some x4)
end
def rondelref06_Clean.f (k : Nat) (a0 : ByteArray) : Option (ByteArray) := (rondelref06_Signs.f k a0).bind fun t113 => (rondelref06_Clean.l0 k a0 t113 (⟨#[]⟩ : ByteArray) 0)
theorem rondelref06_Clean.mono_l : ∀ k, (∀ y0 y1 y2 y3, LeO (rondelref06_Clean.l0 k y0 y1 y2 y3) (rondelref06_Clean.l0 (k + 1) y0 y1 y2 y3)) ∧ (∀ y0 y1 y2 y3 y4, LeO (rondelref06_Clean.j1 k y0 y1 y2 y3 y4) (rondelref06_Clean.j1 (k + 1) y0 y1 y2 y3 y4))
  | 0 => ⟨fun _ _ _ _ r h => by simp [rondelref06_Clean.l0] at h, fun _ _ _ _ _ r h => by simp [rondelref06_Clean.j1] at h⟩
  | k + 1 => by
    obtain ⟨ih0, ih1⟩ := rondelref06_Clean.mono_l k
    refine ⟨?_, ?_⟩
    · intro y0 y1 y2 y3
      unfold rondelref06_Clean.l0
      repeat' first
      | (with_reducible exact ih0 _ _ _ _)
      | (with_reducible exact ih1 _ _ _ _ _)
      | (with_reducible exact rondelref06_Signs.mono _ _)
      | (with_reducible exact LeO.refl _)
      | (with_reducible exact LeO.none _)
      | (with_reducible refine LeO.ite ?_ ?_)
      | (with_reducible refine LeO.bind ?_ (fun _ => ?_))
      | exact ih0 _ _ _ _
      | exact ih1 _ _ _ _ _
      | exact rondelref06_Signs.mono _ _
      | exact LeO.none _
      | refine LeO.ite ?_ ?_
      | refine LeO.bind ?_ (fun _ => ?_)
    · intro y0 y1 y2 y3 y4
      unfold rondelref06_Clean.j1
      repeat' first
      | (with_reducible exact ih0 _ _ _ _)
      | (with_reducible exact ih1 _ _ _ _ _)
      | (with_reducible exact rondelref06_Signs.mono _ _)
      | (with_reducible exact LeO.refl _)
      | (with_reducible exact LeO.none _)
      | (with_reducible refine LeO.ite ?_ ?_)
      | (with_reducible refine LeO.bind ?_ (fun _ => ?_))
      | exact ih0 _ _ _ _
      | exact ih1 _ _ _ _ _
      | exact rondelref06_Signs.mono _ _
      | exact LeO.none _
      | refine LeO.ite ?_ ?_
      | refine LeO.bind ?_ (fun _ => ?_)
theorem rondelref06_Clean.mono : ∀ a0 k, LeO (rondelref06_Clean.f k a0) (rondelref06_Clean.f (k + 1) a0) := by
  intro a0 k
  obtain ⟨ih0, ih1⟩ := rondelref06_Clean.mono_l k
  unfold rondelref06_Clean.f
  repeat' first
      | (with_reducible exact ih0 _ _ _ _)
      | (with_reducible exact ih1 _ _ _ _ _)
      | (with_reducible exact rondelref06_Signs.mono _ _)
      | (with_reducible exact LeO.refl _)
      | (with_reducible exact LeO.none _)
      | (with_reducible refine LeO.ite ?_ ?_)
      | (with_reducible refine LeO.bind ?_ (fun _ => ?_))
      | exact ih0 _ _ _ _
      | exact ih1 _ _ _ _ _
      | exact rondelref06_Signs.mono _ _
      | exact LeO.none _
      | refine LeO.ite ?_ ?_
      | refine LeO.bind ?_ (fun _ => ?_)
set_option maxHeartbeats 8000000 in
set_option maxRecDepth 100000 in
theorem rondelref06_Clean.calls (k : Nat) (a0 : ByteArray) (r : ByteArray) (w : World) (h : rondelref06_Clean.f k a0 = some r) :
    Calls Tryd.prog 8 #[.string a0] w fun e w' => e = .returned (.string r) ∧ Below w.heap.size w w' := by
  have HB := Aside0.mk (Below.refl w.heap.size w)
  have H : ((rondelref06_Signs.f k a0).bind fun t113 => (rondelref06_Clean.l0 k a0 t113 (⟨#[]⟩ : ByteArray) 0)) = some r := h
  clear h
  replace H := Option.bind_eq_some_iff.mp H
  obtain ⟨t113, A20, H⟩ := H
  replace H : (rondelref06_Clean.l0 k a0 t113 (⟨#[]⟩ : ByteArray) 0) = some r := H
  have A2 := Aside0.mk A20
  clear A20
  have H' := Aside0.mk H
  clear H
  go_enter Tryd.func8, Tryd.ntmps8
  go_wp2_with (first | (go_at_call 12; (with_reducible refine (rondelref06_Signs.calls k a0 t113 _ A2.out).mono ?_); rintro e w3 ⟨v114, rfl, ho0, hb⟩; have n0_ := Aside0.mk (Kd.R_lower ho0 (below_size (by repeat (first | (with_reducible first | exact HB.out | apply below_alloc | apply pw_below_drewN | apply below_drew1) | exact HB.out)))); have n1_ := Aside0.mk (below_step (by repeat (first | (with_reducible first | exact HB.out | apply below_alloc | apply pw_below_drewN | apply below_drew1) | exact HB.out)) hb); clear HB; have HO115 := n0_; have HB := n1_; clear n0_ n1_; (try clear hb); (try clear hb2); (try clear hk); (try clear hi); (try clear ho0)))
  repeat (go_quiet (first | (go_at_call 12; (with_reducible refine (rondelref06_Signs.calls k a0 t113 _ A2.out).mono ?_); rintro e w3 ⟨v114, rfl, ho0, hb⟩; have n0_ := Aside0.mk (Kd.R_lower ho0 (below_size (by repeat (first | (with_reducible first | exact HB.out | apply below_alloc | apply pw_below_drewN | apply below_drew1) | exact HB.out)))); have n1_ := Aside0.mk (below_step (by repeat (first | (with_reducible first | exact HB.out | apply below_alloc | apply pw_below_drewN | apply below_drew1) | exact HB.out)) hb); clear HB; have HO115 := n0_; have HB := n1_; clear n0_ n1_; (try clear hb); (try clear hb2); (try clear hk); (try clear hi); (try clear ho0))); try go_wp2_with (first | (go_at_call 12; (with_reducible refine (rondelref06_Signs.calls k a0 t113 _ A2.out).mono ?_); rintro e w3 ⟨v114, rfl, ho0, hb⟩; have n0_ := Aside0.mk (Kd.R_lower ho0 (below_size (by repeat (first | (with_reducible first | exact HB.out | apply below_alloc | apply pw_below_drewN | apply below_drew1) | exact HB.out)))); have n1_ := Aside0.mk (below_step (by repeat (first | (with_reducible first | exact HB.out | apply below_alloc | apply pw_below_drewN | apply below_drew1) | exact HB.out)) hb); clear HB; have HO115 := n0_; have HB := n1_; clear n0_ n1_; (try clear hb); (try clear hb2); (try clear hk); (try clear hi); (try clear ho0))))
  go_loopg [4, 5] k (fun kq v4 v5 w' => ∃ (x4_1 : ByteArray) (x5_1 : Int), v4 = .string x4_1 ∧ v5 = .int .i64 x5_1 ∧ Aside0 (rondelref06_Clean.l0 kq a0 t113 x4_1 x5_1 = some r) ∧ Aside0 (kq ≤ k) ∧ Aside0 (Kd.R k47 47 w' w.heap.size (fun _ => True) v114 t113) ∧ Aside0 (Below w.heap.size w w'))
  case atStart => exact ⟨((⟨#[]⟩ : ByteArray)), (0), (by first | rfl | (simp; done) | (simp [*]; done)), (by first | rfl | (simp; done) | (simp [*]; done)), H', ⟨Nat.le_refl _⟩, ⟨by (with_reducible repeat (first | apply Kd.R_alloc | apply Kd.R_drewN | apply Kd.R_drew)); exact HO115.out⟩, ⟨by repeat (first | (with_reducible first | exact HB.out | apply below_alloc | apply pw_below_drewN | apply below_drew1) | exact HB.out)⟩⟩
  case round =>
    clear H'
    try clear p2
    obtain ⟨x4_1, x5_1, rfl, rfl, HA, HK1, HO_3, HB⟩ := hrel
    cases gk with
    | zero => exact absurd HA.out (by simp [rondelref06_Clean.l0])
    | succ k1 =>
      have H := HA.out
      clear HA
      simp only [rondelref06_Clean.l0] at H
      have HC4 := Aside0.mk H
      clear H
      go_upto_region 4 with (fail)
      repeat (go_quiet (fail); go_upto_region 4 with (fail))
      go_cut [15] (fun v15 wc => ∃ (kq : Nat) (x15_3 : Bool), v15 = .bool x15_3 ∧ Aside0 (rondelref06_Clean.j1 kq a0 t113 x4_1 x5_1 x15_3 = some r) ∧ Aside0 (kq ≤ k1) ∧ Aside0 (Kd.R k47 47 wc w.heap.size (fun _ => True) v114 t113) ∧ Aside0 (Below w.heap.size w wc))
      case first =>
        have H := HC4.out
        clear HC4
        by_cases c5 : x5_1 < (t113.length : Int)
        · rw [if_pos c5] at H
          have c5b0 : decide (x5_1 < (t113.length : Int)) = true := decide_eq_true c5
          clear c5
          (first | rw [c5b0] | (simp only [i64_w, i32_w]; rw [c5b0]) | skip)
          have H' := Aside0.mk H
          clear H
          obtain ⟨Ao6, co6, eo6⟩ := Kd.R_slice HO_3.out
          subst eo6
          go_wp2
          repeat (go_quiet (fail); try go_wp2)
          go_meet
          case rel => exact ⟨_, (decide (x5_1 < 64)), (by first | rfl | (simp; done) | (simp [*]; done)), H', ⟨by have := HK1.out; first | omega | exact Nat.le_refl _⟩, ⟨by (with_reducible repeat (first | apply Kd.R_alloc | apply Kd.R_drewN | apply Kd.R_drew)); exact HO_3.out⟩, ⟨by repeat (first | (with_reducible first | exact HB.out | apply below_alloc | apply pw_below_drewN | apply below_drew1) | exact HB.out)⟩⟩
        · rw [if_neg c5] at H
          have c5b0 : decide (x5_1 < (t113.length : Int)) = false := decide_eq_false c5
          clear c5
          (first | rw [c5b0] | (simp only [i64_w, i32_w]; rw [c5b0]) | skip)
          have H' := Aside0.mk H
          clear H
          obtain ⟨Ao7, co7, eo7⟩ := Kd.R_slice HO_3.out
          subst eo7
          go_wp2
          repeat (go_quiet (fail); try go_wp2)
          go_meet
          case rel => exact ⟨_, (false), (by first | rfl | (simp; done) | (simp [*]; done)), H', ⟨by have := HK1.out; first | omega | exact Nat.le_refl _⟩, ⟨by (with_reducible repeat (first | apply Kd.R_alloc | apply Kd.R_drewN | apply Kd.R_drew)); exact HO_3.out⟩, ⟨by repeat (first | (with_reducible first | exact HB.out | apply below_alloc | apply pw_below_drewN | apply below_drew1) | exact HB.out)⟩⟩
      case rest =>
        clear HC4
        try clear p2
        try clear c5
        try clear c5b0
        try clear p2
        obtain ⟨kq, x15_3, rfl, HA, HJ3, HO_3, HB⟩ := hcut
        cases kq with
        | zero => exact absurd HA.out (by simp [rondelref06_Clean.j1])
        | succ kj3 =>
          have H := HA.out
          clear HA
          simp only [rondelref06_Clean.j1] at H
          by_cases c8 : x15_3 = true
          · subst c8
            have H1 : (if 0 ≤ x5_1 then (if x5_1 < (t113.length : Int) then ((rondelref06_Odd.f ((rd_T47 t113 x5_1).f2)).bind fun t117 => (if t117 = true then (if x4_1.size + 1 ≤ 9223372036854775807 then (rondelref06_Clean.l0 kj3 a0 t113 (x4_1 ++ (⟨#[63]⟩ : ByteArray)) (wrap64 (x5_1 + 1))) else (none)) else (if (rd_T47 t113 x5_1).f3 = true then (if x4_1.size + 1 ≤ 9223372036854775807 then (rondelref06_Clean.l0 kj3 a0 t113 (x4_1 ++ (⟨#[63]⟩ : ByteArray)) (wrap64 (x5_1 + 1))) else (none)) else (if 0 ≤ ((rd_T47 t113 x5_1).f0) then (if ((rd_T47 t113 x5_1).f0) ≤ (wrap64 (((rd_T47 t113 x5_1).f0) + ((rd_T47 t113 x5_1).f1))) then (if (wrap64 (((rd_T47 t113 x5_1).f0) + ((rd_T47 t113 x5_1).f1))) ≤ (a0.size : Int) then (if x4_1.size + (a0.extract (((rd_T47 t113 x5_1).f0) : Int).toNat ((wrap64 (((rd_T47 t113 x5_1).f0) + ((rd_T47 t113 x5_1).f1))) : Int).toNat).size ≤ 9223372036854775807 then (rondelref06_Clean.l0 kj3 a0 t113 (x4_1 ++ (a0.extract (((rd_T47 t113 x5_1).f0) : Int).toNat ((wrap64 (((rd_T47 t113 x5_1).f0) + ((rd_T47 t113 x5_1).f1))) : Int).toNat)) (wrap64 (x5_1 + 1))) else (none)) else (none)) else (none)) else (none))))) else (none)) else (none)) = some r := by rw [if_pos rfl] at H; exact H
            clear H
            have H := H1
            clear H1
            by_cases c9 : 0 ≤ x5_1
            · rw [if_pos c9] at H
              have c9b0 : decide (0 ≤ x5_1) = true := decide_eq_true c9
              clear c9
              by_cases c10 : x5_1 < (t113.length : Int)
              · rw [if_pos c10] at H
                have c10b0 : decide (x5_1 < (t113.length : Int)) = true := decide_eq_true c10
                clear c10
                replace H := Option.bind_eq_some_iff.mp H
                obtain ⟨t117, A110, H⟩ := H
                replace H : (if t117 = true then (if x4_1.size + 1 ≤ 9223372036854775807 then (rondelref06_Clean.l0 kj3 a0 t113 (x4_1 ++ (⟨#[63]⟩ : ByteArray)) (wrap64 (x5_1 + 1))) else (none)) else (if (rd_T47 t113 x5_1).f3 = true then (if x4_1.size + 1 ≤ 9223372036854775807 then (rondelref06_Clean.l0 kj3 a0 t113 (x4_1 ++ (⟨#[63]⟩ : ByteArray)) (wrap64 (x5_1 + 1))) else (none)) else (if 0 ≤ ((rd_T47 t113 x5_1).f0) then (if ((rd_T47 t113 x5_1).f0) ≤ (wrap64 (((rd_T47 t113 x5_1).f0) + ((rd_T47 t113 x5_1).f1))) then (if (wrap64 (((rd_T47 t113 x5_1).f0) + ((rd_T47 t113 x5_1).f1))) ≤ (a0.size : Int) then (if x4_1.size + (a0.extract (((rd_T47 t113 x5_1).f0) : Int).toNat ((wrap64 (((rd_T47 t113 x5_1).f0) + ((rd_T47 t113 x5_1).f1))) : Int).toNat).size ≤ 9223372036854775807 then (rondelref06_Clean.l0 kj3 a0 t113 (x4_1 ++ (a0.extract (((rd_T47 t113 x5_1).f0) : Int).toNat ((wrap64 (((rd_T47 t113 x5_1).f0) + ((rd_T47 t113 x5_1).f1))) : Int).toNat)) (wrap64 (x5_1 + 1))) else (none)) else (none)) else (none)) else (none)))) = some r := H
                have A11 := Aside0.mk A110
                clear A110
                by_cases c12 : t117 = true
                · subst c12
                  have H1 : (if x4_1.size + 1 ≤ 9223372036854775807 then (rondelref06_Clean.l0 kj3 a0 t113 (x4_1 ++ (⟨#[63]⟩ : ByteArray)) (wrap64 (x5_1 + 1))) else (none)) = some r := by rw [if_pos rfl] at H; exact H
                  clear H
                  have H := H1
                  clear H1
                  by_cases c13 : x4_1.size + 1 ≤ 9223372036854775807
                  · rw [if_pos c13] at H
                    have c13b0 := eq_true c13
                    have c13b1 : decide (x4_1.size + 1 ≤ 9223372036854775807) = true := decide_eq_true c13
                    try have c13b2 : (9223372036854775807 < x4_1.size + 1) = False := eq_false (Nat.not_lt.2 c13)
                    have H' := Aside0.mk H
                    clear H
                    obtain ⟨Ao14, co14, eo14⟩ := Kd.R_slice HO_3.out
                    subst eo14
                    have p116 : 0 ≤ (x5_1 : Int) := of_decide_eq_true (by first | (with_reducible assumption) | assumption)
                    have q116 : x5_1 < (t113.length : Int) := of_decide_eq_true (by first | (with_reducible assumption) | assumption)
                    obtain ⟨ad116, e116, hx116_0, hx116_1, hx116_2, hx116_3⟩ := at_T47 (Kd.R_reads' HO_3.out).2.2 x5_1 p116 q116
                    cases e116
                    replace p116 := eq_true p116
                    replace q116 := eq_true q116
                    go_wp2_with (first | (go_at_call 20; (with_reducible refine (rondelref06_Odd.calls ((rd_T47 t113 x5_1).f2) true _ A11.out).mono ?_); rintro e w' ⟨rfl, ⟨nd, rfl⟩⟩; (try first | exact ⟨rfl, _, World.drewN_drewN _ _ _⟩ | exact ⟨rfl, _, Eq.trans (World.drewN_drewN _ _ _) (congrArg (World.drewN _) (Nat.add_assoc _ _ _))⟩)))
                    repeat (go_quiet (first | (go_at_call 20; (with_reducible refine (rondelref06_Odd.calls ((rd_T47 t113 x5_1).f2) true _ A11.out).mono ?_); rintro e w' ⟨rfl, ⟨nd, rfl⟩⟩; (try first | exact ⟨rfl, _, World.drewN_drewN _ _ _⟩ | exact ⟨rfl, _, Eq.trans (World.drewN_drewN _ _ _) (congrArg (World.drewN _) (Nat.add_assoc _ _ _))⟩))); try go_wp2_with (first | (go_at_call 20; (with_reducible refine (rondelref06_Odd.calls ((rd_T47 t113 x5_1).f2) true _ A11.out).mono ?_); rintro e w' ⟨rfl, ⟨nd, rfl⟩⟩; (try first | exact ⟨rfl, _, World.drewN_drewN _ _ _⟩ | exact ⟨rfl, _, Eq.trans (World.drewN_drewN _ _ _) (congrArg (World.drewN _) (Nat.add_assoc _ _ _))⟩))))
                    go_roundg kj3
                    case measure => have := HK1.out; have := HJ3.out; omega
                    case rel => exact ⟨(x4_1 ++ (⟨#[63]⟩ : ByteArray)), (wrap64 (x5_1 + 1)), (by first | rfl | (simp; done) | (simp [*]; done)), (by first | rfl | (simp; done) | (simp [*]; done)), H', ⟨by have := HK1.out; have := HJ3.out; omega⟩, ⟨by (with_reducible repeat (first | apply Kd.R_alloc | apply Kd.R_drewN | apply Kd.R_drew)); exact HO_3.out⟩, ⟨by repeat (first | (with_reducible first | exact HB.out | apply below_alloc | apply pw_below_drewN | apply below_drew1) | exact HB.out)⟩⟩
                  · rw [if_neg c13] at H
                    exact absurd H (by simp)
                · replace c12 := Bool.eq_false_iff.mpr c12
                  subst c12
                  have H1 : (if (rd_T47 t113 x5_1).f3 = true then (if x4_1.size + 1 ≤ 9223372036854775807 then (rondelref06_Clean.l0 kj3 a0 t113 (x4_1 ++ (⟨#[63]⟩ : ByteArray)) (wrap64 (x5_1 + 1))) else (none)) else (if 0 ≤ ((rd_T47 t113 x5_1).f0) then (if ((rd_T47 t113 x5_1).f0) ≤ (wrap64 (((rd_T47 t113 x5_1).f0) + ((rd_T47 t113 x5_1).f1))) then (if (wrap64 (((rd_T47 t113 x5_1).f0) + ((rd_T47 t113 x5_1).f1))) ≤ (a0.size : Int) then (if x4_1.size + (a0.extract (((rd_T47 t113 x5_1).f0) : Int).toNat ((wrap64 (((rd_T47 t113 x5_1).f0) + ((rd_T47 t113 x5_1).f1))) : Int).toNat).size ≤ 9223372036854775807 then (rondelref06_Clean.l0 kj3 a0 t113 (x4_1 ++ (a0.extract (((rd_T47 t113 x5_1).f0) : Int).toNat ((wrap64 (((rd_T47 t113 x5_1).f0) + ((rd_T47 t113 x5_1).f1))) : Int).toNat)) (wrap64 (x5_1 + 1))) else (none)) else (none)) else (none)) else (none))) = some r := by rw [if_neg (show ¬ (false = true) by decide)] at H; exact H
                  clear H
                  have H := H1
                  clear H1
                  obtain ⟨bq15, hbq15⟩ : ∃ b_ : Bool, b_ = ((rd_T47 t113 x5_1).f3) := ⟨_, rfl⟩
                  replace H : (if bq15 = true then (if x4_1.size + 1 ≤ 9223372036854775807 then (rondelref06_Clean.l0 kj3 a0 t113 (x4_1 ++ (⟨#[63]⟩ : ByteArray)) (wrap64 (x5_1 + 1))) else (none)) else (if 0 ≤ ((rd_T47 t113 x5_1).f0) then (if ((rd_T47 t113 x5_1).f0) ≤ (wrap64 (((rd_T47 t113 x5_1).f0) + ((rd_T47 t113 x5_1).f1))) then (if (wrap64 (((rd_T47 t113 x5_1).f0) + ((rd_T47 t113 x5_1).f1))) ≤ (a0.size : Int) then (if x4_1.size + (a0.extract (((rd_T47 t113 x5_1).f0) : Int).toNat ((wrap64 (((rd_T47 t113 x5_1).f0) + ((rd_T47 t113 x5_1).f1))) : Int).toNat).size ≤ 9223372036854775807 then (rondelref06_Clean.l0 kj3 a0 t113 (x4_1 ++ (a0.extract (((rd_T47 t113 x5_1).f0) : Int).toNat ((wrap64 (((rd_T47 t113 x5_1).f0) + ((rd_T47 t113 x5_1).f1))) : Int).toNat)) (wrap64 (x5_1 + 1))) else (none)) else (none)) else (none)) else (none))) = some r := by rw [← hbq15] at H; exact H
                  have Nbq15 := Aside0.mk hbq15
                  clear hbq15
                  by_cases c16 : bq15 = true
                  · subst c16
                    have H1 : (if x4_1.size + 1 ≤ 9223372036854775807 then (rondelref06_Clean.l0 kj3 a0 t113 (x4_1 ++ (⟨#[63]⟩ : ByteArray)) (wrap64 (x5_1 + 1))) else (none)) = some r := by rw [if_pos rfl] at H; exact H
                    clear H
                    have H := H1
                    clear H1
                    by_cases c17 : x4_1.size + 1 ≤ 9223372036854775807
                    · rw [if_pos c17] at H
                      have c17b0 := eq_true c17
                      have c17b1 : decide (x4_1.size + 1 ≤ 9223372036854775807) = true := decide_eq_true c17
                      try have c17b2 : (9223372036854775807 < x4_1.size + 1) = False := eq_false (Nat.not_lt.2 c17)
                      have H' := Aside0.mk H
                      clear H
                      obtain ⟨Ao18, co18, eo18⟩ := Kd.R_slice HO_3.out
                      subst eo18
                      have p116 : 0 ≤ (x5_1 : Int) := of_decide_eq_true (by first | (with_reducible assumption) | assumption)
                      have q116 : x5_1 < (t113.length : Int) := of_decide_eq_true (by first | (with_reducible assumption) | assumption)
                      obtain ⟨ad116, e116, hx116_0, hx116_1, hx116_2, hx116_3⟩ := at_T47 (Kd.R_reads' HO_3.out).2.2 x5_1 p116 q116
                      (try rw [← Nbq15.out] at hx116_3)
                      cases e116
                      replace p116 := eq_true p116
                      replace q116 := eq_true q116
                      go_wp2_with (first | (go_at_call 20; (with_reducible refine (rondelref06_Odd.calls ((rd_T47 t113 x5_1).f2) false _ A11.out).mono ?_); rintro e w' ⟨rfl, ⟨nd, rfl⟩⟩; (try first | exact ⟨rfl, _, World.drewN_drewN _ _ _⟩ | exact ⟨rfl, _, Eq.trans (World.drewN_drewN _ _ _) (congrArg (World.drewN _) (Nat.add_assoc _ _ _))⟩); have p118 : 0 ≤ (x5_1 : Int) := of_decide_eq_true (by first | (with_reducible assumption) | assumption); have q118 : x5_1 < (t113.length : Int) := of_decide_eq_true (by first | (with_reducible assumption) | assumption); obtain ⟨ad118, e118, hx118_0, hx118_1, hx118_2, hx118_3⟩ := at_T47 (Kd.R_reads' HO_3.out).2.2 x5_1 p118 q118; (try rw [← Nbq15.out] at hx118_3); obtain rfl : ad116 = ad118 := (by injection e118); replace p118 := eq_true p118; replace q118 := eq_true q118))
                      repeat (go_quiet (first | (go_at_call 20; (with_reducible refine (rondelref06_Odd.calls ((rd_T47 t113 x5_1).f2) false _ A11.out).mono ?_); rintro e w' ⟨rfl, ⟨nd, rfl⟩⟩; (try first | exact ⟨rfl, _, World.drewN_drewN _ _ _⟩ | exact ⟨rfl, _, Eq.trans (World.drewN_drewN _ _ _) (congrArg (World.drewN _) (Nat.add_assoc _ _ _))⟩); have p118 : 0 ≤ (x5_1 : Int) := of_decide_eq_true (by first | (with_reducible assumption) | assumption); have q118 : x5_1 < (t113.length : Int) := of_decide_eq_true (by first | (with_reducible assumption) | assumption); obtain ⟨ad118, e118, hx118_0, hx118_1, hx118_2, hx118_3⟩ := at_T47 (Kd.R_reads' HO_3.out).2.2 x5_1 p118 q118; (try rw [← Nbq15.out] at hx118_3); obtain rfl : ad116 = ad118 := (by injection e118); replace p118 := eq_true p118; replace q118 := eq_true q118)); try go_wp2_with (first | (go_at_call 20; (with_reducible refine (rondelref06_Odd.calls ((rd_T47 t113 x5_1).f2) false _ A11.out).mono ?_); rintro e w' ⟨rfl, ⟨nd, rfl⟩⟩; (try first | exact ⟨rfl, _, World.drewN_drewN _ _ _⟩ | exact ⟨rfl, _, Eq.trans (World.drewN_drewN _ _ _) (congrArg (World.drewN _) (Nat.add_assoc _ _ _))⟩); have p118 : 0 ≤ (x5_1 : Int) := of_decide_eq_true (by first | (with_reducible assumption) | assumption); have q118 : x5_1 < (t113.length : Int) := of_decide_eq_true (by first | (with_reducible assumption) | assumption); obtain ⟨ad118, e118, hx118_0, hx118_1, hx118_2, hx118_3⟩ := at_T47 (Kd.R_reads' HO_3.out).2.2 x5_1 p118 q118; (try rw [← Nbq15.out] at hx118_3); obtain rfl : ad116 = ad118 := (by injection e118); replace p118 := eq_true p118; replace q118 := eq_true q118)))
                      go_roundg kj3
                      case measure => have := HK1.out; have := HJ3.out; omega
                      case rel => exact ⟨(x4_1 ++ (⟨#[63]⟩ : ByteArray)), (wrap64 (x5_1 + 1)), (by first | rfl | (simp; done) | (simp [*]; done)), (by first | rfl | (simp; done) | (simp [*]; done)), H', ⟨by have := HK1.out; have := HJ3.out; omega⟩, ⟨by (with_reducible repeat (first | apply Kd.R_alloc | apply Kd.R_drewN | apply Kd.R_drew)); exact HO_3.out⟩, ⟨by repeat (first | (with_reducible first | exact HB.out | apply below_alloc | apply pw_below_drewN | apply below_drew1) | exact HB.out)⟩⟩
                    · rw [if_neg c17] at H
                      exact absurd H (by simp)
                  · replace c16 := Bool.eq_false_iff.mpr c16
                    subst c16
                    have H1 : (if 0 ≤ ((rd_T47 t113 x5_1).f0) then (if ((rd_T47 t113 x5_1).f0) ≤ (wrap64 (((rd_T47 t113 x5_1).f0) + ((rd_T47 t113 x5_1).f1))) then (if (wrap64 (((rd_T47 t113 x5_1).f0) + ((rd_T47 t113 x5_1).f1))) ≤ (a0.size : Int) then (if x4_1.size + (a0.extract (((rd_T47 t113 x5_1).f0) : Int).toNat ((wrap64 (((rd_T47 t113 x5_1).f0) + ((rd_T47 t113 x5_1).f1))) : Int).toNat).size ≤ 9223372036854775807 then (rondelref06_Clean.l0 kj3 a0 t113 (x4_1 ++ (a0.extract (((rd_T47 t113 x5_1).f0) : Int).toNat ((wrap64 (((rd_T47 t113 x5_1).f0) + ((rd_T47 t113 x5_1).f1))) : Int).toNat)) (wrap64 (x5_1 + 1))) else (none)) else (none)) else (none)) else (none)) = some r := by rw [if_neg (show ¬ (false = true) by decide)] at H; exact H
                    clear H
                    have H := H1
                    clear H1
                    by_cases c19 : 0 ≤ ((rd_T47 t113 x5_1).f0)
                    · rw [if_pos c19] at H
                      have c19b0 := eq_true c19
                      have c19b1 : decide (0 ≤ ((rd_T47 t113 x5_1).f0)) = true := decide_eq_true c19
                      clear c19
                      by_cases c20 : ((rd_T47 t113 x5_1).f0) ≤ (wrap64 (((rd_T47 t113 x5_1).f0) + ((rd_T47 t113 x5_1).f1)))
                      · rw [if_pos c20] at H
                        have c20b0 := eq_true c20
                        have c20b1 : decide (((rd_T47 t113 x5_1).f0) ≤ (wrap64 (((rd_T47 t113 x5_1).f0) + ((rd_T47 t113 x5_1).f1)))) = true := decide_eq_true c20
                        by_cases c21 : (wrap64 (((rd_T47 t113 x5_1).f0) + ((rd_T47 t113 x5_1).f1))) ≤ (a0.size : Int)
                        · rw [if_pos c21] at H
                          have c21b0 := eq_true c21
                          have c21b1 : decide ((wrap64 (((rd_T47 t113 x5_1).f0) + ((rd_T47 t113 x5_1).f1))) ≤ (a0.size : Int)) = true := decide_eq_true c21
                          by_cases c22 : x4_1.size + (a0.extract (((rd_T47 t113 x5_1).f0) : Int).toNat ((wrap64 (((rd_T47 t113 x5_1).f0) + ((rd_T47 t113 x5_1).f1))) : Int).toNat).size ≤ 9223372036854775807
                          · rw [if_pos c22] at H
                            have c22b0 := eq_true c22
                            have c22b1 : decide (x4_1.size + (a0.extract (((rd_T47 t113 x5_1).f0) : Int).toNat ((wrap64 (((rd_T47 t113 x5_1).f0) + ((rd_T47 t113 x5_1).f1))) : Int).toNat).size ≤ 9223372036854775807) = true := decide_eq_true c22
                            try have c22b2 : (9223372036854775807 < x4_1.size + (a0.extract (((rd_T47 t113 x5_1).f0) : Int).toNat ((wrap64 (((rd_T47 t113 x5_1).f0) + ((rd_T47 t113 x5_1).f1))) : Int).toNat).size) = False := eq_false (Nat.not_lt.2 c22)
                            have H' := Aside0.mk H
                            clear H
                            obtain ⟨Ao23, co23, eo23⟩ := Kd.R_slice HO_3.out
                            subst eo23
                            have p116 : 0 ≤ (x5_1 : Int) := of_decide_eq_true (by first | (with_reducible assumption) | assumption)
                            have q116 : x5_1 < (t113.length : Int) := of_decide_eq_true (by first | (with_reducible assumption) | assumption)
                            obtain ⟨ad116, e116, hx116_0, hx116_1, hx116_2, hx116_3⟩ := at_T47 (Kd.R_reads' HO_3.out).2.2 x5_1 p116 q116
                            (try rw [← Nbq15.out] at hx116_3)
                            cases e116
                            replace p116 := eq_true p116
                            replace q116 := eq_true q116
                            go_wp2_with (first | (go_at_call 20; (with_reducible refine (rondelref06_Odd.calls ((rd_T47 t113 x5_1).f2) false _ A11.out).mono ?_); rintro e w' ⟨rfl, ⟨nd, rfl⟩⟩; (try first | exact ⟨rfl, _, World.drewN_drewN _ _ _⟩ | exact ⟨rfl, _, Eq.trans (World.drewN_drewN _ _ _) (congrArg (World.drewN _) (Nat.add_assoc _ _ _))⟩); have p118 : 0 ≤ (x5_1 : Int) := of_decide_eq_true (by first | (with_reducible assumption) | assumption); have q118 : x5_1 < (t113.length : Int) := of_decide_eq_true (by first | (with_reducible assumption) | assumption); obtain ⟨ad118, e118, hx118_0, hx118_1, hx118_2, hx118_3⟩ := at_T47 (Kd.R_reads' HO_3.out).2.2 x5_1 p118 q118; (try rw [← Nbq15.out] at hx118_3); obtain rfl : ad116 = ad118 := (by injection e118); replace p118 := eq_true p118; replace q118 := eq_true q118; have p119 : 0 ≤ (x5_1 : Int) := of_decide_eq_true (by first | (with_reducible assumption) | assumption); have q119 : x5_1 < (t113.length : Int) := of_decide_eq_true (by first | (with_reducible assumption) | assumption); obtain ⟨ad119, e119, hx119_0, hx119_1, hx119_2, hx119_3⟩ := at_T47 (Kd.R_reads' HO_3.out).2.2 x5_1 p119 q119; (try rw [← Nbq15.out] at hx119_3); obtain rfl : ad116 = ad119 := (by injection e119); replace p119 := eq_true p119; replace q119 := eq_true q119; have p120 : 0 ≤ (x5_1 : Int) := of_decide_eq_true (by first | (with_reducible assumption) | assumption); have q120 : x5_1 < (t113.length : Int) := of_decide_eq_true (by first | (with_reducible assumption) | assumption); obtain ⟨ad120, e120, hx120_0, hx120_1, hx120_2, hx120_3⟩ := at_T47 (Kd.R_reads' HO_3.out).2.2 x5_1 p120 q120; (try rw [← Nbq15.out] at hx120_3); obtain rfl : ad116 = ad120 := (by injection e120); replace p120 := eq_true p120; replace q120 := eq_true q120; have p121 : 0 ≤ (x5_1 : Int) := of_decide_eq_true (by first | (with_reducible assumption) | assumption); have q121 : x5_1 < (t113.length : Int) := of_decide_eq_true (by first | (with_reducible assumption) | assumption); obtain ⟨ad121, e121, hx121_0, hx121_1, hx121_2, hx121_3⟩ := at_T47 (Kd.R_reads' HO_3.out).2.2 x5_1 p121 q121; (try rw [← Nbq15.out] at hx121_3); obtain rfl : ad116 = ad121 := (by injection e121); replace p121 := eq_true p121; replace q121 := eq_true q121))
                            repeat (go_quiet (first | (go_at_call 20; (with_reducible refine (rondelref06_Odd.calls ((rd_T47 t113 x5_1).f2) false _ A11.out).mono ?_); rintro e w' ⟨rfl, ⟨nd, rfl⟩⟩; (try first | exact ⟨rfl, _, World.drewN_drewN _ _ _⟩ | exact ⟨rfl, _, Eq.trans (World.drewN_drewN _ _ _) (congrArg (World.drewN _) (Nat.add_assoc _ _ _))⟩); have p118 : 0 ≤ (x5_1 : Int) := of_decide_eq_true (by first | (with_reducible assumption) | assumption); have q118 : x5_1 < (t113.length : Int) := of_decide_eq_true (by first | (with_reducible assumption) | assumption); obtain ⟨ad118, e118, hx118_0, hx118_1, hx118_2, hx118_3⟩ := at_T47 (Kd.R_reads' HO_3.out).2.2 x5_1 p118 q118; (try rw [← Nbq15.out] at hx118_3); obtain rfl : ad116 = ad118 := (by injection e118); replace p118 := eq_true p118; replace q118 := eq_true q118; have p119 : 0 ≤ (x5_1 : Int) := of_decide_eq_true (by first | (with_reducible assumption) | assumption); have q119 : x5_1 < (t113.length : Int) := of_decide_eq_true (by first | (with_reducible assumption) | assumption); obtain ⟨ad119, e119, hx119_0, hx119_1, hx119_2, hx119_3⟩ := at_T47 (Kd.R_reads' HO_3.out).2.2 x5_1 p119 q119; (try rw [← Nbq15.out] at hx119_3); obtain rfl : ad116 = ad119 := (by injection e119); replace p119 := eq_true p119; replace q119 := eq_true q119; have p120 : 0 ≤ (x5_1 : Int) := of_decide_eq_true (by first | (with_reducible assumption) | assumption); have q120 : x5_1 < (t113.length : Int) := of_decide_eq_true (by first | (with_reducible assumption) | assumption); obtain ⟨ad120, e120, hx120_0, hx120_1, hx120_2, hx120_3⟩ := at_T47 (Kd.R_reads' HO_3.out).2.2 x5_1 p120 q120; (try rw [← Nbq15.out] at hx120_3); obtain rfl : ad116 = ad120 := (by injection e120); replace p120 := eq_true p120; replace q120 := eq_true q120; have p121 : 0 ≤ (x5_1 : Int) := of_decide_eq_true (by first | (with_reducible assumption) | assumption); have q121 : x5_1 < (t113.length : Int) := of_decide_eq_true (by first | (with_reducible assumption) | assumption); obtain ⟨ad121, e121, hx121_0, hx121_1, hx121_2, hx121_3⟩ := at_T47 (Kd.R_reads' HO_3.out).2.2 x5_1 p121 q121; (try rw [← Nbq15.out] at hx121_3); obtain rfl : ad116 = ad121 := (by injection e121); replace p121 := eq_true p121; replace q121 := eq_true q121)); try go_wp2_with (first | (go_at_call 20; (with_reducible refine (rondelref06_Odd.calls ((rd_T47 t113 x5_1).f2) false _ A11.out).mono ?_); rintro e w' ⟨rfl, ⟨nd, rfl⟩⟩; (try first | exact ⟨rfl, _, World.drewN_drewN _ _ _⟩ | exact ⟨rfl, _, Eq.trans (World.drewN_drewN _ _ _) (congrArg (World.drewN _) (Nat.add_assoc _ _ _))⟩); have p118 : 0 ≤ (x5_1 : Int) := of_decide_eq_true (by first | (with_reducible assumption) | assumption); have q118 : x5_1 < (t113.length : Int) := of_decide_eq_true (by first | (with_reducible assumption) | assumption); obtain ⟨ad118, e118, hx118_0, hx118_1, hx118_2, hx118_3⟩ := at_T47 (Kd.R_reads' HO_3.out).2.2 x5_1 p118 q118; (try rw [← Nbq15.out] at hx118_3); obtain rfl : ad116 = ad118 := (by injection e118); replace p118 := eq_true p118; replace q118 := eq_true q118; have p119 : 0 ≤ (x5_1 : Int) := of_decide_eq_true (by first | (with_reducible assumption) | assumption); have q119 : x5_1 < (t113.length : Int) := of_decide_eq_true (by first | (with_reducible assumption) | assumption); obtain ⟨ad119, e119, hx119_0, hx119_1, hx119_2, hx119_3⟩ := at_T47 (Kd.R_reads' HO_3.out).2.2 x5_1 p119 q119; (try rw [← Nbq15.out] at hx119_3); obtain rfl : ad116 = ad119 := (by injection e119); replace p119 := eq_true p119; replace q119 := eq_true q119; have p120 : 0 ≤ (x5_1 : Int) := of_decide_eq_true (by first | (with_reducible assumption) | assumption); have q120 : x5_1 < (t113.length : Int) := of_decide_eq_true (by first | (with_reducible assumption) | assumption); obtain ⟨ad120, e120, hx120_0, hx120_1, hx120_2, hx120_3⟩ := at_T47 (Kd.R_reads' HO_3.out).2.2 x5_1 p120 q120; (try rw [← Nbq15.out] at hx120_3); obtain rfl : ad116 = ad120 := (by injection e120); replace p120 := eq_true p120; replace q120 := eq_true q120; have p121 : 0 ≤ (x5_1 : Int) := of_decide_eq_true (by first | (with_reducible assumption) | assumption); have q121 : x5_1 < (t113.length : Int) := of_decide_eq_true (by first | (with_reducible assumption) | assumption); obtain ⟨ad121, e121, hx121_0, hx121_1, hx121_2, hx121_3⟩ := at_T47 (Kd.R_reads' HO_3.out).2.2 x5_1 p121 q121; (try rw [← Nbq15.out] at hx121_3); obtain rfl : ad116 = ad121 := (by injection e121); replace p121 := eq_true p121; replace q121 := eq_true q121)))
                            go_roundg kj3
                            case measure => have := HK1.out; have := HJ3.out; omega
                            case rel => exact ⟨(x4_1 ++ (a0.extract (((rd_T47 t113 x5_1).f0) : Int).toNat ((wrap64 (((rd_T47 t113 x5_1).f0) + ((rd_T47 t113 x5_1).f1))) : Int).toNat)), (wrap64 (x5_1 + 1)), (by first | rfl | (simp; done) | (simp [*]; done)), (by first | rfl | (simp; done) | (simp [*]; done)), H', ⟨by have := HK1.out; have := HJ3.out; omega⟩, ⟨by (with_reducible repeat (first | apply Kd.R_alloc | apply Kd.R_drewN | apply Kd.R_drew)); exact HO_3.out⟩, ⟨by repeat (first | (with_reducible first | exact HB.out | apply below_alloc | apply pw_below_drewN | apply below_drew1) | exact HB.out)⟩⟩
                          · rw [if_neg c22] at H
                            exact absurd H (by simp)
                        · rw [if_neg c21] at H
                          exact absurd H (by simp)
                      · rw [if_neg c20] at H
                        exact absurd H (by simp)
                    · rw [if_neg c19] at H
                      exact absurd H (by simp)
              · rw [if_neg c10] at H
                exact absurd H (by simp)
            · rw [if_neg c9] at H
              exact absurd H (by simp)
          · replace c8 := Bool.eq_false_iff.mpr c8
            subst c8
            have H1 : (some x4_1) = some r := by rw [if_neg (show ¬ (false = true) by decide)] at H; exact H
            clear H
            have H := H1
            clear H1
            obtain rfl := Option.some.inj H
            go_wp2
            repeat (go_quiet (fail); try go_wp2)
            go_ret
            exact ⟨by first | rfl | (simp [errW_none, errW_some] <;> rfl) | (simp [*, errW_none, errW_some] <;> rfl), by repeat (first | (with_reducible first | exact HB.out | apply below_alloc | apply pw_below_drewN | apply below_drew1) | exact HB.out)⟩

end Go.Proofs.YtpmhbfelhjpalaaDoor.PClean

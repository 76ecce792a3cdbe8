/- The walk of FrameLengths: it returns true and writes nothing that was there. -/
import Derived.Test.YtligkikcfmploaaBase
import Derived.Test.YtligkikcfmploaaMsg
import Derived.WalkSpells
import Derived.Deep.RegionHeld3
namespace Go.Proofs.Ytligkikcfmploaa.Fl
open Go.RowKit Go.Proofs.YtligkikcfmploaaW.PrintWords Go.Proofs.YtligkikcfmploaaW.PrintLast Go.Proofs.YtligkikcfmploaaW.PrintMore
open Go.Proofs.Ytligkikcfmploaa.PFrameCuts Go.Proofs.Ytligkikcfmploaa.Base Go.Proofs.Ytligkikcfmploaa.Msg
set_option linter.unusedVariables false
set_option linter.unusedSimpArgs false

set_option maxHeartbeats 1000000 in
theorem walk (op id : Int) (A : Option Addr) (c : Nat) (l : List Int) (n : Int) (w : World) (hc : l.length ≤ c) (hn : -9223372036854775808 ≤ n ∧ n ≤ 9223372036854775807) :
    Calls Try.prog 3 #[.agg #[.int .i64 op, .int .i64 id, .slice A l.length c], .int .i64 n] w fun e w' => e = .returned (.bool true) ∧ Below w.heap.size w w' := by
  have hu24 := Try.underlying24
  go_enter Try.func3, Try.ntmps3
  go_wp2_with ((go_at_call 9; refine (good_calls op id A c l 20 _ (by omega) hc).mono ?_; rintro e w1 ⟨rfl, hb1⟩))
  have HB1 := Aside0.mk (below_step (below_alloc (Below.refl w.heap.size w) _) hb1)
  clear hb1
  have hr := ar_spec n 4097 (by omega) hn
  refine (around_calls n 4097 _ (by omega)).mono ?_
  rintro e w2 ⟨rfl, k, rfl⟩
  obtain ⟨r, hr_⟩ : ∃ r, ar n 4097 = r := ⟨_, rfl⟩
  rw [hr_] at hr ⊢
  clear hr_
  obtain ⟨rn, rfl⟩ := Int.eq_ofNat_of_zero_le hr.1
  have hrn : rn ≤ 4096 := by omega
  clear hr
  go_wp2_with ((with_reducible refine gate_dst (N := 12) rfl ?_); go_must (refine Kd.R_make (Kd.int .u8) (w0 := w) w.heap.size 5 rfl rfl 22 _ _ rfl rn rfl rfl Try.underlying22 (.int .u8 0) 1 info5 rfl (by decide) (by omega) (0 : Int) (ok := fun _ => True) (okp := fun _ => True) rfl (fun _ _ => trivial) trivial (by omega) (by omega) ?hb ?hs ?_); (case hb => repeat (first | exact HB1.out | apply below_alloc | apply pw_below_drewN | apply below_drew1)); (case hs => exact below_size (by repeat (first | exact HB1.out | apply below_alloc | apply pw_below_drewN | apply below_drew1))); intro v2 w3 HR2_ HB2_ hg2 hat2; simp only [Int.toNat_natCast] at HR2_; obtain ⟨A2, c2, rfl⟩ := Kd.R_slice HR2_; have BK := blk_grown (blk_drewN (heap_alloc_new w1 _) k) hg2 (by simp); obtain ⟨q0, q1, q2, f0, f1, f2⟩ := cells3 BK; have HR2 := Aside0.mk HR2_; have HB2 := Aside0.mk HB2_; have BK2 := Aside0.mk BK; clear HR2_ HB2_ BK hat2 hg2)
  have HR3 := Aside0.mk (Kd.R_set HR2.out BK2.out (by decide) 2 (.slice A2 (List.replicate rn (0 : Int)).length c2))
  have BK3 := Aside0.mk (blk_put BK2.out 2 (.slice A2 (List.replicate rn (0 : Int)).length c2) rfl)
  have HB3 := Aside0.mk (below_set (j := 2) (v := .slice A2 (List.replicate rn (0 : Int)).length c2) HB2.out (below_size HB1.out))
  clear HR2 BK2 HB2 q0 q1 q2 f0 f1 f2
  rw [List.length_replicate] at HR3 BK3 HB3
  obtain ⟨w4, hw4⟩ : ∃ w4, w3.setCell ⟨w1.heap.size, 2, none⟩ (.slice A2 rn c2) = w4 := ⟨_, rfl⟩
  rw [hw4] at HR3 BK3 HB3 ⊢
  clear hw4
  obtain ⟨lb, hlb⟩ : ∃ lb, List.replicate rn (0 : Int) = lb := ⟨_, rfl⟩
  have hll : lb.length = rn := by rw [← hlb, List.length_replicate]
  rw [hlb] at HR3
  clear hlb
  have ⟨e3, hc3, hC3⟩ := Kd.R_reads' HR3.out
  have hg1 := gd_spec op 256 (by omega) (by omega)
  have hg2 := gd_spec id 4294967296 (by omega) (by omega)
  obtain ⟨o1, ho1⟩ : ∃ o1, gd op 256 = o1 := ⟨_, rfl⟩
  obtain ⟨o2, ho2⟩ : ∃ o2, gd id 4294967296 = o2 := ⟨_, rfl⟩
  rw [ho1] at BK3 hg1 ⊢
  rw [ho2] at BK3 hg2 ⊢
  clear ho1 ho2
  refine (write_calls o1 o2 A2 rn c2 lb w4 (by rw [e3]; exact hC3) hc3 hg1 hg2 (by omega)).mono ?_
  rintro e w5 ⟨v5, rfl, HR5, HB5⟩
  have hfl := frameBytes_length o1 o2 lb
  obtain ⟨g, cap, rfl, hgb, hgw, hgc⟩ := Kd.R_form HR5 (by omega)
  have c0 := (Kd.R_cell (0 : Int) HR5 0 (by omega) (by omega)).1
  have c1 := (Kd.R_cell (0 : Int) HR5 1 (by omega) (by omega)).1
  replace c0 : w5.cell? ⟨g, 0, none⟩ = some (.int .u8 ((7 + (lb.length : Int)) / 256)) := c0
  replace c1 : w5.cell? ⟨g, 1, none⟩ = some (.int .u8 ((7 + (lb.length : Int)) % 256)) := c1
  obtain ⟨q0, q1, q2, _, _, _⟩ := cells3 (blk_below BK3.out HB5)
  have HB6 := Aside0.mk (below_step HB3.out HB5)
  clear HB5 HR5 hC3 HR3 BK3 HB3 hgc hc3 HB1
  obtain ⟨N, hN⟩ : ∃ N, (frameBytes o1 o2 lb).length = N := ⟨_, rfl⟩
  rw [hN] at hfl ⊢
  clear hN
  rw [hll] at c0 c1 hfl
  have hne : ((N : Int) != 7 + (rn : Int)) = false := by rw [bne_eq_false_iff_eq]; omega
  have hN0 : (0 : Int) < (N : Int) := by omega
  have hN0' : 0 < N := by omega
  have hN1 : (1 : Int) < (N : Int) := by omega
  have hN2 : decide ((N : Int) < 2) = false := by rw [decide_eq_false_iff_not]; omega
  obtain ⟨a0, ha0⟩ : ∃ a : Int, (7 + (rn : Int)) / 256 = a := ⟨_, rfl⟩
  obtain ⟨a1, ha1⟩ : ∃ a : Int, (7 + (rn : Int)) % 256 = a := ⟨_, rfl⟩
  rw [ha0] at c0
  rw [ha1] at c1
  have b0 : 0 ≤ a0 ∧ a0 ≤ 16 := by omega
  have b1 : 0 ≤ a1 ∧ a1 < 256 := by omega
  have heq : (a0 * 256 + a1 == (N : Int)) = true := by rw [beq_iff_eq]; omega
  clear hfl hll e3 ha0 ha1
  go_wp2_with (fail)
  have v0 : IntKind.i64.wrap a0 = a0 := IntWalk.i64_in _ (by omega)
  have v1 : IntKind.i64.wrap a1 = a1 := IntWalk.i64_in _ (by omega)
  have v2 : IntKind.i64.wrap (a0 * 256) = a0 * 256 := IntWalk.i64_in _ (by omega)
  have v3 : IntKind.i64.wrap (a0 * 256 + a1) = a0 * 256 + a1 := IntWalk.i64_in _ (by omega)
  go_region_held3 (fun w' => w'.cell? ⟨g, 0, none⟩ = some (.int .u8 a0) ∧ w'.cell? ⟨g, 1, none⟩ = some (.int .u8 a1)) (first | go_keep | exact ⟨pw_cell_below hb7 c0, pw_cell_below hb7 c1⟩)
    (first | (go_at_call 12; refine (lives_calls _).mono ?_; rintro e w6 ⟨rfl, hb7⟩))
  have HB8 := Aside0.mk (below_step (below_drew1 HB6.out) hb7)
  clear hb7
  go_wp2
  go_ret
  exact ⟨rfl, HB8.out⟩

theorem law (cs : List Value) (y : S24) (n : Int) (W : World) (hK : k24.K W y cs) (_G : MsgG y) (wn : (Lit.int .i64 n).wf = true) :
    Calls Try.prog 3 #[.agg cs.toArray, .int .i64 n] W fun e w' => e = .returned (.bool true) ∧ Below W.heap.size W w' := by
  obtain ⟨A, c, rfl, hl, _⟩ := k24_open hK
  exact walk y.f0 y.f1 A c y.f2 n W hl (bounds_i64 wn)

end Go.Proofs.Ytligkikcfmploaa.Fl

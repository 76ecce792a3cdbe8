/- The walk of TitlePads: it returns true and writes nothing that was there. -/
import Derived.Test.YtpmhbfelhjpalaaTCut
import Derived.WalkSpells
import Derived.OpenShut
namespace Go.Proofs.Ytpmhbfelhjpalaa.TC
open Go.RowKit Go.Proofs.YtpmhbfelhjpalaaW.PrintWords Go.Proofs.YtpmhbfelhjpalaaW.PrintLast Go.Proofs.YtpmhbfelhjpalaaW.PrintMore
open Go.Proofs.Ytpmhbfelhjpalaa.TP Go.Proofs.Ytpmhbfelhjpalaa.TJ
open Go.Proofs.Ytpmhbfelhjpalaa.TW (cutAt_le cut_calls wide_calls)
open Go.Proofs.Ytpmhbfelhjpalaa.Tjw (few_calls lives_calls begins_calls)
attribute [local go_sem] max2_int min2_int max_two min_two
set_option linter.unusedVariables false
set_option linter.unusedSimpArgs false

theorem begins_ok (s c : ByteArray) (h1 : c.size ≤ s.size) (h2 : s.extract 0 c.size = c) : Go.Proofs.Ytpmhbfelhjpalaa.PTitleJoins.rondellaw06_begins.f s c = some true := by
  unfold Go.Proofs.Ytpmhbfelhjpalaa.PTitleJoins.rondellaw06_begins.f
  rw [if_neg (by omega), if_pos (by omega), if_pos (by omega), Int.toNat_natCast, h2]
  simp

set_option maxRecDepth 100000 in
set_option maxHeartbeats 16000000 in
theorem pads_walk (s0 : ByteArray) (a b : Int) (w : World) (ha : -9223372036854775808 ≤ a ∧ a ≤ 9223372036854775807) (hb : -9223372036854775808 ≤ b ∧ b ≤ 9223372036854775807) :
    Calls Try.prog 7 #[.string s0, .int .i64 a, .int .i64 b] w fun e w' => e = .returned (.bool true) ∧ Below w.heap.size w w' := by
  have HFew := Aside0.mk (fun w => few_calls s0 60 w)
  obtain ⟨s, hs⟩ : ∃ z, s0.extract 0 60 = z := ⟨_, rfl⟩
  have hsz : s.size ≤ 60 := by rw [← hs, ByteArray.size_extract]; omega
  rw [hs] at HFew
  clear hs
  obtain ⟨p, hp, HAp⟩ := around_calls a 51 (by omega) w ha
  obtain ⟨q, hq, HAq⟩ := around_calls b 51 (by omega) w hb
  have HAp := Aside0.mk HAp
  have HAq := Aside0.mk HAq
  obtain ⟨mn, hmn⟩ : ∃ z, min p q = z := ⟨_, rfl⟩
  obtain ⟨mx, hmx⟩ : ∃ z, max p q = z := ⟨_, rfl⟩
  have hmn1 : (if q < p then (q : Int) else (p : Int)) = (mn : Int) := by split <;> omega
  have hmx1 : (if p < q then (q : Int) else (p : Int)) = (mx : Int) := by split <;> omega
  have HMN := Aside0.mk hmn1
  have HMX := Aside0.mk hmx1
  have hmnb : mn ≤ 50 := by omega
  have hmxb : mx ≤ 50 := by omega
  have HPx := Aside0.mk (fun w => pad_calls s (mn : Int) (by omega) (by omega) w)
  have HPy := Aside0.mk (fun w => pad_calls s (mx : Int) (by omega) (by omega) w)
  have HPz := Aside0.mk (fun w => pad_calls s 0 (by omega) (by omega) w)
  have HC := Aside0.mk (fun w => cut_calls s (p : Int) w (by omega) (by omega))
  obtain ⟨c1, c2⟩ := cut_pre s (p : Int)
  obtain ⟨c, hc⟩ : ∃ z, cut s (p : Int) = z := ⟨_, rfl⟩
  rw [hc] at HC c1 c2
  have HBg := Aside0.mk (fun w => begins_calls s c true (begins_ok s c c1 c2) w)
  have sz : ∀ n : Int, 0 ≤ n → n ≤ 50 → (pad s n).size ≤ 200 := fun n h0 h1 => by
    rw [pad_size]
    have := (cut_pre s n).1
    unfold padN
    omega
  have HWx := Aside0.mk (fun w => wide_calls (pad s (mn : Int)) w (by have := sz mn (by omega) (by omega); omega))
  have HWy := Aside0.mk (fun w => wide_calls (pad s (mx : Int)) w (by have := sz mx (by omega) (by omega); omega))
  have HWz := Aside0.mk (fun w => wide_calls (pad s 0) w (by have := sz 0 (by omega) (by omega); omega))
  rw [show wds (sgs (pad s (mn : Int)) 0) = mn from by have := pad_wide s (mn : Int) (by omega); omega] at HWx
  rw [show wds (sgs (pad s (mx : Int)) 0) = mx from by have := pad_wide s (mx : Int) (by omega); omega] at HWy
  rw [show wds (sgs (pad s 0) 0) = 0 from by have := pad_wide s 0 (by omega); omega] at HWz
  obtain ⟨x, hx⟩ : ∃ z, pad s (mn : Int) = z := ⟨_, rfl⟩
  obtain ⟨y, hy⟩ : ∃ z, pad s (mx : Int) = z := ⟨_, rfl⟩
  obtain ⟨z, hz⟩ : ∃ z, pad s 0 = z := ⟨_, rfl⟩
  rw [hx] at HPx HWx
  rw [hy] at HPy HWy
  rw [hz] at HPz HWz
  clear hmn hmx hc c1 c2 sz hx hy hz ha hb hmn1 hmx1
  go_enter Try.func7, Try.ntmps7
  go_wp2_with (fail)
  refine (HFew.out _).mono ?_
  rintro e w1 ⟨rfl, m1, rfl⟩
  have B1 := Aside0.mk (pw_below_drewN (Below.refl w.heap.size w) m1)
  generalize w.drewN m1 = w1 at B1 ⊢
  go_wp2_with (fail)
  refine (HAp.out _).mono ?_
  rintro e w2 ⟨rfl, m2, rfl⟩
  have B2 := Aside0.mk (pw_below_drewN B1.out m2)
  generalize w1.drewN m2 = w2 at B2 ⊢
  clear B1
  go_wp2_with (fail)
  refine (HAq.out _).mono ?_
  rintro e w3 ⟨rfl, m3, rfl⟩
  have B3 := Aside0.mk (pw_below_drewN B2.out m3)
  generalize w2.drewN m3 = w3 at B3 ⊢
  clear B2
  have hm := HMN.out
  go_wp2_with (fail)
  clear hm
  refine (HPx.out _).mono ?_
  rintro e w4 ⟨rfl, hb4⟩
  have B4 := Aside0.mk (below_step B3.out hb4)
  clear hb4 B3
  have hm := HMX.out
  go_wp2_with (fail)
  clear hm
  refine (HPy.out _).mono ?_
  rintro e w5 ⟨rfl, hb5⟩
  have B5 := Aside0.mk (below_step B4.out hb5)
  clear hb5 B4
  go_wp2_with (fail)
  refine (HWx.out _).mono ?_
  rintro e w6 ⟨rfl, hb6⟩
  have B6 := Aside0.mk (below_step B5.out hb6)
  clear hb6 B5
  have hm := HMN.out
  go_wp2_with (fail)
  clear hm
  refine (HWy.out _).mono ?_
  rintro e w7 ⟨rfl, hb7⟩
  have B7 := Aside0.mk (below_step B6.out hb7)
  clear hb7 B6
  have hm := HMX.out
  go_wp2_with (fail)
  clear hm
  refine (HPz.out _).mono ?_
  rintro e w8 ⟨rfl, hb8⟩
  have B8 := Aside0.mk (below_step B7.out hb8)
  clear hb8 B7
  go_wp2_with (fail)
  refine (HWz.out _).mono ?_
  rintro e w9 ⟨rfl, hb9⟩
  have B9 := Aside0.mk (below_step B8.out hb9)
  clear hb9 B8
  go_wp2_with (fail)
  refine (HC.out _).mono ?_
  rintro e w10 ⟨rfl, hb10⟩
  have B10 := Aside0.mk (below_step B9.out hb10)
  clear hb10 B9
  go_wp2_with (fail)
  refine (HBg.out _).mono ?_
  rintro e w11 ⟨rfl, m11, rfl⟩
  have B11 := Aside0.mk (pw_below_drewN B10.out m11)
  clear B10
  go_wp2_with (fail)
  refine (lives_calls _).mono ?_
  rintro e w12 ⟨rfl, hb12⟩
  have B12 := Aside0.mk (below_step B11.out hb12)
  clear hb12 B11
  go_wp2_with (fail)
  go_ret
  exact ⟨rfl, B12.out⟩

/-- With the arguments as the row hands them. -/
theorem pads_law (a : ByteArray) (n m : Int) (W : World) (_ : a.size ≤ 140737488351232) (h : (Lit.int .i64 n).wf = true) (h' : (Lit.int .i64 m).wf = true) : Calls Try.prog 7 #[.string a, .int .i64 n, .int .i64 m] W fun e w' => e = .returned (.bool true) ∧ Below W.heap.size W w' := pads_walk a n m W (Go.bounds_i64 h) (Go.bounds_i64 h')

end Go.Proofs.Ytpmhbfelhjpalaa.TC

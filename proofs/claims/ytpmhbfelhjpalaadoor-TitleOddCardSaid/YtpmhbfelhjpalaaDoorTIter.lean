/- Signs (chapter 6) as an iterator: of each sign the place of its first byte, and it: for whatever loop body. -/
import Derived.Test.YtpmhbfelhjpalaaDoorProg
import Derived.Test.YtpmhbfelhjpalaaDoorTJoin
import Derived.RangeFuncNested
import Derived.RangeFuncBound
import Derived.RangeFuncCalls
import Derived.RangeFuncLeaves
import Derived.RangeFuncBox
import Derived.Shelf.Abstract
import Derived.Shelf.RegionOpen
import Derived.WalkKit
import Derived.OwnWalkIn
import Derived.TacticsInMore
import Derived.LoopNIn
import Derived.LoopIn
import Derived.Lib.OthersKept
import Derived.Lib.Hide
namespace Go.Proofs.YtpmhbfelhjpalaaDoor.TI
open Go.RowKit Go.Shelf Go.Proofs.YtpmhbfelhjpalaaDoor.TP
attribute [local go_sem] Oper.semAt_some
set_option linter.unusedVariables false

/-- A sign of s: what a loop over signs is handed. -/
abbrev OSg (s : ByteArray) := { x : Sg // x ∈ sgs s 0 }
def encs (s : ByteArray) (x : OSg s) : Array Value := #[.int .i64 (x.1.at_ : Int), .int .i32 (x.1.r : Int)]

set_option maxHeartbeats 1000000 in
theorem signs_in (F : Fence) (n : Nat) (h : F.fn 15) (hro : F.round = none) (s : ByteArray) (w : World) :
    CallsIn F n Tryd.prog 15 #[.string s] w fun e w' => e = .returned (.func (.func 23) #[] #[.pointer (some ⟨w.heap.size, 0, none⟩)]) ∧ w' = w.alloc (.cells #[.string s] 9) := by
  refine callsIn_of_wp Tryd.func15 rfl h ?_ hro
  simp only [Tryd.ntmps15, List.size_toArray, List.length_cons, List.length_nil, Nat.reduceAdd, Nat.reduceSub, Array.replicate_succ, Array.replicate_zero, List.push_toArray, List.append_toArray, List.nil_append, List.cons_append]
  gi_wp2
  go_ret
  exact ⟨rfl, rfl⟩

set_option maxRecDepth 100000 in
set_option maxHeartbeats 4000000 in
theorem lit_in (F : Fence) (n : Nat) (h : F.fn 23) (hro : F.round = none) (hn : 1 ≤ n) (l Bs : Nat) (s : ByteArray) (hs : s.size ≤ 140737488351232) (J Jx : List (OSg s) → World → Prop) (W : World) (hJ : AbidesFrom W.heap.size J)
    (hY : ∀ pre x W1, J pre W1 → pre.length < (sgs s 0).length → YieldAt F (n - 1) Tryd.prog l (encs s x) W1 fun e W' =>
      (e = .returned (.bool true) ∧ J (pre ++ [x]) W' ∧ KeepsWalks W1 W') ∨ (e = .returned (.bool false) ∧ Jx (pre ++ [x]) W'))
    (hBs : W.cell? ⟨Bs, 0, none⟩ = some (.string s)) (h0 : J [] W) :
    CallsIn F n Tryd.prog 23 #[.func (.yield l) #[] #[], .pointer (some ⟨Bs, 0, none⟩)] W fun e W' => (∃ v, e = .returned v) ∧
      ((∃ xs, xs.map (·.1) = sgs s 0 ∧ J xs W') ∨ (∃ pre, pre.map (·.1) <+: sgs s 0 ∧ Jx pre W')) := by
  refine callsIn_of_wp Tryd.func23 rfl h ?_ hro
  simp only [Tryd.ntmps23, List.size_toArray, List.length_cons, List.length_nil, Nat.reduceAdd, Nat.reduceSub, Array.replicate_succ, Array.replicate_zero, List.push_toArray, List.append_toArray, List.nil_append, List.cons_append]
  gi_wp2
  gi_loopw [3, 4] (fun u v wr => ∃ (pos : Nat) (pre : List (OSg s)), Hid (wr.heap[W.heap.size]? = some (.stringIter s pos)) ∧ pos ≤ s.size ∧ Hid (pre.map (·.1) ++ sgs s pos = sgs s 0) ∧ Hid (J pre wr))
    (fun _ _ wr => s.size - wr.iterPos W.heap.size)
  case atStart =>
    exact ⟨0, [], World.iter_heap W s 0, by omega, rfl, hJ [] W _ none h0 (World.grownBy_alloc W _ none) (fun r e => by cases e)⟩
  case round =>
    obtain ⟨pos, pre, hit, hpos, hpre, hJs⟩ := hrel
    by_cases hp : pos < s.size
    · have hnx : ∀ ty, (Instr.next (.pointer (some ⟨W.heap.size, 0, none⟩)) true ty).run Tryd.prog wr = _ := fun ty => Lib.run_next_any_at wr W.heap.size s pos ty hit hp
      have hd := dec_pos s pos hp
      have hf := dec_fits s pos hp
      have hle := dec_le s pos
      have hst := sgs_step s pos hp
      have hit2 := Lib.iterAt_heap wr W.heap.size s pos (pos + (Utf8.decode s pos).2) hit
      have hJ2 : J pre (wr.iterAt W.heap.size s (pos + (Utf8.decode s pos).2)) := by
        refine hJ pre wr _ (some W.heap.size) hJs ⟨rfl, rfl, rfl, by rw [Lib.iterAt_size]; exact Nat.le_refl _, fun i _ hne => Lib.iterAt_other wr W.heap.size i s _ (fun e => hne (by rw [e]))⟩ (fun r e => ?_)
        cases e
        exact ⟨Nat.le_refl _, _, hit, rfl⟩
      have hlen : pre.length < (sgs s 0).length := by
        have := hpre
        unfold Hid at this
        rw [← this, hst]
        simp
      have hmem : (⟨pos, (Utf8.decode s pos).2, (Utf8.decode s pos).1⟩ : Sg) ∈ sgs s 0 := by
        have := hpre
        unfold Hid at this
        rw [← this, hst]
        simp
      obtain ⟨fn, tmps, assign, body, hy, hR⟩ := hY pre ⟨⟨pos, (Utf8.decode s pos).2, (Utf8.decode s pos).1⟩, hmem⟩ _ hJ2 hlen
      simp only [encs] at hy
      have HST := Lib.hid hst
      have HIT := Lib.hid hit2
      clear hst hit2 hJ2 hlen
      gi_wp2
      refine hR.mono ?_
      rintro e W3 (⟨rfl, hJ3, hk3⟩ | ⟨rfl, hJx3⟩)
      · have hit3 := Lib.hid (hk3.same _ _ HIT.out rfl)
        gi_wp2
        go_roundw
        case rel =>
          refine ⟨pos + (Utf8.decode s pos).2, pre ++ [_], hit3, by omega, ?_, hJ3⟩
          have := hpre.out
          rw [HST.out] at this
          unfold Hid
          rw [List.map_append, List.append_assoc]
          exact this
        case measure =>
          simp only [World.iterPos, hit3.out, hit.out]
          omega
      · gi_wp2
        refine bodyPost_ret (results_none rfl _ _ _) rfl ?_
        refine ⟨⟨_, rfl⟩, .inr ⟨_, ⟨sgs s (pos + (Utf8.decode s pos).2), ?_⟩, hJx3⟩⟩
        have := hpre.out
        rw [HST.out] at this
        rw [List.map_append, List.append_assoc]
        exact this
    · have hnx : ∀ ty, (Instr.next (.pointer (some ⟨W.heap.size, 0, none⟩)) true ty).run Tryd.prog wr = _ := fun ty => Lib.run_next_end_at wr W.heap.size s pos ty hit hp
      have he := Lib.hid (sgs_end s pos hp)
      gi_wp2
      go_end0
      refine ⟨⟨_, rfl⟩, .inl ⟨pre, ?_, hJs⟩⟩
      have := hpre.out
      rw [he.out, List.append_nil] at this
      exact this

/-- **Signs(s) hands back a value that tells all signs of s, in order; or a beginning of them.** -/
theorem signs_stops (F : Fence) (n : Nat) (h : F.fn 23) (hro : F.round = none) (hn : 1 ≤ n) (Bs : Nat) (s : ByteArray) (hs : s.size ≤ 140737488351232) (w : World) (hB : Bs < w.heap.size) (hc : w.cell? ⟨Bs, 0, none⟩ = some (.string s)) :
    SeqStopsK F n Tryd.prog 23 #[.pointer (some ⟨Bs, 0, none⟩)] (encs s) KeepsWalks (fun xs => xs.map (·.1) = sgs s 0) (fun pre => pre.map (·.1) <+: sgs s 0) (sgs s 0).length w := fun l J Jx W hW hJ _ hY h0 =>
  lit_in F n h hro hn l Bs s hs J Jx W hJ hY ((hW.cell (p := ⟨Bs, 0, none⟩) hB).trans hc) h0

end Go.Proofs.YtpmhbfelhjpalaaDoor.TI

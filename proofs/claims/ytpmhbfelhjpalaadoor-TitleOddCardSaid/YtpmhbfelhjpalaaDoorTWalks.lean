/- What Count, Width and Cut (chapter 6) come to: the plain words of TPlain; they write nothing that was there. -/
import Derived.Test.YtpmhbfelhjpalaaDoorPwidthx1
import Derived.Test.YtpmhbfelhjpalaaDoorTPlain
import Derived.Lib.OthersKept
import Derived.WalkSpells
namespace Go.Proofs.YtpmhbfelhjpalaaDoor.TW
open Go.RowKit Go.Proofs.YtpmhbfelhjpalaaDoorW.PrintWords Go.Proofs.YtpmhbfelhjpalaaDoorW.PrintLast Go.Proofs.YtpmhbfelhjpalaaDoorW.PrintMore
open Go.Proofs.YtpmhbfelhjpalaaDoor.Pwidth Go.Proofs.YtpmhbfelhjpalaaDoor.TP
set_option linter.unusedVariables false
set_option linter.unusedSimpArgs false

theorem j4_f (k : Nat) (r : Int) (b : Bool) : title_width.j4 (k + 1) r b = some (if b = true ∨ (127744 ≤ r ∧ r ≤ 129791) then 2 else 1) := by
  simp only [title_width.j4]
  cases b
  · by_cases h1 : r ≥ 127744 <;> by_cases h2 : r ≤ 129791 <;> simp [h1, h2]
  · simp
theorem j3_f (k : Nat) (r : Int) (b : Bool) : title_width.j3 (k + 2) r b = some (if b = true ∨ (65280 ≤ r ∧ r ≤ 65376) ∨ (127744 ≤ r ∧ r ≤ 129791) then 2 else 1) := by
  simp only [title_width.j3, j4_f]
  cases b
  · by_cases h1 : r ≥ 65280
    · rw [if_neg (by simp), if_pos h1]
      by_cases h2 : r ≤ 65376 <;> simp [h1, h2]
    · rw [if_neg (by simp), if_neg h1]
      simp [h1]
  · simp
theorem j2_f (k : Nat) (r : Int) (b : Bool) : title_width.j2 (k + 3) r b = some (if b = true ∨ (44032 ≤ r ∧ r ≤ 55203) ∨ (65280 ≤ r ∧ r ≤ 65376) ∨ (127744 ≤ r ∧ r ≤ 129791) then 2 else 1) := by
  simp only [title_width.j2, j3_f]
  cases b
  · by_cases h1 : r ≥ 44032
    · rw [if_neg (by simp), if_pos h1]
      by_cases h2 : r ≤ 55203 <;> simp [h1, h2]
    · rw [if_neg (by simp), if_neg h1]
      simp [h1]
  · simp
theorem j1_f (k : Nat) (r : Int) (b : Bool) : title_width.j1 (k + 4) r b = some (if b = true ∨ (11904 ≤ r ∧ r ≤ 42191) ∨ (44032 ≤ r ∧ r ≤ 55203) ∨ (65280 ≤ r ∧ r ≤ 65376) ∨ (127744 ≤ r ∧ r ≤ 129791) then 2 else 1) := by
  simp only [title_width.j1, j2_f]
  cases b
  · by_cases h1 : r ≥ 11904
    · rw [if_neg (by simp), if_pos h1]
      by_cases h2 : r ≤ 42191 <;> simp [h1, h2]
    · rw [if_neg (by simp), if_neg h1]
      simp [h1]
  · simp
theorem j0_f (k : Nat) (r : Int) (b : Bool) : title_width.j0 (k + 5) r b = some (if b = true then 0 else if (4352 ≤ r ∧ r ≤ 4447) ∨ (11904 ≤ r ∧ r ≤ 42191) ∨ (44032 ≤ r ∧ r ≤ 55203) ∨ (65280 ≤ r ∧ r ≤ 65376) ∨ (127744 ≤ r ∧ r ≤ 129791) then 2 else 1) := by
  simp only [title_width.j0, j1_f]
  cases b
  · by_cases h1 : r ≥ 4352
    · rw [if_neg (by simp), if_pos h1]
      by_cases h2 : r ≤ 4447 <;> simp [h1, h2]
    · rw [if_neg (by simp), if_neg h1]
      simp [h1]
  · simp
theorem width_f (r : Nat) : title_width.f 5 (r : Int) = some ((wd r : Nat) : Int) := by
  have e : ((wd r : Nat) : Int) = if 768 ≤ (r : Int) ∧ (r : Int) ≤ 879 then 0 else if (4352 ≤ (r : Int) ∧ (r : Int) ≤ 4447) ∨ (11904 ≤ (r : Int) ∧ (r : Int) ≤ 42191) ∨ (44032 ≤ (r : Int) ∧ (r : Int) ≤ 55203) ∨ (65280 ≤ (r : Int) ∧ (r : Int) ≤ 65376) ∨ (127744 ≤ (r : Int) ∧ (r : Int) ≤ 129791) then 2 else 1 := by
    unfold wd
    split <;> split <;> first | omega | (split <;> split <;> omega)
  rw [e]
  unfold title_width.f
  by_cases h1 : (r : Int) ≥ 768
  · rw [if_pos h1, j0_f]
    by_cases h2 : (r : Int) ≤ 879
    · rw [if_pos (by simpa using h2), if_pos ⟨h1, h2⟩]
    · rw [if_neg (by simpa using h2), if_neg (show ¬ (768 ≤ (r : Int) ∧ (r : Int) ≤ 879) from fun h => h2 h.2)]
  · rw [if_neg h1, j0_f, if_neg (by simp), if_neg (show ¬ (768 ≤ (r : Int) ∧ (r : Int) ≤ 879) from fun h => h1 h.1)]

theorem width_calls (n : Nat) (w : World) : Calls Tryd.prog 27 #[.int .i32 n] w fun e w' => e = .returned (.int .i64 (wd n)) ∧ ∃ k, w' = w.drewN k := by
  refine (title_width.calls 5 n (wd n) w (width_f n)).mono ?_
  rintro e w' ⟨rfl, h⟩
  exact ⟨rfl, h.out⟩

/-- The iterator of a text, laid at the walk's begin. -/
theorem it_new (w : World) (s : ByteArray) : (w.iter s 0).heap[w.heap.size]? = some (.stringIter s 0) := World.iter_heap w s 0

set_option maxHeartbeats 400000 in
theorem count_calls (s : ByteArray) (w : World) (hs : s.size ≤ 140737488351232) :
    Calls Tryd.prog 13 #[.string s] w fun e w' => e = .returned (.int .i64 (sgs s 0).length) ∧ Below w.heap.size w w' := by
  go_enter Tryd.func13, Tryd.ntmps13
  go_wp2
  go_loopw [3] (fun n wr => ∃ (pos acc : Nat), Aside0 (wr.heap[w.heap.size]? = some (.stringIter s pos)) ∧ Aside0 (Below w.heap.size w wr) ∧ n = .int .i64 acc ∧ Aside0 (acc + (sgs s pos).length = (sgs s 0).length) ∧ acc ≤ pos ∧ pos ≤ s.size) (fun _ wr => s.size - wr.iterPos w.heap.size)
  case atStart => exact ⟨0, 0, ⟨it_new w s⟩, ⟨(Below.refl _ _).alloc (Nat.le_refl _) _⟩, rfl, ⟨by omega⟩, by omega, by omega⟩
  case round =>
    obtain ⟨pos, acc, hit, hb, rfl, hacc, hle, hpos⟩ := hrel
    by_cases hp : pos < s.size
    · have hnx : ∀ ty, (Instr.next (.pointer (some ⟨w.heap.size, 0, none⟩)) true ty).run Tryd.prog wr = _ := fun ty => Lib.run_next_any_at wr w.heap.size s pos ty hit.out hp
      have hd := dec_pos s pos hp
      have hf := dec_fits s pos hp
      have hit2 := Aside0.mk (Lib.iterAt_heap wr w.heap.size s pos (pos + (Utf8.decode s pos).2) hit.out)
      have hb2 := Aside0.mk (Lib.below_iterAt hb.out (k := w.heap.size) (Nat.le_refl _) s (pos + (Utf8.decode s pos).2))
      have hst := Aside0.mk (sgs_step s pos hp)
      go_wp2
      go_roundw
      case rel => exact ⟨pos + (Utf8.decode s pos).2, acc + 1, hit2, hb2, by go_num, ⟨by rw [← hacc.out, hst.out]; simp; omega⟩, by omega, by omega⟩
      case measure =>
        simp only [World.iterPos, hit2.out, hit.out]
        omega
    · have hnx : ∀ ty, (Instr.next (.pointer (some ⟨w.heap.size, 0, none⟩)) true ty).run Tryd.prog wr = _ := fun ty => Lib.run_next_end_at wr w.heap.size s pos ty hit.out hp
      go_wp2
      go_ret
      have h0 := sgs_end s pos hp
      have h1 := hacc.out
      rw [h0] at h1
      exact ⟨by simp at h1; rw [h1]; rfl, hb.out⟩

theorem cutAt_le (s : ByteArray) : ∀ (n : Int), ∀ i, i ≤ s.size → i ≤ cutAt s i n ∧ cutAt s i n ≤ s.size := by
  intro n i
  revert n
  refine along s (fun i => ∀ (n : Int), i ≤ s.size → i ≤ cutAt s i n ∧ cutAt s i n ≤ s.size) ?_ ?_ i
  · intro i h n hi
    rw [cutAt_end s i n h]
    omega
  · intro i h ih n hi
    by_cases hn : n < wd (Utf8.decode s i).1
    · rw [cutAt_stop s i n h hn]; omega
    · rw [cutAt_step s i n h hn]
      have := ih (n - wd (Utf8.decode s i).1) (dec_fits s i h)
      have := dec_pos s i h
      omega

set_option maxHeartbeats 800000 in
theorem cut_calls (s : ByteArray) (n : Int) (w : World) (hs : s.size ≤ 140737488351232) (hn : -9223372036854775808 ≤ n ∧ n ≤ 9223372036854775807) :
    Calls Tryd.prog 21 #[.string s, .int .i64 n] w fun e w' => e = .returned (.string (cut s n)) ∧ Below w.heap.size w w' := by
  by_cases h0 : n < 0
  · have hc := Aside0.mk (show cut s n = ⟨#[]⟩ from if_pos h0)
    go_enter Tryd.func21, Tryd.ntmps21
    go_wp2
    go_ret
    exact ⟨by rw [hc.out]; rfl, Below.refl _ _⟩
  · have hc := Aside0.mk (show cut s n = s.extract 0 (cutAt s 0 n) from if_neg h0)
    go_enter Tryd.func21, Tryd.ntmps21
    go_wp2
    go_loopw [1, 5, 6] (fun m u v wr => ∃ (pos : Nat) (k : Int), Aside0 (wr.heap[w.heap.size]? = some (.stringIter s pos)) ∧ Aside0 (Below w.heap.size w wr) ∧ m = .int .i64 k ∧ 0 ≤ k ∧ k ≤ 9223372036854775807 ∧ Aside0 (cutAt s pos k = cutAt s 0 n) ∧ pos ≤ s.size) (fun _ _ _ wr => s.size - wr.iterPos w.heap.size)
    case atStart => exact ⟨0, n, ⟨it_new w s⟩, ⟨(Below.refl _ _).alloc (Nat.le_refl _) _⟩, rfl, by omega, by omega, ⟨rfl⟩, by omega⟩
    case round =>
      obtain ⟨pos, k, hit, hb, rfl, hk0, hk1, hacc, hpos⟩ := hrel
      by_cases hp : pos < s.size
      · have hnx : ∀ ty, (Instr.next (.pointer (some ⟨w.heap.size, 0, none⟩)) true ty).run Tryd.prog wr = _ := fun ty => Lib.run_next_any_at wr w.heap.size s pos ty hit.out hp
        have hd := dec_pos s pos hp
        have hf := dec_fits s pos hp
        have hwd := wd_le (Utf8.decode s pos).1
        have hit2 := Aside0.mk (Lib.iterAt_heap wr w.heap.size s pos (pos + (Utf8.decode s pos).2) hit.out)
        have hb2 := Aside0.mk (Lib.below_iterAt hb.out (k := w.heap.size) (Nat.le_refl _) s (pos + (Utf8.decode s pos).2))
        by_cases hlt : k < wd (Utf8.decode s pos).1
        · have hst := Aside0.mk (cutAt_stop s pos k hp hlt)
          have hneg : k - (wd (Utf8.decode s pos).1 : Int) < 0 := by omega
          go_wp2_with ((go_at_call 27; refine (width_calls (Utf8.decode s pos).1 _).mono ?_; rintro e w1 ⟨rfl, kd, rfl⟩))
          go_ret
          exact ⟨by rw [hc.out, ← hacc.out, hst.out]; rfl, pw_below_drewN hb2.out _⟩
        · have hst := Aside0.mk (cutAt_step s pos k hp hlt)
          have hneg : ¬ (k - (wd (Utf8.decode s pos).1 : Int) < 0) := by omega
          go_wp2_with ((go_at_call 27; refine (width_calls (Utf8.decode s pos).1 _).mono ?_; rintro e w1 ⟨rfl, kd, rfl⟩))
          go_roundw
          case rel => exact ⟨pos + (Utf8.decode s pos).2, k - wd (Utf8.decode s pos).1, hit2, ⟨pw_below_drewN hb2.out _⟩, rfl, by omega, by omega, ⟨by rw [← hacc.out, hst.out]⟩, by omega⟩
          case measure =>
            have e2 : ∀ k, ((wr.iterAt w.heap.size s (pos + (Utf8.decode s pos).2)).drewN k).heap[w.heap.size]? = some (.stringIter s (pos + (Utf8.decode s pos).2)) := fun _ => hit2.out
            simp only [World.iterPos, e2, hit.out]
            omega
      · have hnx : ∀ ty, (Instr.next (.pointer (some ⟨w.heap.size, 0, none⟩)) true ty).run Tryd.prog wr = _ := fun ty => Lib.run_next_end_at wr w.heap.size s pos ty hit.out hp
        have h1 := Aside0.mk (cutAt_end s pos k hp)
        go_wp2
        go_ret
        exact ⟨by rw [hc.out, ← hacc.out, h1.out, ByteArray.extract_zero_size]; rfl, hb.out⟩

end Go.Proofs.YtpmhbfelhjpalaaDoor.TW

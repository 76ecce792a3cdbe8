/- What title.Clean's walk wants beside: a builder abides what turns no row of its two kinds; the two questions odd and broken; a sign's bytes are its rune's. -/
import Derived.Test.YtpmhbfelhjpalaaDoorTIter
import Derived.Test.YtpmhbfelhjpalaaDoorShl
import Derived.Test.YtpmhbfelhjpalaaDoorPoddx1
import Derived.Lib.MapLaws
import Derived.Lib.TrimUEq
import Derived.WalkSpells
namespace Go.Proofs.YtpmhbfelhjpalaaDoor.TB
open Go.RowKit Go.Proofs.YtpmhbfelhjpalaaDoorW.PrintWords Go.Proofs.YtpmhbfelhjpalaaDoorW.PrintLast Go.Proofs.YtpmhbfelhjpalaaDoorW.PrintMore
open Go.Proofs.YtpmhbfelhjpalaaDoor.TP Go.Proofs.YtpmhbfelhjpalaaDoor.TJ
set_option linter.unusedVariables false

/-- A builder abides what turns no row of its two kinds. -/
theorem builder_at {T e : TypeId} {B b : Nat} {p : Value} {bs : List Value} {W W' : World} (h : Lib.BuilderAtF T e B b p bs W)
    (hk : ∀ (k : Nat) (c : Array Value) (t : TypeId) (fz : Nat × Nat), W.heap[k]? = some (Obj.cells c t fz) → (t = T ∨ t = e) → W'.heap[k]? = W.heap[k]?) : Lib.BuilderAtF T e B b p bs W' := by
  obtain ⟨hB, v, hb, hown, hne⟩ := h
  refine ⟨hB, v, (hk b _ _ _ hb (.inl rfl)).trans hb, ⟨hown.1, ?_⟩, hne⟩
  rcases hown.2 with hn | ⟨g, cap, cur, fz, hv, hbg, hg, rest⟩
  · exact .inl hn
  · exact .inr ⟨g, cap, cur, fz, hv, hbg, (hk g _ _ _ hg (.inr rfl)).trans hg, rest⟩
theorem builder_if {T e : TypeId} {B b : Nat} {bs : List Value} {W W' : World} (h : Lib.IsBuilderF T e B b bs W)
    (hk : ∀ (k : Nat) (c : Array Value) (t : TypeId) (fz : Nat × Nat), W.heap[k]? = some (Obj.cells c t fz) → (t = T ∨ t = e) → W'.heap[k]? = W.heap[k]?) : Lib.IsBuilderF T e B b bs W' :=
  h.elim (fun x => .inl (builder_at x hk)) (fun x => .inr (builder_at x hk))
theorem builder_below {T e : TypeId} {B b : Nat} {bs : List Value} {W W' : World} (h : Lib.IsBuilderF T e B b bs W) (hb : Below W.heap.size W W') : Lib.IsBuilderF T e B b bs W' :=
  builder_if h (fun k c t fz hk _ => hb.block k (blk_lt hk))
theorem builder_far {T e t : TypeId} {B b n : Nat} {bs : List Value} {c : Array Value} {W : World} (h : Lib.IsBuilderF T e B b bs W) (hn : W.heap[n]? = some (.cells c t (0, 0))) (h1 : t ≠ T) (h2 : t ≠ e) (v : Value) : Lib.IsBuilderF T e B b bs (W.setCell ⟨n, 0, none⟩ v) :=
  builder_if h (fun k c t' fz hk ht => Below.heap_setCell W _ v k (by
    intro e0
    rw [show k = n from e0, hn] at hk
    injection hk with e1
    injection e1 with e2 e3 e4
    subst e3
    exact ht.elim h1 h2))
theorem builder_grown {T e : TypeId} {B b : Nat} {bs : List Value} {W W' : World} {row : Option Nat} (h : Lib.IsBuilderF T e B b bs W) (hg : W.grownBy W' row) (hr : ∀ r, row = some r → ∃ o : Obj, W.heap[r]? = some o ∧ o.isCells = false) : Lib.IsBuilderF T e B b bs W' :=
  builder_if h (fun k c t fz hk _ => grownBy_keeps_cells hg hr hk rfl)
/-- A block of cells abides what turns no cells. -/
theorem blk_kept2 {W W' : World} {row : Option Nat} {g : Nat} {c : Array Value} {t : TypeId} {fz : Nat × Nat} (h : W.heap[g]? = some (.cells c t fz)) (hg : W.grownBy W' row) (hr : ∀ r, row = some r → ∃ o : Obj, W.heap[r]? = some o ∧ o.isCells = false) : W'.heap[g]? = some (.cells c t fz) :=
  (grownBy_keeps_cells hg hr h rfl).trans h
theorem others_below {W W' : World} (hb : Below W.heap.size W W') : KeepsOthers W W' := ⟨hb.size, fun k o hk _ => blk_below hk hb⟩
theorem others_kept {e : TypeId} {b : Nat} {W W' : World} (h : Lib.OthersKept e (some b) W W') (hs : W.heap.size ≤ W'.heap.size) {c : Array Value} {T : TypeId} {fz : Nat × Nat} (hb : W.heap[b]? = some (.cells c T fz)) : KeepsOthers W W' :=
  ⟨hs, fun k o hk ho => h k o hk (by
    intro e1
    injection e1 with e2
    subst e2
    rw [hb] at hk
    injection hk with e3
    subst e3
    simp [Obj.isCells] at ho) (by
    intro c' fz' e1
    subst e1
    simp [Obj.isCells] at ho)⟩
theorem builder_blk {T e : TypeId} {B b : Nat} {bs : List Value} {W : World} (h : Lib.IsBuilderF T e B b bs W) : ∃ c, W.heap[b]? = some (.cells c T (0, 0)) := by
  rcases h with ⟨_, v, hb, _⟩ | ⟨_, v, hb, _⟩ <;> exact ⟨_, hb⟩

theorem from_list (s : ByteArray) (i : Nat) : s.extract i s.size = ⟨(s.data.toList.drop i).toArray⟩ := by
  apply ba_ext
  rw [extract_list, List.take_of_length_le (by rw [List.length_drop, ← size_list]; exact Nat.le_refl _)]
/-- What Go decodes behind a sign's place is the sign. -/
theorem dec_sign (s : ByteArray) (x : Sg) (hx : x ∈ sgs s 0) : Lib.decodeGo (s.extract x.at_ s.size) = (x.r, x.n) := by
  obtain ⟨h1, h2⟩ := mem_sgs s x 0 hx
  have hne : (s.extract x.at_ s.size).size ≠ 0 := by rw [ByteArray.size_extract]; omega
  unfold Lib.decodeGo
  rw [if_neg hne, ← h2, ← Lib.decodeL_drop s x.at_, from_list]
  rfl
/-- A piece's bytes are its rune's. -/
theorem enc_piece (s : ByteArray) (x : Sg) (hx : x ∈ sgs s 0) : (piece s x).1.data.toList = Lib.encodeRune ((piece s x).2 : Int) := by
  obtain ⟨h1, h2⟩ := mem_sgs s x 0 hx
  unfold piece
  split
  · rfl
  · rename_i hn
    have h3 := Lib.encode_decode (s.data.toList.drop x.at_) (by intro e; have := congrArg List.length e; rw [List.length_drop, ← size_list] at this; simp at this; omega) (by
      rw [Lib.decodeL_drop, h2]
      rintro ⟨e1, e2⟩
      apply hn
      unfold Sg.brk
      simp only at e1 e2
      simp [e1, e2])
    rw [Lib.decodeL_drop, h2] at h3
    dsimp only at h3 ⊢
    rw [h3, extract_list]
    congr 1
    omega
theorem sg_pos (s : ByteArray) (x : Sg) (hx : x ∈ sgs s 0) : x.at_ < s.size ∧ 1 ≤ x.n ∧ x.r ≤ 1114111 := by
  obtain ⟨h1, h2⟩ := mem_sgs s x 0 hx
  have h3 := dec_pos s x.at_ h1
  have h4 := dec_le s x.at_
  rw [h2] at h3 h4
  exact ⟨h1, h3, h4⟩

theorem odd_f (r : Nat) : Podd.title_odd.f (r : Int) = some (odd r) := by
  unfold Podd.title_odd.f odd
  by_cases h1 : r < 32
  · rw [if_pos (by omega)]; simp [h1]
  · rw [if_neg (by omega)]
    by_cases h2 : r = 127
    · rw [if_pos (by omega)]; simp [h2]
    · rw [if_neg (by omega)]
      by_cases h3 : r ≥ 8232
      · rw [if_pos (by omega)]
        have e : decide ((r : Int) ≤ 8238) = decide (r ≤ 8238) := by rw [decide_eq_decide]; omega
        rw [e]
        simp [h1, h2, h3]
      · rw [if_neg (by omega)]
        simp [h1, h2, h3]
theorem odd_calls (r : Nat) (w : World) : Calls Tryd.prog 16 #[.int .i32 r] w fun e w' => e = .returned (.bool (odd r)) ∧ Below w.heap.size w w' := by
  refine (Podd.title_odd.calls r (odd r) w (odd_f r)).mono ?_
  rintro e w' ⟨rfl, h⟩
  exact ⟨rfl, h.below⟩

set_option maxHeartbeats 1000000 in
theorem broken_calls (s : ByteArray) (r n : Nat) (hd : Lib.decodeGo s = (r, n)) (w : World) (hT : Lib.Utf8Tabs 0 1 w) : Calls Tryd.prog 17 #[.string s] w fun e w' => e = .returned (.bool (decide (r = 65533) && decide (n < 2))) ∧ Below w.heap.size w w' := by
  go_enter Tryd.func17, Tryd.ntmps17
  go_wp2_with (go_at_call 24; refine (Tryd.utf8_DecodeRuneInString s _ hT).mono ?_; rw [hd]; rintro e w1 ⟨rfl, hb⟩)
  · go_ret
    have h : r = 65533 := by omega
    exact ⟨by simp [h]; omega, hb⟩
  · go_ret
    have h : ¬ r = 65533 := by omega
    exact ⟨by simp [h], hb⟩
end Go.Proofs.YtpmhbfelhjpalaaDoor.TB

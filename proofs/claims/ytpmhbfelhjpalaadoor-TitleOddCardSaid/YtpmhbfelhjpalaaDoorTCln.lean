/- title.Clean and title.May, walked: they come to the plain words. -/
import Derived.Test.YtpmhbfelhjpalaaDoorTBld
namespace Go.Proofs.YtpmhbfelhjpalaaDoor.TC
open Go.RowKit Go.Shelf Go.Proofs.YtpmhbfelhjpalaaDoorW.PrintWords Go.Proofs.YtpmhbfelhjpalaaDoorW.PrintLast Go.Proofs.YtpmhbfelhjpalaaDoorW.PrintMore
open Go.Proofs.YtpmhbfelhjpalaaDoor.TP Go.Proofs.YtpmhbfelhjpalaaDoor.TJ Go.Proofs.YtpmhbfelhjpalaaDoor.TI Go.Proofs.YtpmhbfelhjpalaaDoor.TB
attribute [local go_sem] Oper.semAt_some
set_option linter.unusedVariables false

/-- The bytes of the pieces so far. -/
def got (s : ByteArray) (pre : List (OSg s)) : List UInt8 := (cat (pre.map fun x => piece s x.1)).data.toList
theorem got_snoc (s : ByteArray) (pre : List (OSg s)) (x : OSg s) : got s (pre ++ [x]) = got s pre ++ Lib.encodeRune ((piece s x.1).2 : Int) := by
  unfold got
  rw [List.map_append, cat_append, list_append, ← enc_piece s x.1 x.2]
  simp [cat]
theorem got_length (s : ByteArray) (pre : List (OSg s)) : (got s pre).length ≤ 4 * pre.length := by
  unfold got
  rw [← size_list]
  have := cat_size_le s (pre.map (·.1)) (fun x hx => by
    obtain ⟨y, _, rfl⟩ := List.mem_map.1 hx
    exact y.2)
  rw [List.map_map] at this
  simpa using this
theorem got_clean (s : ByteArray) (pre : List (OSg s)) (h : pre.map (·.1) = (sgs s 0).take 64) : (⟨(got s pre).toArray⟩ : ByteArray) = clean s := by
  apply ba_ext
  unfold got clean cleanPs
  rw [← h, List.map_map]
  rfl

/-- What is carried from round to round. -/
def Inv (s : ByteArray) (w : World) (pre : List (OSg s)) (W : World) : Prop :=
  ((Lib.IsBuilderF 35 5 (w.heap.size + 1) (w.heap.size + 1) (Lib.byteCells (got s pre)) W ∧ W.heap[w.heap.size]? = some (.cells #[.string s] 9 (0, 0))) ∧ W.heap[w.heap.size + 2]? = some (.cells #[.int .i64 (pre.length : Int)] 3 (0, 0)) ∧ pre.length ≤ 64) ∧ Below w.heap.size w W
def InvX (s : ByteArray) (w : World) (c : Code) (pre : List (OSg s)) (W : World) : Prop :=
  (c = .exit 0 ∧ ∃ (ini : List (OSg s)) (x : OSg s), pre = ini ++ [x] ∧ ini.length = 64 ∧ Lib.IsBuilderF 35 5 (w.heap.size + 1) (w.heap.size + 1) (Lib.byteCells (got s ini)) W) ∧ Below w.heap.size w W

theorem inv_own (s : ByteArray) (w : World) (n : Nat) (hn : w.heap.size ≤ n) : OwnFrom n (Inv s w) :=
  OwnFrom.and (Own.from (fun pre A B row hs hg hr => ⟨⟨builder_grown hs.1.1 hg hr, blk_kept2 hs.1.2 hg hr⟩, blk_kept2 hs.2.1 hg hr, hs.2.2⟩) _) (ownFrom_below (Nat.le_refl _) hn)
theorem invx_own (s : ByteArray) (w : World) (n : Nat) (hn : w.heap.size ≤ n) (c : Code) : OwnFrom n (InvX s w c) :=
  OwnFrom.and (Own.from (fun pre A B row hs hg hr => by
    obtain ⟨hc, ini, x, h1, h2, h3⟩ := hs
    exact ⟨hc, ini, x, h1, h2, builder_grown h3 hg hr⟩) _) (ownFrom_below (Nat.le_refl _) hn)

theorem piece_odd (s : ByteArray) (x : Sg) (ho : odd x.r = true) : (piece s x).2 = 63 := by
  unfold piece
  rw [if_pos (by simp [ho])]
theorem brk_two (x : Sg) (hn : 1 ≤ x.n) : x.brk = (decide (x.r = 65533) && decide (x.n < 2)) := by
  unfold Sg.brk
  rw [Bool.eq_iff_iff]
  simp only [Bool.and_eq_true, beq_iff_eq, decide_eq_true_eq]
  omega
theorem piece_brk (s : ByteArray) (x : Sg) (hb : (decide (x.r = 65533) && decide (x.n < 2)) = true) (hn : 1 ≤ x.n) : (piece s x).2 = 63 := by
  unfold piece
  rw [if_pos (by rw [brk_two x hn, hb]; simp)]
theorem piece_keep (s : ByteArray) (x : Sg) (ho : odd x.r = false) (hb : (decide (x.r = 65533) && decide (x.n < 2)) = false) (hn : 1 ≤ x.n) : (piece s x).2 = x.r := by
  unfold piece
  rw [if_neg (by rw [brk_two x hn, hb, ho]; simp)]

theorem shut {s : ByteArray} {w W Z W3 : World} {pre : List (OSg s)} {x : OSg s} {k : Nat} {rho : Int} {a : Act}
    (hk : KeepsOthers W Z) (hb : Below w.heap.size w Z) (hI : Lib.IsBuilderF 35 5 (w.heap.size + 1) (w.heap.size + 1) (Lib.byteCells (got s pre)) Z)
    (hS : Z.heap[w.heap.size]? = some (.cells #[.string s] 9 (0, 0))) (hN : Z.heap[w.heap.size + 1 + 1]? = some (.cells #[.int .i64 ((k : Int) + 1)] 3 (0, 0))) (hl : pre.length = k) (hlt : k < 64) (hr : rho = ((piece s x.1).2 : Int))
    (h1 : Lib.BuilderAtF 35 5 (w.heap.size + 1) (w.heap.size + 1) (.pointer (some ⟨w.heap.size + 1, 0, none⟩)) (Lib.byteCells (got s pre) ++ Lib.runeCells rho) W3) (b1 : Below (w.heap.size + 1) Z W3) (k1 : Lib.OthersKept 5 (some (w.heap.size + 1)) Z W3) :
    ownPostK KeepsWalks (Inv s w) (InvX s w) (pre ++ [x]) W .normal a W3 := by
  obtain ⟨c, hc⟩ := builder_blk hI
  have hK := hk.trans (others_kept k1 b1.size hc)
  refine ⟨hK, hK.walks, ⟨⟨?_, ?_⟩, ?_, ?_⟩, hb.trans (b1.mono (by omega))⟩
  · rw [got_snoc, Lib.byteCells_append, Lib.byteCells_encodeRune, ← hr]
    exact .inr h1
  · exact k1 _ _ hS (by intro e; injection e with e; omega) (by intro c fz e; injection e with _ e2 _; revert e2; decide)
  · have := k1 _ _ hN (by intro e; injection e with e; omega) (by intro c fz e; injection e with _ e2 _; revert e2; decide)
    rw [List.length_append, hl, List.length_singleton, Int.natCast_add]
    exact this
  · rw [List.length_append, hl, List.length_singleton]
    omega
theorem shutx {s : ByteArray} {w W Z : World} {pre : List (OSg s)} {x : OSg s} {k : Nat} {a : Act}
    (hk : KeepsOthers W Z) (hb : Below w.heap.size w Z) (hI : Lib.IsBuilderF 35 5 (w.heap.size + 1) (w.heap.size + 1) (Lib.byteCells (got s pre)) Z) (hl : pre.length = k) (hlt : k = 64) :
    ownPostK KeepsWalks (Inv s w) (InvX s w) (pre ++ [x]) W (.exit 0) a Z :=
  ⟨hk, ⟨rfl, pre, x, rfl, by omega, hI⟩, hb⟩

set_option maxRecDepth 100000 in
set_option maxHeartbeats 4000000 in
theorem clean_calls (s : ByteArray) (hs : s.size ≤ 140737488351232) (w : World) (hT : Lib.Utf8Tabs 0 1 w) : Calls Tryd.prog 7 #[.string s] w fun e w' => e = .returned (.string (clean s)) ∧ Below w.heap.size w w' := by
  refine (callsIn_wide (n := 5)).1 ?_
  refine callsIn_of_wp_marks Tryd.func7 rfl trivial ?_ rfl
  simp only [Tryd.ntmps7, List.size_toArray, List.length_cons, List.length_nil, Nat.reduceAdd, Nat.reduceSub, Array.replicate_succ, Array.replicate_zero, List.push_toArray, List.append_toArray, List.nil_append, List.cons_append]
  gi_wp2_with (fail)
  refine ⟨trivial, (signs_in _ _ trivial rfl s _).mono ?_⟩
  rintro e w1 ⟨rfl, rfl⟩
  have hfn : 1 ≤ 5 := by omega
  gi_wp2_with (fail)
  obtain ⟨W0, hW0⟩ : ∃ W0, ((((w.alloc (.cells #[.string s] 9)).alloc (.cells #[.pointer none, .slice none 0 0] 35)).alloc (.cells #[.int .i64 0] 3)).alloc (.cells #[.string s] 9)) = W0 := ⟨_, rfl⟩
  have cI : Lib.IsBuilderF 35 5 (w.heap.size + 1) (w.heap.size + 1) (Lib.byteCells []) W0 := by
    have := Lib.IsBuilderF.of (Lib.fresh_isBuilder 35 5 (w.alloc (.cells #[.string s] 9)))
    rw [World.size_alloc] at this
    rw [← hW0]
    exact (this.alloc _).alloc _
  have cS : W0.heap[w.heap.size]? = some (.cells #[.string s] 9 (0, 0)) := by rw [← hW0]; exact blk_alloc (blk_alloc (blk_alloc (blk_new w _) _) _) _
  have cN : W0.heap[w.heap.size + 2]? = some (.cells #[.int .i64 0] 3 (0, 0)) := by
    have := blk_new ((w.alloc (.cells #[.string s] 9)).alloc (.cells #[.pointer none, .slice none 0 0] 35)) (.cells #[.int .i64 0] 3)
    rw [World.size_alloc, World.size_alloc] at this
    rw [← hW0]
    exact blk_alloc this _
  have cS2 : W0.heap[w.heap.size + 3]? = some (.cells #[.string s] 9 (0, 0)) := by
    have := blk_new (((w.alloc (.cells #[.string s] 9)).alloc (.cells #[.pointer none, .slice none 0 0] 35)).alloc (.cells #[.int .i64 0] 3)) (.cells #[.string s] 9)
    rw [World.size_alloc, World.size_alloc, World.size_alloc] at this
    rw [← hW0]
    exact this
  have hB0 : Below w.heap.size w W0 := by rw [← hW0]; exact below_alloc (below_alloc (below_alloc (below_alloc (Below.refl _ w) _) _) _) _
  have hsz0 : W0.heap.size = w.heap.size + 4 := by rw [← hW0]; simp
  rw [hW0]
  clear hW0
  refine wpIn_rangeFunc_ownF rfl (by omega) (gf := 23) (lb := #[.pointer (some ⟨w.heap.size + 3, 0, none⟩)]) rfl trivial (enters_of Tryd.func23 (by kernel_rfl) rfl)
    (signs_stops _ _ trivial rfl (by omega) (w.heap.size + 3) s hs W0 (by omega) (blk_cell cS2 0)) walksK_t (fun W l o o' hl h h1 h2 => walksK_b (w := W0) W l o o' hl h h1 h2) (Below.refl _ _) (fun _ => rfl)
    (Inv s w) (InvX s w) (inv_own s w _ (by omega)) (invx_own s w _ (by omega))
    ⟨⟨⟨cI, cS⟩, cN, Nat.zero_le _⟩, hB0⟩
    (fun x => { tmps := #[.string s, .pointer (some ⟨w.heap.size, 0, none⟩), .string ⟨#[]⟩, .pointer (some ⟨w.heap.size + 1, 0, none⟩), .pointer (some ⟨w.heap.size + 1 + 1, 0, none⟩), .int .i64 (x.1.at_ : Int), .int .i32 (x.1.r : Int), .string s, .func (.func 23) #[] #[.pointer (some ⟨w.heap.size + 1 + 1 + 1, 0, none⟩)], .int .i64 (x.1.at_ : Int), .int .i32 (x.1.r : Int), undef, undef, undef, undef, undef, undef, undef, undef, undef, undef, undef, undef, undef, undef, undef], defers := [] }) ?assign ?body ?done ?stop
  case assign =>
    intro l x W K hK
    simp only [TI.encs]
    gi_wp2
    exact hK
  case body =>
    rintro l pre x W ⟨⟨⟨hI, hS⟩, hN, h64⟩, hB⟩ hpl
    obtain ⟨hp1, hp2, hp3⟩ := sg_pos s x.1 x.2
    have hcS := blk_cell hS 0
    have hT' : Lib.Utf8Tabs 0 1 W := Utf8Tabs_below hT hB
    obtain ⟨k, hk⟩ : ∃ k, pre.length = k := ⟨_, rfl⟩
    have hgl := got_length s pre
    rw [hk] at hN h64 hgl
    have hN : W.heap[w.heap.size + 1 + 1]? = some (.cells #[.int .i64 (k : Int)] 3 (0, 0)) := hN
    have HKL := Aside0.mk hk
    have HGL := Aside0.mk (show (got s pre).length ≤ 256 from by omega)
    clear hk hgl
    have hat : x.1.at_ ≤ s.size := by omega
    gi_wp2_with (fail)
    refine ⟨trivial, (CallsIn.inRound l (callsIn_wide.2 (odd_calls x.1.r _))).mono ?_⟩
    rintro e w1 ⟨rfl, hb1⟩
    cases ho : odd x.1.r
    · have hcS := blk_cell (blk_below hS hb1) 0
      gi_wp2_with (fail)
      refine ⟨trivial, (CallsIn.inRound l (callsIn_wide.2 (broken_calls _ x.1.r x.1.n (dec_sign s x.1 x.2) _ (Utf8Tabs_below hT' hb1)))).mono ?_⟩
      rintro e w2 ⟨rfl, hb2'⟩
      have hb2 := below_step hb1 hb2'
      clear hb1 hb2' hcS
      cases hbk : (decide (x.1.r = 65533) && decide (x.1.n < 2))
      · have HIZ := Aside0.mk (builder_below hI hb2)
        have hNz := blk_below hN hb2
        have hSz := blk_below hS hb2
        have hcN := blk_cell hNz 0
        have hfN := blk_frozen hNz 0
        have hNq := blk_put hNz 0 (.int .i64 ((k : Int) + 1)) rfl
        have hcQ := blk_cell hNq 0
        have HNQ := Aside0.mk hNq
        have HSQ := Aside0.mk (blk_far hSz (p := ⟨w.heap.size + 1 + 1, 0, none⟩) (by dsimp only; omega) (.int .i64 ((k : Int) + 1)))
        have HIQ := Aside0.mk (builder_far HIZ.out hNz (by decide) (by decide) (.int .i64 ((k : Int) + 1)))
        have HKP := Aside0.mk ((others_below hb2).trans (KeepsOthers.setCell w2 ⟨w.heap.size + 1 + 1, 0, none⟩ (.int .i64 ((k : Int) + 1))))
        have HSZ := Aside0.mk (show w.heap.size + 1 ≤ w2.heap.size from by have := (hb2).size; have := blk_lt hN; omega)
        have HBQ := Aside0.mk ((below_step hB hb2).setCell (p := ⟨w.heap.size + 1 + 1, 0, none⟩) (by dsimp only; omega) (.int .i64 ((k : Int) + 1)))
        have HRH := Aside0.mk (show (x.1.r : Int) = ((piece s x.1).2 : Int) from by rw [piece_keep s x.1 ho hbk hp2])
        clear hNz hSz hNq
        by_cases hk64 : k < 64
        · have hgt : decide ((k : Int) + 1 > 64) = false := decide_eq_false (by omega)
          gi_wp2_with (fail)
          refine ⟨trivial, (CallsIn.inRound l (callsIn_wide.2 (Tryd.Builder_WriteRune_k (w.heap.size + 1) (w.heap.size + 1) _ (x.1.r : Int) (by omega) (by omega) _ HIQ.out (by rw [Lib.byteCells_length]; have := HGL.out; omega) (by have := HSZ.out; simp; omega)))).mono ?_⟩
          rintro e w3 ⟨rfl, h1, b1, k1⟩
          gi_wp2
          exact shut HKP.out HBQ.out HIQ.out HSQ.out HNQ.out HKL.out (by omega) HRH.out h1 b1 k1
        · have hgt : decide ((k : Int) + 1 > 64) = true := decide_eq_true (by omega)
          gi_wp2_with (fail)
          exact shutx HKP.out HBQ.out HIQ.out HKL.out (by omega)
      · have HIZ := Aside0.mk (builder_below hI hb2)
        have hNz := blk_below hN hb2
        have hSz := blk_below hS hb2
        have hcN := blk_cell hNz 0
        have hfN := blk_frozen hNz 0
        have hNq := blk_put hNz 0 (.int .i64 ((k : Int) + 1)) rfl
        have hcQ := blk_cell hNq 0
        have HNQ := Aside0.mk hNq
        have HSQ := Aside0.mk (blk_far hSz (p := ⟨w.heap.size + 1 + 1, 0, none⟩) (by dsimp only; omega) (.int .i64 ((k : Int) + 1)))
        have HIQ := Aside0.mk (builder_far HIZ.out hNz (by decide) (by decide) (.int .i64 ((k : Int) + 1)))
        have HKP := Aside0.mk ((others_below hb2).trans (KeepsOthers.setCell w2 ⟨w.heap.size + 1 + 1, 0, none⟩ (.int .i64 ((k : Int) + 1))))
        have HSZ := Aside0.mk (show w.heap.size + 1 ≤ w2.heap.size from by have := (hb2).size; have := blk_lt hN; omega)
        have HBQ := Aside0.mk ((below_step hB hb2).setCell (p := ⟨w.heap.size + 1 + 1, 0, none⟩) (by dsimp only; omega) (.int .i64 ((k : Int) + 1)))
        have HRH := Aside0.mk (show (63 : Int) = ((piece s x.1).2 : Int) from by rw [piece_brk s x.1 hbk hp2]; rfl)
        clear hNz hSz hNq
        by_cases hk64 : k < 64
        · have hgt : decide ((k : Int) + 1 > 64) = false := decide_eq_false (by omega)
          gi_wp2_with (fail)
          refine ⟨trivial, (CallsIn.inRound l (callsIn_wide.2 (Tryd.Builder_WriteRune_k (w.heap.size + 1) (w.heap.size + 1) _ 63 (by omega) (by omega) _ HIQ.out (by rw [Lib.byteCells_length]; have := HGL.out; omega) (by have := HSZ.out; simp; omega)))).mono ?_⟩
          rintro e w3 ⟨rfl, h1, b1, k1⟩
          gi_wp2
          exact shut HKP.out HBQ.out HIQ.out HSQ.out HNQ.out HKL.out (by omega) HRH.out h1 b1 k1
        · have hgt : decide ((k : Int) + 1 > 64) = true := decide_eq_true (by omega)
          gi_wp2_with (fail)
          exact shutx HKP.out HBQ.out HIQ.out HKL.out (by omega)
    · have HIZ := Aside0.mk (builder_below hI hb1)
      have hNz := blk_below hN hb1
      have hSz := blk_below hS hb1
      have hcN := blk_cell hNz 0
      have hfN := blk_frozen hNz 0
      have hNq := blk_put hNz 0 (.int .i64 ((k : Int) + 1)) rfl
      have hcQ := blk_cell hNq 0
      have HNQ := Aside0.mk hNq
      have HSQ := Aside0.mk (blk_far hSz (p := ⟨w.heap.size + 1 + 1, 0, none⟩) (by dsimp only; omega) (.int .i64 ((k : Int) + 1)))
      have HIQ := Aside0.mk (builder_far HIZ.out hNz (by decide) (by decide) (.int .i64 ((k : Int) + 1)))
      have HKP := Aside0.mk ((others_below hb1).trans (KeepsOthers.setCell w1 ⟨w.heap.size + 1 + 1, 0, none⟩ (.int .i64 ((k : Int) + 1))))
      have HSZ := Aside0.mk (show w.heap.size + 1 ≤ w1.heap.size from by have := (hb1).size; have := blk_lt hN; omega)
      have HBQ := Aside0.mk ((below_step hB hb1).setCell (p := ⟨w.heap.size + 1 + 1, 0, none⟩) (by dsimp only; omega) (.int .i64 ((k : Int) + 1)))
      have HRH := Aside0.mk (show (63 : Int) = ((piece s x.1).2 : Int) from by rw [piece_odd s x.1 ho]; rfl)
      clear hNz hSz hNq
      by_cases hk64 : k < 64
      · have hgt : decide ((k : Int) + 1 > 64) = false := decide_eq_false (by omega)
        gi_wp2_with (fail)
        refine ⟨trivial, ?_⟩
        gi_wp2_with (fail)
        refine ⟨trivial, (CallsIn.inRound l (callsIn_wide.2 (Tryd.Builder_WriteRune_k (w.heap.size + 1) (w.heap.size + 1) _ 63 (by omega) (by omega) _ HIQ.out (by rw [Lib.byteCells_length]; have := HGL.out; omega) (by have := HSZ.out; simp; omega)))).mono ?_⟩
        rintro e w3 ⟨rfl, h1, b1, k1⟩
        gi_wp2
        exact shut HKP.out HBQ.out HIQ.out HSQ.out HNQ.out HKL.out (by omega) HRH.out h1 b1 k1
      · have hgt : decide ((k : Int) + 1 > 64) = true := decide_eq_true (by omega)
        gi_wp2_with (fail)
        refine ⟨trivial, ?_⟩
        gi_wp2_with (fail)
        exact shutx HKP.out HBQ.out HIQ.out HKL.out (by omega)
  case done =>
    rintro D ys W hD hys ⟨⟨⟨hI, hS⟩, hN, h64⟩, hB⟩ hK
    have hDb : w.heap.size ≤ D := by omega
    clear cI cS cN cS2 hB0 hsz0 hD
    gi_wp2_with (fail)
    refine ⟨trivial, (callsIn_wide.2 (Tryd.Builder_String_any_k (w.heap.size + 1) (w.heap.size + 1) (got s ys) _ hI (by obtain ⟨c, hc⟩ := builder_blk hI; have := blk_lt hc; omega))).mono ?_⟩
    rintro e w1 ⟨rfl, hI1, b1, k1⟩
    obtain ⟨c, hc⟩ := builder_blk hI
    have hK1 := Aside0.mk ((others_kept k1 b1.size hc).same D _ hK rfl)
    have HB1 := Aside0.mk (hB.trans (b1.mono (by omega)))
    clear hK hB k1 b1 hI1 hc
    rw [got_clean s ys (by rw [hys, List.take_of_length_le (by rw [← hys, List.length_map]; exact h64)])]
    gi_wp2
    refine ⟨by simp, .inl ⟨_, _, rfl, run_takeDeferred hK1.out, ?_⟩⟩
    exact ⟨_, results_tmp rfl _ _ _, rfl, HB1.out.trans (belowK_b (w := w) (Nat.le_refl _) _ D _ _ hDb hK1.out rfl rfl)⟩
  case stop =>
    rintro D c pre W hD ⟨t, ht⟩ ⟨⟨rfl, ini, x, rfl, hlen, hI⟩, hB⟩ hK
    have hDb : w.heap.size ≤ D := by omega
    clear cI cS cN cS2 hB0 hsz0 hD
    gi_wp2_with (fail)
    refine ⟨trivial, (callsIn_wide.2 (Tryd.Builder_String_any_k (w.heap.size + 1) (w.heap.size + 1) (got s ini) _ hI (by obtain ⟨c, hc⟩ := builder_blk hI; have := blk_lt hc; omega))).mono ?_⟩
    rintro e w1 ⟨rfl, hI1, b1, k1⟩
    obtain ⟨c, hc⟩ := builder_blk hI
    have hK1 := Aside0.mk ((others_kept k1 b1.size hc).same D _ hK rfl)
    have HB1 := Aside0.mk (hB.trans (b1.mono (by omega)))
    clear hK hB k1 b1 hI1 hc
    rw [got_clean s ini (by have h := congrArg (List.take 64) ht; rw [List.map_append, List.append_assoc, List.take_append_of_le_length (by rw [List.length_map]; omega), List.take_of_length_le (by rw [List.length_map]; omega)] at h; exact h)]
    gi_wp2
    refine ⟨by simp, .inl ⟨_, _, rfl, run_takeDeferred hK1.out, ?_⟩⟩
    exact ⟨_, results_tmp rfl _ _ _, rfl, HB1.out.trans (belowK_b (w := w) (Nat.le_refl _) _ D _ _ hDb hK1.out rfl rfl)⟩
end Go.Proofs.YtpmhbfelhjpalaaDoor.TC

/- Like (chapter 6): whether two texts have the same signs, letters' case aside: what the program's and the reference's come to. -/
import Derived.Test.YtpmhbfelhjpalaaTRefL
import Derived.Test.YtpmhbfelhjpalaaPTitleLikesx3
import Derived.Test.YtpmhbfelhjpalaaPTitleLikesx1
import Derived.WalkSpells
import Derived.Laws.IdiomStrings
import Derived.Deep.QuietTactic
import Derived.BigQuiet
namespace Go.Proofs.Ytpmhbfelhjpalaa.TL
open Go.RowKit Go.Proofs.YtpmhbfelhjpalaaW.PrintWords Go.Proofs.YtpmhbfelhjpalaaW.PrintLast Go.Proofs.YtpmhbfelhjpalaaW.PrintMore
open Go.Proofs.Ytpmhbfelhjpalaa.PTitleLikes Go.Proofs.Ytpmhbfelhjpalaa.TP Go.Proofs.Ytpmhbfelhjpalaa.TJ Go.Proofs.Ytpmhbfelhjpalaa.TRL
set_option linter.unusedVariables false
set_option linter.unusedSimpArgs false

/-- A sign, small. -/
def low (r : Nat) : Nat := if 65 ≤ r ∧ r ≤ 90 then r + 32 else r
/-- Have two lists of signs the same, case aside? -/
def likeL : List Nat → List Nat → Bool
  | [], [] => true
  | x :: l, y :: m => low x == low y && likeL l m
  | _, _ => false
/-- A text's signs alone. -/
def rns (s : ByteArray) : List Nat := (sgs s 0).map (·.r)
def like (a b : ByteArray) : Bool := likeL (rns a) (rns b)

theorem likeL_comm : ∀ l m, likeL l m = likeL m l
  | [], [] => rfl
  | [], _ :: _ => rfl
  | _ :: _, [] => rfl
  | x :: l, y :: m => by
    simp only [likeL]
    rw [likeL_comm l m]
    congr 1
    rw [Bool.eq_iff_iff, beq_iff_eq, beq_iff_eq]
    exact ⟨Eq.symm, Eq.symm⟩
theorem likeL_len : ∀ l m, l.length ≠ m.length → likeL l m = false
  | [], [], h => absurd rfl h
  | [], _ :: _, _ => rfl
  | _ :: _, [], _ => rfl
  | x :: l, y :: m, h => by
    simp only [likeL]
    rw [likeL_len l m (fun e => h (by simp [e])), Bool.and_false]

theorem rlow_f (r : Nat) (h : r ≤ 1114111) : rondelref06_low.f (r : Int) = some ((low r : Nat) : Int) := by
  unfold rondelref06_low.f low
  by_cases h1 : 65 ≤ r
  · by_cases h2 : r ≤ 90
    · rw [if_pos (by omega), if_pos (by omega), if_pos ⟨h1, h2⟩, w64 (by omega)]; rfl
    · rw [if_pos (by omega), if_neg (by omega), if_neg (fun h => h2 h.2)]
  · rw [if_neg (by omega), if_neg (fun h => h1 h.1)]
theorem tlow_f (r : Nat) (h : r ≤ 1114111) : title_low.f (r : Int) = some ((low r : Nat) : Int) := by
  unfold title_low.f low
  by_cases h1 : 65 ≤ r
  · by_cases h2 : r ≤ 90
    · rw [if_pos (by omega), if_pos (by omega), if_pos ⟨h1, h2⟩, show wrap32 ((r : Int) + 97) = (r : Int) + 97 from IntWalk.wrap32_in _ (by omega), show wrap32 ((r : Int) + 97 - 65) = (r : Int) + 97 - 65 from IntWalk.wrap32_in _ (by omega)]
      congr 1
      omega
    · rw [if_pos (by omega), if_neg (by omega), if_neg (fun h => h2 h.2)]
  · rw [if_neg (by omega), if_neg (fun h => h1 h.1)]

theorem rd_map (l : List Sg) (i : Nat) (h : i < l.length) : rd_T36 (l.map rs) (i : Int) = rs l[i] := by
  unfold rd_T36
  simp [List.getElem?_map, List.getElem?_eq_getElem h]
theorem low_le (r : Nat) (h : r ≤ 1114111) : low r ≤ 1114143 := by unfold low; split <;> omega

/-- The reference's loop. -/
theorem rlike_l0 (a b : List Sg) (ha : ∀ x ∈ a, x.r ≤ 1114111) (hb : ∀ x ∈ b, x.r ≤ 1114111) (hl : a.length = b.length) (hbig : a.length ≤ 140737488351232) :
    ∀ (d i k : Nat), a.length - i = d → i ≤ a.length → d + 1 ≤ k → rondelref06_Like.l0 k (a.map rs) (b.map rs) (i : Int) = some (likeL ((a.drop i).map (·.r)) ((b.drop i).map (·.r))) := by
  intro d
  induction d with
  | zero =>
    intro i k hd hi hk
    obtain ⟨k, rfl⟩ : ∃ m, k = m + 1 := ⟨k - 1, by omega⟩
    simp only [rondelref06_Like.l0, List.length_map]
    rw [if_neg (by omega), List.drop_of_length_le (by omega), List.drop_of_length_le (by omega)]
    rfl
  | succ d ih =>
    intro i k hd hi hk
    obtain ⟨k, rfl⟩ : ∃ m, k = m + 1 := ⟨k - 1, by omega⟩
    have h1 : i < a.length := by omega
    have h2 : i < b.length := by omega
    simp only [rondelref06_Like.l0, List.length_map]
    rw [if_pos (by omega), if_pos (by omega), rd_map a i h1, show (rs a[i]).f2 = ((a[i].r : Nat) : Int) from rfl, rlow_f _ (ha _ (List.getElem_mem h1))]
    simp only [Option.bind_some]
    rw [if_pos (by omega), rd_map b i h2, show (rs b[i]).f2 = ((b[i].r : Nat) : Int) from rfl, rlow_f _ (hb _ (List.getElem_mem h2))]
    simp only [Option.bind_some]
    rw [List.drop_eq_getElem_cons h1, List.drop_eq_getElem_cons h2, List.map_cons, List.map_cons, likeL]
    by_cases e : low a[i].r = low b[i].r
    · rw [if_pos (by rw [e]), show wrap64 ((i : Int) + 1) = ((i + 1 : Nat) : Int) from w64 (by omega), ih (i + 1) k (by omega) (by omega) (by omega), e]
      simp
    · rw [if_neg (by omega)]
      simp [e]

theorem sgs_r (s : ByteArray) : ∀ x ∈ sgs s 0, x.r ≤ 1114111 := by
  intro x hx
  have := (mem_sgs s x 0 hx).2
  have h := dec_le s x.at_
  rw [this] at h
  exact h

theorem rlike_f (a b : ByteArray) (ha : a.size < 4398046511104) (hb : b.size < 4398046511104) : ∃ k, rondelref06_Like.f k a b = some (like a b) := by
  obtain ⟨k1, h1⟩ := signs_f a ha
  obtain ⟨k2, h2⟩ := signs_f b hb
  have hl := sgs_length a 0
  refine ⟨k1 + k2 + (sgs a 0).length + 1, ?_⟩
  unfold rondelref06_Like.f
  rw [at_rounds (g := fun k => rondelref06_Signs.f k a) (rondelref06_Signs.mono a) (show k1 ≤ k1 + k2 + (sgs a 0).length + 1 by omega) h1]
  simp only [Option.bind_some]
  rw [at_rounds (g := fun k => rondelref06_Signs.f k b) (rondelref06_Signs.mono b) (show k2 ≤ k1 + k2 + (sgs a 0).length + 1 by omega) h2]
  simp only [Option.bind_some, List.length_map]
  by_cases e : (sgs a 0).length = (sgs b 0).length
  · rw [if_pos (by omega)]
    have := rlike_l0 (sgs a 0) (sgs b 0) (sgs_r a) (sgs_r b) e (by omega) (sgs a 0).length 0 (k1 + k2 + (sgs a 0).length + 1) (by omega) (by omega) (by omega)
    exact this
  · rw [if_neg (by omega)]
    unfold like
    rw [likeL_len _ _ (by simpa [rns] using e)]

theorem rlike_calls (a b : ByteArray) (ha : a.size < 4398046511104) (hb : b.size < 4398046511104) (w : World) : Calls Try.prog 16 #[.string a, .string b] w fun e w' => e = .returned (.bool (like a b)) ∧ Below w.heap.size w w' := by
  obtain ⟨k, hk⟩ := rlike_f a b ha hb
  exact rondelref06_Like.calls k a b _ w hk

theorem tlow_calls (r : Nat) (h : r ≤ 1114111) (w : World) : Calls Try.prog 25 #[.int .i32 r] w fun e w' => e = .returned (.int .i32 (low r)) ∧ ∃ k, w' = w.drewN k := by
  refine (title_low.calls r (low r) w (tlow_f r h)).mono ?_
  rintro e w' ⟨rfl, h⟩
  exact ⟨rfl, h.out⟩

/-- The model's runes of a text. -/
theorem runes_from (s : ByteArray) : ∀ i, ∀ (bound : Nat) (acc : Array Value), s.size - i ≤ bound → Conv.runesFrom s bound i acc = acc ++ ((sgs s i).map fun x => Value.int .i32 (x.r : Int)).toArray := by
  apply along s
  · intro i h bound acc hb
    rw [sgs_end s i h]
    cases bound with
    | zero => simp [Conv.runesFrom]
    | succ n => simp [Conv.runesFrom, h]
  · intro i h ih bound acc hb
    obtain ⟨n, rfl⟩ : ∃ m, bound = m + 1 := ⟨bound - 1, by omega⟩
    have := dec_pos s i h
    rw [sgs_step s i h, Conv.runesFrom, if_pos h]
    dsimp only
    rw [ih n _ (by omega)]
    simp
/-- A text's signs, as integers. -/
def rni (s : ByteArray) : List Int := (rns s).map fun r : Nat => (r : Int)
theorem rni_length (s : ByteArray) : (rni s).length = (rns s).length := by simp [rni]
theorem runes_eq (s : ByteArray) : Conv.runesFrom s s.size 0 #[] = (nums .i32 (rni s)).toArray := by
  rw [runes_from s 0 s.size #[] (by omega)]
  simp [rns, rni, nums, List.map_map]

/-- []rune(s). -/
theorem runes_event {ops : Array Oper} {rest : List Oper} {o : Oper} {a : Act} {Q : Exit → Act → World → Prop} {W : World} (hgd : o.guard = none) {x : Operand} (ho : o.op = .convert 9 43 x) {s : ByteArray} (hx : a.eval x = .string s) (hs : s.size ≤ 1000000) {N : Nat} (hN : (rni s).length = N)
    (h : ∀ A c w1, Below W.heap.size W w1 → Kd.C (Kd.int .i32) w1 A N (rni s) → N ≤ c → wpList Try.prog ops Q rest (a.put o.dst (.slice A N c)) w1) :
    wpList Try.prog ops Q (o :: rest) a W := by
  subst hN
  have hl : (rni s).length ≤ 1000000 := by
    have := sgs_length s 0
    simp only [rni, rns, List.length_map]
    omega
  have hr := run_runes_of_string (P := Try.prog) W 9 43 21 s Try.underlying9 Try.underlying43 Try.underlying21 (by rw [runes_eq]; simp [nums]; omega)
  rw [runes_eq] at hr
  have hge := grownCap_ge W (rni s).length 0 21
  rw [show (nums .i32 (rni s)).toArray.size = (rni s).length from by simp [nums]] at hr
  generalize hcp : grownCap W (rni s).length 0 21 = cp at hr hge
  refine Kd.event_run hgd (w1 := W.drew.alloc (.cells ((nums .i32 (rni s)).toArray ++ Array.replicate (cp - (rni s).length) (.int .i32 0)) 21)) (v := .slice (some ⟨W.heap.size, 0, none⟩) (rni s).length cp) ?_ ?_
  · simp [execOp, ho, hx, hr]
  · refine h _ _ _ ((below_drew (Below.refl _ W)).alloc (by simp) _) ?_ hge
    have hb : (W.drew.alloc (.cells ((nums .i32 (rni s)).toArray ++ Array.replicate (cp - (rni s).length) (.int .i32 0)) 21)).heap[W.heap.size]? = some (.cells ((nums .i32 (rni s)).toArray ++ Array.replicate (cp - (rni s).length) (.int .i32 0)) 21 (0, 0)) := heap_alloc_new W.drew _
    refine Kd.C_of_reads (d := (0 : Int)) (h1 := fun _ => rfl) ⟨rfl, by omega, fun hn => ⟨_, rfl, fun j hj => ?_⟩⟩
    rw [add_plain, blk_cell hb, Array.getElem?_append_left (by simp [nums]; exact hj)]
    simp [nums, List.getElem?_eq_getElem hj, List.getD_eq_getElem?_getD]

theorem info21_ : (Try.prog.info? 21).map (fun i => (i.zero, i.size, i.bytes)) = some (some (.int .i32 0), 1, 4) := by kernel_rfl
theorem rni_at (s : ByteArray) (k : Nat) (h : k < (rns s).length) : rd (rni s) (k : Int) = (((rns s)[k] : Nat) : Int) := by
  simp [rd, rni, List.getD_eq_getElem?_getD, List.getElem?_map, List.getElem?_eq_getElem h]
theorem rns_le (s : ByteArray) (k : Nat) (h : k < (rns s).length) : (rns s)[k] ≤ 1114111 := by
  simp only [rns, List.getElem_map]
  exact sgs_r s _ (List.getElem_mem _)
theorem rns_length (s : ByteArray) : (rns s).length ≤ s.size := by
  have := sgs_length s 0
  simp only [rns, List.length_map]
  omega

set_option maxHeartbeats 1000000 in
theorem like_calls (a b : ByteArray) (ha : a.size ≤ 1000000) (hb : b.size ≤ 1000000) (w : World) : Calls Try.prog 15 #[.string a, .string b] w fun e w' => e = .returned (.bool (like a b)) ∧ Below w.heap.size w w' := by
  have hla := rns_length a
  have hlb := rns_length b
  obtain ⟨na, hna⟩ : ∃ n, (rns a).length = n := ⟨_, rfl⟩
  obtain ⟨nb, hnb⟩ : ∃ n, (rns b).length = n := ⟨_, rfl⟩
  have NA := Aside0.mk hna
  have NB := Aside0.mk hnb
  rw [hna] at hla
  rw [hnb] at hlb
  clear hna hnb
  obtain ⟨i0, hi, _, hsz, _⟩ := info_parts info21_
  have HI := Aside0.mk hi
  have HSZ := Aside0.mk hsz
  clear hi hsz
  go_enter Try.func15, Try.ntmps15
  go_wp2_with (first | ((with_reducible refine gate_dst (N := 9) rfl ?_); refine runes_event rfl rfl (s := b) rfl hb (N := nb) (by rw [rni_length, NB.out]) ?_; intro A1 c1 w1 hb1 hC1 hl1; have B1 := Aside0.mk hb1; have C1 := Aside0.mk hC1; have L1 := Aside0.mk hl1; clear hb1 hC1 hl1) | ((with_reducible refine gate_dst (N := 11) rfl ?_); refine runes_event rfl rfl (s := a) rfl ha (N := na) (by rw [rni_length, NA.out]) ?_; intro A2 c2 w2 hb2 hC2 hl2; have B2 := Aside0.mk (below_step B1.out hb2); have C3 := Aside0.mk (Kd.C_below C1.out hb2); have C2 := Aside0.mk hC2; have L2 := Aside0.mk hl2; clear hb2 hC2 hl2 B1 C1))
  go_loopw [5, 7, 13] (fun l u i wr => ∃ (k m : Nat) (A : Option Addr) (c : Nat), l = .slice A m c ∧ i = .int .i64 k ∧ k ≤ na ∧ m ≤ 1000000 ∧ Aside0 (m = ((rns b).drop k).length) ∧ Aside0 (m ≤ c) ∧ Aside0 ((Kd.int .i32).C wr A m ((rni b).drop k)) ∧ Aside0 ((Kd.int .i32).C wr A2 na (rni a)) ∧ Aside0 (Below w.heap.size w wr) ∧ Aside0 (likeL ((rns a).drop k) ((rns b).drop k) = like a b)) (fun _ _ i _ => na - (intOf i).toNat)
  case atStart => exact ⟨0, nb, A1, c1, rfl, rfl, by omega, by omega, ⟨by rw [List.drop_zero, NB.out]⟩, L1, ⟨by rw [List.drop_zero]; exact C3.out⟩, C2, B2, ⟨by rw [List.drop_zero, List.drop_zero]; rfl⟩⟩
  case round =>
    obtain ⟨k, m, A, c, rfl, rfl, hk, hm6, hm, hmc, hC, hCa, hB, hL⟩ := hrel
    clear C3 C2 B2 L1 L2
    by_cases hlt : k < na
    · have hka : k < (rns a).length := by have := NA.out; omega
      obtain ⟨ad, e, hca⟩ := Kd.at_int hCa.out (k : Int) (by omega) (by omega)
      subst e
      rw [rni_at a k hka, Int.toNat_natCast] at hca
      have hra := rns_le a k hka
      have hda := List.drop_eq_getElem_cons hka
      obtain ⟨ra, hra_⟩ : ∃ r, (rns a)[k] = r := ⟨_, rfl⟩
      rw [hra_] at hca hra hda
      by_cases hm0 : m = 0
      · subst hm0
        have hnil : (rns b).drop k = [] := List.length_eq_zero_iff.1 hm.out.symm
        have hfin := Aside0.mk (show like a b = false by rw [← hL.out, hda, hnil]; rfl)
        clear hda hnil hra_
        go_wp2_with (fail)
        go_quiet ((go_at_call 25; exact Calls.quiet_of (tlow_calls ra hra _)))
        go_wp2
        go_ret
        exact ⟨by rw [hfin.out]; rfl, pw_below_drewN hB.out _⟩
      · have hlen := hm.out
        rw [List.length_drop] at hlen
        have hkb : k < (rns b).length := by omega
        have hdb := List.drop_eq_getElem_cons hkb
        have hrb := rns_le b k hkb
        obtain ⟨bd, e, hcb⟩ := Kd.at_int hC.out 0 (by omega) (by omega)
        subst e
        have hrd : rd ((rni b).drop k) 0 = (((rns b)[k] : Nat) : Int) := by
          have := rni_at b k hkb
          simp only [rd, Int.toNat_natCast, List.getD_eq_getElem?_getD, List.getElem?_drop] at this ⊢
          exact this
        rw [hrd, show bd.add (0 : Int).toNat = bd from by simp [Addr.add]] at hcb
        obtain ⟨rb, hrb_⟩ : ∃ r, (rns b)[k] = r := ⟨_, rfl⟩
        rw [hrb_] at hcb hrb hdb
        have hm1 : 0 < m := by omega
        have hmI : (0 : Int) < (m : Int) := by omega
        have hmz : ((m : Int) == 0) = false := by rw [beq_eq_false_iff_ne]; omega
        by_cases hlow : low ra = low rb
        · have hne : (((low ra : Nat) : Int) != ((low rb : Nat) : Int)) = false := by rw [bne_eq_false_iff_eq, hlow]
          have hnx := Aside0.mk (show likeL ((rns a).drop (k + 1)) ((rns b).drop (k + 1)) = like a b by
            rw [← hL.out, hda, hdb]
            simp [likeL, hlow])
          have hcut := cut_from (P := Try.prog) 43 21 .i64 Try.underlying43 HI.out 1 HSZ.out (some bd) m c 1 (by omega) (by omega)
          have hmc' := hmc.out
          have hdrop := Kd.C_drop (m := 1) (c := c) (by have h := hC.out; rwa [← hC.out.1] at h) (by have := hC.out.1; omega) (by have := hC.out.1; omega)
          obtain ⟨A3, hA3⟩ : ∃ A3, (if c = (1 : Int).toNat then some bd else (some bd).map (·.add ((1 : Int).toNat * 1))) = A3 := ⟨_, rfl⟩
          rw [hA3] at hcut
          have e1 : (if c = 1 then some bd else (some bd).map (·.add (1 * (Kd.int .i32).sz))) = A3 := hA3
          rw [e1, List.drop_drop, show (List.drop (k + 1) (rni b)).length = m - 1 from by have := hC.out.1; simp only [List.length_drop] at this ⊢; omega] at hdrop
          rw [show (1 : Int).toNat = 1 from rfl] at hcut
          have HD := Aside0.mk hdrop
          have hm2 := Aside0.mk (show m - 1 = ((rns b).drop (k + 1)).length by rw [List.length_drop]; omega)
          have hmc2 := Aside0.mk (show m - 1 ≤ c - 1 by omega)
          clear hdrop hA3 e1 hda hdb hra_ hrb_ hlow hlen hm0 hrd hmc'
          go_wp2_with (fail)
          go_quiet ((go_at_call 25; exact Calls.quiet_of (tlow_calls _ (by first | exact hra | exact hrb) _)))
          go_wp2
          go_outline
          go_roundw
          case rel => exact ⟨k + 1, m - 1, A3, c - 1, rfl, by go_num, by omega, by omega, hm2, hmc2, ⟨Kd.C_drewN HD.out _⟩, ⟨Kd.C_drewN hCa.out _⟩, ⟨pw_below_drewN hB.out _⟩, hnx⟩
          case measure => simp [intOf]; omega
        · have hne : (((low ra : Nat) : Int) != ((low rb : Nat) : Int)) = true := by rw [bne_iff_ne]; omega
          have hfin := Aside0.mk (show like a b = false by
            rw [← hL.out, hda, hdb]
            simp [likeL, hlow])
          clear hda hdb hra_ hrb_ hlow hlen hm0 hrd
          go_wp2_with (fail)
          go_quiet ((go_at_call 25; exact Calls.quiet_of (tlow_calls _ (by first | exact hra | exact hrb) _)))
          go_wp2
          go_ret
          exact ⟨by rw [hfin.out]; rfl, pw_below_drewN hB.out _⟩
    · obtain rfl : k = na := by omega
      have hda : (rns a).drop k = [] := List.drop_of_length_le (by have := NA.out; omega)
      have hlen := hm.out
      by_cases hm0 : m = 0
      · have hdb : (rns b).drop k = [] := List.length_eq_zero_iff.1 (by omega)
        have hfin := Aside0.mk (show like a b = true by rw [← hL.out, hda, hdb]; rfl)
        have hmz : ((m : Int) == 0) = true := by rw [beq_iff_eq]; omega
        clear hda hdb hlen hm0
        go_wp2
        go_ret
        exact ⟨by rw [hfin.out]; rfl, hB.out⟩
      · have hfin := Aside0.mk (show like a b = false by
          rw [← hL.out, hda]
          cases hx : (rns b).drop k with
          | nil => rw [hx] at hlen; simp at hlen; omega
          | cons y l => rfl)
        have hmz : ((m : Int) == 0) = false := by rw [beq_eq_false_iff_ne]; omega
        clear hda hlen hm0
        go_wp2
        go_ret
        exact ⟨by rw [hfin.out]; rfl, hB.out⟩

end Go.Proofs.Ytpmhbfelhjpalaa.TL

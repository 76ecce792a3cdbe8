/- The walk of TitleLikes: it returns true and writes nothing that was there. -/
import Derived.Test.YtpmhbfelhjpalaaTLike
import Derived.Test.YtpmhbfelhjpalaaTWalks
import Derived.Test.YtpmhbfelhjpalaaPTitleLikesx1
import Derived.ShutString
namespace Go.Proofs.Ytpmhbfelhjpalaa.Tlw
open Go.RowKit Go.Proofs.YtpmhbfelhjpalaaW.PrintWords Go.Proofs.YtpmhbfelhjpalaaW.PrintLast Go.Proofs.YtpmhbfelhjpalaaW.PrintMore
open Go.Proofs.Ytpmhbfelhjpalaa.TP Go.Proofs.Ytpmhbfelhjpalaa.TJ Go.Proofs.Ytpmhbfelhjpalaa.TRL Go.Proofs.Ytpmhbfelhjpalaa.TW Go.Proofs.Ytpmhbfelhjpalaa.TL
set_option linter.unusedVariables false
set_option linter.unusedSimpArgs false

/-! ### The plain law: letters turned to great ones -/
theorem decP_same (c b1 b2 b3 b1' b2' b3' : Nat) (q1 q2 q3 : Bool) (h1 : q1 = true → b1' = b1) (h2 : q2 = true → b2' = b2) (h3 : q3 = true → b3' = b3) : decP c b1' b2' b3' q1 q2 q3 = decP c b1 b2 b3 q1 q2 q3 := by
  unfold decP
  cases q1 <;> cases q2 <;> cases q3 <;> simp_all

/-- Turned at some places: a letter of a to z by 32 less. -/
def Turned (a c : ByteArray) : Prop := c.size = a.size ∧ ∀ i, i < a.size → by_ c i = by_ a i ∨ (97 ≤ by_ a i ∧ by_ a i ≤ 122 ∧ by_ c i + 32 = by_ a i)
theorem Turned.more {a c : ByteArray} (h : Turned a c) (i : Nat) : more c i = more a i ∧ (more a i = true → by_ c i = by_ a i) := by
  unfold TP.more
  rw [h.1]
  by_cases hi : i < a.size
  · rcases h.2 i hi with e | ⟨e1, e2, e3⟩
    · rw [e]; exact ⟨rfl, fun _ => rfl⟩
    · have a1 : (by_ c i / 64 == 2) = false := by rw [beq_eq_false_iff_ne]; omega
      have a2 : (by_ a i / 64 == 2) = false := by rw [beq_eq_false_iff_ne]; omega
      rw [a1, a2]
      exact ⟨rfl, fun h => by simp at h⟩
  · simp [hi]
theorem Turned.dec {a c : ByteArray} (h : Turned a c) (i : Nat) (hi : i < a.size) : (Utf8.decode c i).2 = (Utf8.decode a i).2 ∧ low (Utf8.decode c i).1 = low (Utf8.decode a i).1 := by
  rw [dec_by c, dec_by a, (h.more (i + 1)).1, (h.more (i + 2)).1, (h.more (i + 3)).1]
  rw [decP_same (by_ c i) (by_ a (i + 1)) (by_ a (i + 2)) (by_ a (i + 3)) _ _ _ _ _ _ (h.more (i + 1)).2 (h.more (i + 2)).2 (h.more (i + 3)).2]
  rcases h.2 i hi with e | ⟨e1, e2, e3⟩
  · rw [e]; exact ⟨rfl, rfl⟩
  · unfold decP
    rw [if_pos (by omega), if_pos (by omega)]
    refine ⟨rfl, ?_⟩
    unfold low
    dsimp only
    rw [if_pos (by omega), if_neg (by omega)]
    omega
theorem Turned.like {a c : ByteArray} (h : Turned a c) : like a c = true := by
  have key : ∀ i, likeL ((sgs a i).map (·.r)) ((sgs c i).map (·.r)) = true := by
    apply along a
    · intro i hi
      rw [sgs_end a i hi, sgs_end c i (by rw [h.1]; exact hi)]
      rfl
    · intro i hi ih
      obtain ⟨e1, e2⟩ := h.dec i hi
      rw [sgs_step a i hi, sgs_step c i (by rw [h.1]; exact hi), e1]
      simp only [List.map_cons, likeL, e2, beq_self_eq_true, Bool.true_and]
      exact ih
  exact key 0

/-- What the law's loop makes of a byte. -/
def tb (a : ByteArray) (lt : List Bool) (k : Nat) : Nat := if k < lt.length ∧ lt.getD k false = true ∧ 97 ≤ by_ a k ∧ by_ a k ≤ 122 then by_ a k - 32 else by_ a k
def tbs (a : ByteArray) (lt : List Bool) (n : Nat) : List Int := (List.range n).map fun k => (tb a lt k : Int)
theorem tbs_length (a : ByteArray) (lt : List Bool) (n : Nat) : (tbs a lt n).length = n := by simp [tbs]
theorem tbs_snoc (a : ByteArray) (lt : List Bool) (n : Nat) : tbs a lt (n + 1) = tbs a lt n ++ [(tb a lt n : Int)] := by simp [tbs, List.range_succ]
theorem by_strOfNums (xs : List Int) (i : Nat) (h : i < xs.length) (hb : 0 ≤ xs[i] ∧ xs[i] < 256) : by_ (strOfNums xs) i = xs[i].toNat := by
  rw [by_list]
  unfold strOfNums
  simp only [List.getElem?_map, List.getElem?_eq_getElem h, Option.map_some, Option.getD_some]
  rw [UInt8.toNat_ofNat']
  omega
theorem size_strOfNums (xs : List Int) : (strOfNums xs).size = xs.length := by simp [strOfNums, ByteArray.size]
theorem turned (a : ByteArray) (lt : List Bool) : Turned a (strOfNums (tbs a lt a.size)) := by
  refine ⟨by rw [size_strOfNums, tbs_length], fun i hi => ?_⟩
  have hb := by_lt a i
  have e : (tbs a lt a.size)[i]'(by rw [tbs_length]; exact hi) = (tb a lt i : Int) := by simp [tbs]
  have hlt : tb a lt i < 256 := by unfold tb; split <;> omega
  rw [by_strOfNums _ i (by rw [tbs_length]; exact hi) (by rw [e]; omega), e, Int.toNat_natCast]
  unfold tb
  split
  · rename_i h; right; omega
  · left; rfl

theorem few_f (s : ByteArray) (n : Nat) : PTitleLikes.rondelref06_Few.f s (n : Int) = some (s.extract 0 n) := by
  unfold PTitleLikes.rondelref06_Few.f
  by_cases h : n < s.size
  · rw [if_pos (by omega), if_pos (by omega), if_pos (by omega)]; simp
  · rw [if_neg (by omega)]
    congr 1
    apply ba_ext
    rw [extract_list]
    simp [List.take_of_length_le, ← size_list, show s.size ≤ n by omega]
theorem few_calls (s : ByteArray) (n : Nat) (w : World) : Calls Try.prog 9 #[.string s, .int .i64 n] w fun e w' => e = .returned (.string (s.extract 0 n)) ∧ ∃ k, w' = w.drewN k := by
  refine (PTitleLikes.rondelref06_Few.calls s n (s.extract 0 n) w (few_f s n)).mono ?_
  rintro e w' ⟨rfl, h⟩
  exact ⟨rfl, h.out⟩

/-- The document's example, in its bytes. -/
theorem lives_cut : cut ⟨#[230, 151, 165, 230, 156, 172]⟩ 3 = ⟨#[230, 151, 165]⟩ := by
  unfold cut
  rw [if_neg (by omega)]
  have d0 : Utf8.decode ⟨#[230, 151, 165, 230, 156, 172]⟩ 0 = (26085, 3) := by decide +kernel
  have d3 : Utf8.decode ⟨#[230, 151, 165, 230, 156, 172]⟩ 3 = (26412, 3) := by decide +kernel
  have w0 : wd 26085 = 2 := by decide
  have w3 : wd 26412 = 2 := by decide
  rw [cutAt_step _ 0 _ (by decide) (by rw [d0]; dsimp only; rw [w0]; omega), d0]
  dsimp only
  rw [w0, cutAt_stop _ _ _ (by decide) (by rw [d3]; dsimp only; rw [w3]; omega)]
  decide +kernel

set_option maxHeartbeats 400000 in
theorem lives_calls (w : World) : Calls Try.prog 14 #[] w fun e w' => e = .returned (.bool true) ∧ Below w.heap.size w w' := by
  have hc := Aside0.mk lives_cut
  go_enter Try.func14, Try.ntmps14
  go_wp2_with ((go_at_call 13; refine (cut_calls _ 3 _ (by decide) (by omega)).mono ?_; rintro e w1 ⟨rfl, hb⟩; rw [hc.out]))
  go_ret
  exact ⟨rfl, hb⟩

theorem info5 : (Try.prog.info? 5).map (fun i => (i.zero, i.size, i.bytes)) = some (some (.int .u8 0), 1, 1) := by kernel_rfl

theorem at_by (s : ByteArray) (k : Nat) : ∀ h : k < s.size, ((s[k]'h).toNat : Int) = (by_ s k : Int) := by
  intro h
  unfold by_
  have e : s.get! k = s[k] := by
    show s.data[k]! = _
    rw [getElem!_pos s.data k (by simpa using h)]
    rfl
  rw [e]

set_option maxHeartbeats 4000000 in
theorem walk (a0 b0 : ByteArray) (A : Option Addr) (c : Nat) (lt : List Bool) (w : World) (hC : Kd.bool.C w A lt.length lt) (hc : lt.length ≤ c) :
    Calls Try.prog 4 #[.string a0, .string b0, .slice A lt.length c] w fun e w' => e = .returned (.bool true) ∧ Below w.heap.size w w' := by
  obtain ⟨a, ha⟩ : ∃ a, a0.extract 0 60 = a := ⟨_, rfl⟩
  obtain ⟨b, hb⟩ : ∃ b, b0.extract 0 60 = b := ⟨_, rfl⟩
  have sa : a.size ≤ 60 := by rw [← ha, ByteArray.size_extract]; omega
  have sb : b.size ≤ 60 := by rw [← hb, ByteArray.size_extract]; omega
  have HA := Aside0.mk ha
  have HBb := Aside0.mk hb
  have CT := Aside0.mk hC
  have hnl : lt.length ≤ 9223372036854775807 := hC.2.1
  clear ha hb hC hc
  have B0 := Aside0.mk (Below.refl w.heap.size w)
  obtain ⟨nt, hnt⟩ : ∃ n, lt.length = n := ⟨_, rfl⟩
  have NT := Aside0.mk hnt
  rw [hnt] at hnl ⊢
  clear hnt
  go_enter Try.func4, Try.ntmps4
  go_wp2_with (fail)
  refine (few_calls a0 60 _).mono ?_
  rw [HA.out]
  rintro e w1 ⟨rfl, k1, rfl⟩
  have B1 := Aside0.mk (pw_below_drewN B0.out k1)
  go_wp2_with (fail)
  refine (few_calls b0 60 _).mono ?_
  rw [HBb.out]
  rintro e w2 ⟨rfl, k2, rfl⟩
  have B2 := Aside0.mk (pw_below_drewN B1.out k2)
  clear B0 B1
  go_wp2
  go_loopw [7, 8, 9] (fun v i x wr => ∃ k : Nat, i = .int .i64 k ∧ k ≤ a.size ∧ Aside0 (Kd.R (Kd.int .u8) 5 wr w.heap.size (fun _ => True) v (tbs a lt k)) ∧ Aside0 (Below w.heap.size w wr)) (fun _ i _ _ => a.size - (intOf i).toNat)
  case atStart => exact ⟨0, rfl, by omega, ⟨Kd.R_nil _ _ _ _ _⟩, ⟨pw_below_drewN (Below.refl _ _) _⟩⟩
  case round =>
    clear B2
    obtain ⟨k, rfl, hk, hR, hB⟩ := hrel
    by_cases hlt : k < a.size
    · have hab := at_by a k
      have hb8 := by_lt a k
      have HT0 := Aside0.mk (tbs_snoc a lt k)
      have htb := Aside0.mk (show tb a lt k = if k < lt.length ∧ lt.getD k false = true ∧ 97 ≤ by_ a k ∧ by_ a k ≤ 122 then by_ a k - 32 else by_ a k from rfl)
      obtain ⟨x, hx⟩ : ∃ x, by_ a k = x := ⟨_, rfl⟩
      rw [hx] at hb8 htb
      replace hab : ∀ h : k < a.size, ((a[k]'h).toNat : Int) = (x : Int) := by rw [← hx]; exact hab
      clear hx
      -- the byte stays
      have stay : tb a lt k = x → Aside0 (tbs a lt k ++ [(x : Int)] = tbs a lt (k + 1)) := fun e => ⟨by rw [HT0.out, e]⟩
      by_cases hkn : k < nt
      · obtain ⟨ad, e, hct⟩ := Kd.at_bool (Kd.C_below CT.out hB.out) (k : Int) (by omega) (by have := NT.out; omega)
        subst e
        rw [Int.toNat_natCast] at hct
        obtain ⟨t, ht⟩ : ∃ t, lt.getD k false = t := ⟨_, rfl⟩
        have hrd : rdOf false lt (k : Int) = t := by rw [← ht]; simp [rdOf]
        rw [hrd] at hct
        rw [ht] at htb
        clear hrd
        cases t
        · have HT := stay (by rw [htb.out, if_neg (by simp)])
          clear stay htb HT0 ht
          go_wp2_with (((with_reducible refine gate_builtin (b := .append) (xs := #[.tmp 43, .tmp 45]) rfl ?_); at_builtin; refine Kd.R_append (Kd.int .u8) (w0 := w) w.heap.size rfl (.tmp 43) (.tmp 45) 28 5 (.int .u8 0) 1 rfl Try.underlying28 info5 rfl (by decide) (by omega) _ (tbs a lt k) (x : Int) [.int .u8 (x : Int)] (fun _ => True) (fun _ => False) rfl rfl ?aP (fun _ hk => hk.elim) ?aF ?aO ?aB ?aS ?aL ?_; (case aP => exact rfl); (case aB => exact hB.out); (case aF => exact (fun _ _ => trivial)); (case aO => exact hR.out); (case aS => exact below_size hB.out); (case aL => rw [tbs_length]; omega); intro v1 w7 ho hb7 hg hat; rw [HT.out] at ho; have hR1 := Aside0.mk ho; have hB1 := Aside0.mk hb7; clear ho hb7 hg hat))
          go_roundw
          case rel => exact ⟨k + 1, by go_num, by omega, hR1, hB1⟩
          case measure => simp [intOf]; omega
        by_cases h97 : 97 ≤ x
        · by_cases h122 : x ≤ 122
          · have HT := Aside0.mk (show tbs a lt k ++ [((x : Int) - 32)] = tbs a lt (k + 1) by
              rw [HT0.out, htb.out, if_pos ⟨by have := NT.out; omega, rfl, h97, h122⟩]
              congr 2
              omega)
            have h97' : (97 : Int) ≤ (x : Int) := by omega
            have h122' : (x : Int) ≤ 122 := by omega
            have hd1 : decide ((97 : Int) ≤ (x : Int)) = true := decide_eq_true h97'
            have hd2 : decide ((x : Int) ≤ 122) = true := decide_eq_true h122'
            clear stay htb HT0 ht
            go_wp2_with (((with_reducible refine gate_builtin (b := .append) (xs := #[.tmp 43, .tmp 45]) rfl ?_); at_builtin; refine Kd.R_append (Kd.int .u8) (w0 := w) w.heap.size rfl (.tmp 43) (.tmp 45) 28 5 (.int .u8 0) 1 rfl Try.underlying28 info5 rfl (by decide) (by omega) _ (tbs a lt k) ((x : Int) - 32) [.int .u8 ((x : Int) - 32)] (fun _ => True) (fun _ => False) rfl rfl ?aP (fun _ hk => hk.elim) ?aF ?aO ?aB ?aS ?aL ?_; (case aP => exact rfl); (case aB => exact hB.out); (case aF => exact (fun _ _ => trivial)); (case aO => exact hR.out); (case aS => exact below_size hB.out); (case aL => rw [tbs_length]; omega); intro v1 w7 ho hb7 hg hat; rw [HT.out] at ho; have hR1 := Aside0.mk ho; have hB1 := Aside0.mk hb7; clear ho hb7 hg hat))
            go_roundw
            case rel => exact ⟨k + 1, by go_num, by omega, hR1, hB1⟩
            case measure => simp [intOf]; omega
          · have HT := stay (by rw [htb.out, if_neg (fun h => h122 h.2.2.2)])
            have hd1 : decide ((97 : Int) ≤ (x : Int)) = true := decide_eq_true (by omega)
            have hd2 : decide ((x : Int) ≤ 122) = false := decide_eq_false (by omega)
            clear stay htb HT0 ht
            go_wp2_with (((with_reducible refine gate_builtin (b := .append) (xs := #[.tmp 43, .tmp 45]) rfl ?_); at_builtin; refine Kd.R_append (Kd.int .u8) (w0 := w) w.heap.size rfl (.tmp 43) (.tmp 45) 28 5 (.int .u8 0) 1 rfl Try.underlying28 info5 rfl (by decide) (by omega) _ (tbs a lt k) (x : Int) [.int .u8 (x : Int)] (fun _ => True) (fun _ => False) rfl rfl ?aP (fun _ hk => hk.elim) ?aF ?aO ?aB ?aS ?aL ?_; (case aP => exact rfl); (case aB => exact hB.out); (case aF => exact (fun _ _ => trivial)); (case aO => exact hR.out); (case aS => exact below_size hB.out); (case aL => rw [tbs_length]; omega); intro v1 w7 ho hb7 hg hat; rw [HT.out] at ho; have hR1 := Aside0.mk ho; have hB1 := Aside0.mk hb7; clear ho hb7 hg hat))
            go_roundw
            case rel => exact ⟨k + 1, by go_num, by omega, hR1, hB1⟩
            case measure => simp [intOf]; omega
        · have HT := stay (by rw [htb.out, if_neg (fun h => h97 h.2.2.1)])
          have hd1 : decide ((97 : Int) ≤ (x : Int)) = false := decide_eq_false (by omega)
          clear stay htb HT0 ht
          go_wp2_with (((with_reducible refine gate_builtin (b := .append) (xs := #[.tmp 43, .tmp 45]) rfl ?_); at_builtin; refine Kd.R_append (Kd.int .u8) (w0 := w) w.heap.size rfl (.tmp 43) (.tmp 45) 28 5 (.int .u8 0) 1 rfl Try.underlying28 info5 rfl (by decide) (by omega) _ (tbs a lt k) (x : Int) [.int .u8 (x : Int)] (fun _ => True) (fun _ => False) rfl rfl ?aP (fun _ hk => hk.elim) ?aF ?aO ?aB ?aS ?aL ?_; (case aP => exact rfl); (case aB => exact hB.out); (case aF => exact (fun _ _ => trivial)); (case aO => exact hR.out); (case aS => exact below_size hB.out); (case aL => rw [tbs_length]; omega); intro v1 w7 ho hb7 hg hat; rw [HT.out] at ho; have hR1 := Aside0.mk ho; have hB1 := Aside0.mk hb7; clear ho hb7 hg hat))
          go_roundw
          case rel => exact ⟨k + 1, by go_num, by omega, hR1, hB1⟩
          case measure => simp [intOf]; omega
      · have HT := stay (by rw [htb.out, if_neg (fun h => hkn (by have := NT.out; omega))])
        clear stay htb HT0
        go_wp2_with (((with_reducible refine gate_builtin (b := .append) (xs := #[.tmp 43, .tmp 45]) rfl ?_); at_builtin; refine Kd.R_append (Kd.int .u8) (w0 := w) w.heap.size rfl (.tmp 43) (.tmp 45) 28 5 (.int .u8 0) 1 rfl Try.underlying28 info5 rfl (by decide) (by omega) _ (tbs a lt k) (x : Int) [.int .u8 (x : Int)] (fun _ => True) (fun _ => False) rfl rfl ?aP (fun _ hk => hk.elim) ?aF ?aO ?aB ?aS ?aL ?_; (case aP => exact rfl); (case aB => exact hB.out); (case aF => exact (fun _ _ => trivial)); (case aO => exact hR.out); (case aS => exact below_size hB.out); (case aL => rw [tbs_length]; omega); intro v1 w7 ho hb7 hg hat; rw [HT.out] at ho; have hR1 := Aside0.mk ho; have hB1 := Aside0.mk hb7; clear ho hb7 hg hat))
        go_roundw
        case rel => exact ⟨k + 1, by go_num, by omega, hR1, hB1⟩
        case measure => simp [intOf]; omega
    · obtain rfl : k = a.size := by omega
      obtain ⟨A7, c7, rfl⟩ := Kd.R_slice hR.out
      rw [tbs_length] at hR ⊢
      have hT := turned a lt
      have hL1 := hT.like
      obtain ⟨cs, hcs⟩ : ∃ cs, strOfNums (tbs a lt a.size) = cs := ⟨_, rfl⟩
      have hsc : cs.size ≤ 1000000 := by rw [← hcs, size_strOfNums, tbs_length]; omega
      rw [hcs] at hL1
      have hL2 : like cs a = true := by unfold like; rw [likeL_comm]; exact hL1
      have hL3 : like b a = like a b := by unfold like; rw [likeL_comm]
      obtain ⟨p, hp⟩ : ∃ p, like a b = p := ⟨_, rfl⟩
      rw [hp] at hL3
      have HP := Aside0.mk hp
      have H1 := Aside0.mk hL1
      have H2 := Aside0.mk hL2
      have H3 := Aside0.mk hL3
      have HCS := Aside0.mk hcs
      have hC0 := (Kd.R_reads' hR.out).2.2
      rw [tbs_length] at hC0
      have C0 := Aside0.mk hC0
      clear hT hL1 hL2 hL3 hp hcs hC0 hR hlt
      go_wp2_with (fail)
      refine (like_calls a b (by omega) (by omega) _).mono ?_
      rw [HP.out]
      rintro e w8 ⟨rfl, hb8⟩
      have B8 := Aside0.mk (below_step hB.out hb8)
      have C8 := Aside0.mk (Kd.C_below C0.out hb8)
      clear hb8 hB C0
      go_wp2_with (fail)
      refine (rlike_calls a b (by omega) (by omega) _).mono ?_
      rw [HP.out]
      rintro e w9 ⟨rfl, hb9⟩
      have B9 := Aside0.mk (below_step B8.out hb9)
      have C9 := Aside0.mk (Kd.C_below C8.out hb9)
      clear hb9 B8 C8
      have hconv := Kd.C_string (P := Try.prog) (src := 28) (dst := 9) (c := c7) Try.underlying28 Try.underlying5 Try.underlying9 C9.out
      rw [HCS.out] at hconv
      go_wp2_with (fail)
      refine (like_calls a cs (by omega) hsc _).mono ?_
      rw [H1.out]
      rintro e w10 ⟨rfl, hb10⟩
      have B10 := Aside0.mk (below_step B9.out hb10)
      have C10 := Aside0.mk (Kd.C_below C9.out hb10)
      clear hb10 B9 C9 hconv
      have hconv := Kd.C_string (P := Try.prog) (src := 28) (dst := 9) (c := c7) Try.underlying28 Try.underlying5 Try.underlying9 C10.out
      rw [HCS.out] at hconv
      go_wp2_with (fail)
      refine (like_calls cs a hsc (by omega) _).mono ?_
      rw [H2.out]
      rintro e w11 ⟨rfl, hb11⟩
      have B11 := Aside0.mk (below_step B10.out hb11)
      clear hb11 B10 C10 hconv
      go_wp2_with (fail)
      refine (like_calls b a (by omega) (by omega) _).mono ?_
      rw [H3.out]
      rintro e w12 ⟨rfl, hb12⟩
      have B12 := Aside0.mk (below_step B11.out hb12)
      clear hb12 B11
      go_wp2_with (fail)
      refine (like_calls a b (by omega) (by omega) _).mono ?_
      rw [HP.out]
      rintro e w13 ⟨rfl, hb13⟩
      have B13 := Aside0.mk (below_step B12.out hb13)
      clear hb13 B12
      go_wp2_with (fail)
      refine (lives_calls _).mono ?_
      rintro e w14 ⟨rfl, hb14⟩
      have B14 := Aside0.mk (below_step B13.out hb14)
      clear hb14 B13
      go_wp2
      go_ret
      exact ⟨rfl, B14.out⟩

/-- With the arguments as the row hands them. -/
theorem law (a b : ByteArray) (A : Option Addr) (c : Nat) (l : List Bool) (W : World) (_ : a.size ≤ 140737488351232) (_ : b.size ≤ 140737488351232) (hl : l.length ≤ c) (hC : Kd.bool.C W A l.length l) (_ : l.length ≤ maxLen ∧ ∀ y ∈ l, True) :
    Calls Try.prog 4 #[.string a, .string b, .slice A l.length c] W fun e w' => e = .returned (.bool true) ∧ Below W.heap.size W w' := walk a b A c l W hC hl

end Go.Proofs.Ytpmhbfelhjpalaa.Tlw

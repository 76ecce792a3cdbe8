/- The bytes of messages one behind the other, in plain words; Write and SameAll of the reference. -/
import Derived.Test.YtligkikcfmploaaFOwn
import Derived.Test.YtligkikcfmploaaMsg
namespace Go.Proofs.Ytligkikcfmploaa.FP
open Go.RowKit Go.Proofs.YtligkikcfmploaaW.PrintWords Go.Proofs.YtligkikcfmploaaW.PrintLast Go.Proofs.YtligkikcfmploaaW.PrintMore
open Go.Proofs.Ytligkikcfmploaa.PFrameCuts Go.Proofs.Ytligkikcfmploaa.Base Go.Proofs.Ytligkikcfmploaa.Msg
set_option linter.unusedVariables false
set_option linter.unusedSimpArgs false

theorem opens_msgs : Opens.Opens Try.prog 38 (Kd.slice 24 k24) (fun l : List S24 => l.length ≤ maxLen ∧ ∀ y ∈ l, MsgG y) := Opens.opens_slice Try.underlying38 (by kernel_rfl) opens_msg

theorem bd_of' {l : List Int} (h : BytesG l) : Bd l := fun b hb => by
  have := Go.bounds_u8 (h.2 b hb)
  omega
theorem rmay_f (op id : Int) (l : List Int) (h1 : 0 ≤ op ∧ op < 256) (h2 : 0 ≤ id ∧ id < 4294967296) (h3 : l.length ≤ 4096) : rondelref07_May.f op id l = some true := by
  unfold rondelref07_May.f
  rw [if_pos (by omega), if_pos (by omega), if_pos (by omega), if_pos (by omega), decide_eq_true (by omega)]
theorem rwrite_f (op id : Int) (l : List Int) (h1 : 0 ≤ op ∧ op < 256) (h2 : 0 ≤ id ∧ id < 4294967296) (h3 : l.length ≤ 4096) : rondelref07_Write.f op id l = some (frameBytes op id l, 0) := by
  unfold rondelref07_Write.f
  rw [rmay_f op id l h1 h2 h3]
  simp only [Option.bind_some, if_true]
  rw [show wrap64 (7 + (l.length : Int)) = 7 + (l.length : Int) from IntWalk.wrap64_in _ (by omega), if_pos (by simp; omega)]
  rw [Int.tdiv_eq_ediv_of_nonneg (a := 7 + (l.length : Int)) (by omega), Int.tdiv_eq_ediv_of_nonneg (a := id) (by omega), Int.tdiv_eq_ediv_of_nonneg (a := id) (by omega), Int.tdiv_eq_ediv_of_nonneg (a := id) (by omega), Int.tmod_eq_emod_of_nonneg (a := 7 + (l.length : Int)) (by omega), Int.tmod_eq_emod_of_nonneg (a := id) (by omega)]
  rw [show wrap64 ((7 + (l.length : Int)) / 256) = (7 + (l.length : Int)) / 256 from IntWalk.wrap64_in _ (by omega), show wrap64 (id / 16777216) = id / 16777216 from IntWalk.wrap64_in _ (by omega), show wrap64 (id / 65536) = id / 65536 from IntWalk.wrap64_in _ (by omega), show wrap64 (id / 256) = id / 256 from IntWalk.wrap64_in _ (by omega)]
  rw [Int.tmod_eq_emod_of_nonneg (a := id / 65536) (by omega), Int.tmod_eq_emod_of_nonneg (a := id / 256) (by omega)]
  unfold frameBytes
  rw [show (7 + (l.length : Int)) / 256 % 256 = (7 + (l.length : Int)) / 256 from by omega, show op % 256 = op from by omega, show id / 16777216 % 256 = id / 16777216 from by omega, show (7 + (l.length : Int)) % 256 % 256 = (7 + (l.length : Int)) % 256 from by omega, show id / 65536 % 256 % 256 = id / 65536 % 256 from by omega, show id / 256 % 256 % 256 = id / 256 % 256 from by omega, show id % 256 % 256 = id % 256 from by omega]

/-- What Good makes of a message. -/
def goodP (m : Nat) (y : S24) : S24 := ⟨gd y.f0 256, gd y.f1 4294967296, y.f2.take m⟩
/-- A message that may be. -/
def OkM (y : S24) : Prop := (0 ≤ y.f0 ∧ y.f0 < 256) ∧ (0 ≤ y.f1 ∧ y.f1 < 4294967296) ∧ y.f2.length ≤ 4096 ∧ Bd y.f2
theorem goodP_ok (m : Nat) (y : S24) (h : MsgG y) (hm : m ≤ 4096) : OkM (goodP m y) :=
  ⟨gd_spec _ _ (by omega) (by omega), gd_spec _ _ (by omega) (by omega), by unfold goodP; rw [List.length_take]; omega, (bd_of' h.2.2).take m⟩
/-- Its bytes. -/
def mb (y : S24) : List Int := frameBytes y.f0 y.f1 y.f2
theorem mb_length (y : S24) : (mb y).length = 7 + y.f2.length := frameBytes_length _ _ _
theorem mb_bd {y : S24} (h : OkM y) : Bd (mb y) := frameBytes_bd _ _ _ h.1 h.2.1 h.2.2.1 h.2.2.2
/-- The bytes of messages. -/
def ab : List S24 → List Int
  | [] => []
  | y :: l => mb y ++ ab l
theorem ab_snoc : ∀ (l : List S24) (y : S24), ab (l ++ [y]) = ab l ++ mb y
  | [], y => by simp [ab]
  | x :: l, y => by rw [List.cons_append, ab, ab_snoc l y, ab, List.append_assoc]
theorem ab_bd : ∀ (l : List S24), (∀ y ∈ l, OkM y) → Bd (ab l)
  | [], _ => fun b hb => by simp [ab] at hb
  | y :: l, h => (mb_bd (h y (List.mem_cons_self))).app (ab_bd l (fun z hz => h z (List.mem_cons_of_mem _ hz)))
theorem ab_len (m : Nat) : ∀ (l : List S24), (∀ y ∈ l, y.f2.length ≤ m) → (ab l).length ≤ (7 + m) * l.length
  | [], _ => by simp [ab]
  | y :: l, h => by
    have h1 := ab_len m l (fun z hz => h z (List.mem_cons_of_mem _ hz))
    have h2 := h y List.mem_cons_self
    rw [ab, List.length_append, mb_length, List.length_cons, Nat.mul_add]
    omega

/-- Split of a message's own bytes, and what lies behind. -/
theorem sp_mb {y : S24} (h : OkM y) (t : List Int) : sp (mb y ++ t) = (y :: (sp t).1, 7 + (y.f2.length : Int) + (sp t).2.1, (sp t).2.2) := by
  have e0 : rerr (mb y ++ t) = 0 := rerr_frame _ _ _ _ h.2.2.1
  have e3 : len2 (mb y ++ t) = 7 + (y.f2.length : Int) := len2_frame _ _ _ _
  have e : msg (mb y ++ t) = y := by
    unfold msg
    rw [e3, show (7 + (y.f2.length : Int)).toNat = 7 + y.f2.length from by omega]
    have e1 : (mb y ++ t).getD 2 0 = y.f0 := op_frame _ _ _ _
    have e2 : id4 (mb y ++ t) = y.f1 := id4_frame _ _ _ _ h.2.1
    have e4 : ((mb y ++ t).take (7 + y.f2.length)).drop 7 = y.f2 := body_frame _ _ _ _
    rw [e1, e2, e4]
  rw [sp_ok e0, e, e3, show (7 + (y.f2.length : Int)).toNat = (mb y).length from by rw [mb_length]; omega, List.drop_left]
theorem sp_ab : ∀ (l : List S24) (t : List Int), (∀ y ∈ l, OkM y) → sp (ab l ++ t) = (l ++ (sp t).1, ((ab l).length : Int) + (sp t).2.1, (sp t).2.2)
  | [], t, _ => by simp [ab]
  | y :: l, t, h => by
    rw [ab, List.append_assoc, sp_mb (h y List.mem_cons_self), sp_ab l t (fun z hz => h z (List.mem_cons_of_mem _ hz))]
    simp only [List.cons_append, Prod.mk.injEq, and_true, true_and, List.length_append, mb_length]
    omega

theorem same_f (y : S24) : rondelref07_Same.f y.f0 y.f1 y.f2 y.f0 y.f1 y.f2 = some true := by
  unfold rondelref07_Same.f
  rw [if_pos rfl, if_pos rfl]
  congr 1
  rw [beq_iff_eq]
theorem sameAll_l0 (l : List S24) (hl : l.length ≤ 100000) : ∀ (d i k : Nat), l.length - i = d → i ≤ l.length → d < k → rondelref07_SameAll.l0 k l l (i : Int) = some true := by
  intro d
  induction d with
  | zero =>
    intro i k hd hi hk
    obtain ⟨k, rfl⟩ : ∃ m, k = m + 1 := ⟨k - 1, by omega⟩
    simp only [rondelref07_SameAll.l0]
    rw [if_neg (by omega)]
  | succ d ih =>
    intro i k hd hi hk
    obtain ⟨k, rfl⟩ : ∃ m, k = m + 1 := ⟨k - 1, by omega⟩
    simp only [rondelref07_SameAll.l0, same_f]
    rw [if_pos (by omega), if_pos (by omega), if_pos (by omega), Option.bind_some, if_pos rfl, show wrap64 ((i : Int) + 1) = ((i + 1 : Nat) : Int) from IntWalk.wrap64_in _ (by omega)]
    exact ih (i + 1) k (by omega) (by omega) (by omega)
theorem sameAll_f (l : List S24) (hl : l.length ≤ 100000) : rondelref07_SameAll.f (l.length + 1) l l = some true := by
  have h := sameAll_l0 l hl l.length 0 (l.length + 1) (by omega) (by omega) (by omega)
  rw [show ((0 : Nat) : Int) = 0 from rfl] at h
  unfold rondelref07_SameAll.f
  rw [if_pos rfl, h]

/-- How many messages, at most. -/
theorem spl_len : ∀ (d : Nat) (l : List Int), (spl d l).1.length ≤ l.length
  | 0, l => by simp [spl]
  | d + 1, l => by
    simp only [spl]
    by_cases h0 : l.length = 0
    · rw [if_pos h0]; simp
    · rw [if_neg h0]
      by_cases h1 : rerr l = 0
      · have h2 := rerr_ok h1
        have h3 := spl_len d (l.drop (len2 l).toNat)
        rw [List.length_drop] at h3
        rw [if_pos h1]
        simp only [List.length_cons]
        omega
      · rw [if_neg h1]; simp
theorem sp_len (l : List Int) : (sp l).1.length ≤ l.length := spl_len _ _

/-- Good, then the reference's Write: a message's bytes. -/
theorem gw_len (m : Nat) (y : S24) : (goodP m y).f2.length ≤ m := by unfold goodP; rw [List.length_take]; omega

end Go.Proofs.Ytligkikcfmploaa.FP

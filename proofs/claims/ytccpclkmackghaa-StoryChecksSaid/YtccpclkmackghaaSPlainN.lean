/- The story's plain law: what the program keeps of the steps, and what the document reads off them. -/
import Derived.Test.YtccpclkmackghaaPStoryNox
namespace Go.Proofs.Ytccpclkmackghaa.SPN
open Go.RowKit Go.Proofs.YtccpclkmackghaaW.PrintWords Go.Proofs.YtccpclkmackghaaW.PrintLast Go.Proofs.YtccpclkmackghaaW.PrintMore
open Go.Proofs.Ytccpclkmackghaa.PStoryNo
set_option linter.unusedVariables false

theorem w64 {x : Int} (h : -9223372036854775808 ≤ x ∧ x ≤ 9223372036854775807) : wrap64 x = x := IntWalk.wrap64_in x h

/-- What the program keeps. -/
structure PS where
  n : Int
  c : Int
  o : List Int
  f : List Int

/-- What it answers to a step of kind a, number b. -/
def code (s : PS) (a b : Int) : Int :=
  if a < 0 ∨ 2 < a then 1
  else if (a = 0 ∧ b = s.c + 1) ∨ (a = 1 ∧ b = s.c ∧ s.o = []) ∨ (a = 2 ∧ b = s.f.length + 1 ∧ s.o ≠ []) then 0 else 11
/-- What it keeps behind a step that may be. -/
def nxt (s : PS) (a b : Int) : PS :=
  if a = 0 then ⟨s.n + 1, b, s.o, s.f⟩ else if a = 1 then ⟨s.n + 1, s.c, [b], s.f⟩ else ⟨s.n + 1, s.c, [], s.f ++ s.o⟩

def lastK (k : Int) : Int → List S24 → Int
  | n, [] => n
  | n, x :: l => lastK k (if x.f0 = k then x.f1 else n) l
def opnF : Option Int → List S24 → Option Int
  | o, [] => o
  | o, x :: l => opnF (if x.f0 = 2 then none else if x.f0 = 1 then some x.f1 else o) l
def frF : Int → List Int → List S24 → List Int
  | n, out, [] => out
  | n, out, x :: l => frF (if x.f0 = 1 then x.f1 else n) (if x.f0 = 2 then out ++ [n] else out) l

theorem lastK_snoc (k : Int) (x : S24) : ∀ (l : List S24) (n : Int), lastK k n (l ++ [x]) = if x.f0 = k then x.f1 else lastK k n l
  | [], n => rfl
  | y :: l, n => lastK_snoc k x l _
theorem opnF_snoc (x : S24) : ∀ (l : List S24) (o : Option Int), opnF o (l ++ [x]) = if x.f0 = 2 then none else if x.f0 = 1 then some x.f1 else opnF o l
  | [], o => rfl
  | y :: l, o => opnF_snoc x l _
theorem frF_snoc (x : S24) : ∀ (l : List S24) (n : Int) (out : List Int), frF n out (l ++ [x]) = if x.f0 = 2 then frF n out l ++ [lastK 1 n l] else frF n out l
  | [], n, out => rfl
  | y :: l, n, out => frF_snoc x l _ _

/-- Steps that may be, and what the program keeps behind them. -/
inductive V : List S24 → PS → Prop
  | nil : V [] ⟨0, 0, [], []⟩
  | snoc {l : List S24} {s : PS} (x : S24) : V l s → code s x.f0 x.f1 = 0 → V (l ++ [x]) (nxt s x.f0 x.f1)

theorem code_zero {s : PS} {a b : Int} (h : code s a b = 0) : (a = 0 ∧ b = s.c + 1) ∨ (a = 1 ∧ b = s.c ∧ s.o = []) ∨ (a = 2 ∧ b = s.f.length + 1 ∧ s.o ≠ []) := by
  unfold code at h
  by_cases h1 : a < 0 ∨ 2 < a
  · rw [if_pos h1] at h; omega
  · rw [if_neg h1] at h
    by_cases h2 : (a = 0 ∧ b = s.c + 1) ∨ (a = 1 ∧ b = s.c ∧ s.o = []) ∨ (a = 2 ∧ b = s.f.length + 1 ∧ s.o ≠ [])
    · exact h2
    · rw [if_neg h2] at h; omega

/-- What is kept behind a step, whatever step. -/
def stp (s : PS) (a b : Int) : PS := if code s a b = 0 then nxt s a b else s
/-- What is kept behind steps that may be. -/
def run (l : List S24) : PS := l.foldl (fun s x => nxt s x.f0 x.f1) ⟨0, 0, [], []⟩
theorem run_snoc (l : List S24) (x : S24) : run (l ++ [x]) = nxt (run l) x.f0 x.f1 := by simp [run]
theorem V.run {l : List S24} {s : PS} (h : V l s) : s = run l := by
  induction h with
  | nil => rfl
  | snoc x h hc ih => rw [run_snoc, ← ih]
theorem V.at_ {l : List S24} {s : PS} (h : V l s) : ∀ i, i ≤ l.length → V (l.take i) (SPN.run (l.take i)) := by
  induction h with
  | nil => intro i hi; rw [List.take_nil]; exact V.nil
  | @snoc l s x h hc ih =>
    intro i hi
    by_cases e : i ≤ l.length
    · rw [List.take_append_of_le_length e]; exact ih i e
    · rw [List.take_of_length_le (by simp at hi ⊢; omega), run_snoc, ← h.run]
      exact V.snoc x h hc
theorem V.code_at {l : List S24} {s : PS} (h : V l s) : ∀ i (hi : i < l.length), code (SPN.run (l.take i)) l[i].f0 l[i].f1 = 0 := by
  induction h with
  | nil => intro i hi; simp at hi
  | @snoc l s x h hc ih =>
    intro i hi
    by_cases e : i < l.length
    · rw [List.take_append_of_le_length (by omega), List.getElem_append_left e]; exact ih i e
    · have e2 : i = l.length := by simp at hi; omega
      subst e2
      rw [List.take_left, List.getElem_concat_length rfl, ← h.run]
      exact hc
theorem run_take (l : List S24) (i : Nat) (h : i < l.length) : run (l.take (i + 1)) = nxt (run (l.take i)) l[i].f0 l[i].f1 := by
  rw [List.take_succ_eq_append_getElem h, run_snoc]

structure Good (l : List S24) (s : PS) : Prop where
  n : s.n = l.length
  c : s.c = lastK 0 0 l
  c0 : 0 ≤ s.c
  c1 : s.c ≤ l.length
  fl : s.f.length ≤ l.length
  f2 : (s.f.length : Int) = lastK 2 0 l
  f : s.f = frF 0 [] l
  o : s.o = (opnF none l).toList
  ov : ∀ v, opnF none l = some v → v = lastK 1 0 l

theorem V.good {l : List S24} {s : PS} (h : V l s) : Good l s := by
  induction h with
  | nil => exact ⟨rfl, rfl, Int.le_refl _, Int.le_refl _, Nat.le_refl _, rfl, rfl, rfl, fun v hv => by simp [opnF] at hv⟩
  | @snoc l s x h hc ih =>
    have hl : ((l ++ [x]).length : Int) = l.length + 1 := by simp
    have hln : (l ++ [x]).length = l.length + 1 := by simp
    have q1 := ih.c1
    have q0 := ih.c0
    have q2 := ih.fl
    have qn := ih.n
    rcases code_zero hc with ⟨ha, hb⟩ | ⟨ha, hb, ho⟩ | ⟨ha, hb, ho⟩
    · have en : nxt s x.f0 x.f1 = ⟨s.n + 1, x.f1, s.o, s.f⟩ := by unfold nxt; rw [if_pos ha]
      rw [en]
      refine ⟨by dsimp only; omega, ?_, by dsimp only; omega, by dsimp only; omega, by dsimp only; omega, ?_, ?_, ?_, ?_⟩ <;> try dsimp only
      · rw [lastK_snoc, if_pos ha]
      · rw [lastK_snoc, if_neg (by omega)]; exact ih.f2
      · rw [frF_snoc, if_neg (by omega)]; exact ih.f
      · rw [opnF_snoc, if_neg (by omega), if_neg (by omega)]; exact ih.o
      · rw [opnF_snoc, if_neg (by omega), if_neg (by omega), lastK_snoc, if_neg (by omega)]; exact ih.ov
    · have en : nxt s x.f0 x.f1 = ⟨s.n + 1, s.c, [x.f1], s.f⟩ := by unfold nxt; rw [if_neg (by omega), if_pos ha]
      rw [en]
      refine ⟨by dsimp only; omega, ?_, by dsimp only; omega, by dsimp only; omega, by dsimp only; omega, ?_, ?_, ?_, ?_⟩ <;> try dsimp only
      · rw [lastK_snoc, if_neg (by omega)]; exact ih.c
      · rw [lastK_snoc, if_neg (by omega)]; exact ih.f2
      · rw [frF_snoc, if_neg (by omega)]; exact ih.f
      · rw [opnF_snoc, if_neg (by omega), if_pos ha]; rfl
      · rw [opnF_snoc, if_neg (by omega), if_pos ha, lastK_snoc, if_pos ha]; intro v hv; injection hv with hv; exact hv.symm
    · have en : nxt s x.f0 x.f1 = ⟨s.n + 1, s.c, [], s.f ++ s.o⟩ := by unfold nxt; rw [if_neg (by omega), if_neg (by omega)]
      obtain ⟨v, hv⟩ : ∃ v, opnF none l = some v := by
        cases e : opnF none l with
        | none => rw [ih.o, e] at ho; exact absurd rfl ho
        | some v => exact ⟨v, rfl⟩
      have hov := ih.ov v hv
      have eo : s.o = [v] := by rw [ih.o, hv]; rfl
      have elen : (s.f ++ s.o).length = s.f.length + 1 := by rw [eo]; simp
      rw [en]
      refine ⟨by dsimp only; omega, ?_, by dsimp only; omega, by dsimp only; omega, by dsimp only; omega, ?_, ?_, ?_, ?_⟩ <;> try dsimp only
      · rw [lastK_snoc, if_neg (by omega)]; exact ih.c
      · rw [lastK_snoc, if_pos ha, elen, hb]; rfl
      · rw [frF_snoc, if_pos ha, eo, hov, ih.f]
      · rw [opnF_snoc, if_pos ha]; rfl
      · rw [opnF_snoc, if_pos ha]; intro v hv; cases hv

/-- The numbers are small. -/
structure Sm (s : PS) : Prop where
  n : 0 ≤ s.n ∧ s.n ≤ 1000000
  c : 0 ≤ s.c ∧ s.c ≤ 1000000
  f : s.f.length ≤ 1000000
  o : s.o.length ≤ 1
theorem V.sm {l : List S24} {s : PS} (h : V l s) (hl : l.length ≤ 1000000) : Sm s := by
  have G := h.good
  refine ⟨⟨by rw [G.n]; omega, by rw [G.n]; omega⟩, ⟨G.c0, Int.le_trans G.c1 (by omega)⟩, Nat.le_trans G.fl hl, ?_⟩
  rw [G.o]
  cases opnF none l <;> simp

theorem rd_at (l : List S24) (i : Nat) (h : i < l.length) : rd_T24 l (i : Int) = l[i] := by
  unfold rd_T24
  simp [List.getElem?_eq_getElem h]

theorem last_l0 (l : List S24) (hl : l.length ≤ 1000000) (kd : Int) : ∀ (d i : Nat) (n : Int) (k : Nat), l.length - i = d → i ≤ l.length → d + 1 ≤ k → rondelref21_last.l0 k l kd n (i : Int) = some (lastK kd n (l.drop i)) := by
  intro d
  induction d with
  | zero =>
    intro i n k hd hi hk
    obtain ⟨k, rfl⟩ : ∃ m, k = m + 1 := ⟨k - 1, by omega⟩
    simp only [rondelref21_last.l0]
    rw [if_neg (by omega), List.drop_of_length_le (by omega)]
    rfl
  | succ d ih =>
    intro i n k hd hi hk
    obtain ⟨k, rfl⟩ : ∃ m, k = m + 1 := ⟨k - 1, by omega⟩
    have h1 : i < l.length := by omega
    simp only [rondelref21_last.l0]
    rw [if_pos (by omega), if_pos (by omega), rd_at l i h1, show wrap64 ((i : Int) + 1) = ((i + 1 : Nat) : Int) from w64 (by omega), List.drop_eq_getElem_cons h1, lastK]
    by_cases e : l[i].f0 = kd
    · rw [if_pos e, if_pos e]; exact ih (i + 1) _ k (by omega) (by omega) (by omega)
    · rw [if_neg e, if_neg e]; exact ih (i + 1) _ k (by omega) (by omega) (by omega)
theorem last_f (l : List S24) (hl : l.length ≤ 1000000) (kd : Int) (k : Nat) (hk : l.length + 1 ≤ k) : rondelref21_last.f k l kd = some (lastK kd 0 l) := by
  have := last_l0 l hl kd l.length 0 0 k (by omega) (by omega) hk
  rw [List.drop_zero] at this
  exact this

/-- Of what is open: the pair that is handed back. -/
def oP : Option Int → Int × Bool
  | none => (0, false)
  | some v => (v, true)
theorem open_l0 (l : List S24) (hl : l.length ≤ 1000000) : ∀ (i k : Nat), i ≤ l.length → i + 1 ≤ k → rondelref21_Open.l0 k l ((i : Int) - 1) = some (oP (opnF none (l.take i))) := by
  intro i
  induction i with
  | zero =>
    intro k hi hk
    obtain ⟨k, rfl⟩ : ∃ m, k = m + 1 := ⟨k - 1, by omega⟩
    simp only [rondelref21_Open.l0]
    rw [if_neg (by omega)]
    rfl
  | succ i ih =>
    intro k hi hk
    obtain ⟨k, rfl⟩ : ∃ m, k = m + 1 := ⟨k - 1, by omega⟩
    have h1 : i < l.length := by omega
    have e0 : (((i + 1 : Nat) : Int) - 1) = (i : Int) := by omega
    simp only [rondelref21_Open.l0]
    rw [e0, if_pos (by omega), if_pos (by omega), if_pos (by omega), rd_at l i h1, show l.take (i + 1) = l.take i ++ [l[i]] from by rw [List.take_succ_eq_append_getElem h1], opnF_snoc]
    by_cases e2 : l[i].f0 = 2
    · rw [if_pos e2, if_pos e2]; rfl
    · rw [if_neg e2, if_neg e2]
      by_cases e1 : l[i].f0 = 1
      · rw [if_pos e1, if_pos e1]; rfl
      · rw [if_neg e1, if_neg e1, show wrap64 ((i : Int) - 1) = (i : Int) - 1 from w64 (by omega)]
        exact ih k (by omega) (by omega)
theorem open_f (l : List S24) (hl : l.length ≤ 1000000) (k : Nat) (hk : l.length + 1 ≤ k) : rondelref21_Open.f k l = some (oP (opnF none l)) := by
  unfold rondelref21_Open.f
  rw [w64 (by omega)]
  have := open_l0 l hl l.length k (Nat.le_refl _) hk
  rw [List.take_length] at this
  exact this

theorem add_f {l : List S24} {s : PS} (h : V l s) (hl : l.length ≤ 100000) (a b : Int) (k : Nat) (hk : l.length + 5 ≤ k) :
    rondelref21_Add.f k l a b = some (if code s a b = 0 then l ++ [⟨a, b⟩] else l, code s a b) := by
  have G := h.good
  have q1 := G.c1
  have q0 := G.c0
  have q2 := G.fl
  have qf := G.f2
  have qc := G.c
  unfold rondelref21_Add.f
  obtain ⟨k, rfl⟩ : ∃ m, k = m + 2 := ⟨k - 2, by omega⟩
  have hO := open_f l (by omega) (k + 1) (by omega)
  have hL0 := last_f l (by omega) 0 (k + 1) (by omega)
  have hL2 := last_f l (by omega) 2 k (by omega)
  have eo : ((oP (opnF none l)).2 = true ↔ s.o ≠ []) := by
    rw [G.o]
    cases opnF none l <;> simp [oP, Option.toList]
  have happ : ∀ (x : S24), ((if ([] : List (S24)).length + l.length < 8796093022208 then ((some (([] : List (S24)) ++ l : List (S24))).bind fun y112 => (if y112.length < 8796093022208 then (some ((y112 ++ [x]), (0 : Int))) else (none))) else (none)) : Option ((List (S24)) × Int)) = some (l ++ [x], 0) := by
    intro x
    rw [if_pos (by simp only [List.length_nil]; omega)]
    simp only [List.nil_append, Option.bind_some]
    rw [if_pos (by omega)]
  by_cases h1 : a < 0
  · rw [if_pos h1]
    have ec : code s a b = 1 := by unfold code; rw [if_pos (.inl h1)]
    simp only [rondelref21_Add.j0]
    rw [ec]
    simp
  · rw [if_neg h1]
    by_cases h2 : 2 < a
    · have ec : code s a b = 1 := by unfold code; rw [if_pos (.inr h2)]
      simp only [rondelref21_Add.j0]
      rw [ec, decide_eq_true (show a > 2 from h2)]
      simp
    · simp only [rondelref21_Add.j0]
      rw [decide_eq_false (show ¬ a > 2 from h2), if_neg (by decide), hO, hL0]
      simp only [Option.bind_some]
      have ec : code s a b = if (a = 0 ∧ b = s.c + 1) ∨ (a = 1 ∧ b = s.c ∧ s.o = []) ∨ (a = 2 ∧ b = s.f.length + 1 ∧ s.o ≠ []) then 0 else 11 := by
        unfold code; rw [if_neg (by omega)]
      have z0 : (a = 0 ∧ b = s.c + 1) ∨ (a = 1 ∧ b = s.c ∧ s.o = []) ∨ (a = 2 ∧ b = s.f.length + 1 ∧ s.o ≠ []) → code s a b = 0 := fun hh => by rw [ec, if_pos hh]
      have z1 : ¬ ((a = 0 ∧ b = s.c + 1) ∨ (a = 1 ∧ b = s.c ∧ s.o = []) ∨ (a = 2 ∧ b = s.f.length + 1 ∧ s.o ≠ [])) → code s a b = 11 := fun hh => by rw [ec, if_neg hh]
      clear ec
      have i0 : ∀ (p q : List S24), (if (0 : Int) = 0 then p else q) = p := fun p q => if_pos rfl
      have i1 : ∀ (p q : List S24), (if (11 : Int) = 0 then p else q) = q := fun p q => if_neg (by decide)
      by_cases e1 : a = 1
      · rw [if_pos e1]
        by_cases eb : b = lastK 0 0 l
        · rw [if_pos eb]
          simp only [rondelref21_Add.j1]
          rw [if_neg (by omega)]
          by_cases eO : s.o = []
          · have e2 : (oP (opnF none l)).2 = false := by
              cases e : (oP (opnF none l)).2
              · rfl
              · exact absurd eO (eo.1 e)
            rw [e2, z0 (.inr (.inl ⟨e1, by omega, eO⟩)), i0, if_pos (by rfl), happ]
          · have e2 := eo.2 eO
            rw [e2, z1 (by rintro (⟨hh, _⟩ | ⟨_, _, hh⟩ | ⟨hh, _⟩); · omega
                           · exact eO hh
                           · omega), i1, if_neg (by decide)]
        · rw [if_neg eb]
          simp only [rondelref21_Add.j1]
          rw [if_neg (by omega), if_neg (by decide), z1 (by omega), i1]
      · rw [if_neg e1]
        simp only [rondelref21_Add.j1]
        by_cases e2 : a = 2
        · rw [if_pos e2, hL2, Option.bind_some, w64 (by omega)]
          by_cases eb : b = lastK 2 0 l + 1
          · rw [if_pos eb]
            by_cases eO : s.o = []
            · have e3 : ¬ ((oP (opnF none l)).2 = true) := fun hh => eo.1 hh eO
              rw [if_neg e3, z1 (by rintro (⟨hh, _⟩ | ⟨hh, _⟩ | ⟨_, _, hh⟩); · omega
                                    · omega
                                    · exact hh eO), i1]
            · rw [if_pos (eo.2 eO), happ, z0 (.inr (.inr ⟨e2, by omega, eO⟩)), i0]
          · rw [if_neg eb, z1 (by omega), i1]
        · rw [if_neg e2]
          have e0 : a = 0 := by omega
          rw [w64 (by omega)]
          by_cases eb : b = lastK 0 0 l + 1
          · have e3 : (b == lastK 0 0 l + 1) = true := by rw [beq_iff_eq]; exact eb
            rw [e3, if_pos rfl, happ, z0 (.inl ⟨e0, by omega⟩), i0]
          · have e3 : (b == lastK 0 0 l + 1) = false := by rw [beq_eq_false_iff_ne]; exact eb
            rw [e3, if_neg (by decide), z1 (by omega), i1]

theorem as_l0 (l : List S24) (hl : l.length ≤ 1000000) : ∀ (d i : Nat) (out : List S31) (k : Nat), l.length - i = d → i ≤ l.length → out.length = i → d + 1 ≤ k → rondellaw21_as.l0 k l out (i : Int) = some (out ++ (l.drop i).map (fun x => ⟨x.f0, x.f1⟩)) := by
  intro d
  induction d with
  | zero =>
    intro i out k hd hi ho hk
    obtain ⟨k, rfl⟩ : ∃ m, k = m + 1 := ⟨k - 1, by omega⟩
    simp only [rondellaw21_as.l0]
    rw [if_neg (by omega), List.drop_of_length_le (by omega)]
    simp
  | succ d ih =>
    intro i out k hd hi ho hk
    obtain ⟨k, rfl⟩ : ∃ m, k = m + 1 := ⟨k - 1, by omega⟩
    have h1 : i < l.length := by omega
    simp only [rondellaw21_as.l0]
    rw [if_pos (by omega), if_pos (by omega), if_pos (by omega), rd_at l i h1, show wrap64 ((i : Int) + 1) = ((i + 1 : Nat) : Int) from w64 (by omega), ih (i + 1) _ k (by omega) (by omega) (by simp [ho]) (by omega), List.drop_eq_getElem_cons h1, List.append_assoc]
    rfl
theorem as_f (l : List S24) (hl : l.length ≤ 1000000) (k : Nat) (hk : l.length + 1 ≤ k) : rondellaw21_as.f k l = some (l.map (fun x => ⟨x.f0, x.f1⟩)) := by
  have := as_l0 l hl l.length 0 [] k (by omega) (by omega) rfl hk
  rw [List.drop_zero, List.nil_append] at this
  exact this

theorem same_l0 (l : List Int) (hl : l.length ≤ 1000000) : ∀ (d i k : Nat), l.length - i = d → i ≤ l.length → d + 1 ≤ k → rondelref11_Same.l0 k l l (i : Int) = some true := by
  intro d
  induction d with
  | zero =>
    intro i k hd hi hk
    obtain ⟨k, rfl⟩ : ∃ m, k = m + 1 := ⟨k - 1, by omega⟩
    simp only [rondelref11_Same.l0]
    rw [if_neg (by omega)]
  | succ d ih =>
    intro i k hd hi hk
    obtain ⟨k, rfl⟩ : ∃ m, k = m + 1 := ⟨k - 1, by omega⟩
    simp only [rondelref11_Same.l0]
    rw [if_pos (by omega), if_pos (by omega), if_pos (by omega), if_pos trivial, show wrap64 ((i : Int) + 1) = ((i + 1 : Nat) : Int) from w64 (by omega)]
    exact ih (i + 1) k (by omega) (by omega) (by omega)
theorem same_f (l : List Int) (hl : l.length ≤ 1000000) (k : Nat) (hk : l.length + 1 ≤ k) : rondelref11_Same.f k l l = some true := by
  unfold rondelref11_Same.f
  rw [if_pos rfl]
  exact same_l0 l hl l.length 0 k (by omega) (by omega) hk

theorem frames_l0 (l : List S24) (hl : l.length ≤ 1000000) : ∀ (d i : Nat) (out : List Int) (n : Int) (k : Nat), l.length - i = d → i ≤ l.length → out.length ≤ i → d + 1 ≤ k → rondelref21_Frames.l0 k l out n (i : Int) = some (frF n out (l.drop i)) := by
  intro d
  induction d with
  | zero =>
    intro i out n k hd hi ho hk
    obtain ⟨k, rfl⟩ : ∃ m, k = m + 1 := ⟨k - 1, by omega⟩
    simp only [rondelref21_Frames.l0]
    rw [if_neg (by omega), List.drop_of_length_le (by omega)]
    rfl
  | succ d ih =>
    intro i out n k hd hi ho hk
    obtain ⟨k, rfl⟩ : ∃ m, k = m + 1 := ⟨k - 1, by omega⟩
    have h1 : i < l.length := by omega
    simp only [rondelref21_Frames.l0]
    rw [if_pos (by omega), if_pos (by omega), rd_at l i h1, show wrap64 ((i : Int) + 1) = ((i + 1 : Nat) : Int) from w64 (by omega), List.drop_eq_getElem_cons h1, frF]
    by_cases e1 : l[i].f0 = 1
    · rw [if_pos e1, if_neg (by omega), if_pos e1, if_neg (by omega)]
      exact ih (i + 1) _ _ k (by omega) (by omega) (by omega) (by omega)
    · rw [if_neg e1, if_neg e1]
      by_cases e2 : l[i].f0 = 2
      · rw [if_pos e2, if_pos e2, if_pos (by omega)]
        exact ih (i + 1) _ _ k (by omega) (by omega) (by simp; omega) (by omega)
      · rw [if_neg e2, if_neg e2]
        exact ih (i + 1) _ _ k (by omega) (by omega) (by omega) (by omega)
theorem frames_f (l : List S24) (hl : l.length ≤ 1000000) (k : Nat) (hk : l.length + 1 ≤ k) : rondelref21_Frames.f k l = some (frF 0 [] l) := by
  have := frames_l0 l hl l.length 0 [] 0 k (by omega) (by omega) (by simp) hk
  rw [List.drop_zero] at this
  exact this
/-- A step that may be is added. -/
theorem add_ok {l : List S24} {s : PS} (h : V l s) (hl : l.length ≤ 100000) (a b : Int) (hc : code s a b = 0) (k : Nat) (hk : l.length + 5 ≤ k) :
    rondelref21_Add.f k l a b = some (l ++ [⟨a, b⟩], 0) := by rw [add_f h hl a b k hk, hc, if_pos rfl]

theorem good_l0 (ns : List Int) (hn : ns.length ≤ 1000) : ∀ (d i : Nat) (l : List S24) (s : PS) (k : Nat), ns.length - i = d → i ≤ ns.length → V l s → l.length + d ≤ 100000 → 5 * d + l.length + d + 20 ≤ k →
    ∃ g s', rondelref21_Good.l0 k ns l (i : Int) = some g ∧ V g s' ∧ g.length = l.length + d := by
  intro d
  induction d with
  | zero =>
    intro i l s k hd hi h hl hk
    obtain ⟨k, rfl⟩ : ∃ m, k = m + 1 := ⟨k - 1, by omega⟩
    refine ⟨l, s, ?_, h, rfl⟩
    simp only [rondelref21_Good.l0]
    rw [if_neg (by omega)]
  | succ d ih =>
    intro i l s k hd hi h hl hk
    obtain ⟨k, rfl⟩ : ∃ m, k = m + 5 := ⟨k - 5, by omega⟩
    have G := h.good
    have q1 := G.c1
    have q0 := G.c0
    have q2 := G.fl
    have qf := G.f2
    have qc := G.c
    -- whatever step is taken, it may be
    have fin : ∀ (a b : Int), code s a b = 0 → ∃ g s', ((rondelref21_Add.f (k + 1 - 1) l a b).bind fun bt => rondelref21_Good.l0 k ns bt.1 (wrap64 ((i : Int) + 1))) = some g ∧ V g s' ∧ g.length = l.length + (d + 1) := by
      intro a b hc
      rw [Nat.add_sub_cancel, add_ok h (by omega) a b hc k (by omega), Option.bind_some, show wrap64 ((i : Int) + 1) = ((i + 1 : Nat) : Int) from w64 (by omega)]
      obtain ⟨g, s', e, hv, hg⟩ := ih (i + 1) (l ++ [⟨a, b⟩]) (nxt s a b) k (by omega) (by omega) (V.snoc ⟨a, b⟩ h hc) (by simp; omega) (by simp; omega)
      exact ⟨g, s', e, hv, by rw [hg]; simp; omega⟩
    rw [Nat.add_sub_cancel] at fin
    have c0 : code s 0 (lastK 0 0 l + 1) = 0 := by unfold code; rw [if_neg (by omega), if_pos (.inl ⟨rfl, by omega⟩)]
    have c1 : s.o = [] → code s 1 (lastK 0 0 l) = 0 := fun ho => by unfold code; rw [if_neg (by omega), if_pos (.inr (.inl ⟨rfl, by omega, ho⟩))]
    have c2 : s.o ≠ [] → code s 2 (lastK 2 0 l + 1) = 0 := fun ho => by unfold code; rw [if_neg (by omega), if_pos (.inr (.inr ⟨rfl, by omega, ho⟩))]
    have eo : ((oP (opnF none l)).2 = true ↔ s.o ≠ []) := by
      rw [G.o]
      cases opnF none l <;> simp [oP, Option.toList]
    have j4 : ∀ (op : Bool) (a b : Int), (op = true → s.o ≠ []) → code s a b = 0 → ∃ g s', rondelref21_Good.j4 (k + 1) ns l (i : Int) op a b = some g ∧ V g s' ∧ g.length = l.length + (d + 1) := by
      intro op a b hop hc
      simp only [rondelref21_Good.j4]
      by_cases e : op = true
      · rw [if_pos e, last_f l (by omega) 2 k (by omega), Option.bind_some, w64 (by omega)]
        exact fin _ _ (c2 (hop e))
      · rw [if_neg e]
        exact fin _ _ hc
    have j3 : ∀ (m : Int) (op : Bool) (a b : Int), (op = true → s.o ≠ []) → code s a b = 0 → ∃ g s', rondelref21_Good.j3 (k + 2) ns l (i : Int) m op a b = some g ∧ V g s' ∧ g.length = l.length + (d + 1) := by
      intro m op a b hop hc
      simp only [rondelref21_Good.j3]
      by_cases e : m = 2
      · rw [if_pos e]; exact j4 op a b hop hc
      · rw [if_neg e]; exact j4 false a b (fun e => by cases e) hc
    have j2 : ∀ (m : Int) (op cl : Bool) (a b : Int), (op = true → s.o ≠ []) → (cl = true → s.o = []) → code s a b = 0 → ∃ g s', rondelref21_Good.j2 (k + 3) ns l (i : Int) m op cl a b = some g ∧ V g s' ∧ g.length = l.length + (d + 1) := by
      intro m op cl a b hop hcl hc
      simp only [rondelref21_Good.j2]
      by_cases e : cl = true
      · rw [if_pos e, last_f l (by omega) 0 (k + 2) (by omega), Option.bind_some]; exact j3 m op 1 _ hop (c1 (hcl e))
      · rw [if_neg e]; exact j3 m op a b hop hc
    have j1 : ∀ (m : Int), ∃ g s', rondelref21_Good.j1 (k + 4) ns l (i : Int) m = some g ∧ V g s' ∧ g.length = l.length + (d + 1) := by
      intro m
      simp only [rondelref21_Good.j1]
      rw [open_f l (by omega) (k + 3) (by omega), last_f l (by omega) 0 (k + 3) (by omega), Option.bind_some, Option.bind_some, w64 (by omega)]
      have hcl : (!(oP (opnF none l)).2) = true → s.o = [] := fun e => by
        cases e2 : (oP (opnF none l)).2
        · exact Classical.byContradiction fun hn => by rw [eo.2 hn] at e2; cases e2
        · rw [e2] at e; cases e
      by_cases e : m = 1
      · rw [if_pos e]; exact j2 m _ _ _ _ eo.1 hcl c0
      · rw [if_neg e]; exact j2 m _ _ _ _ eo.1 (fun e => by cases e) c0
    simp only [rondelref21_Good.l0]
    rw [if_pos (by omega), if_pos (by omega)]
    by_cases e : Int.tmod (rd ns (i : Int)) 3 < 0
    · rw [if_pos e]; exact j1 _
    · rw [if_neg e]; exact j1 _
theorem good_f (ns : List Int) (hn : ns.length ≤ 1000) : ∃ k g s, rondelref21_Good.f k ns = some g ∧ V g s ∧ g.length = ns.length := by
  obtain ⟨g, s, e, hv, hg⟩ := good_l0 ns hn ns.length 0 [] ⟨0, 0, [], []⟩ (5 * ns.length + ns.length + 20) (by omega) (by omega) V.nil (by simp; omega) (by simp)
  exact ⟨_, g, s, e, hv, by rw [hg]; simp⟩
end Go.Proofs.Ytccpclkmackghaa.SPN

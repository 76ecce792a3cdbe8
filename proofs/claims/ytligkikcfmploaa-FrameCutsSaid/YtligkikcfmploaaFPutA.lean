/- A reader told one more piece, broken or whole; what it told so far is kept beside it. -/
import Derived.Test.YtligkikcfmploaaFPut
namespace Go.Proofs.Ytligkikcfmploaa.FP
open Go.RowKit Go.Proofs.YtligkikcfmploaaW.PrintWords Go.Proofs.YtligkikcfmploaaW.PrintLast Go.Proofs.YtligkikcfmploaaW.PrintMore
open Go.Proofs.Ytligkikcfmploaa.PFrameCuts Go.Proofs.Ytligkikcfmploaa.Base Go.Proofs.Ytligkikcfmploaa.Msg
set_option linter.unusedVariables false
set_option linter.unusedSimpArgs false

/-- A reader at block g, told P; what it told so far lies at v. -/
def Rdr (w0 : World) (g : Nat) (P : List Int) (v : Value) (w : World) : Prop :=
  ∃ A c, w.heap[g]? = some (.cells #[.slice A (rb P).length c, .bool (decide ((sp P).2.2 = 2))] 47 (0, 0)) ∧ (Kd.int .u8).R 5 w w0.heap.size (fun _ => True) (.slice A (rb P).length c) (rb P) ∧
    k24.R 24 w w0.heap.size (fun q => q ≠ g ∧ some q ≠ (Value.slice A (rb P).length c).ownBlock) v (sp P).1 ∧ Below w0.heap.size w0 w

/-- The messages that one more piece tells. -/
def newM (P p : List Int) : List S24 := if (sp P).2.2 = 2 then [] else (sp (rb P ++ p)).1
theorem newM_eq (P p : List Int) : (sp (P ++ p)).1 = (sp P).1 ++ newM P p := by
  unfold newM
  by_cases h : (sp P).2.2 = 2
  · rw [if_pos h, sp_app2 p h, List.append_nil]
  · rw [if_neg h, (rb_step p h).1]

/-- Behind Put: the reader, and the messages told, apart from what was told before. -/
def PutQ (w0 : World) (g : Nat) (P p : List Int) (v : Value) (e : Ending) (W' : World) : Prop :=
  ∃ A m c A' c', e = .returned (.slice A m c) ∧ m = (newM P p).length ∧ Aside0 (W'.heap[g]? = some (.cells #[.slice A' (rb (P ++ p)).length c', .bool (decide ((sp (P ++ p)).2.2 = 2))] 47 (0, 0))) ∧ Aside0 ((Kd.int .u8).R 5 W' w0.heap.size (fun _ => True) (.slice A' (rb (P ++ p)).length c') (rb (P ++ p))) ∧
    Aside0 (k24.R 24 W' w0.heap.size (fun q => q ≠ g ∧ some q ≠ (Value.slice A' (rb (P ++ p)).length c').ownBlock) v (sp P).1) ∧
    Aside0 (ReadsRow (k24.M W' w0.heap.size (fun q => (q ≠ g ∧ some q ≠ (Value.slice A' (rb (P ++ p)).length c').ownBlock) ∧ some q ≠ v.ownBlock)) 3 W' A m (newM P p)) ∧ Aside0 (Below w0.heap.size w0 W')

theorem put_any (w0 W : World) (g : Nat) (P p : List Int) (v : Value) (hg : w0.heap.size ≤ g) (h : Rdr w0 g P v W) (Ap : Option Addr) (cp : Nat) (hC : (Kd.int .u8).C W Ap p.length p) (hcp : p.length ≤ cp) (hP : Bd P) (hp : Bd p) (hl : P.length + p.length ≤ 100000) :
    Calls Try.prog 24 #[.pointer (some ⟨g, 0, none⟩), .slice Ap p.length cp] W (PutQ w0 g P p v) := by
  obtain ⟨A, c, hG, hR, hV, hB⟩ := h
  have hgl := blk_lt hG
  by_cases h2 : (sp P).2.2 = 2
  · have hb : rb P = [] := by unfold rb; rw [if_pos h2]
    rw [decide_eq_true h2] at hG
    refine (put_broken g _ _ W hG).mono ?_
    rintro e W' ⟨rfl, rfl⟩
    have hs := sp_app2 p h2
    have hb2 : rb (P ++ p) = rb P := by unfold rb; rw [hs, if_pos h2, if_pos h2]
    have hn : newM P p = [] := by unfold newM; rw [if_pos h2]
    refine ⟨none, 0, 0, A, c, rfl, by rw [hn]; rfl, ⟨?_⟩, ⟨?_⟩, ⟨?_⟩, ⟨?_⟩, ⟨hB⟩⟩
    · rw [hb2, hs, decide_eq_true h2]; exact hG
    · rw [hb2]; exact hR
    · rw [hb2]; exact hV
    · rw [hn]
      exact ⟨rfl, Nat.zero_le _, fun h => absurd h (by omega)⟩
  · rw [decide_eq_false h2] at hG
    have hrl := rb_len P
    refine (put_calls w0 W g A c (rb P) Ap cp p hB hg hG hR hC hcp (rb_bd hP) hp (by omega)).mono ?_
    rintro e W' ⟨vl, A', c', rfl, hRl, hG', hR', hB', hK⟩
    obtain ⟨s1, s2, s3⟩ := rb_step p h2
    have hn : newM P p = (sp (rb P ++ p)).1 := by unfold newM; rw [if_neg h2]
    rw [← hn] at hRl
    rw [← s2, ← s3] at hG'
    rw [← s3] at hR' hRl
    obtain ⟨inner, how, hreps⟩ := hRl.2
    obtain ⟨Al, cl, hvl, hrr⟩ := own_reads_row how hreps rfl
    have hvo : ∀ q, v.ownBlock = some q → q < W.heap.size := fun q hq => by
      obtain ⟨_, ho⟩ := Kd.R_own hV
      exact own_lt ho q hq
    refine ⟨Al, _, cl, A', c', by rw [hvl], rfl, ⟨hG'⟩, ⟨Kd.R_mono hR' (fun _ _ => trivial)⟩, ⟨?_⟩, ⟨?_⟩, ⟨hB'⟩⟩
    · have h1 := Kd.R_bound hV
      refine Kd.R_mono (Kd.R_kept h1 hK (fun q hq hs => ?_)) (fun q hq => ⟨hq.1.1, fun he => ?_⟩)
      · rcases hs with hs | hs
        · exact hq.1.1 hs
        · exact hq.1.2 hs
      · have := hR'.1 q he.symm
        have := hq.2.2.1
        omega
    · refine ReadsRow.imp_ hrr (Below.refl _ _) (fun x cs hM => k24.M_mono (fun q hq => ?_) hM)
      exact ⟨⟨fun he => by have := hq.1.1; omega, hq.1.2⟩, fun he => by have := hvo q he.symm; have := hq.1.1; omega⟩

theorem Rdr.drewN {w0 : World} {g : Nat} {P : List Int} {v : Value} {w : World} (h : Rdr w0 g P v w) (m : Nat) : Rdr w0 g P v (w.drewN m) := by
  obtain ⟨A, c, hG, hR, hV, hB⟩ := h
  exact ⟨A, c, blk_drewN hG m, Kd.R_drewN hR m, Kd.R_drewN hV m, pw_below_drewN hB m⟩
theorem Rdr.below {w0 : World} {g : Nat} {P : List Int} {v : Value} {w w1 : World} (h : Rdr w0 g P v w) (hb : Below w.heap.size w w1) : Rdr w0 g P v w1 := by
  obtain ⟨A, c, hG, hR, hV, hB⟩ := h
  exact ⟨A, c, blk_below hG hb, Kd.R_below hR hb, Kd.R_below hV hb, below_step hB hb⟩
theorem newM_nil (P : List Int) : newM P [] = [] := by
  unfold newM
  by_cases h : (sp P).2.2 = 2
  · rw [if_pos h]
  · rw [if_neg h, List.append_nil]
    have hr : rb P = P.drop (sp P).2.1.toNat := by unfold rb; rw [if_neg h]
    rw [hr]
    exact sp_rest h
theorem Rdr.bl {w0 : World} {g : Nat} {P : List Int} {v : Value} {w : World} (h : Rdr w0 g P v w) : Below w0.heap.size w0 w := by
  obtain ⟨A, c, hG, hR, hV, hB⟩ := h
  exact hB
theorem Rdr.sl {w0 : World} {g : Nat} {P : List Int} {v : Value} {w : World} (h : Rdr w0 g P v w) : ∃ A c, v = .slice A (sp P).1.length c := by
  obtain ⟨A, c, hG, hR, hV, hB⟩ := h
  exact Kd.R_slice hV

/-- Rows of two types: neither is written where the other grows. -/
theorem R_two' {α β : Type} {enc : α → Value} {h1 : ∀ x, (enc x).oneCell' = true} {d' : Kd β} {W w1 : World} {e e' b b' : Nat} {ok ok' : Nat → Prop} {v v' : Value} {xs : List α} {ys : List β}
    (h : (Kd.scalar enc h1).R e W b ok v xs) (h' : d'.R e' W b' ok' v' ys) (hne : e ≠ e') (hg : W.grownBy w1 v'.ownBlock) : (Kd.scalar enc h1).R e w1 b ok v xs :=
  Kd.R_grown2 h rfl hg (fun k hk he => by
    obtain ⟨_, o1⟩ := Kd.R_own h
    obtain ⟨_, o2⟩ := Kd.R_own h'
    exact ne_types o1 o2 hne k he.symm hk)

theorem Rdr_grown {w0 : World} {g : Nat} {P p : List Int} {v v1 : Value} {w w1 : World} {A : Option Addr} {c : Nat} (hG : w.heap[g]? = some (.cells #[.slice A (rb (P ++ p)).length c, .bool (decide ((sp (P ++ p)).2.2 = 2))] 47 (0, 0))) (hR : (Kd.int .u8).R 5 w w0.heap.size (fun _ => True) (.slice A (rb (P ++ p)).length c) (rb (P ++ p)))
    (hV : k24.R 24 w w0.heap.size (fun q => q ≠ g ∧ some q ≠ (Value.slice A (rb (P ++ p)).length c).ownBlock) v (sp P).1) (ho : k24.R 24 w1 w0.heap.size (fun q => q ≠ g ∧ some q ≠ (Value.slice A (rb (P ++ p)).length c).ownBlock) v1 ((sp P).1 ++ newM P p)) (hb : Below w0.heap.size w0 w1) (hg : w.grownBy w1 v.ownBlock) :
    Rdr w0 g (P ++ p) v1 w1 := by
  rw [← newM_eq] at ho
  exact ⟨A, c, blk_grown hG hg (Kd.R_ne hV hG (by decide)), R_two' hR hV (by decide) hg, ho, hb⟩
theorem Rdr_fresh {w0 : World} {g : Nat} {b : List Int} {w : World} {A : Option Addr} {c : Nat} {x : Value} (hG : w.heap[g]? = some (.cells #[.slice A b.length c, x] 47 (0, 0))) (hR : (Kd.int .u8).R 5 w w0.heap.size (fun _ => True) (.slice A b.length c) b) :
    ∀ k, w.heap.size ≤ k → k ≠ g ∧ some k ≠ (Value.slice A b.length c).ownBlock := fun k hk => ⟨fun he => by have := blk_lt hG; omega, fun he => by
  obtain ⟨_, ho⟩ := Kd.R_own hR
  have := own_lt ho k he.symm
  omega⟩
theorem int_cell {kd : IntKind} {ad : Addr} {l : List Int} {w : World} {n : Nat} (hC : (Kd.int kd).C w (some ad) n l) (j : Nat) (hj : j < n) : w.cell? (ad.add j) = some (.int kd (l.getD j 0)) := by
  obtain ⟨ad', cs, e, _, hK, hc0⟩ := Kd.C_get hC (0 : Int) (j : Int) (by omega) (by omega)
  injection e with e
  subst e
  have e0 : cs = [.int kd (l.getD (j : Int).toNat 0)] := hK
  rw [Int.toNat_natCast] at e0
  have := hc0 0 (.int kd (l.getD j 0)) (by rw [e0]; rfl)
  rw [show (j : Int).toNat * (Kd.int kd).sz + 0 = j from by show (j : Int).toNat * 1 + 0 = j; omega] at this
  exact this

end Go.Proofs.Ytligkikcfmploaa.FP

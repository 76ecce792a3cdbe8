/- What a reading of an argument says of its cells, kind by kind: ints, bools, strings, slices, structs of two and of three fields. -/
import Derived.Test.YtpmhbfelhjpalaaDoorWMore
import Derived.ProofKit
import Derived.ChangeOld
import Derived.Deep.Strs
import Derived.Lib.SmallJoins
namespace Go.Proofs.YtpmhbfelhjpalaaDoor.Opens
open Go.RowKit Go.ChangeShapes Go.WideShapes Go.Proofs.YtpmhbfelhjpalaaDoorW.PrintWords Go.Proofs.YtpmhbfelhjpalaaDoorW.PrintLast Go.Proofs.YtpmhbfelhjpalaaDoorW.PrintMore

/-- Whatever reads as data of type t is of the kind d, and good. -/
def Opens (P : Program) (t : TypeId) {α : Type} (d : Kd α) (G : α → Prop) : Prop :=
  ∀ (H : Type) (enc : TypeId × Value → H) (w : World) (base : Nat) (spare : Nat → Bool) (held : Bool) (fuel : Nat) (cs : List Value) (x : DataW H × List MemPlace),
    DataW.trod enc P w base spare held fuel t cs = some x → ∃ y, d.K w y cs ∧ G y

section
variable {P : Program} {t e : TypeId}

theorem opens_int {k : IntKind} (ht : P.underlying t = some (.int k)) : Opens P t (Kd.int k) (fun n => (Lit.int k n).wf = true) := by
  intro H enc w base spare held fuel cs x h
  obtain ⟨n, hn, rfl, hw⟩ := DataW.trod_int ht h
  exact ⟨n, hn, hw⟩

theorem opens_bool (ht : P.underlying t = some .bool) : Opens P t Kd.bool (fun _ => True) := by
  intro H enc w base spare held fuel cs x h
  obtain ⟨b, hb⟩ : ∃ b, cs = [.bool b] := by
    cases fuel with
    | zero => simp [DataW.trod] at h
    | succ n =>
      unfold DataW.trod at h
      rw [ht] at h
      split at h <;> simp_all
  exact ⟨b, hb, trivial⟩

theorem opens_string (ht : P.underlying t = some .string) : Opens P t Kd.string (fun s => s.size ≤ maxLen) := by
  intro H enc w base spare held fuel cs x h
  obtain ⟨s, hs, _, hl⟩ := DataW.trod_string ht h
  exact ⟨s, hs, hl⟩

theorem opens_slice {α : Type} {d : Kd α} {G : α → Prop} (ht : P.underlying t = some (.slice e)) (hc : P.cellsOf e = d.sz) (hd : Opens P e d G) :
    Opens P t (Kd.slice e d) (fun l => l.length ≤ maxLen ∧ ∀ y ∈ l, G y) := by
  intro H enc w base spare held fuel cs x h
  rcases DataW.trod_slice ht h with ⟨rfl, _⟩ | ⟨a, len, cap, elems, rest, n, _, rfl, _, hb, hl, hm, hlen, hel, _, _⟩
  · exact ⟨[], ⟨none, 0, rfl, Nat.le_refl _, Kd.C_nil d w⟩, by simp, by simp⟩
  · have each : ∀ i, i < len → ∃ y c, c.length = d.sz ∧ d.K w y c ∧ G y ∧ ∀ j u, c[j]? = some u → w.cell? (a.add (i * d.sz + j)) = some u := by
      intro i hi
      have h1 := hel i hi
      rw [List.getElem?_eq_getElem (by omega), Option.bind_eq_some_iff, hc] at h1
      obtain ⟨c, hcs, hy⟩ := h1
      obtain ⟨y, hK, hG⟩ := hd H enc w base spare held n c _ hy
      obtain ⟨_, hcl, hcc⟩ := World.cells?_some hcs
      refine ⟨y, c, hcl, hK, hG, fun j u hu => ?_⟩
      have hj : j < d.sz := by
        have := (List.getElem?_eq_some_iff.1 hu).1
        omega
      have := hcc j hj
      rw [Addr.add_add] at this
      rw [this]
      exact hu
    have fin : ∀ m, m ≤ len → ∃ ys : List α, ys.length = m ∧ (∀ y ∈ ys, G y) ∧ ∀ i y, ys[i]? = some y → ∃ c, c.length = d.sz ∧ d.K w y c ∧ ∀ j u, c[j]? = some u → w.cell? (a.add (i * d.sz + j)) = some u := by
      intro m
      induction m with
      | zero => exact fun _ => ⟨[], rfl, by simp, by simp⟩
      | succ m ih =>
        intro hm'
        obtain ⟨ys, hy, hG, hr⟩ := ih (by omega)
        obtain ⟨y, c, hcl, hK, hg, hcc⟩ := each m (by omega)
        refine ⟨ys ++ [y], by simp [hy], ?_, ?_⟩
        · intro z hz
          rcases List.mem_append.1 hz with hz | hz
          · exact hG z hz
          · rw [List.mem_singleton.1 hz]; exact hg
        · intro i z hz
          rcases Nat.lt_or_ge i ys.length with hi | hi
          · rw [List.getElem?_append_left hi] at hz
            exact hr i z hz
          · have hi' : i = m := by
              have := (List.getElem?_eq_some_iff.1 hz).1
              simp at this
              omega
            subst hi'
            rw [List.getElem?_append_right (by omega), hy, Nat.sub_self] at hz
            obtain rfl : y = z := by simpa using hz
            exact ⟨c, hcl, hK, hcc⟩
    obtain ⟨ys, hy, hG, hr⟩ := fin len (Nat.le_refl _)
    refine ⟨ys, ⟨some a, cap, by rw [hy], by omega, ⟨rfl, ?_, fun _ => ⟨a, rfl, hr⟩⟩⟩, by omega, hG⟩
    unfold maxLen at hm
    omega

theorem opens_struct2 {α β γ : Type} {d0 : Kd α} {d1 : Kd β} {G0 : α → Prop} {G1 : β → Prop} (f : γ → α × β) (mk : α → β → γ) (hf : ∀ a b, f (mk a b) = (a, b)) {f0 f1 : Field}
    (ht : P.underlying t = some (.struct #[f0, f1])) (hC : P.cellsOf t = d0.sz + d1.sz) (o0 : f0.offset = 0) (o1 : f1.offset = d0.sz) (c0 : P.cellsOf f0.type = d0.sz) (c1 : P.cellsOf f1.type = d1.sz)
    (h0 : Opens P f0.type d0 G0) (h1 : Opens P f1.type d1 G1) : Opens P t (Kd.iso (Kd.pair d0 d1) f) (fun y => G0 (f y).1 ∧ G1 (f y).2) := by
  intro H enc w base spare held fuel cs x h
  obtain ⟨y0, y1, n, _, hl, t0, t1⟩ := trod_struct2 ht h
  obtain ⟨a, k0, g0⟩ := h0 _ _ _ _ _ _ _ _ _ t0
  obtain ⟨b, k1, g1⟩ := h1 _ _ _ _ _ _ _ _ _ t1
  refine ⟨mk a b, ?_, by dsimp only; rw [hf]; exact ⟨g0, g1⟩⟩
  show ∃ u v, cs = u ++ v ∧ d0.K w (f (mk a b)).1 u ∧ d1.K w (f (mk a b)).2 v
  rw [hf]
  refine ⟨_, _, ?_, k0, k1⟩
  rw [o0, o1, c0, c1, List.drop_zero]
  rw [show (cs.drop d0.sz).take d1.sz = cs.drop d0.sz from List.take_of_length_le (by rw [List.length_drop, hl, hC]; omega)]
  exact (List.take_append_drop _ _).symm

theorem opens_struct3 {α β γ δ : Type} {d0 : Kd α} {d1 : Kd β} {d2 : Kd γ} {G0 : α → Prop} {G1 : β → Prop} {G2 : γ → Prop} (f : δ → α × β × γ) (mk : α → β → γ → δ) (hf : ∀ a b c, f (mk a b c) = (a, b, c)) {f0 f1 f2 : Field}
    (ht : P.underlying t = some (.struct #[f0, f1, f2])) (hC : P.cellsOf t = d0.sz + d1.sz + d2.sz) (o0 : f0.offset = 0) (o1 : f1.offset = d0.sz) (o2 : f2.offset = d0.sz + d1.sz) (c0 : P.cellsOf f0.type = d0.sz) (c1 : P.cellsOf f1.type = d1.sz) (c2 : P.cellsOf f2.type = d2.sz)
    (h0 : Opens P f0.type d0 G0) (h1 : Opens P f1.type d1 G1) (h2 : Opens P f2.type d2 G2) : Opens P t (Kd.iso (Kd.pair d0 (Kd.pair d1 d2)) f) (fun y => G0 (f y).1 ∧ G1 (f y).2.1 ∧ G2 (f y).2.2) := by
  intro H enc w base spare held fuel cs x h
  obtain ⟨y0, y1, y2, n, _, hl, t0, t1, t2⟩ := Go.Deep.trod_struct3 ht h
  obtain ⟨a, k0, g0⟩ := h0 _ _ _ _ _ _ _ _ _ t0
  obtain ⟨b, k1, g1⟩ := h1 _ _ _ _ _ _ _ _ _ t1
  obtain ⟨c, k2, g2⟩ := h2 _ _ _ _ _ _ _ _ _ t2
  refine ⟨mk a b c, ?_, by dsimp only; rw [hf]; exact ⟨g0, g1, g2⟩⟩
  show ∃ u v, cs = u ++ v ∧ d0.K w (f (mk a b c)).1 u ∧ ∃ u' v', v = u' ++ v' ∧ d1.K w (f (mk a b c)).2.1 u' ∧ d2.K w (f (mk a b c)).2.2 v'
  rw [hf]
  refine ⟨_, _, ?_, k0, _, _, rfl, k1, k2⟩
  rw [o0, o1, o2, c0, c1, c2, List.drop_zero]
  rw [show (cs.drop (d0.sz + d1.sz)).take d2.sz = cs.drop (d0.sz + d1.sz) from List.take_of_length_le (by rw [List.length_drop, hl, hC]; omega)]
  rw [← List.drop_drop, List.take_append_drop, List.take_append_drop]
end

section
variable {P : Program} {t e : TypeId} {α : Type} {H : Type} {enc : TypeId × Value → H} {w : World} {base b0 : Nat} {spare : Nat → Bool} {held : Bool} {r : Reach} {v : Value} {x : DataW H} {p : List MemPlace}
/-- A slice that came in. -/
theorem arg_slice {d : Kd α} {G : List α → Prop} (ht : P.underlying t = some (.slice e)) (ho : Opens P t (Kd.slice e d) G) (hv : Value.okWide P w r b0 t v)
    (h : DataW.Trod enc P w base spare held t v x p) : ∃ A c ys, v = .slice A ys.length c ∧ ys.length ≤ c ∧ d.C w A ys.length ys ∧ G ys := by
  obtain ⟨a, len, cap, rfl⟩ := okWide_slice ht hv
  obtain ⟨fuel, hf⟩ := h
  obtain ⟨ys, ⟨A, c, he, hl, hC⟩, hG⟩ := ho _ _ _ _ _ _ _ _ _ hf
  simp only [Value.cells, List.cons.injEq, and_true] at he
  exact ⟨A, c, ys, he, hl, hC, hG⟩
/-- A struct that came in. -/
theorem arg_struct {d : Kd α} {G : α → Prop} {fs : Array Field} (ht : P.underlying t = some (.struct fs)) (ho : Opens P t d G) (hv : Value.okWide P w r b0 t v)
    (h : DataW.Trod enc P w base spare held t v x p) : ∃ cs y, v = .agg (List.toArray cs) ∧ d.K w y cs ∧ G y := by
  obtain ⟨a, rfl, _⟩ := okWide_struct ht hv
  obtain ⟨fuel, hf⟩ := h
  obtain ⟨y, hK, hG⟩ := ho _ _ _ _ _ _ _ _ _ hf
  exact ⟨a.toList, y, by simp, by simpa [Value.cells] using hK, hG⟩
end
end Go.Proofs.YtpmhbfelhjpalaaDoor.Opens

/- StoryPlays, with the arguments as the row hands them. -/
import Derived.Test.YtccpclkmackghaaSPlaLaw
import Derived.Test.YtccpclkmackghaaOpens
namespace Go.Proofs.Ytccpclkmackghaa.SPla
open Go.RowKit Go.Proofs.YtccpclkmackghaaW.PrintWords Go.Proofs.YtccpclkmackghaaW.PrintLast Go.Proofs.YtccpclkmackghaaW.PrintMore
open Go.Proofs.Ytccpclkmackghaa.PStoryPlays

theorem law (A : Option Addr) (c : Nat) (l : List S24) (A1 : Option Addr) (c1 : Nat) (mo : List Int) (kk : Int) (W : World) (hl : l.length ≤ c) (hC : k24.C W A l.length l) (_ : l.length ≤ maxLen ∧ ∀ y ∈ l, (Lit.int .i64 y.f0).wf = true ∧ (Lit.int .i64 y.f1).wf = true)
    (hl1 : mo.length ≤ c1) (hC1 : (Kd.int .i64).C W A1 mo.length mo) (G1 : mo.length ≤ maxLen ∧ ∀ y ∈ mo, (Lit.int .i64 y).wf = true) (_ : (Lit.int .i64 kk).wf = true) :
    Calls Try.prog 5 #[.slice A l.length c, .slice A1 mo.length c1, .int .i64 kk] W fun e w' => e = .returned (.bool true) ∧ Below W.heap.size W w' :=
  walk A c l A1 c1 mo kk W hC hl hC1 hl1 (fun y hy => Go.bounds_i64 (G1.2 y hy))

end Go.Proofs.Ytccpclkmackghaa.SPla

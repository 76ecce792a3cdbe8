/- Steps and lists of numbers, as they come in. -/
import Derived.Test.YtccpclkmackghaaPStoryNox0
import Derived.Test.YtccpclkmackghaaOpens
namespace Go.Proofs.Ytccpclkmackghaa.SOpN
open Go.RowKit Go.Proofs.YtccpclkmackghaaW.PrintWords Go.Proofs.YtccpclkmackghaaW.PrintLast Go.Proofs.YtccpclkmackghaaW.PrintMore
open Go.Proofs.Ytccpclkmackghaa.PStoryNo Go.Proofs.Ytccpclkmackghaa.Opens

theorem opens_ints : Opens Try.prog 22 (Kd.slice 3 (Kd.int .i64)) (fun l => l.length ≤ maxLen ∧ ∀ n ∈ l, (Lit.int .i64 n).wf = true) := opens_slice Try.underlying22 (by kernel_rfl) (opens_int Try.underlying3)
theorem opens_x : Opens Try.prog 24 k24 (fun y => (Lit.int .i64 y.f0).wf = true ∧ (Lit.int .i64 y.f1).wf = true) :=
  opens_struct2 (fun x : S24 => (x.f0, x.f1)) S24.mk (fun _ _ => rfl) Try.underlying24 (by kernel_rfl) rfl rfl (by kernel_rfl) (by kernel_rfl) (opens_int Try.underlying3) (opens_int Try.underlying3)
theorem opens_xs : Opens Try.prog 25 (Kd.slice 24 k24) (fun l => l.length ≤ maxLen ∧ ∀ y ∈ l, (Lit.int .i64 y.f0).wf = true ∧ (Lit.int .i64 y.f1).wf = true) := opens_slice Try.underlying25 (by kernel_rfl) opens_x
end Go.Proofs.Ytccpclkmackghaa.SOpN

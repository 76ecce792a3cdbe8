/- Messages, bytes and lists of messages, as they come in. -/
import Derived.Test.YtligkikcfmploaaPFrameCutsx0
import Derived.Test.YtligkikcfmploaaOpens
namespace Go.Proofs.Ytligkikcfmploaa.Msg
open Go.RowKit Go.Proofs.YtligkikcfmploaaW.PrintWords Go.Proofs.YtligkikcfmploaaW.PrintLast Go.Proofs.YtligkikcfmploaaW.PrintMore
open Go.Proofs.Ytligkikcfmploaa.PFrameCuts Go.Proofs.Ytligkikcfmploaa.Opens

/-- A list of bytes. -/
def BytesG (l : List Int) : Prop := l.length ≤ maxLen ∧ ∀ n ∈ l, (Lit.int .u8 n).wf = true
/-- A message's numbers fit. -/
def MsgG (y : S24) : Prop := (Lit.int .i64 y.f0).wf = true ∧ (Lit.int .i64 y.f1).wf = true ∧ BytesG y.f2

theorem opens_bytes : Opens Try.prog 22 (Kd.slice 5 (Kd.int .u8)) BytesG := opens_slice Try.underlying22 (by kernel_rfl) (opens_int Try.underlying5)
theorem opens_msg : Opens Try.prog 24 k24 MsgG :=
  opens_struct3 (fun x : S24 => (x.f0, x.f1, x.f2)) S24.mk (fun _ _ _ => rfl) Try.underlying24 (by kernel_rfl) rfl rfl rfl (by kernel_rfl) (by kernel_rfl) (by kernel_rfl)
    (opens_int Try.underlying3) (opens_int Try.underlying3) opens_bytes

theorem bounds_i64 {n : Int} (h : (Lit.int .i64 n).wf = true) : -9223372036854775808 ≤ n ∧ n ≤ 9223372036854775807 := Go.bounds_i64 h
end Go.Proofs.Ytligkikcfmploaa.Msg

/-
  No cell of these rows narrows 'for every input' (looked for: loops, veiled, ifaces, maps, wideKeys, modest, calm, conditions, laid).
  DERIVED. THE GIVEN ROWS OF THIS SEAT. 5 by the template 'for every input the law returns true; each argument reads behind the call as it read before'; 0 by the template 'total and deterministic' (their statements: YtccpclkmackghaaTotals.lean).
  GIVEN WITH THE SEED: the statements are not yours to turn. If you find one false, say at which input.
  Laid BY PROGRAM, IN A SANDBOX (cutbox-rows.mjs): the forced cells as the released guide's own fill.sh prints them over the translation c1613836c3d0d07d… (all of the seat's roots in one cut). By AI agents, Wed Nov 11 2026. No macro, syntax, notation, axiom, sorry.
-/
import Derived.Test.YtccpclkmackghaaChecked
import GoSem.Claim
import GoSem.ClaimJoined
import GoSem.ClaimMapViews
import Derived.JoinedTies
import Derived.KernelRfl
namespace Go.Proofs.Ytccpclkmackghaa
/- THE CELL 'sum', in the pinned program and in every row, IS THE sha256 OF THE DUMP (.gsa) THAT YtccpclkmackghaaProg.lean LOADS. Nothing in Lean hashes anything: it is a label: what it is worth is what the hold of that sum in a sandbox is worth. -/
noncomputable def Try.pinned : Pinned := { name := "ytccpclkmackghaa", sum := "c1613836c3d0d07dfd9fd67d52057c44325d487082ae26ef0b3a6437f6ddcf70", checked := Try.checked }
namespace Rows
def none {H : Type} : Left H := { results := [], args := [] }

/-- 'rondellaw21.StoryNo': WHATEVER THE INPUT: true; the input reads as it did. -/
def storyNoSpec : ChangeSpec := { name := "storyNo", fn := fun _ => fun
  | [d1, d2] => { results := [.lit (.bool true)], args := [d1, d2] }
  | _ => none }
def storyNoRow : OpenClaim := { program := "ytccpclkmackghaa", sum := "c1613836c3d0d07dfd9fd67d52057c44325d487082ae26ef0b3a6437f6ddcf70", func := "rondel/rondellaw21.StoryNo", spec := "storyNo", apart := false }
def StoryNoSaid : Prop := storyNoRow.holds Try.pinned (OpenSpec.ofChange storyNoSpec)

/-- ITS FALSE NEIGHBOUR: 'it returns false'. Refute it at one input. -/
def storyNoWrong : ChangeSpec := { name := "storyNo", fn := fun _ => fun
  | [d1, d2] => { results := [.lit (.bool false)], args := [d1, d2] }
  | _ => none }
def StoryNoWrongFalsely : Prop := storyNoRow.holds Try.pinned (OpenSpec.ofChange storyNoWrong)

/-- 'rondellaw21.StoryRises': WHATEVER THE INPUT: true; the input reads as it did. -/
def storyRisesSpec : ChangeSpec := { name := "storyRises", fn := fun _ => fun
  | [d] => { results := [.lit (.bool true)], args := [d] }
  | _ => none }
def storyRisesRow : OpenClaim := { program := "ytccpclkmackghaa", sum := "c1613836c3d0d07dfd9fd67d52057c44325d487082ae26ef0b3a6437f6ddcf70", func := "rondel/rondellaw21.StoryRises", spec := "storyRises", apart := false }
def StoryRisesSaid : Prop := storyRisesRow.holds Try.pinned (OpenSpec.ofChange storyRisesSpec)

/-- ITS FALSE NEIGHBOUR: 'it returns false'. Refute it at one input. -/
def storyRisesWrong : ChangeSpec := { name := "storyRises", fn := fun _ => fun
  | [d] => { results := [.lit (.bool false)], args := [d] }
  | _ => none }
def StoryRisesWrongFalsely : Prop := storyRisesRow.holds Try.pinned (OpenSpec.ofChange storyRisesWrong)

/-- 'rondellaw21.StoryPlays': WHATEVER THE INPUT: true; the input reads as it did. -/
def storyPlaysSpec : ChangeSpec := { name := "storyPlays", fn := fun _ => fun
  | [d1, d2, d3] => { results := [.lit (.bool true)], args := [d1, d2, d3] }
  | _ => none }
def storyPlaysRow : OpenClaim := { program := "ytccpclkmackghaa", sum := "c1613836c3d0d07dfd9fd67d52057c44325d487082ae26ef0b3a6437f6ddcf70", func := "rondel/rondellaw21.StoryPlays", spec := "storyPlays", unfollowed := true, recurses := true, apart := false }
def StoryPlaysSaid : Prop := storyPlaysRow.holds Try.pinned (OpenSpec.ofChange storyPlaysSpec)

/-- ITS FALSE NEIGHBOUR: 'it returns false'. Refute it at one input. -/
def storyPlaysWrong : ChangeSpec := { name := "storyPlays", fn := fun _ => fun
  | [d1, d2, d3] => { results := [.lit (.bool false)], args := [d1, d2, d3] }
  | _ => none }
def StoryPlaysWrongFalsely : Prop := storyPlaysRow.holds Try.pinned (OpenSpec.ofChange storyPlaysWrong)

/-- 'rondellaw21.StoryChecks': WHATEVER THE INPUT: true; the input reads as it did. -/
def storyChecksSpec : ChangeSpec := { name := "storyChecks", fn := fun _ => fun
  | [d1, d2, d3, d4, d5] => { results := [.lit (.bool true)], args := [d1, d2, d3, d4, d5] }
  | _ => none }
def storyChecksRow : OpenClaim := { program := "ytccpclkmackghaa", sum := "c1613836c3d0d07dfd9fd67d52057c44325d487082ae26ef0b3a6437f6ddcf70", func := "rondel/rondellaw21.StoryChecks", spec := "storyChecks", apart := false }
def StoryChecksSaid : Prop := storyChecksRow.holds Try.pinned (OpenSpec.ofChange storyChecksSpec)

/-- ITS FALSE NEIGHBOUR: 'it returns false'. Refute it at one input. -/
def storyChecksWrong : ChangeSpec := { name := "storyChecks", fn := fun _ => fun
  | [d1, d2, d3, d4, d5] => { results := [.lit (.bool false)], args := [d1, d2, d3, d4, d5] }
  | _ => none }
def StoryChecksWrongFalsely : Prop := storyChecksRow.holds Try.pinned (OpenSpec.ofChange storyChecksWrong)

/-- 'rondellaw21.StoryFirst': WHATEVER THE INPUT: true; the input reads as it did. -/
def storyFirstSpec : ChangeSpec := { name := "storyFirst", fn := fun _ => fun
  | [d1, d2] => { results := [.lit (.bool true)], args := [d1, d2] }
  | _ => none }
def storyFirstRow : OpenClaim := { program := "ytccpclkmackghaa", sum := "c1613836c3d0d07dfd9fd67d52057c44325d487082ae26ef0b3a6437f6ddcf70", func := "rondel/rondellaw21.StoryFirst", spec := "storyFirst", unfollowed := true, recurses := true, apart := false }
def StoryFirstSaid : Prop := storyFirstRow.holds Try.pinned (OpenSpec.ofChange storyFirstSpec)

/-- ITS FALSE NEIGHBOUR: 'it returns false'. Refute it at one input. -/
def storyFirstWrong : ChangeSpec := { name := "storyFirst", fn := fun _ => fun
  | [d1, d2] => { results := [.lit (.bool false)], args := [d1, d2] }
  | _ => none }
def StoryFirstWrongFalsely : Prop := storyFirstRow.holds Try.pinned (OpenSpec.ofChange storyFirstWrong)

/- THE SECOND FORM. 'bulk': how many values and letters a reading holds, each counted each time it is reached (what is shared counts as often as it is met; a slice's spare places count too). A statement '..UptoSaid' is the law's where the arguments, and the package variables that the reading takes, are together of bulk at most 1048576: NARROWER than '..Said'. Prove '..Said' where nothing that the law and all that it calls make is longer than what came in: it says more and counts as full. Else prove '..UptoSaid'. A law counts once. -/
mutual
def uptoBulk {H : Type} : DataW H → Nat
  | .lit (.string bytes) => bytes.length + 1
  | .lit _ => 1
  | .nil => 1
  | .ptr d => uptoBulk d + 1
  | .slice elems spare => uptoBulkAll elems + uptoBulkAll spare + 1
  | .agg parts => uptoBulkAll parts + 1
  | .iface _ d => uptoBulk d + 1
  | .map entries => uptoBulkEntries entries + 1
  | .held _ => 1
def uptoBulkAll {H : Type} : List (DataW H) → Nat
  | [] => 0
  | d :: r => uptoBulk d + uptoBulkAll r
def uptoBulkEntries {H : Type} : List (Lit × DataW H) → Nat
  | [] => 0
  | x :: r => uptoBulkEntry x + uptoBulkEntries r
def uptoBulkEntry {H : Type} : Lit × DataW H → Nat
  | (.string bytes, d) => bytes.length + uptoBulk d + 1
  | (_, d) => uptoBulk d + 1
 end
def uptoSmall : (H : Type) → List (DataW H) → Bool := fun _ ds => decide (uptoBulkAll ds ≤ 1048576)
def OpenSpec.upto (s : _root_.Go.ChangeSpec) : _root_.Go.OpenSpec := { _root_.Go.OpenSpec.ofChange s with cond := some uptoSmall }

/-- 'rondellaw21.StoryNo', WHERE WHAT IT READS IS OF BULK AT MOST 1048576: true; the input reads as it did. -/
def storyNoUptoRow : OpenClaim := { program := "ytccpclkmackghaa", sum := "c1613836c3d0d07dfd9fd67d52057c44325d487082ae26ef0b3a6437f6ddcf70", func := "rondel/rondellaw21.StoryNo", spec := "storyNo", apart := false, narrowed := true }
def StoryNoUptoSaid : Prop := storyNoUptoRow.holds Try.pinned (OpenSpec.upto storyNoSpec)

/-- 'rondellaw21.StoryRises', WHERE WHAT IT READS IS OF BULK AT MOST 1048576: true; the input reads as it did. -/
def storyRisesUptoRow : OpenClaim := { program := "ytccpclkmackghaa", sum := "c1613836c3d0d07dfd9fd67d52057c44325d487082ae26ef0b3a6437f6ddcf70", func := "rondel/rondellaw21.StoryRises", spec := "storyRises", apart := false, narrowed := true }
def StoryRisesUptoSaid : Prop := storyRisesUptoRow.holds Try.pinned (OpenSpec.upto storyRisesSpec)

/-- 'rondellaw21.StoryPlays', WHERE WHAT IT READS IS OF BULK AT MOST 1048576: true; the input reads as it did. -/
def storyPlaysUptoRow : OpenClaim := { program := "ytccpclkmackghaa", sum := "c1613836c3d0d07dfd9fd67d52057c44325d487082ae26ef0b3a6437f6ddcf70", func := "rondel/rondellaw21.StoryPlays", spec := "storyPlays", unfollowed := true, recurses := true, apart := false, narrowed := true }
def StoryPlaysUptoSaid : Prop := storyPlaysUptoRow.holds Try.pinned (OpenSpec.upto storyPlaysSpec)

/-- 'rondellaw21.StoryChecks', WHERE WHAT IT READS IS OF BULK AT MOST 1048576: true; the input reads as it did. -/
def storyChecksUptoRow : OpenClaim := { program := "ytccpclkmackghaa", sum := "c1613836c3d0d07dfd9fd67d52057c44325d487082ae26ef0b3a6437f6ddcf70", func := "rondel/rondellaw21.StoryChecks", spec := "storyChecks", apart := false, narrowed := true }
def StoryChecksUptoSaid : Prop := storyChecksUptoRow.holds Try.pinned (OpenSpec.upto storyChecksSpec)

/-- 'rondellaw21.StoryFirst', WHERE WHAT IT READS IS OF BULK AT MOST 1048576: true; the input reads as it did. -/
def storyFirstUptoRow : OpenClaim := { program := "ytccpclkmackghaa", sum := "c1613836c3d0d07dfd9fd67d52057c44325d487082ae26ef0b3a6437f6ddcf70", func := "rondel/rondellaw21.StoryFirst", spec := "storyFirst", unfollowed := true, recurses := true, apart := false, narrowed := true }
def StoryFirstUptoSaid : Prop := storyFirstUptoRow.holds Try.pinned (OpenSpec.upto storyFirstSpec)

end Rows
end Go.Proofs.Ytccpclkmackghaa

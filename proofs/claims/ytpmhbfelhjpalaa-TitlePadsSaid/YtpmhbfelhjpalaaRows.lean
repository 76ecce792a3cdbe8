/-
  No cell of these rows narrows 'for every input' (looked for: loops, veiled, ifaces, maps, wideKeys, modest, calm, conditions, laid).
  DERIVED. THE GIVEN ROWS OF THIS SEAT. 5 by the template 'for every input the law returns true; each argument reads behind the call as it read before'; 0 by the template 'total and deterministic' (their statements: YtpmhbfelhjpalaaTotals.lean).
  GIVEN WITH THE SEED: the statements are not yours to turn. If you find one false, say at which input.
  Laid BY PROGRAM, IN A SANDBOX (cutbox-rows.mjs): the forced cells as the released guide's own fill.sh prints them over the translation 1b74f8727c397622… (all of the seat's roots in one cut). By AI agents, Wed Nov 11 2026. No macro, syntax, notation, axiom, sorry.
-/
import Derived.Test.YtpmhbfelhjpalaaChecked
import GoSem.Claim
import GoSem.ClaimJoined
import GoSem.ClaimMapViews
import Derived.JoinedTies
import Derived.KernelRfl
namespace Go.Proofs.Ytpmhbfelhjpalaa
/- THE CELL 'sum', in the pinned program and in every row, IS THE sha256 OF THE DUMP (.gsa) THAT YtpmhbfelhjpalaaProg.lean LOADS. Nothing in Lean hashes anything: it is a label: what it is worth is what the hold of that sum in a sandbox is worth. -/
noncomputable def Try.pinned : Pinned := { name := "ytpmhbfelhjpalaa", sum := "1b74f8727c397622942158d4c0102f8ff0c746452572328af7e9c627320d9f3e", checked := Try.checked }
namespace Rows
def none {H : Type} : Left H := { results := [], args := [] }

/-- 'rondellaw06.TitleJoins': WHATEVER THE INPUT: true; the input reads as it did. -/
def titleJoinsSpec : ChangeSpec := { name := "titleJoins", fn := fun _ => fun
  | [d1, d2] => { results := [.lit (.bool true)], args := [d1, d2] }
  | _ => none }
def titleJoinsRow : OpenClaim := { program := "ytpmhbfelhjpalaa", sum := "1b74f8727c397622942158d4c0102f8ff0c746452572328af7e9c627320d9f3e", func := "rondel/rondellaw06.TitleJoins", spec := "titleJoins", apart := false }
def TitleJoinsSaid : Prop := titleJoinsRow.holds Try.pinned (OpenSpec.ofChange titleJoinsSpec)

/-- ITS FALSE NEIGHBOUR: 'it returns false'. Refute it at one input. -/
def titleJoinsWrong : ChangeSpec := { name := "titleJoins", fn := fun _ => fun
  | [d1, d2] => { results := [.lit (.bool false)], args := [d1, d2] }
  | _ => none }
def TitleJoinsWrongFalsely : Prop := titleJoinsRow.holds Try.pinned (OpenSpec.ofChange titleJoinsWrong)

/-- 'rondellaw06.TitleLikes': WHATEVER THE INPUT: true; the input reads as it did. -/
def titleLikesSpec : ChangeSpec := { name := "titleLikes", fn := fun _ => fun
  | [d1, d2, d3] => { results := [.lit (.bool true)], args := [d1, d2, d3] }
  | _ => none }
def titleLikesRow : OpenClaim := { program := "ytpmhbfelhjpalaa", sum := "1b74f8727c397622942158d4c0102f8ff0c746452572328af7e9c627320d9f3e", func := "rondel/rondellaw06.TitleLikes", spec := "titleLikes", apart := false }
def TitleLikesSaid : Prop := titleLikesRow.holds Try.pinned (OpenSpec.ofChange titleLikesSpec)

/-- ITS FALSE NEIGHBOUR: 'it returns false'. Refute it at one input. -/
def titleLikesWrong : ChangeSpec := { name := "titleLikes", fn := fun _ => fun
  | [d1, d2, d3] => { results := [.lit (.bool false)], args := [d1, d2, d3] }
  | _ => none }
def TitleLikesWrongFalsely : Prop := titleLikesRow.holds Try.pinned (OpenSpec.ofChange titleLikesWrong)

/-- 'rondellaw06.TitleSigns': WHATEVER THE INPUT: true; the input reads as it did. -/
def titleSignsSpec : ChangeSpec := { name := "titleSigns", fn := fun _ => fun
  | [d] => { results := [.lit (.bool true)], args := [d] }
  | _ => none }
def titleSignsRow : OpenClaim := { program := "ytpmhbfelhjpalaa", sum := "1b74f8727c397622942158d4c0102f8ff0c746452572328af7e9c627320d9f3e", func := "rondel/rondellaw06.TitleSigns", spec := "titleSigns", unfollowed := true, recurses := true, apart := false }
def TitleSignsSaid : Prop := titleSignsRow.holds Try.pinned (OpenSpec.ofChange titleSignsSpec)

/-- ITS FALSE NEIGHBOUR: 'it returns false'. Refute it at one input. -/
def titleSignsWrong : ChangeSpec := { name := "titleSigns", fn := fun _ => fun
  | [d] => { results := [.lit (.bool false)], args := [d] }
  | _ => none }
def TitleSignsWrongFalsely : Prop := titleSignsRow.holds Try.pinned (OpenSpec.ofChange titleSignsWrong)

/-- 'rondellaw06.TitleCuts': WHATEVER THE INPUT: true; the input reads as it did. -/
def titleCutsSpec : ChangeSpec := { name := "titleCuts", fn := fun _ => fun
  | [d1, d2] => { results := [.lit (.bool true)], args := [d1, d2] }
  | _ => none }
def titleCutsRow : OpenClaim := { program := "ytpmhbfelhjpalaa", sum := "1b74f8727c397622942158d4c0102f8ff0c746452572328af7e9c627320d9f3e", func := "rondel/rondellaw06.TitleCuts", spec := "titleCuts", inPlace := ["internal/abi.NoEscape", "internal/bytealg.MakeNoZero"], apart := false }
def TitleCutsSaid : Prop := titleCutsRow.holds Try.pinned (OpenSpec.ofChange titleCutsSpec)

/-- ITS FALSE NEIGHBOUR: 'it returns false'. Refute it at one input. -/
def titleCutsWrong : ChangeSpec := { name := "titleCuts", fn := fun _ => fun
  | [d1, d2] => { results := [.lit (.bool false)], args := [d1, d2] }
  | _ => none }
def TitleCutsWrongFalsely : Prop := titleCutsRow.holds Try.pinned (OpenSpec.ofChange titleCutsWrong)

/-- 'rondellaw06.TitlePads': WHATEVER THE INPUT: true; the input reads as it did. -/
def titlePadsSpec : ChangeSpec := { name := "titlePads", fn := fun _ => fun
  | [d1, d2, d3] => { results := [.lit (.bool true)], args := [d1, d2, d3] }
  | _ => none }
def titlePadsRow : OpenClaim := { program := "ytpmhbfelhjpalaa", sum := "1b74f8727c397622942158d4c0102f8ff0c746452572328af7e9c627320d9f3e", func := "rondel/rondellaw06.TitlePads", spec := "titlePads", inPlace := ["internal/abi.NoEscape", "internal/bytealg.MakeNoZero"], apart := false }
def TitlePadsSaid : Prop := titlePadsRow.holds Try.pinned (OpenSpec.ofChange titlePadsSpec)

/-- ITS FALSE NEIGHBOUR: 'it returns false'. Refute it at one input. -/
def titlePadsWrong : ChangeSpec := { name := "titlePads", fn := fun _ => fun
  | [d1, d2, d3] => { results := [.lit (.bool false)], args := [d1, d2, d3] }
  | _ => none }
def TitlePadsWrongFalsely : Prop := titlePadsRow.holds Try.pinned (OpenSpec.ofChange titlePadsWrong)

/- THE SECOND FORM. 'bulk': how many values and letters a reading holds, each counted each time it is reached (what is shared counts as often as it is met; a slice's spare places count too). A statement '..UptoSaid' is the law's where the arguments, and the package variables that the reading takes, are together of bulk at most 1048576: NARROWER than '..Said'. Prove '..Said' where nothing that the law and all that it calls make is longer than what came in: it says more and counts as full. Else prove '..UptoSaid'. A law counts once. -/
mutual
def uptoBulk {H : Type} : DataW H → Nat
  | .lit (.string bytes) => bytes.length + 1
  | .lit _ => 1
  | .nil => 1
  | .ptr d => uptoBulk d + 1
  | .slice elems spare => uptoBulkAll elems + uptoBulkAll spare + 1
  | .agg parts => uptoBulkAll parts + 1
  | .iface _ d => uptoBulk d + 1
  | .map entries => uptoBulkEntries entries + 1
  | .held _ => 1
def uptoBulkAll {H : Type} : List (DataW H) → Nat
  | [] => 0
  | d :: r => uptoBulk d + uptoBulkAll r
def uptoBulkEntries {H : Type} : List (Lit × DataW H) → Nat
  | [] => 0
  | x :: r => uptoBulkEntry x + uptoBulkEntries r
def uptoBulkEntry {H : Type} : Lit × DataW H → Nat
  | (.string bytes, d) => bytes.length + uptoBulk d + 1
  | (_, d) => uptoBulk d + 1
 end
def uptoSmall : (H : Type) → List (DataW H) → Bool := fun _ ds => decide (uptoBulkAll ds ≤ 1048576)
def OpenSpec.upto (s : _root_.Go.ChangeSpec) : _root_.Go.OpenSpec := { _root_.Go.OpenSpec.ofChange s with cond := some uptoSmall }

/-- 'rondellaw06.TitleJoins', WHERE WHAT IT READS IS OF BULK AT MOST 1048576: true; the input reads as it did. -/
def titleJoinsUptoRow : OpenClaim := { program := "ytpmhbfelhjpalaa", sum := "1b74f8727c397622942158d4c0102f8ff0c746452572328af7e9c627320d9f3e", func := "rondel/rondellaw06.TitleJoins", spec := "titleJoins", apart := false, narrowed := true }
def TitleJoinsUptoSaid : Prop := titleJoinsUptoRow.holds Try.pinned (OpenSpec.upto titleJoinsSpec)

/-- 'rondellaw06.TitleLikes', WHERE WHAT IT READS IS OF BULK AT MOST 1048576: true; the input reads as it did. -/
def titleLikesUptoRow : OpenClaim := { program := "ytpmhbfelhjpalaa", sum := "1b74f8727c397622942158d4c0102f8ff0c746452572328af7e9c627320d9f3e", func := "rondel/rondellaw06.TitleLikes", spec := "titleLikes", apart := false, narrowed := true }
def TitleLikesUptoSaid : Prop := titleLikesUptoRow.holds Try.pinned (OpenSpec.upto titleLikesSpec)

/-- 'rondellaw06.TitleSigns', WHERE WHAT IT READS IS OF BULK AT MOST 1048576: true; the input reads as it did. -/
def titleSignsUptoRow : OpenClaim := { program := "ytpmhbfelhjpalaa", sum := "1b74f8727c397622942158d4c0102f8ff0c746452572328af7e9c627320d9f3e", func := "rondel/rondellaw06.TitleSigns", spec := "titleSigns", unfollowed := true, recurses := true, apart := false, narrowed := true }
def TitleSignsUptoSaid : Prop := titleSignsUptoRow.holds Try.pinned (OpenSpec.upto titleSignsSpec)

/-- 'rondellaw06.TitleCuts', WHERE WHAT IT READS IS OF BULK AT MOST 1048576: true; the input reads as it did. -/
def titleCutsUptoRow : OpenClaim := { program := "ytpmhbfelhjpalaa", sum := "1b74f8727c397622942158d4c0102f8ff0c746452572328af7e9c627320d9f3e", func := "rondel/rondellaw06.TitleCuts", spec := "titleCuts", inPlace := ["internal/abi.NoEscape", "internal/bytealg.MakeNoZero"], apart := false, narrowed := true }
def TitleCutsUptoSaid : Prop := titleCutsUptoRow.holds Try.pinned (OpenSpec.upto titleCutsSpec)

/-- 'rondellaw06.TitlePads', WHERE WHAT IT READS IS OF BULK AT MOST 1048576: true; the input reads as it did. -/
def titlePadsUptoRow : OpenClaim := { program := "ytpmhbfelhjpalaa", sum := "1b74f8727c397622942158d4c0102f8ff0c746452572328af7e9c627320d9f3e", func := "rondel/rondellaw06.TitlePads", spec := "titlePads", inPlace := ["internal/abi.NoEscape", "internal/bytealg.MakeNoZero"], apart := false, narrowed := true }
def TitlePadsUptoSaid : Prop := titlePadsUptoRow.holds Try.pinned (OpenSpec.upto titlePadsSpec)

end Rows
end Go.Proofs.Ytpmhbfelhjpalaa

/-
  No cell of these rows narrows 'for every input' (looked for: loops, veiled, ifaces, maps, wideKeys, modest, calm, conditions, laid).
  DERIVED. THE GIVEN ROWS OF THIS SEAT. 5 by the template 'for every input the law returns true; each argument reads behind the call as it read before'; 0 by the template 'total and deterministic' (their statements: YtnflakaphbjbhaaTotals.lean).
  GIVEN WITH THE SEED: the statements are not yours to turn. If you find one false, say at which input.
  Laid BY PROGRAM, IN A SANDBOX (cutbox-rows.mjs): the forced cells as the released guide's own fill.sh prints them over the translation 86f143c762f7957f… (all of the seat's roots in one cut). By AI agents, Wed Nov 11 2026. No macro, syntax, notation, axiom, sorry.
-/
import Derived.Test.YtnflakaphbjbhaaChecked
import GoSem.Claim
import GoSem.ClaimJoined
import GoSem.ClaimMapViews
import Derived.JoinedTies
import Derived.KernelRfl
namespace Go.Proofs.Ytnflakaphbjbhaa
/- THE CELL 'sum', in the pinned program and in every row, IS THE sha256 OF THE DUMP (.gsa) THAT YtnflakaphbjbhaaProg.lean LOADS. Nothing in Lean hashes anything: it is a label: what it is worth is what the hold of that sum in a sandbox is worth. -/
noncomputable def Try.pinned : Pinned := { name := "ytnflakaphbjbhaa", sum := "86f143c762f7957f44eb7dba6254985baea656742a03436066f9d0ce01c5fbd2", checked := Try.checked }
namespace Rows
def none {H : Type} : Left H := { results := [], args := [] }

/-- 'polderlaw02.FletchWords': WHATEVER THE INPUT: true; the input reads as it did. -/
def fletchWordsSpec : ChangeSpec := { name := "fletchWords", fn := fun _ => fun
  | [d1, d2, d3, d4] => { results := [.lit (.bool true)], args := [d1, d2, d3, d4] }
  | _ => none }
def fletchWordsRow : OpenClaim := { program := "ytnflakaphbjbhaa", sum := "86f143c762f7957f44eb7dba6254985baea656742a03436066f9d0ce01c5fbd2", func := "polder/polderlaw02.FletchWords", spec := "fletchWords", inPlace := ["internal/abi.NoEscape", "internal/bytealg.MakeNoZero"], unfollowed := true, recurses := true, apart := false }
def FletchWordsSaid : Prop := fletchWordsRow.holds Try.pinned (OpenSpec.ofChange fletchWordsSpec)

/-- ITS FALSE NEIGHBOUR: 'it returns false'. Refute it at one input. -/
def fletchWordsWrong : ChangeSpec := { name := "fletchWords", fn := fun _ => fun
  | [d1, d2, d3, d4] => { results := [.lit (.bool false)], args := [d1, d2, d3, d4] }
  | _ => none }
def FletchWordsWrongFalsely : Prop := fletchWordsRow.holds Try.pinned (OpenSpec.ofChange fletchWordsWrong)

/-- 'polderlaw02.FletchFirst': WHATEVER THE INPUT: true; the input reads as it did. -/
def fletchFirstSpec : ChangeSpec := { name := "fletchFirst", fn := fun _ => fun
  | [d1, d2] => { results := [.lit (.bool true)], args := [d1, d2] }
  | _ => none }
def fletchFirstRow : OpenClaim := { program := "ytnflakaphbjbhaa", sum := "86f143c762f7957f44eb7dba6254985baea656742a03436066f9d0ce01c5fbd2", func := "polder/polderlaw02.FletchFirst", spec := "fletchFirst", inPlace := ["internal/abi.NoEscape", "internal/bytealg.MakeNoZero"], unfollowed := true, recurses := true, apart := false }
def FletchFirstSaid : Prop := fletchFirstRow.holds Try.pinned (OpenSpec.ofChange fletchFirstSpec)

/-- ITS FALSE NEIGHBOUR: 'it returns false'. Refute it at one input. -/
def fletchFirstWrong : ChangeSpec := { name := "fletchFirst", fn := fun _ => fun
  | [d1, d2] => { results := [.lit (.bool false)], args := [d1, d2] }
  | _ => none }
def FletchFirstWrongFalsely : Prop := fletchFirstRow.holds Try.pinned (OpenSpec.ofChange fletchFirstWrong)

/-- 'polderlaw02.FletchMore': WHATEVER THE INPUT: true; the input reads as it did. -/
def fletchMoreSpec : ChangeSpec := { name := "fletchMore", fn := fun _ => fun
  | [d1, d2] => { results := [.lit (.bool true)], args := [d1, d2] }
  | _ => none }
def fletchMoreRow : OpenClaim := { program := "ytnflakaphbjbhaa", sum := "86f143c762f7957f44eb7dba6254985baea656742a03436066f9d0ce01c5fbd2", func := "polder/polderlaw02.FletchMore", spec := "fletchMore", inPlace := ["internal/abi.NoEscape", "internal/bytealg.MakeNoZero"], unfollowed := true, recurses := true, apart := false }
def FletchMoreSaid : Prop := fletchMoreRow.holds Try.pinned (OpenSpec.ofChange fletchMoreSpec)

/-- ITS FALSE NEIGHBOUR: 'it returns false'. Refute it at one input. -/
def fletchMoreWrong : ChangeSpec := { name := "fletchMore", fn := fun _ => fun
  | [d1, d2] => { results := [.lit (.bool false)], args := [d1, d2] }
  | _ => none }
def FletchMoreWrongFalsely : Prop := fletchMoreRow.holds Try.pinned (OpenSpec.ofChange fletchMoreWrong)

/-- 'polderlaw02.FletchZeros': WHATEVER THE INPUT: true; the input reads as it did. -/
def fletchZerosSpec : ChangeSpec := { name := "fletchZeros", fn := fun _ => fun
  | [d1, d2, d3, d4] => { results := [.lit (.bool true)], args := [d1, d2, d3, d4] }
  | _ => none }
def fletchZerosRow : OpenClaim := { program := "ytnflakaphbjbhaa", sum := "86f143c762f7957f44eb7dba6254985baea656742a03436066f9d0ce01c5fbd2", func := "polder/polderlaw02.FletchZeros", spec := "fletchZeros", inPlace := ["internal/abi.NoEscape", "internal/bytealg.MakeNoZero"], unfollowed := true, recurses := true, apart := false }
def FletchZerosSaid : Prop := fletchZerosRow.holds Try.pinned (OpenSpec.ofChange fletchZerosSpec)

/-- ITS FALSE NEIGHBOUR: 'it returns false'. Refute it at one input. -/
def fletchZerosWrong : ChangeSpec := { name := "fletchZeros", fn := fun _ => fun
  | [d1, d2, d3, d4] => { results := [.lit (.bool false)], args := [d1, d2, d3, d4] }
  | _ => none }
def FletchZerosWrongFalsely : Prop := fletchZerosRow.holds Try.pinned (OpenSpec.ofChange fletchZerosWrong)

/-- 'polderlaw02.FletchPlays': WHATEVER THE INPUT: true; the input reads as it did. -/
def fletchPlaysSpec : ChangeSpec := { name := "fletchPlays", fn := fun _ => fun
  | [d1, d2, d3] => { results := [.lit (.bool true)], args := [d1, d2, d3] }
  | _ => none }
def fletchPlaysRow : OpenClaim := { program := "ytnflakaphbjbhaa", sum := "86f143c762f7957f44eb7dba6254985baea656742a03436066f9d0ce01c5fbd2", func := "polder/polderlaw02.FletchPlays", spec := "fletchPlays", inPlace := ["internal/abi.NoEscape", "internal/bytealg.MakeNoZero"], unfollowed := true, recurses := true, apart := false }
def FletchPlaysSaid : Prop := fletchPlaysRow.holds Try.pinned (OpenSpec.ofChange fletchPlaysSpec)

/-- ITS FALSE NEIGHBOUR: 'it returns false'. Refute it at one input. -/
def fletchPlaysWrong : ChangeSpec := { name := "fletchPlays", fn := fun _ => fun
  | [d1, d2, d3] => { results := [.lit (.bool false)], args := [d1, d2, d3] }
  | _ => none }
def FletchPlaysWrongFalsely : Prop := fletchPlaysRow.holds Try.pinned (OpenSpec.ofChange fletchPlaysWrong)

/- THE SECOND FORM. 'bulk': how many values and letters a reading holds, each counted each time it is reached (what is shared counts as often as it is met; a slice's spare places count too). A statement '..UptoSaid' is the law's where the arguments, and the package variables that the reading takes, are together of bulk at most 1048576: NARROWER than '..Said'. Prove '..Said' where nothing that the law and all that it calls make is longer than what came in: it says more and counts as full. Else prove '..UptoSaid'. A law counts once. -/
mutual
def uptoBulk {H : Type} : DataW H → Nat
  | .lit (.string bytes) => bytes.length + 1
  | .lit _ => 1
  | .nil => 1
  | .ptr d => uptoBulk d + 1
  | .slice elems spare => uptoBulkAll elems + uptoBulkAll spare + 1
  | .agg parts => uptoBulkAll parts + 1
  | .iface _ d => uptoBulk d + 1
  | .map entries => uptoBulkEntries entries + 1
  | .held _ => 1
def uptoBulkAll {H : Type} : List (DataW H) → Nat
  | [] => 0
  | d :: r => uptoBulk d + uptoBulkAll r
def uptoBulkEntries {H : Type} : List (Lit × DataW H) → Nat
  | [] => 0
  | x :: r => uptoBulkEntry x + uptoBulkEntries r
def uptoBulkEntry {H : Type} : Lit × DataW H → Nat
  | (.string bytes, d) => bytes.length + uptoBulk d + 1
  | (_, d) => uptoBulk d + 1
 end
def uptoSmall : (H : Type) → List (DataW H) → Bool := fun _ ds => decide (uptoBulkAll ds ≤ 1048576)
def OpenSpec.upto (s : _root_.Go.ChangeSpec) : _root_.Go.OpenSpec := { _root_.Go.OpenSpec.ofChange s with cond := some uptoSmall }

/-- 'polderlaw02.FletchWords', WHERE WHAT IT READS IS OF BULK AT MOST 1048576: true; the input reads as it did. -/
def fletchWordsUptoRow : OpenClaim := { program := "ytnflakaphbjbhaa", sum := "86f143c762f7957f44eb7dba6254985baea656742a03436066f9d0ce01c5fbd2", func := "polder/polderlaw02.FletchWords", spec := "fletchWords", inPlace := ["internal/abi.NoEscape", "internal/bytealg.MakeNoZero"], unfollowed := true, recurses := true, apart := false, narrowed := true }
def FletchWordsUptoSaid : Prop := fletchWordsUptoRow.holds Try.pinned (OpenSpec.upto fletchWordsSpec)

/-- 'polderlaw02.FletchFirst', WHERE WHAT IT READS IS OF BULK AT MOST 1048576: true; the input reads as it did. -/
def fletchFirstUptoRow : OpenClaim := { program := "ytnflakaphbjbhaa", sum := "86f143c762f7957f44eb7dba6254985baea656742a03436066f9d0ce01c5fbd2", func := "polder/polderlaw02.FletchFirst", spec := "fletchFirst", inPlace := ["internal/abi.NoEscape", "internal/bytealg.MakeNoZero"], unfollowed := true, recurses := true, apart := false, narrowed := true }
def FletchFirstUptoSaid : Prop := fletchFirstUptoRow.holds Try.pinned (OpenSpec.upto fletchFirstSpec)

/-- 'polderlaw02.FletchMore', WHERE WHAT IT READS IS OF BULK AT MOST 1048576: true; the input reads as it did. -/
def fletchMoreUptoRow : OpenClaim := { program := "ytnflakaphbjbhaa", sum := "86f143c762f7957f44eb7dba6254985baea656742a03436066f9d0ce01c5fbd2", func := "polder/polderlaw02.FletchMore", spec := "fletchMore", inPlace := ["internal/abi.NoEscape", "internal/bytealg.MakeNoZero"], unfollowed := true, recurses := true, apart := false, narrowed := true }
def FletchMoreUptoSaid : Prop := fletchMoreUptoRow.holds Try.pinned (OpenSpec.upto fletchMoreSpec)

/-- 'polderlaw02.FletchZeros', WHERE WHAT IT READS IS OF BULK AT MOST 1048576: true; the input reads as it did. -/
def fletchZerosUptoRow : OpenClaim := { program := "ytnflakaphbjbhaa", sum := "86f143c762f7957f44eb7dba6254985baea656742a03436066f9d0ce01c5fbd2", func := "polder/polderlaw02.FletchZeros", spec := "fletchZeros", inPlace := ["internal/abi.NoEscape", "internal/bytealg.MakeNoZero"], unfollowed := true, recurses := true, apart := false, narrowed := true }
def FletchZerosUptoSaid : Prop := fletchZerosUptoRow.holds Try.pinned (OpenSpec.upto fletchZerosSpec)

/-- 'polderlaw02.FletchPlays', WHERE WHAT IT READS IS OF BULK AT MOST 1048576: true; the input reads as it did. -/
def fletchPlaysUptoRow : OpenClaim := { program := "ytnflakaphbjbhaa", sum := "86f143c762f7957f44eb7dba6254985baea656742a03436066f9d0ce01c5fbd2", func := "polder/polderlaw02.FletchPlays", spec := "fletchPlays", inPlace := ["internal/abi.NoEscape", "internal/bytealg.MakeNoZero"], unfollowed := true, recurses := true, apart := false, narrowed := true }
def FletchPlaysUptoSaid : Prop := fletchPlaysUptoRow.holds Try.pinned (OpenSpec.upto fletchPlaysSpec)

end Rows
end Go.Proofs.Ytnflakaphbjbhaa

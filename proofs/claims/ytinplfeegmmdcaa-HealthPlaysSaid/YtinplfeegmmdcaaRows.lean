/-
  No cell of these rows narrows 'for every input' (looked for: loops, veiled, ifaces, maps, wideKeys, modest, calm, conditions, laid).
  DERIVED. THE GIVEN ROWS OF THIS SEAT. 4 by the template 'for every input the law returns true; each argument reads behind the call as it read before'; 0 by the template 'total and deterministic' (their statements: YtinplfeegmmdcaaTotals.lean).
  GIVEN WITH THE SEED: the statements are not yours to turn. If you find one false, say at which input.
  Laid BY PROGRAM, IN A SANDBOX (cutbox-rows.mjs): the forced cells as the released guide's own fill.sh prints them over the translation 692f1c4a3f292a12… (all of the seat's roots in one cut). By AI agents, Wed Nov 11 2026. No macro, syntax, notation, axiom, sorry.
-/
import Derived.Test.YtinplfeegmmdcaaChecked
import GoSem.Claim
import GoSem.ClaimJoined
import GoSem.ClaimMapViews
import Derived.JoinedTies
import Derived.KernelRfl
namespace Go.Proofs.Ytinplfeegmmdcaa
/- THE CELL 'sum', in the pinned program and in every row, IS THE sha256 OF THE DUMP (.gsa) THAT YtinplfeegmmdcaaProg.lean LOADS. Nothing in Lean hashes anything: it is a label: what it is worth is what the hold of that sum in a sandbox is worth. -/
noncomputable def Try.pinned : Pinned := { name := "ytinplfeegmmdcaa", sum := "692f1c4a3f292a1221bd07cd42f3d1cb6d45e52e09487f4efbf1451e95b78423", checked := Try.checked }
namespace Rows
def none {H : Type} : Left H := { results := [], args := [] }

/-- 'polderlaw19.HealthJoins': WHATEVER THE INPUT: true; the input reads as it did. -/
def healthJoinsSpec : ChangeSpec := { name := "healthJoins", fn := fun _ => fun
  | [d1, d2, d3] => { results := [.lit (.bool true)], args := [d1, d2, d3] }
  | _ => none }
def healthJoinsRow : OpenClaim := { program := "ytinplfeegmmdcaa", sum := "692f1c4a3f292a1221bd07cd42f3d1cb6d45e52e09487f4efbf1451e95b78423", func := "polder/polderlaw19.HealthJoins", spec := "healthJoins", apart := false }
def HealthJoinsSaid : Prop := healthJoinsRow.holds Try.pinned (OpenSpec.ofChange healthJoinsSpec)

/-- ITS FALSE NEIGHBOUR: 'it returns false'. Refute it at one input. -/
def healthJoinsWrong : ChangeSpec := { name := "healthJoins", fn := fun _ => fun
  | [d1, d2, d3] => { results := [.lit (.bool false)], args := [d1, d2, d3] }
  | _ => none }
def HealthJoinsWrongFalsely : Prop := healthJoinsRow.holds Try.pinned (OpenSpec.ofChange healthJoinsWrong)

/-- 'polderlaw19.HealthAdds': WHATEVER THE INPUT: true; the input reads as it did. -/
def healthAddsSpec : ChangeSpec := { name := "healthAdds", fn := fun _ => fun
  | [d1, d2, d3] => { results := [.lit (.bool true)], args := [d1, d2, d3] }
  | _ => none }
def healthAddsRow : OpenClaim := { program := "ytinplfeegmmdcaa", sum := "692f1c4a3f292a1221bd07cd42f3d1cb6d45e52e09487f4efbf1451e95b78423", func := "polder/polderlaw19.HealthAdds", spec := "healthAdds", apart := false }
def HealthAddsSaid : Prop := healthAddsRow.holds Try.pinned (OpenSpec.ofChange healthAddsSpec)

/-- ITS FALSE NEIGHBOUR: 'it returns false'. Refute it at one input. -/
def healthAddsWrong : ChangeSpec := { name := "healthAdds", fn := fun _ => fun
  | [d1, d2, d3] => { results := [.lit (.bool false)], args := [d1, d2, d3] }
  | _ => none }
def HealthAddsWrongFalsely : Prop := healthAddsRow.holds Try.pinned (OpenSpec.ofChange healthAddsWrong)

/-- 'polderlaw19.HealthLeast': WHATEVER THE INPUT: true; the input reads as it did. -/
def healthLeastSpec : ChangeSpec := { name := "healthLeast", fn := fun _ => fun
  | [d1, d2] => { results := [.lit (.bool true)], args := [d1, d2] }
  | _ => none }
def healthLeastRow : OpenClaim := { program := "ytinplfeegmmdcaa", sum := "692f1c4a3f292a1221bd07cd42f3d1cb6d45e52e09487f4efbf1451e95b78423", func := "polder/polderlaw19.HealthLeast", spec := "healthLeast", apart := false }
def HealthLeastSaid : Prop := healthLeastRow.holds Try.pinned (OpenSpec.ofChange healthLeastSpec)

/-- ITS FALSE NEIGHBOUR: 'it returns false'. Refute it at one input. -/
def healthLeastWrong : ChangeSpec := { name := "healthLeast", fn := fun _ => fun
  | [d1, d2] => { results := [.lit (.bool false)], args := [d1, d2] }
  | _ => none }
def HealthLeastWrongFalsely : Prop := healthLeastRow.holds Try.pinned (OpenSpec.ofChange healthLeastWrong)

/-- 'polderlaw19.HealthPlays': WHATEVER THE INPUT: true; the input reads as it did. -/
def healthPlaysSpec : ChangeSpec := { name := "healthPlays", fn := fun _ => fun
  | [d1, d2, d3, d4, d5, d6] => { results := [.lit (.bool true)], args := [d1, d2, d3, d4, d5, d6] }
  | _ => none }
def healthPlaysRow : OpenClaim := { program := "ytinplfeegmmdcaa", sum := "692f1c4a3f292a1221bd07cd42f3d1cb6d45e52e09487f4efbf1451e95b78423", func := "polder/polderlaw19.HealthPlays", spec := "healthPlays", apart := false }
def HealthPlaysSaid : Prop := healthPlaysRow.holds Try.pinned (OpenSpec.ofChange healthPlaysSpec)

/-- ITS FALSE NEIGHBOUR: 'it returns false'. Refute it at one input. -/
def healthPlaysWrong : ChangeSpec := { name := "healthPlays", fn := fun _ => fun
  | [d1, d2, d3, d4, d5, d6] => { results := [.lit (.bool false)], args := [d1, d2, d3, d4, d5, d6] }
  | _ => none }
def HealthPlaysWrongFalsely : Prop := healthPlaysRow.holds Try.pinned (OpenSpec.ofChange healthPlaysWrong)

/- THE SECOND FORM. 'bulk': how many values and letters a reading holds, each counted each time it is reached (what is shared counts as often as it is met; a slice's spare places count too). A statement '..UptoSaid' is the law's where the arguments, and the package variables that the reading takes, are together of bulk at most 1048576: NARROWER than '..Said'. Prove '..Said' where nothing that the law and all that it calls make is longer than what came in: it says more and counts as full. Else prove '..UptoSaid'. A law counts once. -/
mutual
def uptoBulk {H : Type} : DataW H → Nat
  | .lit (.string bytes) => bytes.length + 1
  | .lit _ => 1
  | .nil => 1
  | .ptr d => uptoBulk d + 1
  | .slice elems spare => uptoBulkAll elems + uptoBulkAll spare + 1
  | .agg parts => uptoBulkAll parts + 1
  | .iface _ d => uptoBulk d + 1
  | .map entries => uptoBulkEntries entries + 1
  | .held _ => 1
def uptoBulkAll {H : Type} : List (DataW H) → Nat
  | [] => 0
  | d :: r => uptoBulk d + uptoBulkAll r
def uptoBulkEntries {H : Type} : List (Lit × DataW H) → Nat
  | [] => 0
  | x :: r => uptoBulkEntry x + uptoBulkEntries r
def uptoBulkEntry {H : Type} : Lit × DataW H → Nat
  | (.string bytes, d) => bytes.length + uptoBulk d + 1
  | (_, d) => uptoBulk d + 1
 end
def uptoSmall : (H : Type) → List (DataW H) → Bool := fun _ ds => decide (uptoBulkAll ds ≤ 1048576)
def OpenSpec.upto (s : _root_.Go.ChangeSpec) : _root_.Go.OpenSpec := { _root_.Go.OpenSpec.ofChange s with cond := some uptoSmall }

/-- 'polderlaw19.HealthJoins', WHERE WHAT IT READS IS OF BULK AT MOST 1048576: true; the input reads as it did. -/
def healthJoinsUptoRow : OpenClaim := { program := "ytinplfeegmmdcaa", sum := "692f1c4a3f292a1221bd07cd42f3d1cb6d45e52e09487f4efbf1451e95b78423", func := "polder/polderlaw19.HealthJoins", spec := "healthJoins", apart := false, narrowed := true }
def HealthJoinsUptoSaid : Prop := healthJoinsUptoRow.holds Try.pinned (OpenSpec.upto healthJoinsSpec)

/-- 'polderlaw19.HealthAdds', WHERE WHAT IT READS IS OF BULK AT MOST 1048576: true; the input reads as it did. -/
def healthAddsUptoRow : OpenClaim := { program := "ytinplfeegmmdcaa", sum := "692f1c4a3f292a1221bd07cd42f3d1cb6d45e52e09487f4efbf1451e95b78423", func := "polder/polderlaw19.HealthAdds", spec := "healthAdds", apart := false, narrowed := true }
def HealthAddsUptoSaid : Prop := healthAddsUptoRow.holds Try.pinned (OpenSpec.upto healthAddsSpec)

/-- 'polderlaw19.HealthLeast', WHERE WHAT IT READS IS OF BULK AT MOST 1048576: true; the input reads as it did. -/
def healthLeastUptoRow : OpenClaim := { program := "ytinplfeegmmdcaa", sum := "692f1c4a3f292a1221bd07cd42f3d1cb6d45e52e09487f4efbf1451e95b78423", func := "polder/polderlaw19.HealthLeast", spec := "healthLeast", apart := false, narrowed := true }
def HealthLeastUptoSaid : Prop := healthLeastUptoRow.holds Try.pinned (OpenSpec.upto healthLeastSpec)

/-- 'polderlaw19.HealthPlays', WHERE WHAT IT READS IS OF BULK AT MOST 1048576: true; the input reads as it did. -/
def healthPlaysUptoRow : OpenClaim := { program := "ytinplfeegmmdcaa", sum := "692f1c4a3f292a1221bd07cd42f3d1cb6d45e52e09487f4efbf1451e95b78423", func := "polder/polderlaw19.HealthPlays", spec := "healthPlays", apart := false, narrowed := true }
def HealthPlaysUptoSaid : Prop := healthPlaysUptoRow.holds Try.pinned (OpenSpec.upto healthPlaysSpec)

end Rows
end Go.Proofs.Ytinplfeegmmdcaa

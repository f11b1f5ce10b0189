/-
  No cell of these rows narrows 'for every input' (looked for: loops, veiled, ifaces, maps, wideKeys, modest, calm, conditions, laid).
  DERIVED. THE GIVEN ROWS OF THIS SEAT. 5 by the template 'for every input the law returns true; each argument reads behind the call as it read before'; 0 by the template 'total and deterministic' (their statements: YtbofgldghjdphaaTotals.lean).
  GIVEN WITH THE SEED: the statements are not yours to turn. If you find one false, say at which input.
  Laid BY PROGRAM, IN A SANDBOX (cutbox-rows.mjs): the forced cells as the released guide's own fill.sh prints them over the translation 380f7b3875d5c24d… (all of the seat's roots in one cut). By AI agents, Wed Nov 11 2026. No macro, syntax, notation, axiom, sorry.
-/
import Derived.Test.YtbofgldghjdphaaChecked
import GoSem.Claim
import GoSem.ClaimJoined
import GoSem.ClaimMapViews
import Derived.JoinedTies
import Derived.KernelRfl
namespace Go.Proofs.Ytbofgldghjdphaa
/- THE CELL 'sum', in the pinned program and in every row, IS THE sha256 OF THE DUMP (.gsa) THAT YtbofgldghjdphaaProg.lean LOADS. Nothing in Lean hashes anything: it is a label: what it is worth is what the hold of that sum in a sandbox is worth. -/
noncomputable def Try.pinned : Pinned := { name := "ytbofgldghjdphaa", sum := "380f7b3875d5c24d1c2924e9840474fffdbbbd9d16ed98161dc12c965dd8c030", checked := Try.checked }
namespace Rows
def none {H : Type} : Left H := { results := [], args := [] }

/-- 'polderlaw05.GeomTakes': WHATEVER THE INPUT: true; the input reads as it did. -/
def geomTakesSpec : ChangeSpec := { name := "geomTakes", fn := fun _ => fun
  | [d1, d2, d3] => { results := [.lit (.bool true)], args := [d1, d2, d3] }
  | _ => none }
def geomTakesRow : OpenClaim := { program := "ytbofgldghjdphaa", sum := "380f7b3875d5c24d1c2924e9840474fffdbbbd9d16ed98161dc12c965dd8c030", func := "polder/polderlaw05.GeomTakes", spec := "geomTakes", unfollowed := true, recurses := true, apart := false }
def GeomTakesSaid : Prop := geomTakesRow.holds Try.pinned (OpenSpec.ofChange geomTakesSpec)

/-- ITS FALSE NEIGHBOUR: 'it returns false'. Refute it at one input. -/
def geomTakesWrong : ChangeSpec := { name := "geomTakes", fn := fun _ => fun
  | [d1, d2, d3] => { results := [.lit (.bool false)], args := [d1, d2, d3] }
  | _ => none }
def GeomTakesWrongFalsely : Prop := geomTakesRow.holds Try.pinned (OpenSpec.ofChange geomTakesWrong)

/-- 'polderlaw05.GeomRoom': WHATEVER THE INPUT: true; the input reads as it did. -/
def geomRoomSpec : ChangeSpec := { name := "geomRoom", fn := fun _ => fun
  | [d1, d2] => { results := [.lit (.bool true)], args := [d1, d2] }
  | _ => none }
def geomRoomRow : OpenClaim := { program := "ytbofgldghjdphaa", sum := "380f7b3875d5c24d1c2924e9840474fffdbbbd9d16ed98161dc12c965dd8c030", func := "polder/polderlaw05.GeomRoom", spec := "geomRoom", unfollowed := true, recurses := true, apart := false }
def GeomRoomSaid : Prop := geomRoomRow.holds Try.pinned (OpenSpec.ofChange geomRoomSpec)

/-- ITS FALSE NEIGHBOUR: 'it returns false'. Refute it at one input. -/
def geomRoomWrong : ChangeSpec := { name := "geomRoom", fn := fun _ => fun
  | [d1, d2] => { results := [.lit (.bool false)], args := [d1, d2] }
  | _ => none }
def GeomRoomWrongFalsely : Prop := geomRoomRow.holds Try.pinned (OpenSpec.ofChange geomRoomWrong)

/-- 'polderlaw05.GeomFirsts': WHATEVER THE INPUT: true; the input reads as it did. -/
def geomFirstsSpec : ChangeSpec := { name := "geomFirsts", fn := fun _ => fun
  | [d] => { results := [.lit (.bool true)], args := [d] }
  | _ => none }
def geomFirstsRow : OpenClaim := { program := "ytbofgldghjdphaa", sum := "380f7b3875d5c24d1c2924e9840474fffdbbbd9d16ed98161dc12c965dd8c030", func := "polder/polderlaw05.GeomFirsts", spec := "geomFirsts", unfollowed := true, recurses := true, apart := false }
def GeomFirstsSaid : Prop := geomFirstsRow.holds Try.pinned (OpenSpec.ofChange geomFirstsSpec)

/-- ITS FALSE NEIGHBOUR: 'it returns false'. Refute it at one input. -/
def geomFirstsWrong : ChangeSpec := { name := "geomFirsts", fn := fun _ => fun
  | [d] => { results := [.lit (.bool false)], args := [d] }
  | _ => none }
def GeomFirstsWrongFalsely : Prop := geomFirstsRow.holds Try.pinned (OpenSpec.ofChange geomFirstsWrong)

/-- 'polderlaw05.GeomBytes': WHATEVER THE INPUT: true; the input reads as it did. -/
def geomBytesSpec : ChangeSpec := { name := "geomBytes", fn := fun _ => fun
  | [d1, d2] => { results := [.lit (.bool true)], args := [d1, d2] }
  | _ => none }
def geomBytesRow : OpenClaim := { program := "ytbofgldghjdphaa", sum := "380f7b3875d5c24d1c2924e9840474fffdbbbd9d16ed98161dc12c965dd8c030", func := "polder/polderlaw05.GeomBytes", spec := "geomBytes", unfollowed := true, recurses := true, apart := false }
def GeomBytesSaid : Prop := geomBytesRow.holds Try.pinned (OpenSpec.ofChange geomBytesSpec)

/-- ITS FALSE NEIGHBOUR: 'it returns false'. Refute it at one input. -/
def geomBytesWrong : ChangeSpec := { name := "geomBytes", fn := fun _ => fun
  | [d1, d2] => { results := [.lit (.bool false)], args := [d1, d2] }
  | _ => none }
def GeomBytesWrongFalsely : Prop := geomBytesRow.holds Try.pinned (OpenSpec.ofChange geomBytesWrong)

/-- 'polderlaw05.GeomOwns': WHATEVER THE INPUT: true; the input reads as it did. -/
def geomOwnsSpec : ChangeSpec := { name := "geomOwns", fn := fun _ => fun
  | [d1, d2] => { results := [.lit (.bool true)], args := [d1, d2] }
  | _ => none }
def geomOwnsRow : OpenClaim := { program := "ytbofgldghjdphaa", sum := "380f7b3875d5c24d1c2924e9840474fffdbbbd9d16ed98161dc12c965dd8c030", func := "polder/polderlaw05.GeomOwns", spec := "geomOwns", unfollowed := true, recurses := true, apart := false }
def GeomOwnsSaid : Prop := geomOwnsRow.holds Try.pinned (OpenSpec.ofChange geomOwnsSpec)

/-- ITS FALSE NEIGHBOUR: 'it returns false'. Refute it at one input. -/
def geomOwnsWrong : ChangeSpec := { name := "geomOwns", fn := fun _ => fun
  | [d1, d2] => { results := [.lit (.bool false)], args := [d1, d2] }
  | _ => none }
def GeomOwnsWrongFalsely : Prop := geomOwnsRow.holds Try.pinned (OpenSpec.ofChange geomOwnsWrong)

/- THE SECOND FORM. 'bulk': how many values and letters a reading holds, each counted each time it is reached (what is shared counts as often as it is met; a slice's spare places count too). A statement '..UptoSaid' is the law's where the arguments, and the package variables that the reading takes, are together of bulk at most 1048576: NARROWER than '..Said'. Prove '..Said' where nothing that the law and all that it calls make is longer than what came in: it says more and counts as full. Else prove '..UptoSaid'. A law counts once. -/
mutual
def uptoBulk {H : Type} : DataW H → Nat
  | .lit (.string bytes) => bytes.length + 1
  | .lit _ => 1
  | .nil => 1
  | .ptr d => uptoBulk d + 1
  | .slice elems spare => uptoBulkAll elems + uptoBulkAll spare + 1
  | .agg parts => uptoBulkAll parts + 1
  | .iface _ d => uptoBulk d + 1
  | .map entries => uptoBulkEntries entries + 1
  | .held _ => 1
def uptoBulkAll {H : Type} : List (DataW H) → Nat
  | [] => 0
  | d :: r => uptoBulk d + uptoBulkAll r
def uptoBulkEntries {H : Type} : List (Lit × DataW H) → Nat
  | [] => 0
  | x :: r => uptoBulkEntry x + uptoBulkEntries r
def uptoBulkEntry {H : Type} : Lit × DataW H → Nat
  | (.string bytes, d) => bytes.length + uptoBulk d + 1
  | (_, d) => uptoBulk d + 1
 end
def uptoSmall : (H : Type) → List (DataW H) → Bool := fun _ ds => decide (uptoBulkAll ds ≤ 1048576)
def OpenSpec.upto (s : _root_.Go.ChangeSpec) : _root_.Go.OpenSpec := { _root_.Go.OpenSpec.ofChange s with cond := some uptoSmall }

/-- 'polderlaw05.GeomTakes', WHERE WHAT IT READS IS OF BULK AT MOST 1048576: true; the input reads as it did. -/
def geomTakesUptoRow : OpenClaim := { program := "ytbofgldghjdphaa", sum := "380f7b3875d5c24d1c2924e9840474fffdbbbd9d16ed98161dc12c965dd8c030", func := "polder/polderlaw05.GeomTakes", spec := "geomTakes", unfollowed := true, recurses := true, apart := false, narrowed := true }
def GeomTakesUptoSaid : Prop := geomTakesUptoRow.holds Try.pinned (OpenSpec.upto geomTakesSpec)

/-- 'polderlaw05.GeomRoom', WHERE WHAT IT READS IS OF BULK AT MOST 1048576: true; the input reads as it did. -/
def geomRoomUptoRow : OpenClaim := { program := "ytbofgldghjdphaa", sum := "380f7b3875d5c24d1c2924e9840474fffdbbbd9d16ed98161dc12c965dd8c030", func := "polder/polderlaw05.GeomRoom", spec := "geomRoom", unfollowed := true, recurses := true, apart := false, narrowed := true }
def GeomRoomUptoSaid : Prop := geomRoomUptoRow.holds Try.pinned (OpenSpec.upto geomRoomSpec)

/-- 'polderlaw05.GeomFirsts', WHERE WHAT IT READS IS OF BULK AT MOST 1048576: true; the input reads as it did. -/
def geomFirstsUptoRow : OpenClaim := { program := "ytbofgldghjdphaa", sum := "380f7b3875d5c24d1c2924e9840474fffdbbbd9d16ed98161dc12c965dd8c030", func := "polder/polderlaw05.GeomFirsts", spec := "geomFirsts", unfollowed := true, recurses := true, apart := false, narrowed := true }
def GeomFirstsUptoSaid : Prop := geomFirstsUptoRow.holds Try.pinned (OpenSpec.upto geomFirstsSpec)

/-- 'polderlaw05.GeomBytes', WHERE WHAT IT READS IS OF BULK AT MOST 1048576: true; the input reads as it did. -/
def geomBytesUptoRow : OpenClaim := { program := "ytbofgldghjdphaa", sum := "380f7b3875d5c24d1c2924e9840474fffdbbbd9d16ed98161dc12c965dd8c030", func := "polder/polderlaw05.GeomBytes", spec := "geomBytes", unfollowed := true, recurses := true, apart := false, narrowed := true }
def GeomBytesUptoSaid : Prop := geomBytesUptoRow.holds Try.pinned (OpenSpec.upto geomBytesSpec)

/-- 'polderlaw05.GeomOwns', WHERE WHAT IT READS IS OF BULK AT MOST 1048576: true; the input reads as it did. -/
def geomOwnsUptoRow : OpenClaim := { program := "ytbofgldghjdphaa", sum := "380f7b3875d5c24d1c2924e9840474fffdbbbd9d16ed98161dc12c965dd8c030", func := "polder/polderlaw05.GeomOwns", spec := "geomOwns", unfollowed := true, recurses := true, apart := false, narrowed := true }
def GeomOwnsUptoSaid : Prop := geomOwnsUptoRow.holds Try.pinned (OpenSpec.upto geomOwnsSpec)

end Rows
end Go.Proofs.Ytbofgldghjdphaa

/-
  No cell of these rows narrows 'for every input' (looked for: loops, veiled, ifaces, maps, wideKeys, modest, calm, conditions, laid).
  DERIVED. THE GIVEN ROWS OF THIS SEAT. 5 by the template 'for every input the law returns true; each argument reads behind the call as it read before'; 0 by the template 'total and deterministic' (their statements: YtajionjffijffaaTotals.lean).
  GIVEN WITH THE SEED: the statements are not yours to turn. If you find one false, say at which input.
  Laid BY PROGRAM, IN A SANDBOX (cutbox-rows.mjs): the forced cells as the released guide's own fill.sh prints them over the translation ba6ddba004057b3d… (all of the seat's roots in one cut). By AI agents, Wed Nov 11 2026. No macro, syntax, notation, axiom, sorry.
-/
import Derived.Test.YtajionjffijffaaChecked
import GoSem.Claim
import GoSem.ClaimJoined
import GoSem.ClaimMapViews
import Derived.JoinedTies
import Derived.KernelRfl
namespace Go.Proofs.Ytajionjffijffaa
/- THE CELL 'sum', in the pinned program and in every row, IS THE sha256 OF THE DUMP (.gsa) THAT YtajionjffijffaaProg.lean LOADS. Nothing in Lean hashes anything: it is a label: what it is worth is what the hold of that sum in a sandbox is worth. -/
noncomputable def Try.pinned : Pinned := { name := "ytajionjffijffaa", sum := "ba6ddba004057b3dfd5eca7dc32ecae46fcb0a9fe41306088f23f04865628ae0", checked := Try.checked }
namespace Rows
def none {H : Type} : Left H := { results := [], args := [] }

/-- 'polderlaw25.ScriptNear': WHATEVER THE INPUT: true; the input reads as it did. -/
def scriptNearSpec : ChangeSpec := { name := "scriptNear", fn := fun _ => fun
  | [d] => { results := [.lit (.bool true)], args := [d] }
  | _ => none }
def scriptNearRow : OpenClaim := { program := "ytajionjffijffaa", sum := "ba6ddba004057b3dfd5eca7dc32ecae46fcb0a9fe41306088f23f04865628ae0", func := "polder/polderlaw25.ScriptNear", spec := "scriptNear", inPlace := ["internal/bytealg.IndexByteString"], unfollowed := true, recurses := true, apart := false }
def ScriptNearSaid : Prop := scriptNearRow.holds Try.pinned (OpenSpec.ofChange scriptNearSpec)

/-- ITS FALSE NEIGHBOUR: 'it returns false'. Refute it at one input. -/
def scriptNearWrong : ChangeSpec := { name := "scriptNear", fn := fun _ => fun
  | [d] => { results := [.lit (.bool false)], args := [d] }
  | _ => none }
def ScriptNearWrongFalsely : Prop := scriptNearRow.holds Try.pinned (OpenSpec.ofChange scriptNearWrong)

/-- 'polderlaw25.ScriptWords': WHATEVER THE INPUT: true; the input reads as it did. -/
def scriptWordsSpec : ChangeSpec := { name := "scriptWords", fn := fun _ => fun
  | [d1, d2] => { results := [.lit (.bool true)], args := [d1, d2] }
  | _ => none }
def scriptWordsRow : OpenClaim := { program := "ytajionjffijffaa", sum := "ba6ddba004057b3dfd5eca7dc32ecae46fcb0a9fe41306088f23f04865628ae0", func := "polder/polderlaw25.ScriptWords", spec := "scriptWords", inPlace := ["internal/bytealg.IndexByteString"], unfollowed := true, recurses := true, apart := false }
def ScriptWordsSaid : Prop := scriptWordsRow.holds Try.pinned (OpenSpec.ofChange scriptWordsSpec)

/-- ITS FALSE NEIGHBOUR: 'it returns false'. Refute it at one input. -/
def scriptWordsWrong : ChangeSpec := { name := "scriptWords", fn := fun _ => fun
  | [d1, d2] => { results := [.lit (.bool false)], args := [d1, d2] }
  | _ => none }
def ScriptWordsWrongFalsely : Prop := scriptWordsRow.holds Try.pinned (OpenSpec.ofChange scriptWordsWrong)

/-- 'polderlaw25.ScriptNotes': WHATEVER THE INPUT: true; the input reads as it did. -/
def scriptNotesSpec : ChangeSpec := { name := "scriptNotes", fn := fun _ => fun
  | [d] => { results := [.lit (.bool true)], args := [d] }
  | _ => none }
def scriptNotesRow : OpenClaim := { program := "ytajionjffijffaa", sum := "ba6ddba004057b3dfd5eca7dc32ecae46fcb0a9fe41306088f23f04865628ae0", func := "polder/polderlaw25.ScriptNotes", spec := "scriptNotes", inPlace := ["internal/bytealg.IndexByteString", "internal/abi.NoEscape"], unfollowed := true, recurses := true, apart := false }
def ScriptNotesSaid : Prop := scriptNotesRow.holds Try.pinned (OpenSpec.ofChange scriptNotesSpec)

/-- ITS FALSE NEIGHBOUR: 'it returns false'. Refute it at one input. -/
def scriptNotesWrong : ChangeSpec := { name := "scriptNotes", fn := fun _ => fun
  | [d] => { results := [.lit (.bool false)], args := [d] }
  | _ => none }
def ScriptNotesWrongFalsely : Prop := scriptNotesRow.holds Try.pinned (OpenSpec.ofChange scriptNotesWrong)

/-- 'polderlaw25.ScriptBack': WHATEVER THE INPUT: true; the input reads as it did. -/
def scriptBackSpec : ChangeSpec := { name := "scriptBack", fn := fun _ => fun
  | [d1, d2] => { results := [.lit (.bool true)], args := [d1, d2] }
  | _ => none }
def scriptBackRow : OpenClaim := { program := "ytajionjffijffaa", sum := "ba6ddba004057b3dfd5eca7dc32ecae46fcb0a9fe41306088f23f04865628ae0", func := "polder/polderlaw25.ScriptBack", spec := "scriptBack", inPlace := ["internal/bytealg.IndexByteString", "internal/abi.NoEscape"], unfollowed := true, recurses := true, apart := false }
def ScriptBackSaid : Prop := scriptBackRow.holds Try.pinned (OpenSpec.ofChange scriptBackSpec)

/-- ITS FALSE NEIGHBOUR: 'it returns false'. Refute it at one input. -/
def scriptBackWrong : ChangeSpec := { name := "scriptBack", fn := fun _ => fun
  | [d1, d2] => { results := [.lit (.bool false)], args := [d1, d2] }
  | _ => none }
def ScriptBackWrongFalsely : Prop := scriptBackRow.holds Try.pinned (OpenSpec.ofChange scriptBackWrong)

/-- 'polderlaw25.ScriptOnly': WHATEVER THE INPUT: true; the input reads as it did. -/
def scriptOnlySpec : ChangeSpec := { name := "scriptOnly", fn := fun _ => fun
  | [d] => { results := [.lit (.bool true)], args := [d] }
  | _ => none }
def scriptOnlyRow : OpenClaim := { program := "ytajionjffijffaa", sum := "ba6ddba004057b3dfd5eca7dc32ecae46fcb0a9fe41306088f23f04865628ae0", func := "polder/polderlaw25.ScriptOnly", spec := "scriptOnly", inPlace := ["internal/bytealg.IndexByteString", "internal/abi.NoEscape"], unfollowed := true, recurses := true, apart := false }
def ScriptOnlySaid : Prop := scriptOnlyRow.holds Try.pinned (OpenSpec.ofChange scriptOnlySpec)

/-- ITS FALSE NEIGHBOUR: 'it returns false'. Refute it at one input. -/
def scriptOnlyWrong : ChangeSpec := { name := "scriptOnly", fn := fun _ => fun
  | [d] => { results := [.lit (.bool false)], args := [d] }
  | _ => none }
def ScriptOnlyWrongFalsely : Prop := scriptOnlyRow.holds Try.pinned (OpenSpec.ofChange scriptOnlyWrong)

/- THE SECOND FORM. 'bulk': how many values and letters a reading holds, each counted each time it is reached (what is shared counts as often as it is met; a slice's spare places count too). A statement '..UptoSaid' is the law's where the arguments, and the package variables that the reading takes, are together of bulk at most 1048576: NARROWER than '..Said'. Prove '..Said' where nothing that the law and all that it calls make is longer than what came in: it says more and counts as full. Else prove '..UptoSaid'. A law counts once. -/
mutual
def uptoBulk {H : Type} : DataW H → Nat
  | .lit (.string bytes) => bytes.length + 1
  | .lit _ => 1
  | .nil => 1
  | .ptr d => uptoBulk d + 1
  | .slice elems spare => uptoBulkAll elems + uptoBulkAll spare + 1
  | .agg parts => uptoBulkAll parts + 1
  | .iface _ d => uptoBulk d + 1
  | .map entries => uptoBulkEntries entries + 1
  | .held _ => 1
def uptoBulkAll {H : Type} : List (DataW H) → Nat
  | [] => 0
  | d :: r => uptoBulk d + uptoBulkAll r
def uptoBulkEntries {H : Type} : List (Lit × DataW H) → Nat
  | [] => 0
  | x :: r => uptoBulkEntry x + uptoBulkEntries r
def uptoBulkEntry {H : Type} : Lit × DataW H → Nat
  | (.string bytes, d) => bytes.length + uptoBulk d + 1
  | (_, d) => uptoBulk d + 1
 end
def uptoSmall : (H : Type) → List (DataW H) → Bool := fun _ ds => decide (uptoBulkAll ds ≤ 1048576)
def OpenSpec.upto (s : _root_.Go.ChangeSpec) : _root_.Go.OpenSpec := { _root_.Go.OpenSpec.ofChange s with cond := some uptoSmall }

/-- 'polderlaw25.ScriptNear', WHERE WHAT IT READS IS OF BULK AT MOST 1048576: true; the input reads as it did. -/
def scriptNearUptoRow : OpenClaim := { program := "ytajionjffijffaa", sum := "ba6ddba004057b3dfd5eca7dc32ecae46fcb0a9fe41306088f23f04865628ae0", func := "polder/polderlaw25.ScriptNear", spec := "scriptNear", inPlace := ["internal/bytealg.IndexByteString"], unfollowed := true, recurses := true, apart := false, narrowed := true }
def ScriptNearUptoSaid : Prop := scriptNearUptoRow.holds Try.pinned (OpenSpec.upto scriptNearSpec)

/-- 'polderlaw25.ScriptWords', WHERE WHAT IT READS IS OF BULK AT MOST 1048576: true; the input reads as it did. -/
def scriptWordsUptoRow : OpenClaim := { program := "ytajionjffijffaa", sum := "ba6ddba004057b3dfd5eca7dc32ecae46fcb0a9fe41306088f23f04865628ae0", func := "polder/polderlaw25.ScriptWords", spec := "scriptWords", inPlace := ["internal/bytealg.IndexByteString"], unfollowed := true, recurses := true, apart := false, narrowed := true }
def ScriptWordsUptoSaid : Prop := scriptWordsUptoRow.holds Try.pinned (OpenSpec.upto scriptWordsSpec)

/-- 'polderlaw25.ScriptNotes', WHERE WHAT IT READS IS OF BULK AT MOST 1048576: true; the input reads as it did. -/
def scriptNotesUptoRow : OpenClaim := { program := "ytajionjffijffaa", sum := "ba6ddba004057b3dfd5eca7dc32ecae46fcb0a9fe41306088f23f04865628ae0", func := "polder/polderlaw25.ScriptNotes", spec := "scriptNotes", inPlace := ["internal/bytealg.IndexByteString", "internal/abi.NoEscape"], unfollowed := true, recurses := true, apart := false, narrowed := true }
def ScriptNotesUptoSaid : Prop := scriptNotesUptoRow.holds Try.pinned (OpenSpec.upto scriptNotesSpec)

/-- 'polderlaw25.ScriptBack', WHERE WHAT IT READS IS OF BULK AT MOST 1048576: true; the input reads as it did. -/
def scriptBackUptoRow : OpenClaim := { program := "ytajionjffijffaa", sum := "ba6ddba004057b3dfd5eca7dc32ecae46fcb0a9fe41306088f23f04865628ae0", func := "polder/polderlaw25.ScriptBack", spec := "scriptBack", inPlace := ["internal/bytealg.IndexByteString", "internal/abi.NoEscape"], unfollowed := true, recurses := true, apart := false, narrowed := true }
def ScriptBackUptoSaid : Prop := scriptBackUptoRow.holds Try.pinned (OpenSpec.upto scriptBackSpec)

/-- 'polderlaw25.ScriptOnly', WHERE WHAT IT READS IS OF BULK AT MOST 1048576: true; the input reads as it did. -/
def scriptOnlyUptoRow : OpenClaim := { program := "ytajionjffijffaa", sum := "ba6ddba004057b3dfd5eca7dc32ecae46fcb0a9fe41306088f23f04865628ae0", func := "polder/polderlaw25.ScriptOnly", spec := "scriptOnly", inPlace := ["internal/bytealg.IndexByteString", "internal/abi.NoEscape"], unfollowed := true, recurses := true, apart := false, narrowed := true }
def ScriptOnlyUptoSaid : Prop := scriptOnlyUptoRow.holds Try.pinned (OpenSpec.upto scriptOnlySpec)

end Rows
end Go.Proofs.Ytajionjffijffaa

/-
  No cell of these rows narrows 'for every input' (looked for: loops, veiled, ifaces, maps, wideKeys, modest, calm, conditions, laid).
  DERIVED. THE GIVEN ROWS OF THIS SEAT. 6 by the template 'for every input the law returns true; each argument reads behind the call as it read before'; 0 by the template 'total and deterministic' (their statements: YtaggiceejcegdaaGreatTotals.lean).
  GIVEN WITH THE SEED: the statements are not yours to turn. If you find one false, say at which input.
  Laid BY PROGRAM, IN A SANDBOX (cutbox-rows.mjs): the forced cells as the released guide's own fill.sh prints them over the translation ffae1ea4b4f9d6a2… (all of the seat's roots in one cut). By AI agents, Wed Nov 11 2026. No macro, syntax, notation, axiom, sorry.
-/
import Derived.Test.YtaggiceejcegdaaGreatChecked
import GoSem.Claim
import GoSem.ClaimJoined
import GoSem.ClaimMapViews
import Derived.JoinedTies
import Derived.KernelRfl
namespace Go.Proofs.YtaggiceejcegdaaGreat
/- THE CELL 'sum', in the pinned program and in every row, IS THE sha256 OF THE DUMP (.gsa) THAT YtaggiceejcegdaaGreatProg.lean LOADS. Nothing in Lean hashes anything: it is a label: what it is worth is what the hold of that sum in a sandbox is worth. -/
noncomputable def Tryz.pinned : Pinned := { name := "ytaggiceejcegdaagreat", sum := "ffae1ea4b4f9d6a2b6bfd76cfd4b5d71ecbf3035c115b436380ab6e91efd1790", checked := Tryz.checked }
namespace Rows
def none {H : Type} : Left H := { results := [], args := [] }

/-- 'tegulalaw49.WalFits': WHATEVER THE INPUT: true; the input reads as it did. -/
def walFitsSpec : ChangeSpec := { name := "walFits", fn := fun _ => fun
  | [d1, d2, d3] => { results := [.lit (.bool true)], args := [d1, d2, d3] }
  | _ => none }
def walFitsRow : OpenClaim := { program := "ytaggiceejcegdaagreat", sum := "ffae1ea4b4f9d6a2b6bfd76cfd4b5d71ecbf3035c115b436380ab6e91efd1790", func := "tegula/tegulalaw49.WalFits", spec := "walFits", unfollowed := true, recurses := true, apart := false }
def WalFitsSaid : Prop := walFitsRow.holds Tryz.pinned (OpenSpec.ofChange walFitsSpec)

/-- ITS FALSE NEIGHBOUR: 'it returns false'. Refute it at one input. -/
def walFitsWrong : ChangeSpec := { name := "walFits", fn := fun _ => fun
  | [d1, d2, d3] => { results := [.lit (.bool false)], args := [d1, d2, d3] }
  | _ => none }
def WalFitsWrongFalsely : Prop := walFitsRow.holds Tryz.pinned (OpenSpec.ofChange walFitsWrong)

/-- 'tegulalaw49.WalOperations': WHATEVER THE INPUT: true; the input reads as it did. -/
def walOperationsSpec : ChangeSpec := { name := "walOperations", fn := fun _ => fun
  | [d1, d2, d3, d4] => { results := [.lit (.bool true)], args := [d1, d2, d3, d4] }
  | _ => none }
def walOperationsRow : OpenClaim := { program := "ytaggiceejcegdaagreat", sum := "ffae1ea4b4f9d6a2b6bfd76cfd4b5d71ecbf3035c115b436380ab6e91efd1790", func := "tegula/tegulalaw49.WalOperations", spec := "walOperations", unfollowed := true, recurses := true, apart := false }
def WalOperationsSaid : Prop := walOperationsRow.holds Tryz.pinned (OpenSpec.ofChange walOperationsSpec)

/-- ITS FALSE NEIGHBOUR: 'it returns false'. Refute it at one input. -/
def walOperationsWrong : ChangeSpec := { name := "walOperations", fn := fun _ => fun
  | [d1, d2, d3, d4] => { results := [.lit (.bool false)], args := [d1, d2, d3, d4] }
  | _ => none }
def WalOperationsWrongFalsely : Prop := walOperationsRow.holds Tryz.pinned (OpenSpec.ofChange walOperationsWrong)

/-- 'tegulalaw49.WalNew': WHATEVER THE INPUT: true; the input reads as it did. -/
def walNewSpec : ChangeSpec := { name := "walNew", fn := fun _ => fun
  | [d1, d2, d3] => { results := [.lit (.bool true)], args := [d1, d2, d3] }
  | _ => none }
def walNewRow : OpenClaim := { program := "ytaggiceejcegdaagreat", sum := "ffae1ea4b4f9d6a2b6bfd76cfd4b5d71ecbf3035c115b436380ab6e91efd1790", func := "tegula/tegulalaw49.WalNew", spec := "walNew", unfollowed := true, recurses := true, apart := false }
def WalNewSaid : Prop := walNewRow.holds Tryz.pinned (OpenSpec.ofChange walNewSpec)

/-- ITS FALSE NEIGHBOUR: 'it returns false'. Refute it at one input. -/
def walNewWrong : ChangeSpec := { name := "walNew", fn := fun _ => fun
  | [d1, d2, d3] => { results := [.lit (.bool false)], args := [d1, d2, d3] }
  | _ => none }
def WalNewWrongFalsely : Prop := walNewRow.holds Tryz.pinned (OpenSpec.ofChange walNewWrong)

/-- 'tegulalaw49.WalAppend': WHATEVER THE INPUT: true; the input reads as it did. -/
def walAppendSpec : ChangeSpec := { name := "walAppend", fn := fun _ => fun
  | [d] => { results := [.lit (.bool true)], args := [d] }
  | _ => none }
def walAppendRow : OpenClaim := { program := "ytaggiceejcegdaagreat", sum := "ffae1ea4b4f9d6a2b6bfd76cfd4b5d71ecbf3035c115b436380ab6e91efd1790", func := "tegula/tegulalaw49.WalAppend", spec := "walAppend", unfollowed := true, recurses := true, apart := false }
def WalAppendSaid : Prop := walAppendRow.holds Tryz.pinned (OpenSpec.ofChange walAppendSpec)

/-- ITS FALSE NEIGHBOUR: 'it returns false'. Refute it at one input. -/
def walAppendWrong : ChangeSpec := { name := "walAppend", fn := fun _ => fun
  | [d] => { results := [.lit (.bool false)], args := [d] }
  | _ => none }
def WalAppendWrongFalsely : Prop := walAppendRow.holds Tryz.pinned (OpenSpec.ofChange walAppendWrong)

/-- 'tegulalaw49.WalNil': WHATEVER THE INPUT: true; the input reads as it did. -/
def walNilSpec : ChangeSpec := { name := "walNil", fn := fun _ => fun
  | [d1, d2] => { results := [.lit (.bool true)], args := [d1, d2] }
  | _ => none }
def walNilRow : OpenClaim := { program := "ytaggiceejcegdaagreat", sum := "ffae1ea4b4f9d6a2b6bfd76cfd4b5d71ecbf3035c115b436380ab6e91efd1790", func := "tegula/tegulalaw49.WalNil", spec := "walNil", unfollowed := true, recurses := true, apart := false }
def WalNilSaid : Prop := walNilRow.holds Tryz.pinned (OpenSpec.ofChange walNilSpec)

/-- ITS FALSE NEIGHBOUR: 'it returns false'. Refute it at one input. -/
def walNilWrong : ChangeSpec := { name := "walNil", fn := fun _ => fun
  | [d1, d2] => { results := [.lit (.bool false)], args := [d1, d2] }
  | _ => none }
def WalNilWrongFalsely : Prop := walNilRow.holds Tryz.pinned (OpenSpec.ofChange walNilWrong)

/-- 'tegulalaw49.WalCut': WHATEVER THE INPUT: true; the input reads as it did. -/
def walCutSpec : ChangeSpec := { name := "walCut", fn := fun _ => fun
  | [d1, d2, d3, d4] => { results := [.lit (.bool true)], args := [d1, d2, d3, d4] }
  | _ => none }
def walCutRow : OpenClaim := { program := "ytaggiceejcegdaagreat", sum := "ffae1ea4b4f9d6a2b6bfd76cfd4b5d71ecbf3035c115b436380ab6e91efd1790", func := "tegula/tegulalaw49.WalCut", spec := "walCut", unfollowed := true, recurses := true, apart := false }
def WalCutSaid : Prop := walCutRow.holds Tryz.pinned (OpenSpec.ofChange walCutSpec)

/-- ITS FALSE NEIGHBOUR: 'it returns false'. Refute it at one input. -/
def walCutWrong : ChangeSpec := { name := "walCut", fn := fun _ => fun
  | [d1, d2, d3, d4] => { results := [.lit (.bool false)], args := [d1, d2, d3, d4] }
  | _ => none }
def WalCutWrongFalsely : Prop := walCutRow.holds Tryz.pinned (OpenSpec.ofChange walCutWrong)

/- THE SECOND FORM. 'bulk': how many values and letters a reading holds, each counted each time it is reached (what is shared counts as often as it is met; a slice's spare places count too). A statement '..UptoSaid' is the law's where the arguments, and the package variables that the reading takes, are together of bulk at most 1048576: NARROWER than '..Said'. Prove '..Said' where nothing that the law and all that it calls make is longer than what came in: it says more and counts as full. Else prove '..UptoSaid'. A law counts once. -/
mutual
def uptoBulk {H : Type} : DataW H → Nat
  | .lit (.string bytes) => bytes.length + 1
  | .lit _ => 1
  | .nil => 1
  | .ptr d => uptoBulk d + 1
  | .slice elems spare => uptoBulkAll elems + uptoBulkAll spare + 1
  | .agg parts => uptoBulkAll parts + 1
  | .iface _ d => uptoBulk d + 1
  | .map entries => uptoBulkEntries entries + 1
  | .held _ => 1
def uptoBulkAll {H : Type} : List (DataW H) → Nat
  | [] => 0
  | d :: r => uptoBulk d + uptoBulkAll r
def uptoBulkEntries {H : Type} : List (Lit × DataW H) → Nat
  | [] => 0
  | x :: r => uptoBulkEntry x + uptoBulkEntries r
def uptoBulkEntry {H : Type} : Lit × DataW H → Nat
  | (.string bytes, d) => bytes.length + uptoBulk d + 1
  | (_, d) => uptoBulk d + 1
 end
def uptoSmall : (H : Type) → List (DataW H) → Bool := fun _ ds => decide (uptoBulkAll ds ≤ 1048576)
def OpenSpec.upto (s : _root_.Go.ChangeSpec) : _root_.Go.OpenSpec := { _root_.Go.OpenSpec.ofChange s with cond := some uptoSmall }

/-- 'tegulalaw49.WalFits', WHERE WHAT IT READS IS OF BULK AT MOST 1048576: true; the input reads as it did. -/
def walFitsUptoRow : OpenClaim := { program := "ytaggiceejcegdaagreat", sum := "ffae1ea4b4f9d6a2b6bfd76cfd4b5d71ecbf3035c115b436380ab6e91efd1790", func := "tegula/tegulalaw49.WalFits", spec := "walFits", unfollowed := true, recurses := true, apart := false, narrowed := true }
def WalFitsUptoSaid : Prop := walFitsUptoRow.holds Tryz.pinned (OpenSpec.upto walFitsSpec)

/-- 'tegulalaw49.WalOperations', WHERE WHAT IT READS IS OF BULK AT MOST 1048576: true; the input reads as it did. -/
def walOperationsUptoRow : OpenClaim := { program := "ytaggiceejcegdaagreat", sum := "ffae1ea4b4f9d6a2b6bfd76cfd4b5d71ecbf3035c115b436380ab6e91efd1790", func := "tegula/tegulalaw49.WalOperations", spec := "walOperations", unfollowed := true, recurses := true, apart := false, narrowed := true }
def WalOperationsUptoSaid : Prop := walOperationsUptoRow.holds Tryz.pinned (OpenSpec.upto walOperationsSpec)

/-- 'tegulalaw49.WalNew', WHERE WHAT IT READS IS OF BULK AT MOST 1048576: true; the input reads as it did. -/
def walNewUptoRow : OpenClaim := { program := "ytaggiceejcegdaagreat", sum := "ffae1ea4b4f9d6a2b6bfd76cfd4b5d71ecbf3035c115b436380ab6e91efd1790", func := "tegula/tegulalaw49.WalNew", spec := "walNew", unfollowed := true, recurses := true, apart := false, narrowed := true }
def WalNewUptoSaid : Prop := walNewUptoRow.holds Tryz.pinned (OpenSpec.upto walNewSpec)

/-- 'tegulalaw49.WalAppend', WHERE WHAT IT READS IS OF BULK AT MOST 1048576: true; the input reads as it did. -/
def walAppendUptoRow : OpenClaim := { program := "ytaggiceejcegdaagreat", sum := "ffae1ea4b4f9d6a2b6bfd76cfd4b5d71ecbf3035c115b436380ab6e91efd1790", func := "tegula/tegulalaw49.WalAppend", spec := "walAppend", unfollowed := true, recurses := true, apart := false, narrowed := true }
def WalAppendUptoSaid : Prop := walAppendUptoRow.holds Tryz.pinned (OpenSpec.upto walAppendSpec)

/-- 'tegulalaw49.WalNil', WHERE WHAT IT READS IS OF BULK AT MOST 1048576: true; the input reads as it did. -/
def walNilUptoRow : OpenClaim := { program := "ytaggiceejcegdaagreat", sum := "ffae1ea4b4f9d6a2b6bfd76cfd4b5d71ecbf3035c115b436380ab6e91efd1790", func := "tegula/tegulalaw49.WalNil", spec := "walNil", unfollowed := true, recurses := true, apart := false, narrowed := true }
def WalNilUptoSaid : Prop := walNilUptoRow.holds Tryz.pinned (OpenSpec.upto walNilSpec)

/-- 'tegulalaw49.WalCut', WHERE WHAT IT READS IS OF BULK AT MOST 1048576: true; the input reads as it did. -/
def walCutUptoRow : OpenClaim := { program := "ytaggiceejcegdaagreat", sum := "ffae1ea4b4f9d6a2b6bfd76cfd4b5d71ecbf3035c115b436380ab6e91efd1790", func := "tegula/tegulalaw49.WalCut", spec := "walCut", unfollowed := true, recurses := true, apart := false, narrowed := true }
def WalCutUptoSaid : Prop := walCutUptoRow.holds Tryz.pinned (OpenSpec.upto walCutSpec)

end Rows
end Go.Proofs.YtaggiceejcegdaaGreat

/-
  No cell of these rows narrows 'for every input' (looked for: loops, veiled, ifaces, maps, wideKeys, modest, calm, conditions, laid).
  DERIVED. THE GIVEN ROWS OF THIS SEAT. 10 by the template 'for every input the law returns true; each argument reads behind the call as it read before'; 0 by the template 'total and deterministic' (their statements: YtggkengmlkhdiaaGreatTotals.lean).
  GIVEN WITH THE SEED: the statements are not yours to turn. If you find one false, say at which input.
  Laid BY PROGRAM, IN A SANDBOX (cutbox-rows.mjs): the forced cells as the released guide's own fill.sh prints them over the translation 8a6f0fe8af5e50da… (all of the seat's roots in one cut). By AI agents, Wed Nov 11 2026. No macro, syntax, notation, axiom, sorry.
-/
import Derived.Test.YtggkengmlkhdiaaGreatChecked
import GoSem.Claim
import GoSem.ClaimJoined
import GoSem.ClaimMapViews
import Derived.JoinedTies
import Derived.KernelRfl
namespace Go.Proofs.YtggkengmlkhdiaaGreat
/- THE CELL 'sum', in the pinned program and in every row, IS THE sha256 OF THE DUMP (.gsa) THAT YtggkengmlkhdiaaGreatProg.lean LOADS. Nothing in Lean hashes anything: it is a label: what it is worth is what the hold of that sum in a sandbox is worth. -/
noncomputable def Tryz.pinned : Pinned := { name := "ytggkengmlkhdiaagreat", sum := "8a6f0fe8af5e50da7cfcdfc27545db85877f0e80b2df4b26575d2bc08538bfe9", checked := Tryz.checked }
namespace Rows
def none {H : Type} : Left H := { results := [], args := [] }

/-- 'tegulalaw20.DriveNil': WHATEVER THE INPUT: true; the input reads as it did. -/
def driveNilSpec : ChangeSpec := { name := "driveNil", fn := fun _ => fun
  | [d] => { results := [.lit (.bool true)], args := [d] }
  | _ => none }
def driveNilRow : OpenClaim := { program := "ytggkengmlkhdiaagreat", sum := "8a6f0fe8af5e50da7cfcdfc27545db85877f0e80b2df4b26575d2bc08538bfe9", func := "tegula/tegulalaw20.DriveNil", spec := "driveNil", unfollowed := true, recurses := true, apart := false }
def DriveNilSaid : Prop := driveNilRow.holds Tryz.pinned (OpenSpec.ofChange driveNilSpec)

/-- ITS FALSE NEIGHBOUR: 'it returns false'. Refute it at one input. -/
def driveNilWrong : ChangeSpec := { name := "driveNil", fn := fun _ => fun
  | [d] => { results := [.lit (.bool false)], args := [d] }
  | _ => none }
def DriveNilWrongFalsely : Prop := driveNilRow.holds Tryz.pinned (OpenSpec.ofChange driveNilWrong)

/-- 'tegulalaw20.DriveHonest': WHATEVER THE INPUT: true; the input reads as it did. -/
def driveHonestSpec : ChangeSpec := { name := "driveHonest", fn := fun _ => fun
  | [d] => { results := [.lit (.bool true)], args := [d] }
  | _ => none }
def driveHonestRow : OpenClaim := { program := "ytggkengmlkhdiaagreat", sum := "8a6f0fe8af5e50da7cfcdfc27545db85877f0e80b2df4b26575d2bc08538bfe9", func := "tegula/tegulalaw20.DriveHonest", spec := "driveHonest", unfollowed := true, recurses := true, apart := false }
def DriveHonestSaid : Prop := driveHonestRow.holds Tryz.pinned (OpenSpec.ofChange driveHonestSpec)

/-- ITS FALSE NEIGHBOUR: 'it returns false'. Refute it at one input. -/
def driveHonestWrong : ChangeSpec := { name := "driveHonest", fn := fun _ => fun
  | [d] => { results := [.lit (.bool false)], args := [d] }
  | _ => none }
def DriveHonestWrongFalsely : Prop := driveHonestRow.holds Tryz.pinned (OpenSpec.ofChange driveHonestWrong)

/-- 'tegulalaw20.DriveMap': WHATEVER THE INPUT: true; the input reads as it did. -/
def driveMapSpec : ChangeSpec := { name := "driveMap", fn := fun _ => fun
  | [d] => { results := [.lit (.bool true)], args := [d] }
  | _ => none }
def driveMapRow : OpenClaim := { program := "ytggkengmlkhdiaagreat", sum := "8a6f0fe8af5e50da7cfcdfc27545db85877f0e80b2df4b26575d2bc08538bfe9", func := "tegula/tegulalaw20.DriveMap", spec := "driveMap", unfollowed := true, recurses := true, apart := false }
def DriveMapSaid : Prop := driveMapRow.holds Tryz.pinned (OpenSpec.ofChange driveMapSpec)

/-- ITS FALSE NEIGHBOUR: 'it returns false'. Refute it at one input. -/
def driveMapWrong : ChangeSpec := { name := "driveMap", fn := fun _ => fun
  | [d] => { results := [.lit (.bool false)], args := [d] }
  | _ => none }
def DriveMapWrongFalsely : Prop := driveMapRow.holds Tryz.pinned (OpenSpec.ofChange driveMapWrong)

/-- 'tegulalaw20.DriveBusy': WHATEVER THE INPUT: true; the input reads as it did. -/
def driveBusySpec : ChangeSpec := { name := "driveBusy", fn := fun _ => fun
  | [d1, d2] => { results := [.lit (.bool true)], args := [d1, d2] }
  | _ => none }
def driveBusyRow : OpenClaim := { program := "ytggkengmlkhdiaagreat", sum := "8a6f0fe8af5e50da7cfcdfc27545db85877f0e80b2df4b26575d2bc08538bfe9", func := "tegula/tegulalaw20.DriveBusy", spec := "driveBusy", unfollowed := true, recurses := true, apart := false }
def DriveBusySaid : Prop := driveBusyRow.holds Tryz.pinned (OpenSpec.ofChange driveBusySpec)

/-- ITS FALSE NEIGHBOUR: 'it returns false'. Refute it at one input. -/
def driveBusyWrong : ChangeSpec := { name := "driveBusy", fn := fun _ => fun
  | [d1, d2] => { results := [.lit (.bool false)], args := [d1, d2] }
  | _ => none }
def DriveBusyWrongFalsely : Prop := driveBusyRow.holds Tryz.pinned (OpenSpec.ofChange driveBusyWrong)

/-- 'tegulalaw20.DriveFails': WHATEVER THE INPUT: true; the input reads as it did. -/
def driveFailsSpec : ChangeSpec := { name := "driveFails", fn := fun _ => fun
  | [d1, d2] => { results := [.lit (.bool true)], args := [d1, d2] }
  | _ => none }
def driveFailsRow : OpenClaim := { program := "ytggkengmlkhdiaagreat", sum := "8a6f0fe8af5e50da7cfcdfc27545db85877f0e80b2df4b26575d2bc08538bfe9", func := "tegula/tegulalaw20.DriveFails", spec := "driveFails", unfollowed := true, recurses := true, apart := false }
def DriveFailsSaid : Prop := driveFailsRow.holds Tryz.pinned (OpenSpec.ofChange driveFailsSpec)

/-- ITS FALSE NEIGHBOUR: 'it returns false'. Refute it at one input. -/
def driveFailsWrong : ChangeSpec := { name := "driveFails", fn := fun _ => fun
  | [d1, d2] => { results := [.lit (.bool false)], args := [d1, d2] }
  | _ => none }
def DriveFailsWrongFalsely : Prop := driveFailsRow.holds Tryz.pinned (OpenSpec.ofChange driveFailsWrong)

/-- 'tegulalaw20.DriveSpace': WHATEVER THE INPUT: true; the input reads as it did. -/
def driveSpaceSpec : ChangeSpec := { name := "driveSpace", fn := fun _ => fun
  | [d] => { results := [.lit (.bool true)], args := [d] }
  | _ => none }
def driveSpaceRow : OpenClaim := { program := "ytggkengmlkhdiaagreat", sum := "8a6f0fe8af5e50da7cfcdfc27545db85877f0e80b2df4b26575d2bc08538bfe9", func := "tegula/tegulalaw20.DriveSpace", spec := "driveSpace", unfollowed := true, recurses := true, apart := false }
def DriveSpaceSaid : Prop := driveSpaceRow.holds Tryz.pinned (OpenSpec.ofChange driveSpaceSpec)

/-- ITS FALSE NEIGHBOUR: 'it returns false'. Refute it at one input. -/
def driveSpaceWrong : ChangeSpec := { name := "driveSpace", fn := fun _ => fun
  | [d] => { results := [.lit (.bool false)], args := [d] }
  | _ => none }
def DriveSpaceWrongFalsely : Prop := driveSpaceRow.holds Tryz.pinned (OpenSpec.ofChange driveSpaceWrong)

/-- 'tegulalaw20.DriveCleans': WHATEVER THE INPUT: true; the input reads as it did. -/
def driveCleansSpec : ChangeSpec := { name := "driveCleans", fn := fun _ => fun
  | [d] => { results := [.lit (.bool true)], args := [d] }
  | _ => none }
def driveCleansRow : OpenClaim := { program := "ytggkengmlkhdiaagreat", sum := "8a6f0fe8af5e50da7cfcdfc27545db85877f0e80b2df4b26575d2bc08538bfe9", func := "tegula/tegulalaw20.DriveCleans", spec := "driveCleans", unfollowed := true, recurses := true, apart := false }
def DriveCleansSaid : Prop := driveCleansRow.holds Tryz.pinned (OpenSpec.ofChange driveCleansSpec)

/-- ITS FALSE NEIGHBOUR: 'it returns false'. Refute it at one input. -/
def driveCleansWrong : ChangeSpec := { name := "driveCleans", fn := fun _ => fun
  | [d] => { results := [.lit (.bool false)], args := [d] }
  | _ => none }
def DriveCleansWrongFalsely : Prop := driveCleansRow.holds Tryz.pinned (OpenSpec.ofChange driveCleansWrong)

/-- 'tegulalaw20.DriveErrors': WHATEVER THE INPUT: true; the input reads as it did. -/
def driveErrorsSpec : ChangeSpec := { name := "driveErrors", fn := fun _ => fun
  | [d1, d2, d3] => { results := [.lit (.bool true)], args := [d1, d2, d3] }
  | _ => none }
def driveErrorsRow : OpenClaim := { program := "ytggkengmlkhdiaagreat", sum := "8a6f0fe8af5e50da7cfcdfc27545db85877f0e80b2df4b26575d2bc08538bfe9", func := "tegula/tegulalaw20.DriveErrors", spec := "driveErrors", unfollowed := true, recurses := true, apart := false }
def DriveErrorsSaid : Prop := driveErrorsRow.holds Tryz.pinned (OpenSpec.ofChange driveErrorsSpec)

/-- ITS FALSE NEIGHBOUR: 'it returns false'. Refute it at one input. -/
def driveErrorsWrong : ChangeSpec := { name := "driveErrors", fn := fun _ => fun
  | [d1, d2, d3] => { results := [.lit (.bool false)], args := [d1, d2, d3] }
  | _ => none }
def DriveErrorsWrongFalsely : Prop := driveErrorsRow.holds Tryz.pinned (OpenSpec.ofChange driveErrorsWrong)

/-- 'tegulalaw20.DriveCut': WHATEVER THE INPUT: true; the input reads as it did. -/
def driveCutSpec : ChangeSpec := { name := "driveCut", fn := fun _ => fun
  | [d1, d2, d3] => { results := [.lit (.bool true)], args := [d1, d2, d3] }
  | _ => none }
def driveCutRow : OpenClaim := { program := "ytggkengmlkhdiaagreat", sum := "8a6f0fe8af5e50da7cfcdfc27545db85877f0e80b2df4b26575d2bc08538bfe9", func := "tegula/tegulalaw20.DriveCut", spec := "driveCut", unfollowed := true, recurses := true, apart := false }
def DriveCutSaid : Prop := driveCutRow.holds Tryz.pinned (OpenSpec.ofChange driveCutSpec)

/-- ITS FALSE NEIGHBOUR: 'it returns false'. Refute it at one input. -/
def driveCutWrong : ChangeSpec := { name := "driveCut", fn := fun _ => fun
  | [d1, d2, d3] => { results := [.lit (.bool false)], args := [d1, d2, d3] }
  | _ => none }
def DriveCutWrongFalsely : Prop := driveCutRow.holds Tryz.pinned (OpenSpec.ofChange driveCutWrong)

/-- 'tegulalaw20.DriveCuts': WHATEVER THE INPUT: true; the input reads as it did. -/
def driveCutsSpec : ChangeSpec := { name := "driveCuts", fn := fun _ => fun
  | [d1, d2] => { results := [.lit (.bool true)], args := [d1, d2] }
  | _ => none }
def driveCutsRow : OpenClaim := { program := "ytggkengmlkhdiaagreat", sum := "8a6f0fe8af5e50da7cfcdfc27545db85877f0e80b2df4b26575d2bc08538bfe9", func := "tegula/tegulalaw20.DriveCuts", spec := "driveCuts", unfollowed := true, recurses := true, apart := false }
def DriveCutsSaid : Prop := driveCutsRow.holds Tryz.pinned (OpenSpec.ofChange driveCutsSpec)

/-- ITS FALSE NEIGHBOUR: 'it returns false'. Refute it at one input. -/
def driveCutsWrong : ChangeSpec := { name := "driveCuts", fn := fun _ => fun
  | [d1, d2] => { results := [.lit (.bool false)], args := [d1, d2] }
  | _ => none }
def DriveCutsWrongFalsely : Prop := driveCutsRow.holds Tryz.pinned (OpenSpec.ofChange driveCutsWrong)

/- THE SECOND FORM. 'bulk': how many values and letters a reading holds, each counted each time it is reached (what is shared counts as often as it is met; a slice's spare places count too). A statement '..UptoSaid' is the law's where the arguments, and the package variables that the reading takes, are together of bulk at most 1048576: NARROWER than '..Said'. Prove '..Said' where nothing that the law and all that it calls make is longer than what came in: it says more and counts as full. Else prove '..UptoSaid'. A law counts once. -/
mutual
def uptoBulk {H : Type} : DataW H → Nat
  | .lit (.string bytes) => bytes.length + 1
  | .lit _ => 1
  | .nil => 1
  | .ptr d => uptoBulk d + 1
  | .slice elems spare => uptoBulkAll elems + uptoBulkAll spare + 1
  | .agg parts => uptoBulkAll parts + 1
  | .iface _ d => uptoBulk d + 1
  | .map entries => uptoBulkEntries entries + 1
  | .held _ => 1
def uptoBulkAll {H : Type} : List (DataW H) → Nat
  | [] => 0
  | d :: r => uptoBulk d + uptoBulkAll r
def uptoBulkEntries {H : Type} : List (Lit × DataW H) → Nat
  | [] => 0
  | x :: r => uptoBulkEntry x + uptoBulkEntries r
def uptoBulkEntry {H : Type} : Lit × DataW H → Nat
  | (.string bytes, d) => bytes.length + uptoBulk d + 1
  | (_, d) => uptoBulk d + 1
 end
def uptoSmall : (H : Type) → List (DataW H) → Bool := fun _ ds => decide (uptoBulkAll ds ≤ 1048576)
def OpenSpec.upto (s : _root_.Go.ChangeSpec) : _root_.Go.OpenSpec := { _root_.Go.OpenSpec.ofChange s with cond := some uptoSmall }

/-- 'tegulalaw20.DriveNil', WHERE WHAT IT READS IS OF BULK AT MOST 1048576: true; the input reads as it did. -/
def driveNilUptoRow : OpenClaim := { program := "ytggkengmlkhdiaagreat", sum := "8a6f0fe8af5e50da7cfcdfc27545db85877f0e80b2df4b26575d2bc08538bfe9", func := "tegula/tegulalaw20.DriveNil", spec := "driveNil", unfollowed := true, recurses := true, apart := false, narrowed := true }
def DriveNilUptoSaid : Prop := driveNilUptoRow.holds Tryz.pinned (OpenSpec.upto driveNilSpec)

/-- 'tegulalaw20.DriveHonest', WHERE WHAT IT READS IS OF BULK AT MOST 1048576: true; the input reads as it did. -/
def driveHonestUptoRow : OpenClaim := { program := "ytggkengmlkhdiaagreat", sum := "8a6f0fe8af5e50da7cfcdfc27545db85877f0e80b2df4b26575d2bc08538bfe9", func := "tegula/tegulalaw20.DriveHonest", spec := "driveHonest", unfollowed := true, recurses := true, apart := false, narrowed := true }
def DriveHonestUptoSaid : Prop := driveHonestUptoRow.holds Tryz.pinned (OpenSpec.upto driveHonestSpec)

/-- 'tegulalaw20.DriveMap', WHERE WHAT IT READS IS OF BULK AT MOST 1048576: true; the input reads as it did. -/
def driveMapUptoRow : OpenClaim := { program := "ytggkengmlkhdiaagreat", sum := "8a6f0fe8af5e50da7cfcdfc27545db85877f0e80b2df4b26575d2bc08538bfe9", func := "tegula/tegulalaw20.DriveMap", spec := "driveMap", unfollowed := true, recurses := true, apart := false, narrowed := true }
def DriveMapUptoSaid : Prop := driveMapUptoRow.holds Tryz.pinned (OpenSpec.upto driveMapSpec)

/-- 'tegulalaw20.DriveBusy', WHERE WHAT IT READS IS OF BULK AT MOST 1048576: true; the input reads as it did. -/
def driveBusyUptoRow : OpenClaim := { program := "ytggkengmlkhdiaagreat", sum := "8a6f0fe8af5e50da7cfcdfc27545db85877f0e80b2df4b26575d2bc08538bfe9", func := "tegula/tegulalaw20.DriveBusy", spec := "driveBusy", unfollowed := true, recurses := true, apart := false, narrowed := true }
def DriveBusyUptoSaid : Prop := driveBusyUptoRow.holds Tryz.pinned (OpenSpec.upto driveBusySpec)

/-- 'tegulalaw20.DriveFails', WHERE WHAT IT READS IS OF BULK AT MOST 1048576: true; the input reads as it did. -/
def driveFailsUptoRow : OpenClaim := { program := "ytggkengmlkhdiaagreat", sum := "8a6f0fe8af5e50da7cfcdfc27545db85877f0e80b2df4b26575d2bc08538bfe9", func := "tegula/tegulalaw20.DriveFails", spec := "driveFails", unfollowed := true, recurses := true, apart := false, narrowed := true }
def DriveFailsUptoSaid : Prop := driveFailsUptoRow.holds Tryz.pinned (OpenSpec.upto driveFailsSpec)

/-- 'tegulalaw20.DriveSpace', WHERE WHAT IT READS IS OF BULK AT MOST 1048576: true; the input reads as it did. -/
def driveSpaceUptoRow : OpenClaim := { program := "ytggkengmlkhdiaagreat", sum := "8a6f0fe8af5e50da7cfcdfc27545db85877f0e80b2df4b26575d2bc08538bfe9", func := "tegula/tegulalaw20.DriveSpace", spec := "driveSpace", unfollowed := true, recurses := true, apart := false, narrowed := true }
def DriveSpaceUptoSaid : Prop := driveSpaceUptoRow.holds Tryz.pinned (OpenSpec.upto driveSpaceSpec)

/-- 'tegulalaw20.DriveCleans', WHERE WHAT IT READS IS OF BULK AT MOST 1048576: true; the input reads as it did. -/
def driveCleansUptoRow : OpenClaim := { program := "ytggkengmlkhdiaagreat", sum := "8a6f0fe8af5e50da7cfcdfc27545db85877f0e80b2df4b26575d2bc08538bfe9", func := "tegula/tegulalaw20.DriveCleans", spec := "driveCleans", unfollowed := true, recurses := true, apart := false, narrowed := true }
def DriveCleansUptoSaid : Prop := driveCleansUptoRow.holds Tryz.pinned (OpenSpec.upto driveCleansSpec)

/-- 'tegulalaw20.DriveErrors', WHERE WHAT IT READS IS OF BULK AT MOST 1048576: true; the input reads as it did. -/
def driveErrorsUptoRow : OpenClaim := { program := "ytggkengmlkhdiaagreat", sum := "8a6f0fe8af5e50da7cfcdfc27545db85877f0e80b2df4b26575d2bc08538bfe9", func := "tegula/tegulalaw20.DriveErrors", spec := "driveErrors", unfollowed := true, recurses := true, apart := false, narrowed := true }
def DriveErrorsUptoSaid : Prop := driveErrorsUptoRow.holds Tryz.pinned (OpenSpec.upto driveErrorsSpec)

/-- 'tegulalaw20.DriveCut', WHERE WHAT IT READS IS OF BULK AT MOST 1048576: true; the input reads as it did. -/
def driveCutUptoRow : OpenClaim := { program := "ytggkengmlkhdiaagreat", sum := "8a6f0fe8af5e50da7cfcdfc27545db85877f0e80b2df4b26575d2bc08538bfe9", func := "tegula/tegulalaw20.DriveCut", spec := "driveCut", unfollowed := true, recurses := true, apart := false, narrowed := true }
def DriveCutUptoSaid : Prop := driveCutUptoRow.holds Tryz.pinned (OpenSpec.upto driveCutSpec)

/-- 'tegulalaw20.DriveCuts', WHERE WHAT IT READS IS OF BULK AT MOST 1048576: true; the input reads as it did. -/
def driveCutsUptoRow : OpenClaim := { program := "ytggkengmlkhdiaagreat", sum := "8a6f0fe8af5e50da7cfcdfc27545db85877f0e80b2df4b26575d2bc08538bfe9", func := "tegula/tegulalaw20.DriveCuts", spec := "driveCuts", unfollowed := true, recurses := true, apart := false, narrowed := true }
def DriveCutsUptoSaid : Prop := driveCutsUptoRow.holds Tryz.pinned (OpenSpec.upto driveCutsSpec)

end Rows
end Go.Proofs.YtggkengmlkhdiaaGreat

/-
  No cell of these rows narrows 'for every input' (looked for: loops, veiled, ifaces, maps, wideKeys, modest, calm, conditions, laid).
  DERIVED. THE GIVEN ROWS OF THIS SEAT. 13 by the template 'for every input the law returns true; each argument reads behind the call as it read before'; 0 by the template 'total and deterministic' (their statements: YtndifkjenjfjpaaTotals.lean).
  GIVEN WITH THE SEED: the statements are not yours to turn. If you find one false, say at which input.
  Laid BY PROGRAM, IN A SANDBOX (cutbox-rows.mjs): the forced cells as the released guide's own fill.sh prints them over the translation 70ff9c8e26772c0e… (all of the seat's roots in one cut). By AI agents, Wed Nov 11 2026. No macro, syntax, notation, axiom, sorry.
-/
import Derived.Test.YtndifkjenjfjpaaChecked
import GoSem.Claim
import GoSem.ClaimJoined
import GoSem.ClaimMapViews
import Derived.JoinedTies
import Derived.KernelRfl
namespace Go.Proofs.Ytndifkjenjfjpaa
/- THE CELL 'sum', in the pinned program and in every row, IS THE sha256 OF THE DUMP (.gsa) THAT YtndifkjenjfjpaaProg.lean LOADS. Nothing in Lean hashes anything: it is a label: what it is worth is what the hold of that sum in a sandbox is worth. -/
noncomputable def Try.pinned : Pinned := { name := "ytndifkjenjfjpaa", sum := "70ff9c8e26772c0e68c3dfe85b5f6c2c25027cb144be8907d62373563d0039dc", checked := Try.checked }
namespace Rows
def none {H : Type} : Left H := { results := [], args := [] }

/-- 'tegulalaw27.RecordEncode': WHATEVER THE INPUT: true; the input reads as it did. -/
def recordEncodeSpec : ChangeSpec := { name := "recordEncode", fn := fun _ => fun
  | [d] => { results := [.lit (.bool true)], args := [d] }
  | _ => none }
def recordEncodeRow : OpenClaim := { program := "ytndifkjenjfjpaa", sum := "70ff9c8e26772c0e68c3dfe85b5f6c2c25027cb144be8907d62373563d0039dc", func := "tegula/tegulalaw27.RecordEncode", spec := "recordEncode", unfollowed := true, recurses := true, apart := false }
def RecordEncodeSaid : Prop := recordEncodeRow.holds Try.pinned (OpenSpec.ofChange recordEncodeSpec)

/-- ITS FALSE NEIGHBOUR: 'it returns false'. Refute it at one input. -/
def recordEncodeWrong : ChangeSpec := { name := "recordEncode", fn := fun _ => fun
  | [d] => { results := [.lit (.bool false)], args := [d] }
  | _ => none }
def RecordEncodeWrongFalsely : Prop := recordEncodeRow.holds Try.pinned (OpenSpec.ofChange recordEncodeWrong)

/-- 'tegulalaw27.RecordInspect': WHATEVER THE INPUT: true; the input reads as it did. -/
def recordInspectSpec : ChangeSpec := { name := "recordInspect", fn := fun _ => fun
  | [d] => { results := [.lit (.bool true)], args := [d] }
  | _ => none }
def recordInspectRow : OpenClaim := { program := "ytndifkjenjfjpaa", sum := "70ff9c8e26772c0e68c3dfe85b5f6c2c25027cb144be8907d62373563d0039dc", func := "tegula/tegulalaw27.RecordInspect", spec := "recordInspect", unfollowed := true, recurses := true, apart := false }
def RecordInspectSaid : Prop := recordInspectRow.holds Try.pinned (OpenSpec.ofChange recordInspectSpec)

/-- ITS FALSE NEIGHBOUR: 'it returns false'. Refute it at one input. -/
def recordInspectWrong : ChangeSpec := { name := "recordInspect", fn := fun _ => fun
  | [d] => { results := [.lit (.bool false)], args := [d] }
  | _ => none }
def RecordInspectWrongFalsely : Prop := recordInspectRow.holds Try.pinned (OpenSpec.ofChange recordInspectWrong)

/-- 'tegulalaw27.RecordSealed': WHATEVER THE INPUT: true; the input reads as it did. -/
def recordSealedSpec : ChangeSpec := { name := "recordSealed", fn := fun _ => fun
  | [d] => { results := [.lit (.bool true)], args := [d] }
  | _ => none }
def recordSealedRow : OpenClaim := { program := "ytndifkjenjfjpaa", sum := "70ff9c8e26772c0e68c3dfe85b5f6c2c25027cb144be8907d62373563d0039dc", func := "tegula/tegulalaw27.RecordSealed", spec := "recordSealed", unfollowed := true, recurses := true, apart := false }
def RecordSealedSaid : Prop := recordSealedRow.holds Try.pinned (OpenSpec.ofChange recordSealedSpec)

/-- ITS FALSE NEIGHBOUR: 'it returns false'. Refute it at one input. -/
def recordSealedWrong : ChangeSpec := { name := "recordSealed", fn := fun _ => fun
  | [d] => { results := [.lit (.bool false)], args := [d] }
  | _ => none }
def RecordSealedWrongFalsely : Prop := recordSealedRow.holds Try.pinned (OpenSpec.ofChange recordSealedWrong)

/-- 'tegulalaw27.RecordDecode': WHATEVER THE INPUT: true; the input reads as it did. -/
def recordDecodeSpec : ChangeSpec := { name := "recordDecode", fn := fun _ => fun
  | [d] => { results := [.lit (.bool true)], args := [d] }
  | _ => none }
def recordDecodeRow : OpenClaim := { program := "ytndifkjenjfjpaa", sum := "70ff9c8e26772c0e68c3dfe85b5f6c2c25027cb144be8907d62373563d0039dc", func := "tegula/tegulalaw27.RecordDecode", spec := "recordDecode", unfollowed := true, recurses := true, apart := false }
def RecordDecodeSaid : Prop := recordDecodeRow.holds Try.pinned (OpenSpec.ofChange recordDecodeSpec)

/-- ITS FALSE NEIGHBOUR: 'it returns false'. Refute it at one input. -/
def recordDecodeWrong : ChangeSpec := { name := "recordDecode", fn := fun _ => fun
  | [d] => { results := [.lit (.bool false)], args := [d] }
  | _ => none }
def RecordDecodeWrongFalsely : Prop := recordDecodeRow.holds Try.pinned (OpenSpec.ofChange recordDecodeWrong)

/-- 'tegulalaw27.RecordPayload': WHATEVER THE INPUT: true; the input reads as it did. -/
def recordPayloadSpec : ChangeSpec := { name := "recordPayload", fn := fun _ => fun
  | [d1, d2, d3] => { results := [.lit (.bool true)], args := [d1, d2, d3] }
  | _ => none }
def recordPayloadRow : OpenClaim := { program := "ytndifkjenjfjpaa", sum := "70ff9c8e26772c0e68c3dfe85b5f6c2c25027cb144be8907d62373563d0039dc", func := "tegula/tegulalaw27.RecordPayload", spec := "recordPayload", unfollowed := true, recurses := true, apart := false }
def RecordPayloadSaid : Prop := recordPayloadRow.holds Try.pinned (OpenSpec.ofChange recordPayloadSpec)

/-- ITS FALSE NEIGHBOUR: 'it returns false'. Refute it at one input. -/
def recordPayloadWrong : ChangeSpec := { name := "recordPayload", fn := fun _ => fun
  | [d1, d2, d3] => { results := [.lit (.bool false)], args := [d1, d2, d3] }
  | _ => none }
def RecordPayloadWrongFalsely : Prop := recordPayloadRow.holds Try.pinned (OpenSpec.ofChange recordPayloadWrong)

/-- 'tegulalaw27.RecordRoundTrip': WHATEVER THE INPUT: true; the input reads as it did. -/
def recordRoundTripSpec : ChangeSpec := { name := "recordRoundTrip", fn := fun _ => fun
  | [d1, d2] => { results := [.lit (.bool true)], args := [d1, d2] }
  | _ => none }
def recordRoundTripRow : OpenClaim := { program := "ytndifkjenjfjpaa", sum := "70ff9c8e26772c0e68c3dfe85b5f6c2c25027cb144be8907d62373563d0039dc", func := "tegula/tegulalaw27.RecordRoundTrip", spec := "recordRoundTrip", unfollowed := true, recurses := true, apart := false }
def RecordRoundTripSaid : Prop := recordRoundTripRow.holds Try.pinned (OpenSpec.ofChange recordRoundTripSpec)

/-- ITS FALSE NEIGHBOUR: 'it returns false'. Refute it at one input. -/
def recordRoundTripWrong : ChangeSpec := { name := "recordRoundTrip", fn := fun _ => fun
  | [d1, d2] => { results := [.lit (.bool false)], args := [d1, d2] }
  | _ => none }
def RecordRoundTripWrongFalsely : Prop := recordRoundTripRow.holds Try.pinned (OpenSpec.ofChange recordRoundTripWrong)

/-- 'tegulalaw27.RecordMissing': WHATEVER THE INPUT: true; the input reads as it did. -/
def recordMissingSpec : ChangeSpec := { name := "recordMissing", fn := fun _ => fun
  | [d1, d2, d3, d4] => { results := [.lit (.bool true)], args := [d1, d2, d3, d4] }
  | _ => none }
def recordMissingRow : OpenClaim := { program := "ytndifkjenjfjpaa", sum := "70ff9c8e26772c0e68c3dfe85b5f6c2c25027cb144be8907d62373563d0039dc", func := "tegula/tegulalaw27.RecordMissing", spec := "recordMissing", unfollowed := true, recurses := true, apart := false }
def RecordMissingSaid : Prop := recordMissingRow.holds Try.pinned (OpenSpec.ofChange recordMissingSpec)

/-- ITS FALSE NEIGHBOUR: 'it returns false'. Refute it at one input. -/
def recordMissingWrong : ChangeSpec := { name := "recordMissing", fn := fun _ => fun
  | [d1, d2, d3, d4] => { results := [.lit (.bool false)], args := [d1, d2, d3, d4] }
  | _ => none }
def RecordMissingWrongFalsely : Prop := recordMissingRow.holds Try.pinned (OpenSpec.ofChange recordMissingWrong)

/-- 'tegulalaw28.LogareaScan': WHATEVER THE INPUT: true; the input reads as it did. -/
def logareaScanSpec : ChangeSpec := { name := "logareaScan", fn := fun _ => fun
  | [d1, d2] => { results := [.lit (.bool true)], args := [d1, d2] }
  | _ => none }
def logareaScanRow : OpenClaim := { program := "ytndifkjenjfjpaa", sum := "70ff9c8e26772c0e68c3dfe85b5f6c2c25027cb144be8907d62373563d0039dc", func := "tegula/tegulalaw28.LogareaScan", spec := "logareaScan", unfollowed := true, recurses := true, apart := false }
def LogareaScanSaid : Prop := logareaScanRow.holds Try.pinned (OpenSpec.ofChange logareaScanSpec)

/-- ITS FALSE NEIGHBOUR: 'it returns false'. Refute it at one input. -/
def logareaScanWrong : ChangeSpec := { name := "logareaScan", fn := fun _ => fun
  | [d1, d2] => { results := [.lit (.bool false)], args := [d1, d2] }
  | _ => none }
def LogareaScanWrongFalsely : Prop := logareaScanRow.holds Try.pinned (OpenSpec.ofChange logareaScanWrong)

/-- 'tegulalaw28.LogareaCut': WHATEVER THE INPUT: true; the input reads as it did. -/
def logareaCutSpec : ChangeSpec := { name := "logareaCut", fn := fun _ => fun
  | [d1, d2, d3] => { results := [.lit (.bool true)], args := [d1, d2, d3] }
  | _ => none }
def logareaCutRow : OpenClaim := { program := "ytndifkjenjfjpaa", sum := "70ff9c8e26772c0e68c3dfe85b5f6c2c25027cb144be8907d62373563d0039dc", func := "tegula/tegulalaw28.LogareaCut", spec := "logareaCut", unfollowed := true, recurses := true, apart := false }
def LogareaCutSaid : Prop := logareaCutRow.holds Try.pinned (OpenSpec.ofChange logareaCutSpec)

/-- ITS FALSE NEIGHBOUR: 'it returns false'. Refute it at one input. -/
def logareaCutWrong : ChangeSpec := { name := "logareaCut", fn := fun _ => fun
  | [d1, d2, d3] => { results := [.lit (.bool false)], args := [d1, d2, d3] }
  | _ => none }
def LogareaCutWrongFalsely : Prop := logareaCutRow.holds Try.pinned (OpenSpec.ofChange logareaCutWrong)

/-- 'tegulalaw28.LogareaFits': WHATEVER THE INPUT: true; the input reads as it did. -/
def logareaFitsSpec : ChangeSpec := { name := "logareaFits", fn := fun _ => fun
  | [d1, d2, d3] => { results := [.lit (.bool true)], args := [d1, d2, d3] }
  | _ => none }
def logareaFitsRow : OpenClaim := { program := "ytndifkjenjfjpaa", sum := "70ff9c8e26772c0e68c3dfe85b5f6c2c25027cb144be8907d62373563d0039dc", func := "tegula/tegulalaw28.LogareaFits", spec := "logareaFits", unfollowed := true, recurses := true, apart := false }
def LogareaFitsSaid : Prop := logareaFitsRow.holds Try.pinned (OpenSpec.ofChange logareaFitsSpec)

/-- ITS FALSE NEIGHBOUR: 'it returns false'. Refute it at one input. -/
def logareaFitsWrong : ChangeSpec := { name := "logareaFits", fn := fun _ => fun
  | [d1, d2, d3] => { results := [.lit (.bool false)], args := [d1, d2, d3] }
  | _ => none }
def LogareaFitsWrongFalsely : Prop := logareaFitsRow.holds Try.pinned (OpenSpec.ofChange logareaFitsWrong)

/-- 'tegulalaw28.LogareaJoin': WHATEVER THE INPUT: true; the input reads as it did. -/
def logareaJoinSpec : ChangeSpec := { name := "logareaJoin", fn := fun _ => fun
  | [d1, d2] => { results := [.lit (.bool true)], args := [d1, d2] }
  | _ => none }
def logareaJoinRow : OpenClaim := { program := "ytndifkjenjfjpaa", sum := "70ff9c8e26772c0e68c3dfe85b5f6c2c25027cb144be8907d62373563d0039dc", func := "tegula/tegulalaw28.LogareaJoin", spec := "logareaJoin", unfollowed := true, recurses := true, apart := false }
def LogareaJoinSaid : Prop := logareaJoinRow.holds Try.pinned (OpenSpec.ofChange logareaJoinSpec)

/-- ITS FALSE NEIGHBOUR: 'it returns false'. Refute it at one input. -/
def logareaJoinWrong : ChangeSpec := { name := "logareaJoin", fn := fun _ => fun
  | [d1, d2] => { results := [.lit (.bool false)], args := [d1, d2] }
  | _ => none }
def LogareaJoinWrongFalsely : Prop := logareaJoinRow.holds Try.pinned (OpenSpec.ofChange logareaJoinWrong)

/-- 'tegulalaw28.LogareaSectors': WHATEVER THE INPUT: true; the input reads as it did. -/
def logareaSectorsSpec : ChangeSpec := { name := "logareaSectors", fn := fun _ => fun
  | [d] => { results := [.lit (.bool true)], args := [d] }
  | _ => none }
def logareaSectorsRow : OpenClaim := { program := "ytndifkjenjfjpaa", sum := "70ff9c8e26772c0e68c3dfe85b5f6c2c25027cb144be8907d62373563d0039dc", func := "tegula/tegulalaw28.LogareaSectors", spec := "logareaSectors", unfollowed := true, recurses := true, apart := false }
def LogareaSectorsSaid : Prop := logareaSectorsRow.holds Try.pinned (OpenSpec.ofChange logareaSectorsSpec)

/-- ITS FALSE NEIGHBOUR: 'it returns false'. Refute it at one input. -/
def logareaSectorsWrong : ChangeSpec := { name := "logareaSectors", fn := fun _ => fun
  | [d] => { results := [.lit (.bool false)], args := [d] }
  | _ => none }
def LogareaSectorsWrongFalsely : Prop := logareaSectorsRow.holds Try.pinned (OpenSpec.ofChange logareaSectorsWrong)

/-- 'tegulalaw28.LogareaBack': WHATEVER THE INPUT: true; the input reads as it did. -/
def logareaBackSpec : ChangeSpec := { name := "logareaBack", fn := fun _ => fun
  | [d1, d2] => { results := [.lit (.bool true)], args := [d1, d2] }
  | _ => none }
def logareaBackRow : OpenClaim := { program := "ytndifkjenjfjpaa", sum := "70ff9c8e26772c0e68c3dfe85b5f6c2c25027cb144be8907d62373563d0039dc", func := "tegula/tegulalaw28.LogareaBack", spec := "logareaBack", unfollowed := true, recurses := true, apart := false }
def LogareaBackSaid : Prop := logareaBackRow.holds Try.pinned (OpenSpec.ofChange logareaBackSpec)

/-- ITS FALSE NEIGHBOUR: 'it returns false'. Refute it at one input. -/
def logareaBackWrong : ChangeSpec := { name := "logareaBack", fn := fun _ => fun
  | [d1, d2] => { results := [.lit (.bool false)], args := [d1, d2] }
  | _ => none }
def LogareaBackWrongFalsely : Prop := logareaBackRow.holds Try.pinned (OpenSpec.ofChange logareaBackWrong)

/- THE SECOND FORM. 'bulk': how many values and letters a reading holds, each counted each time it is reached (what is shared counts as often as it is met; a slice's spare places count too). A statement '..UptoSaid' is the law's where the arguments, and the package variables that the reading takes, are together of bulk at most 1048576: NARROWER than '..Said'. Prove '..Said' where nothing that the law and all that it calls make is longer than what came in: it says more and counts as full. Else prove '..UptoSaid'. A law counts once. -/
mutual
def uptoBulk {H : Type} : DataW H → Nat
  | .lit (.string bytes) => bytes.length + 1
  | .lit _ => 1
  | .nil => 1
  | .ptr d => uptoBulk d + 1
  | .slice elems spare => uptoBulkAll elems + uptoBulkAll spare + 1
  | .agg parts => uptoBulkAll parts + 1
  | .iface _ d => uptoBulk d + 1
  | .map entries => uptoBulkEntries entries + 1
  | .held _ => 1
def uptoBulkAll {H : Type} : List (DataW H) → Nat
  | [] => 0
  | d :: r => uptoBulk d + uptoBulkAll r
def uptoBulkEntries {H : Type} : List (Lit × DataW H) → Nat
  | [] => 0
  | x :: r => uptoBulkEntry x + uptoBulkEntries r
def uptoBulkEntry {H : Type} : Lit × DataW H → Nat
  | (.string bytes, d) => bytes.length + uptoBulk d + 1
  | (_, d) => uptoBulk d + 1
 end
def uptoSmall : (H : Type) → List (DataW H) → Bool := fun _ ds => decide (uptoBulkAll ds ≤ 1048576)
def OpenSpec.upto (s : _root_.Go.ChangeSpec) : _root_.Go.OpenSpec := { _root_.Go.OpenSpec.ofChange s with cond := some uptoSmall }

/-- 'tegulalaw27.RecordEncode', WHERE WHAT IT READS IS OF BULK AT MOST 1048576: true; the input reads as it did. -/
def recordEncodeUptoRow : OpenClaim := { program := "ytndifkjenjfjpaa", sum := "70ff9c8e26772c0e68c3dfe85b5f6c2c25027cb144be8907d62373563d0039dc", func := "tegula/tegulalaw27.RecordEncode", spec := "recordEncode", unfollowed := true, recurses := true, apart := false, narrowed := true }
def RecordEncodeUptoSaid : Prop := recordEncodeUptoRow.holds Try.pinned (OpenSpec.upto recordEncodeSpec)

/-- 'tegulalaw27.RecordInspect', WHERE WHAT IT READS IS OF BULK AT MOST 1048576: true; the input reads as it did. -/
def recordInspectUptoRow : OpenClaim := { program := "ytndifkjenjfjpaa", sum := "70ff9c8e26772c0e68c3dfe85b5f6c2c25027cb144be8907d62373563d0039dc", func := "tegula/tegulalaw27.RecordInspect", spec := "recordInspect", unfollowed := true, recurses := true, apart := false, narrowed := true }
def RecordInspectUptoSaid : Prop := recordInspectUptoRow.holds Try.pinned (OpenSpec.upto recordInspectSpec)

/-- 'tegulalaw27.RecordSealed', WHERE WHAT IT READS IS OF BULK AT MOST 1048576: true; the input reads as it did. -/
def recordSealedUptoRow : OpenClaim := { program := "ytndifkjenjfjpaa", sum := "70ff9c8e26772c0e68c3dfe85b5f6c2c25027cb144be8907d62373563d0039dc", func := "tegula/tegulalaw27.RecordSealed", spec := "recordSealed", unfollowed := true, recurses := true, apart := false, narrowed := true }
def RecordSealedUptoSaid : Prop := recordSealedUptoRow.holds Try.pinned (OpenSpec.upto recordSealedSpec)

/-- 'tegulalaw27.RecordDecode', WHERE WHAT IT READS IS OF BULK AT MOST 1048576: true; the input reads as it did. -/
def recordDecodeUptoRow : OpenClaim := { program := "ytndifkjenjfjpaa", sum := "70ff9c8e26772c0e68c3dfe85b5f6c2c25027cb144be8907d62373563d0039dc", func := "tegula/tegulalaw27.RecordDecode", spec := "recordDecode", unfollowed := true, recurses := true, apart := false, narrowed := true }
def RecordDecodeUptoSaid : Prop := recordDecodeUptoRow.holds Try.pinned (OpenSpec.upto recordDecodeSpec)

/-- 'tegulalaw27.RecordPayload', WHERE WHAT IT READS IS OF BULK AT MOST 1048576: true; the input reads as it did. -/
def recordPayloadUptoRow : OpenClaim := { program := "ytndifkjenjfjpaa", sum := "70ff9c8e26772c0e68c3dfe85b5f6c2c25027cb144be8907d62373563d0039dc", func := "tegula/tegulalaw27.RecordPayload", spec := "recordPayload", unfollowed := true, recurses := true, apart := false, narrowed := true }
def RecordPayloadUptoSaid : Prop := recordPayloadUptoRow.holds Try.pinned (OpenSpec.upto recordPayloadSpec)

/-- 'tegulalaw27.RecordRoundTrip', WHERE WHAT IT READS IS OF BULK AT MOST 1048576: true; the input reads as it did. -/
def recordRoundTripUptoRow : OpenClaim := { program := "ytndifkjenjfjpaa", sum := "70ff9c8e26772c0e68c3dfe85b5f6c2c25027cb144be8907d62373563d0039dc", func := "tegula/tegulalaw27.RecordRoundTrip", spec := "recordRoundTrip", unfollowed := true, recurses := true, apart := false, narrowed := true }
def RecordRoundTripUptoSaid : Prop := recordRoundTripUptoRow.holds Try.pinned (OpenSpec.upto recordRoundTripSpec)

/-- 'tegulalaw27.RecordMissing', WHERE WHAT IT READS IS OF BULK AT MOST 1048576: true; the input reads as it did. -/
def recordMissingUptoRow : OpenClaim := { program := "ytndifkjenjfjpaa", sum := "70ff9c8e26772c0e68c3dfe85b5f6c2c25027cb144be8907d62373563d0039dc", func := "tegula/tegulalaw27.RecordMissing", spec := "recordMissing", unfollowed := true, recurses := true, apart := false, narrowed := true }
def RecordMissingUptoSaid : Prop := recordMissingUptoRow.holds Try.pinned (OpenSpec.upto recordMissingSpec)

/-- 'tegulalaw28.LogareaScan', WHERE WHAT IT READS IS OF BULK AT MOST 1048576: true; the input reads as it did. -/
def logareaScanUptoRow : OpenClaim := { program := "ytndifkjenjfjpaa", sum := "70ff9c8e26772c0e68c3dfe85b5f6c2c25027cb144be8907d62373563d0039dc", func := "tegula/tegulalaw28.LogareaScan", spec := "logareaScan", unfollowed := true, recurses := true, apart := false, narrowed := true }
def LogareaScanUptoSaid : Prop := logareaScanUptoRow.holds Try.pinned (OpenSpec.upto logareaScanSpec)

/-- 'tegulalaw28.LogareaCut', WHERE WHAT IT READS IS OF BULK AT MOST 1048576: true; the input reads as it did. -/
def logareaCutUptoRow : OpenClaim := { program := "ytndifkjenjfjpaa", sum := "70ff9c8e26772c0e68c3dfe85b5f6c2c25027cb144be8907d62373563d0039dc", func := "tegula/tegulalaw28.LogareaCut", spec := "logareaCut", unfollowed := true, recurses := true, apart := false, narrowed := true }
def LogareaCutUptoSaid : Prop := logareaCutUptoRow.holds Try.pinned (OpenSpec.upto logareaCutSpec)

/-- 'tegulalaw28.LogareaFits', WHERE WHAT IT READS IS OF BULK AT MOST 1048576: true; the input reads as it did. -/
def logareaFitsUptoRow : OpenClaim := { program := "ytndifkjenjfjpaa", sum := "70ff9c8e26772c0e68c3dfe85b5f6c2c25027cb144be8907d62373563d0039dc", func := "tegula/tegulalaw28.LogareaFits", spec := "logareaFits", unfollowed := true, recurses := true, apart := false, narrowed := true }
def LogareaFitsUptoSaid : Prop := logareaFitsUptoRow.holds Try.pinned (OpenSpec.upto logareaFitsSpec)

/-- 'tegulalaw28.LogareaJoin', WHERE WHAT IT READS IS OF BULK AT MOST 1048576: true; the input reads as it did. -/
def logareaJoinUptoRow : OpenClaim := { program := "ytndifkjenjfjpaa", sum := "70ff9c8e26772c0e68c3dfe85b5f6c2c25027cb144be8907d62373563d0039dc", func := "tegula/tegulalaw28.LogareaJoin", spec := "logareaJoin", unfollowed := true, recurses := true, apart := false, narrowed := true }
def LogareaJoinUptoSaid : Prop := logareaJoinUptoRow.holds Try.pinned (OpenSpec.upto logareaJoinSpec)

/-- 'tegulalaw28.LogareaSectors', WHERE WHAT IT READS IS OF BULK AT MOST 1048576: true; the input reads as it did. -/
def logareaSectorsUptoRow : OpenClaim := { program := "ytndifkjenjfjpaa", sum := "70ff9c8e26772c0e68c3dfe85b5f6c2c25027cb144be8907d62373563d0039dc", func := "tegula/tegulalaw28.LogareaSectors", spec := "logareaSectors", unfollowed := true, recurses := true, apart := false, narrowed := true }
def LogareaSectorsUptoSaid : Prop := logareaSectorsUptoRow.holds Try.pinned (OpenSpec.upto logareaSectorsSpec)

/-- 'tegulalaw28.LogareaBack', WHERE WHAT IT READS IS OF BULK AT MOST 1048576: true; the input reads as it did. -/
def logareaBackUptoRow : OpenClaim := { program := "ytndifkjenjfjpaa", sum := "70ff9c8e26772c0e68c3dfe85b5f6c2c25027cb144be8907d62373563d0039dc", func := "tegula/tegulalaw28.LogareaBack", spec := "logareaBack", unfollowed := true, recurses := true, apart := false, narrowed := true }
def LogareaBackUptoSaid : Prop := logareaBackUptoRow.holds Try.pinned (OpenSpec.upto logareaBackSpec)

end Rows
end Go.Proofs.Ytndifkjenjfjpaa

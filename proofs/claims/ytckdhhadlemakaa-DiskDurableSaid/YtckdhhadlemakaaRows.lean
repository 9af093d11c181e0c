/-
  No cell of these rows narrows 'for every input' (looked for: loops, veiled, ifaces, maps, wideKeys, modest, calm, conditions, laid).
  DERIVED. THE GIVEN ROWS OF THIS SEAT. 8 by the template 'for every input the law returns true; each argument reads behind the call as it read before'; 0 by the template 'total and deterministic' (their statements: YtckdhhadlemakaaTotals.lean).
  GIVEN WITH THE SEED: the statements are not yours to turn. If you find one false, say at which input.
  Laid BY PROGRAM, IN A SANDBOX (cutbox-rows.mjs): the forced cells as the released guide's own fill.sh prints them over the translation 6dfd745134558129… (all of the seat's roots in one cut). By AI agents, Wed Nov 11 2026. No macro, syntax, notation, axiom, sorry.
-/
import Derived.Test.YtckdhhadlemakaaChecked
import GoSem.Claim
import GoSem.ClaimJoined
import GoSem.ClaimMapViews
import Derived.JoinedTies
import Derived.KernelRfl
namespace Go.Proofs.Ytckdhhadlemakaa
/- THE CELL 'sum', in the pinned program and in every row, IS THE sha256 OF THE DUMP (.gsa) THAT YtckdhhadlemakaaProg.lean LOADS. Nothing in Lean hashes anything: it is a label: what it is worth is what the hold of that sum in a sandbox is worth. -/
noncomputable def Try.pinned : Pinned := { name := "ytckdhhadlemakaa", sum := "6dfd74513455812987f1fd799d33c289bb280133684a5cc12877f0ce37830cd9", checked := Try.checked }
namespace Rows
def none {H : Type} : Left H := { results := [], args := [] }

/-- 'tegulalaw11.MediaOps': WHATEVER THE INPUT: true; the input reads as it did. -/
def mediaOpsSpec : ChangeSpec := { name := "mediaOps", fn := fun _ => fun
  | [d1, d2] => { results := [.lit (.bool true)], args := [d1, d2] }
  | _ => none }
def mediaOpsRow : OpenClaim := { program := "ytckdhhadlemakaa", sum := "6dfd74513455812987f1fd799d33c289bb280133684a5cc12877f0ce37830cd9", func := "tegula/tegulalaw11.MediaOps", spec := "mediaOps", apart := false }
def MediaOpsSaid : Prop := mediaOpsRow.holds Try.pinned (OpenSpec.ofChange mediaOpsSpec)

/-- ITS FALSE NEIGHBOUR: 'it returns false'. Refute it at one input. -/
def mediaOpsWrong : ChangeSpec := { name := "mediaOps", fn := fun _ => fun
  | [d1, d2] => { results := [.lit (.bool false)], args := [d1, d2] }
  | _ => none }
def MediaOpsWrongFalsely : Prop := mediaOpsRow.holds Try.pinned (OpenSpec.ofChange mediaOpsWrong)

/-- 'tegulalaw12.CacheSteps': WHATEVER THE INPUT: true; the input reads as it did. -/
def cacheStepsSpec : ChangeSpec := { name := "cacheSteps", fn := fun _ => fun
  | [d1, d2] => { results := [.lit (.bool true)], args := [d1, d2] }
  | _ => none }
def cacheStepsRow : OpenClaim := { program := "ytckdhhadlemakaa", sum := "6dfd74513455812987f1fd799d33c289bb280133684a5cc12877f0ce37830cd9", func := "tegula/tegulalaw12.CacheSteps", spec := "cacheSteps", unfollowed := true, recurses := true, apart := false }
def CacheStepsSaid : Prop := cacheStepsRow.holds Try.pinned (OpenSpec.ofChange cacheStepsSpec)

/-- ITS FALSE NEIGHBOUR: 'it returns false'. Refute it at one input. -/
def cacheStepsWrong : ChangeSpec := { name := "cacheSteps", fn := fun _ => fun
  | [d1, d2] => { results := [.lit (.bool false)], args := [d1, d2] }
  | _ => none }
def CacheStepsWrongFalsely : Prop := cacheStepsRow.holds Try.pinned (OpenSpec.ofChange cacheStepsWrong)

/-- 'tegulalaw14.DiskNew': WHATEVER THE INPUT: true; the input reads as it did. -/
def diskNewSpec : ChangeSpec := { name := "diskNew", fn := fun _ => fun
  | [d1, d2] => { results := [.lit (.bool true)], args := [d1, d2] }
  | _ => none }
def diskNewRow : OpenClaim := { program := "ytckdhhadlemakaa", sum := "6dfd74513455812987f1fd799d33c289bb280133684a5cc12877f0ce37830cd9", func := "tegula/tegulalaw14.DiskNew", spec := "diskNew", unfollowed := true, recurses := true, apart := false }
def DiskNewSaid : Prop := diskNewRow.holds Try.pinned (OpenSpec.ofChange diskNewSpec)

/-- ITS FALSE NEIGHBOUR: 'it returns false'. Refute it at one input. -/
def diskNewWrong : ChangeSpec := { name := "diskNew", fn := fun _ => fun
  | [d1, d2] => { results := [.lit (.bool false)], args := [d1, d2] }
  | _ => none }
def DiskNewWrongFalsely : Prop := diskNewRow.holds Try.pinned (OpenSpec.ofChange diskNewWrong)

/-- 'tegulalaw14.DiskStays': WHATEVER THE INPUT: true; the input reads as it did. -/
def diskStaysSpec : ChangeSpec := { name := "diskStays", fn := fun _ => fun
  | [d] => { results := [.lit (.bool true)], args := [d] }
  | _ => none }
def diskStaysRow : OpenClaim := { program := "ytckdhhadlemakaa", sum := "6dfd74513455812987f1fd799d33c289bb280133684a5cc12877f0ce37830cd9", func := "tegula/tegulalaw14.DiskStays", spec := "diskStays", unfollowed := true, recurses := true, apart := false }
def DiskStaysSaid : Prop := diskStaysRow.holds Try.pinned (OpenSpec.ofChange diskStaysSpec)

/-- ITS FALSE NEIGHBOUR: 'it returns false'. Refute it at one input. -/
def diskStaysWrong : ChangeSpec := { name := "diskStays", fn := fun _ => fun
  | [d] => { results := [.lit (.bool false)], args := [d] }
  | _ => none }
def DiskStaysWrongFalsely : Prop := diskStaysRow.holds Try.pinned (OpenSpec.ofChange diskStaysWrong)

/-- 'tegulalaw14.DiskDurable': WHATEVER THE INPUT: true; the input reads as it did. -/
def diskDurableSpec : ChangeSpec := { name := "diskDurable", fn := fun _ => fun
  | [d1, d2, d3] => { results := [.lit (.bool true)], args := [d1, d2, d3] }
  | _ => none }
def diskDurableRow : OpenClaim := { program := "ytckdhhadlemakaa", sum := "6dfd74513455812987f1fd799d33c289bb280133684a5cc12877f0ce37830cd9", func := "tegula/tegulalaw14.DiskDurable", spec := "diskDurable", unfollowed := true, recurses := true, apart := false }
def DiskDurableSaid : Prop := diskDurableRow.holds Try.pinned (OpenSpec.ofChange diskDurableSpec)

/-- ITS FALSE NEIGHBOUR: 'it returns false'. Refute it at one input. -/
def diskDurableWrong : ChangeSpec := { name := "diskDurable", fn := fun _ => fun
  | [d1, d2, d3] => { results := [.lit (.bool false)], args := [d1, d2, d3] }
  | _ => none }
def DiskDurableWrongFalsely : Prop := diskDurableRow.holds Try.pinned (OpenSpec.ofChange diskDurableWrong)

/-- 'tegulalaw14.DiskFences': WHATEVER THE INPUT: true; the input reads as it did. -/
def diskFencesSpec : ChangeSpec := { name := "diskFences", fn := fun _ => fun
  | [d1, d2] => { results := [.lit (.bool true)], args := [d1, d2] }
  | _ => none }
def diskFencesRow : OpenClaim := { program := "ytckdhhadlemakaa", sum := "6dfd74513455812987f1fd799d33c289bb280133684a5cc12877f0ce37830cd9", func := "tegula/tegulalaw14.DiskFences", spec := "diskFences", unfollowed := true, recurses := true, apart := false }
def DiskFencesSaid : Prop := diskFencesRow.holds Try.pinned (OpenSpec.ofChange diskFencesSpec)

/-- ITS FALSE NEIGHBOUR: 'it returns false'. Refute it at one input. -/
def diskFencesWrong : ChangeSpec := { name := "diskFences", fn := fun _ => fun
  | [d1, d2] => { results := [.lit (.bool false)], args := [d1, d2] }
  | _ => none }
def DiskFencesWrongFalsely : Prop := diskFencesRow.holds Try.pinned (OpenSpec.ofChange diskFencesWrong)

/-- 'tegulalaw14.DiskActs': WHATEVER THE INPUT: true; the input reads as it did. -/
def diskActsSpec : ChangeSpec := { name := "diskActs", fn := fun _ => fun
  | [d] => { results := [.lit (.bool true)], args := [d] }
  | _ => none }
def diskActsRow : OpenClaim := { program := "ytckdhhadlemakaa", sum := "6dfd74513455812987f1fd799d33c289bb280133684a5cc12877f0ce37830cd9", func := "tegula/tegulalaw14.DiskActs", spec := "diskActs", unfollowed := true, recurses := true, apart := false }
def DiskActsSaid : Prop := diskActsRow.holds Try.pinned (OpenSpec.ofChange diskActsSpec)

/-- ITS FALSE NEIGHBOUR: 'it returns false'. Refute it at one input. -/
def diskActsWrong : ChangeSpec := { name := "diskActs", fn := fun _ => fun
  | [d] => { results := [.lit (.bool false)], args := [d] }
  | _ => none }
def DiskActsWrongFalsely : Prop := diskActsRow.holds Try.pinned (OpenSpec.ofChange diskActsWrong)

/-- 'tegulalaw14.DiskNil': WHATEVER THE INPUT: true; the input reads as it did. -/
def diskNilSpec : ChangeSpec := { name := "diskNil", fn := fun _ => fun
  | [d1, d2] => { results := [.lit (.bool true)], args := [d1, d2] }
  | _ => none }
def diskNilRow : OpenClaim := { program := "ytckdhhadlemakaa", sum := "6dfd74513455812987f1fd799d33c289bb280133684a5cc12877f0ce37830cd9", func := "tegula/tegulalaw14.DiskNil", spec := "diskNil", unfollowed := true, recurses := true, apart := false }
def DiskNilSaid : Prop := diskNilRow.holds Try.pinned (OpenSpec.ofChange diskNilSpec)

/-- ITS FALSE NEIGHBOUR: 'it returns false'. Refute it at one input. -/
def diskNilWrong : ChangeSpec := { name := "diskNil", fn := fun _ => fun
  | [d1, d2] => { results := [.lit (.bool false)], args := [d1, d2] }
  | _ => none }
def DiskNilWrongFalsely : Prop := diskNilRow.holds Try.pinned (OpenSpec.ofChange diskNilWrong)

/- THE SECOND FORM. 'bulk': how many values and letters a reading holds, each counted each time it is reached (what is shared counts as often as it is met; a slice's spare places count too). A statement '..UptoSaid' is the law's where the arguments, and the package variables that the reading takes, are together of bulk at most 1048576: NARROWER than '..Said'. Prove '..Said' where nothing that the law and all that it calls make is longer than what came in: it says more and counts as full. Else prove '..UptoSaid'. A law counts once. -/
mutual
def uptoBulk {H : Type} : DataW H → Nat
  | .lit (.string bytes) => bytes.length + 1
  | .lit _ => 1
  | .nil => 1
  | .ptr d => uptoBulk d + 1
  | .slice elems spare => uptoBulkAll elems + uptoBulkAll spare + 1
  | .agg parts => uptoBulkAll parts + 1
  | .iface _ d => uptoBulk d + 1
  | .map entries => uptoBulkEntries entries + 1
  | .held _ => 1
def uptoBulkAll {H : Type} : List (DataW H) → Nat
  | [] => 0
  | d :: r => uptoBulk d + uptoBulkAll r
def uptoBulkEntries {H : Type} : List (Lit × DataW H) → Nat
  | [] => 0
  | x :: r => uptoBulkEntry x + uptoBulkEntries r
def uptoBulkEntry {H : Type} : Lit × DataW H → Nat
  | (.string bytes, d) => bytes.length + uptoBulk d + 1
  | (_, d) => uptoBulk d + 1
 end
def uptoSmall : (H : Type) → List (DataW H) → Bool := fun _ ds => decide (uptoBulkAll ds ≤ 1048576)
def OpenSpec.upto (s : _root_.Go.ChangeSpec) : _root_.Go.OpenSpec := { _root_.Go.OpenSpec.ofChange s with cond := some uptoSmall }

/-- 'tegulalaw11.MediaOps', WHERE WHAT IT READS IS OF BULK AT MOST 1048576: true; the input reads as it did. -/
def mediaOpsUptoRow : OpenClaim := { program := "ytckdhhadlemakaa", sum := "6dfd74513455812987f1fd799d33c289bb280133684a5cc12877f0ce37830cd9", func := "tegula/tegulalaw11.MediaOps", spec := "mediaOps", apart := false, narrowed := true }
def MediaOpsUptoSaid : Prop := mediaOpsUptoRow.holds Try.pinned (OpenSpec.upto mediaOpsSpec)

/-- 'tegulalaw12.CacheSteps', WHERE WHAT IT READS IS OF BULK AT MOST 1048576: true; the input reads as it did. -/
def cacheStepsUptoRow : OpenClaim := { program := "ytckdhhadlemakaa", sum := "6dfd74513455812987f1fd799d33c289bb280133684a5cc12877f0ce37830cd9", func := "tegula/tegulalaw12.CacheSteps", spec := "cacheSteps", unfollowed := true, recurses := true, apart := false, narrowed := true }
def CacheStepsUptoSaid : Prop := cacheStepsUptoRow.holds Try.pinned (OpenSpec.upto cacheStepsSpec)

/-- 'tegulalaw14.DiskNew', WHERE WHAT IT READS IS OF BULK AT MOST 1048576: true; the input reads as it did. -/
def diskNewUptoRow : OpenClaim := { program := "ytckdhhadlemakaa", sum := "6dfd74513455812987f1fd799d33c289bb280133684a5cc12877f0ce37830cd9", func := "tegula/tegulalaw14.DiskNew", spec := "diskNew", unfollowed := true, recurses := true, apart := false, narrowed := true }
def DiskNewUptoSaid : Prop := diskNewUptoRow.holds Try.pinned (OpenSpec.upto diskNewSpec)

/-- 'tegulalaw14.DiskStays', WHERE WHAT IT READS IS OF BULK AT MOST 1048576: true; the input reads as it did. -/
def diskStaysUptoRow : OpenClaim := { program := "ytckdhhadlemakaa", sum := "6dfd74513455812987f1fd799d33c289bb280133684a5cc12877f0ce37830cd9", func := "tegula/tegulalaw14.DiskStays", spec := "diskStays", unfollowed := true, recurses := true, apart := false, narrowed := true }
def DiskStaysUptoSaid : Prop := diskStaysUptoRow.holds Try.pinned (OpenSpec.upto diskStaysSpec)

/-- 'tegulalaw14.DiskDurable', WHERE WHAT IT READS IS OF BULK AT MOST 1048576: true; the input reads as it did. -/
def diskDurableUptoRow : OpenClaim := { program := "ytckdhhadlemakaa", sum := "6dfd74513455812987f1fd799d33c289bb280133684a5cc12877f0ce37830cd9", func := "tegula/tegulalaw14.DiskDurable", spec := "diskDurable", unfollowed := true, recurses := true, apart := false, narrowed := true }
def DiskDurableUptoSaid : Prop := diskDurableUptoRow.holds Try.pinned (OpenSpec.upto diskDurableSpec)

/-- 'tegulalaw14.DiskFences', WHERE WHAT IT READS IS OF BULK AT MOST 1048576: true; the input reads as it did. -/
def diskFencesUptoRow : OpenClaim := { program := "ytckdhhadlemakaa", sum := "6dfd74513455812987f1fd799d33c289bb280133684a5cc12877f0ce37830cd9", func := "tegula/tegulalaw14.DiskFences", spec := "diskFences", unfollowed := true, recurses := true, apart := false, narrowed := true }
def DiskFencesUptoSaid : Prop := diskFencesUptoRow.holds Try.pinned (OpenSpec.upto diskFencesSpec)

/-- 'tegulalaw14.DiskActs', WHERE WHAT IT READS IS OF BULK AT MOST 1048576: true; the input reads as it did. -/
def diskActsUptoRow : OpenClaim := { program := "ytckdhhadlemakaa", sum := "6dfd74513455812987f1fd799d33c289bb280133684a5cc12877f0ce37830cd9", func := "tegula/tegulalaw14.DiskActs", spec := "diskActs", unfollowed := true, recurses := true, apart := false, narrowed := true }
def DiskActsUptoSaid : Prop := diskActsUptoRow.holds Try.pinned (OpenSpec.upto diskActsSpec)

/-- 'tegulalaw14.DiskNil', WHERE WHAT IT READS IS OF BULK AT MOST 1048576: true; the input reads as it did. -/
def diskNilUptoRow : OpenClaim := { program := "ytckdhhadlemakaa", sum := "6dfd74513455812987f1fd799d33c289bb280133684a5cc12877f0ce37830cd9", func := "tegula/tegulalaw14.DiskNil", spec := "diskNil", unfollowed := true, recurses := true, apart := false, narrowed := true }
def DiskNilUptoSaid : Prop := diskNilUptoRow.holds Try.pinned (OpenSpec.upto diskNilSpec)

end Rows
end Go.Proofs.Ytckdhhadlemakaa

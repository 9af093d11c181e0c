/-
  No cell of these rows narrows 'for every input' (looked for: loops, veiled, ifaces, maps, wideKeys, modest, calm, conditions, laid).
  DERIVED. THE GIVEN ROWS OF THIS SEAT. 12 by the template 'for every input the law returns true; each argument reads behind the call as it read before'; 0 by the template 'total and deterministic' (their statements: YtmjkpnplfeafeaaTotals.lean).
  GIVEN WITH THE SEED: the statements are not yours to turn. If you find one false, say at which input.
  Laid BY PROGRAM, IN A SANDBOX (cutbox-rows.mjs): the forced cells as the released guide's own fill.sh prints them over the translation a6cb208973766f40… (all of the seat's roots in one cut). By AI agents, Wed Nov 11 2026. No macro, syntax, notation, axiom, sorry.
-/
import Derived.Test.YtmjkpnplfeafeaaChecked
import GoSem.Claim
import GoSem.ClaimJoined
import GoSem.ClaimMapViews
import Derived.JoinedTies
import Derived.KernelRfl
namespace Go.Proofs.Ytmjkpnplfeafeaa
/- THE CELL 'sum', in the pinned program and in every row, IS THE sha256 OF THE DUMP (.gsa) THAT YtmjkpnplfeafeaaProg.lean LOADS. Nothing in Lean hashes anything: it is a label: what it is worth is what the hold of that sum in a sandbox is worth. -/
noncomputable def Try.pinned : Pinned := { name := "ytmjkpnplfeafeaa", sum := "a6cb208973766f40977ef31144e7ca0d2ba209682b89c20c3e04166eb1ed7376", checked := Try.checked }
namespace Rows
def none {H : Type} : Left H := { results := [], args := [] }

/-- 'tegulalaw11.MediaApart': WHATEVER THE INPUT: true; the input reads as it did. -/
def mediaApartSpec : ChangeSpec := { name := "mediaApart", fn := fun _ => fun
  | [d1, d2, d3] => { results := [.lit (.bool true)], args := [d1, d2, d3] }
  | _ => none }
def mediaApartRow : OpenClaim := { program := "ytmjkpnplfeafeaa", sum := "a6cb208973766f40977ef31144e7ca0d2ba209682b89c20c3e04166eb1ed7376", func := "tegula/tegulalaw11.MediaApart", spec := "mediaApart", apart := false }
def MediaApartSaid : Prop := mediaApartRow.holds Try.pinned (OpenSpec.ofChange mediaApartSpec)

/-- ITS FALSE NEIGHBOUR: 'it returns false'. Refute it at one input. -/
def mediaApartWrong : ChangeSpec := { name := "mediaApart", fn := fun _ => fun
  | [d1, d2, d3] => { results := [.lit (.bool false)], args := [d1, d2, d3] }
  | _ => none }
def MediaApartWrongFalsely : Prop := mediaApartRow.holds Try.pinned (OpenSpec.ofChange mediaApartWrong)

/-- 'tegulalaw11.MediaSequential': WHATEVER THE INPUT: true; the input reads as it did. -/
def mediaSequentialSpec : ChangeSpec := { name := "mediaSequential", fn := fun _ => fun
  | [d1, d2, d3] => { results := [.lit (.bool true)], args := [d1, d2, d3] }
  | _ => none }
def mediaSequentialRow : OpenClaim := { program := "ytmjkpnplfeafeaa", sum := "a6cb208973766f40977ef31144e7ca0d2ba209682b89c20c3e04166eb1ed7376", func := "tegula/tegulalaw11.MediaSequential", spec := "mediaSequential", apart := false }
def MediaSequentialSaid : Prop := mediaSequentialRow.holds Try.pinned (OpenSpec.ofChange mediaSequentialSpec)

/-- ITS FALSE NEIGHBOUR: 'it returns false'. Refute it at one input. -/
def mediaSequentialWrong : ChangeSpec := { name := "mediaSequential", fn := fun _ => fun
  | [d1, d2, d3] => { results := [.lit (.bool false)], args := [d1, d2, d3] }
  | _ => none }
def MediaSequentialWrongFalsely : Prop := mediaSequentialRow.holds Try.pinned (OpenSpec.ofChange mediaSequentialWrong)

/-- 'tegulalaw11.MediaOps': WHATEVER THE INPUT: true; the input reads as it did. -/
def mediaOpsSpec : ChangeSpec := { name := "mediaOps", fn := fun _ => fun
  | [d1, d2] => { results := [.lit (.bool true)], args := [d1, d2] }
  | _ => none }
def mediaOpsRow : OpenClaim := { program := "ytmjkpnplfeafeaa", sum := "a6cb208973766f40977ef31144e7ca0d2ba209682b89c20c3e04166eb1ed7376", func := "tegula/tegulalaw11.MediaOps", spec := "mediaOps", apart := false }
def MediaOpsSaid : Prop := mediaOpsRow.holds Try.pinned (OpenSpec.ofChange mediaOpsSpec)

/-- ITS FALSE NEIGHBOUR: 'it returns false'. Refute it at one input. -/
def mediaOpsWrong : ChangeSpec := { name := "mediaOps", fn := fun _ => fun
  | [d1, d2] => { results := [.lit (.bool false)], args := [d1, d2] }
  | _ => none }
def MediaOpsWrongFalsely : Prop := mediaOpsRow.holds Try.pinned (OpenSpec.ofChange mediaOpsWrong)

/-- 'tegulalaw11.MediaLocal': WHATEVER THE INPUT: true; the input reads as it did. -/
def mediaLocalSpec : ChangeSpec := { name := "mediaLocal", fn := fun _ => fun
  | [d1, d2, d3] => { results := [.lit (.bool true)], args := [d1, d2, d3] }
  | _ => none }
def mediaLocalRow : OpenClaim := { program := "ytmjkpnplfeafeaa", sum := "a6cb208973766f40977ef31144e7ca0d2ba209682b89c20c3e04166eb1ed7376", func := "tegula/tegulalaw11.MediaLocal", spec := "mediaLocal", apart := false }
def MediaLocalSaid : Prop := mediaLocalRow.holds Try.pinned (OpenSpec.ofChange mediaLocalSpec)

/-- ITS FALSE NEIGHBOUR: 'it returns false'. Refute it at one input. -/
def mediaLocalWrong : ChangeSpec := { name := "mediaLocal", fn := fun _ => fun
  | [d1, d2, d3] => { results := [.lit (.bool false)], args := [d1, d2, d3] }
  | _ => none }
def MediaLocalWrongFalsely : Prop := mediaLocalRow.holds Try.pinned (OpenSpec.ofChange mediaLocalWrong)

/-- 'tegulalaw11.MediaClone': WHATEVER THE INPUT: true; the input reads as it did. -/
def mediaCloneSpec : ChangeSpec := { name := "mediaClone", fn := fun _ => fun
  | [d1, d2, d3] => { results := [.lit (.bool true)], args := [d1, d2, d3] }
  | _ => none }
def mediaCloneRow : OpenClaim := { program := "ytmjkpnplfeafeaa", sum := "a6cb208973766f40977ef31144e7ca0d2ba209682b89c20c3e04166eb1ed7376", func := "tegula/tegulalaw11.MediaClone", spec := "mediaClone", apart := false }
def MediaCloneSaid : Prop := mediaCloneRow.holds Try.pinned (OpenSpec.ofChange mediaCloneSpec)

/-- ITS FALSE NEIGHBOUR: 'it returns false'. Refute it at one input. -/
def mediaCloneWrong : ChangeSpec := { name := "mediaClone", fn := fun _ => fun
  | [d1, d2, d3] => { results := [.lit (.bool false)], args := [d1, d2, d3] }
  | _ => none }
def MediaCloneWrongFalsely : Prop := mediaCloneRow.holds Try.pinned (OpenSpec.ofChange mediaCloneWrong)

/-- 'tegulalaw11.MediaNil': WHATEVER THE INPUT: true; the input reads as it did. -/
def mediaNilSpec : ChangeSpec := { name := "mediaNil", fn := fun _ => fun
  | [d] => { results := [.lit (.bool true)], args := [d] }
  | _ => none }
def mediaNilRow : OpenClaim := { program := "ytmjkpnplfeafeaa", sum := "a6cb208973766f40977ef31144e7ca0d2ba209682b89c20c3e04166eb1ed7376", func := "tegula/tegulalaw11.MediaNil", spec := "mediaNil", apart := false }
def MediaNilSaid : Prop := mediaNilRow.holds Try.pinned (OpenSpec.ofChange mediaNilSpec)

/-- ITS FALSE NEIGHBOUR: 'it returns false'. Refute it at one input. -/
def mediaNilWrong : ChangeSpec := { name := "mediaNil", fn := fun _ => fun
  | [d] => { results := [.lit (.bool false)], args := [d] }
  | _ => none }
def MediaNilWrongFalsely : Prop := mediaNilRow.holds Try.pinned (OpenSpec.ofChange mediaNilWrong)

/-- 'tegulalaw12.CacheGiven': WHATEVER THE INPUT: true; the input reads as it did. -/
def cacheGivenSpec : ChangeSpec := { name := "cacheGiven", fn := fun _ => fun
  | [d1, d2] => { results := [.lit (.bool true)], args := [d1, d2] }
  | _ => none }
def cacheGivenRow : OpenClaim := { program := "ytmjkpnplfeafeaa", sum := "a6cb208973766f40977ef31144e7ca0d2ba209682b89c20c3e04166eb1ed7376", func := "tegula/tegulalaw12.CacheGiven", spec := "cacheGiven", unfollowed := true, recurses := true, apart := false }
def CacheGivenSaid : Prop := cacheGivenRow.holds Try.pinned (OpenSpec.ofChange cacheGivenSpec)

/-- ITS FALSE NEIGHBOUR: 'it returns false'. Refute it at one input. -/
def cacheGivenWrong : ChangeSpec := { name := "cacheGiven", fn := fun _ => fun
  | [d1, d2] => { results := [.lit (.bool false)], args := [d1, d2] }
  | _ => none }
def CacheGivenWrongFalsely : Prop := cacheGivenRow.holds Try.pinned (OpenSpec.ofChange cacheGivenWrong)

/-- 'tegulalaw12.CacheSteps': WHATEVER THE INPUT: true; the input reads as it did. -/
def cacheStepsSpec : ChangeSpec := { name := "cacheSteps", fn := fun _ => fun
  | [d1, d2] => { results := [.lit (.bool true)], args := [d1, d2] }
  | _ => none }
def cacheStepsRow : OpenClaim := { program := "ytmjkpnplfeafeaa", sum := "a6cb208973766f40977ef31144e7ca0d2ba209682b89c20c3e04166eb1ed7376", func := "tegula/tegulalaw12.CacheSteps", spec := "cacheSteps", unfollowed := true, recurses := true, apart := false }
def CacheStepsSaid : Prop := cacheStepsRow.holds Try.pinned (OpenSpec.ofChange cacheStepsSpec)

/-- ITS FALSE NEIGHBOUR: 'it returns false'. Refute it at one input. -/
def cacheStepsWrong : ChangeSpec := { name := "cacheSteps", fn := fun _ => fun
  | [d1, d2] => { results := [.lit (.bool false)], args := [d1, d2] }
  | _ => none }
def CacheStepsWrongFalsely : Prop := cacheStepsRow.holds Try.pinned (OpenSpec.ofChange cacheStepsWrong)

/-- 'tegulalaw12.CacheCut': WHATEVER THE INPUT: true; the input reads as it did. -/
def cacheCutSpec : ChangeSpec := { name := "cacheCut", fn := fun _ => fun
  | [d1, d2, d3] => { results := [.lit (.bool true)], args := [d1, d2, d3] }
  | _ => none }
def cacheCutRow : OpenClaim := { program := "ytmjkpnplfeafeaa", sum := "a6cb208973766f40977ef31144e7ca0d2ba209682b89c20c3e04166eb1ed7376", func := "tegula/tegulalaw12.CacheCut", spec := "cacheCut", unfollowed := true, recurses := true, apart := false }
def CacheCutSaid : Prop := cacheCutRow.holds Try.pinned (OpenSpec.ofChange cacheCutSpec)

/-- ITS FALSE NEIGHBOUR: 'it returns false'. Refute it at one input. -/
def cacheCutWrong : ChangeSpec := { name := "cacheCut", fn := fun _ => fun
  | [d1, d2, d3] => { results := [.lit (.bool false)], args := [d1, d2, d3] }
  | _ => none }
def CacheCutWrongFalsely : Prop := cacheCutRow.holds Try.pinned (OpenSpec.ofChange cacheCutWrong)

/-- 'tegulalaw12.CacheFlush': WHATEVER THE INPUT: true; the input reads as it did. -/
def cacheFlushSpec : ChangeSpec := { name := "cacheFlush", fn := fun _ => fun
  | [d1, d2, d3] => { results := [.lit (.bool true)], args := [d1, d2, d3] }
  | _ => none }
def cacheFlushRow : OpenClaim := { program := "ytmjkpnplfeafeaa", sum := "a6cb208973766f40977ef31144e7ca0d2ba209682b89c20c3e04166eb1ed7376", func := "tegula/tegulalaw12.CacheFlush", spec := "cacheFlush", unfollowed := true, recurses := true, apart := false }
def CacheFlushSaid : Prop := cacheFlushRow.holds Try.pinned (OpenSpec.ofChange cacheFlushSpec)

/-- ITS FALSE NEIGHBOUR: 'it returns false'. Refute it at one input. -/
def cacheFlushWrong : ChangeSpec := { name := "cacheFlush", fn := fun _ => fun
  | [d1, d2, d3] => { results := [.lit (.bool false)], args := [d1, d2, d3] }
  | _ => none }
def CacheFlushWrongFalsely : Prop := cacheFlushRow.holds Try.pinned (OpenSpec.ofChange cacheFlushWrong)

/-- 'tegulalaw12.CacheClone': WHATEVER THE INPUT: true; the input reads as it did. -/
def cacheCloneSpec : ChangeSpec := { name := "cacheClone", fn := fun _ => fun
  | [d1, d2, d3] => { results := [.lit (.bool true)], args := [d1, d2, d3] }
  | _ => none }
def cacheCloneRow : OpenClaim := { program := "ytmjkpnplfeafeaa", sum := "a6cb208973766f40977ef31144e7ca0d2ba209682b89c20c3e04166eb1ed7376", func := "tegula/tegulalaw12.CacheClone", spec := "cacheClone", unfollowed := true, recurses := true, apart := false }
def CacheCloneSaid : Prop := cacheCloneRow.holds Try.pinned (OpenSpec.ofChange cacheCloneSpec)

/-- ITS FALSE NEIGHBOUR: 'it returns false'. Refute it at one input. -/
def cacheCloneWrong : ChangeSpec := { name := "cacheClone", fn := fun _ => fun
  | [d1, d2, d3] => { results := [.lit (.bool false)], args := [d1, d2, d3] }
  | _ => none }
def CacheCloneWrongFalsely : Prop := cacheCloneRow.holds Try.pinned (OpenSpec.ofChange cacheCloneWrong)

/-- 'tegulalaw12.CacheNil': WHATEVER THE INPUT: true; the input reads as it did. -/
def cacheNilSpec : ChangeSpec := { name := "cacheNil", fn := fun _ => fun
  | [d] => { results := [.lit (.bool true)], args := [d] }
  | _ => none }
def cacheNilRow : OpenClaim := { program := "ytmjkpnplfeafeaa", sum := "a6cb208973766f40977ef31144e7ca0d2ba209682b89c20c3e04166eb1ed7376", func := "tegula/tegulalaw12.CacheNil", spec := "cacheNil", unfollowed := true, recurses := true, apart := false }
def CacheNilSaid : Prop := cacheNilRow.holds Try.pinned (OpenSpec.ofChange cacheNilSpec)

/-- ITS FALSE NEIGHBOUR: 'it returns false'. Refute it at one input. -/
def cacheNilWrong : ChangeSpec := { name := "cacheNil", fn := fun _ => fun
  | [d] => { results := [.lit (.bool false)], args := [d] }
  | _ => none }
def CacheNilWrongFalsely : Prop := cacheNilRow.holds Try.pinned (OpenSpec.ofChange cacheNilWrong)

/- THE SECOND FORM. 'bulk': how many values and letters a reading holds, each counted each time it is reached (what is shared counts as often as it is met; a slice's spare places count too). A statement '..UptoSaid' is the law's where the arguments, and the package variables that the reading takes, are together of bulk at most 1048576: NARROWER than '..Said'. Prove '..Said' where nothing that the law and all that it calls make is longer than what came in: it says more and counts as full. Else prove '..UptoSaid'. A law counts once. -/
mutual
def uptoBulk {H : Type} : DataW H → Nat
  | .lit (.string bytes) => bytes.length + 1
  | .lit _ => 1
  | .nil => 1
  | .ptr d => uptoBulk d + 1
  | .slice elems spare => uptoBulkAll elems + uptoBulkAll spare + 1
  | .agg parts => uptoBulkAll parts + 1
  | .iface _ d => uptoBulk d + 1
  | .map entries => uptoBulkEntries entries + 1
  | .held _ => 1
def uptoBulkAll {H : Type} : List (DataW H) → Nat
  | [] => 0
  | d :: r => uptoBulk d + uptoBulkAll r
def uptoBulkEntries {H : Type} : List (Lit × DataW H) → Nat
  | [] => 0
  | x :: r => uptoBulkEntry x + uptoBulkEntries r
def uptoBulkEntry {H : Type} : Lit × DataW H → Nat
  | (.string bytes, d) => bytes.length + uptoBulk d + 1
  | (_, d) => uptoBulk d + 1
 end
def uptoSmall : (H : Type) → List (DataW H) → Bool := fun _ ds => decide (uptoBulkAll ds ≤ 1048576)
def OpenSpec.upto (s : _root_.Go.ChangeSpec) : _root_.Go.OpenSpec := { _root_.Go.OpenSpec.ofChange s with cond := some uptoSmall }

/-- 'tegulalaw11.MediaApart', WHERE WHAT IT READS IS OF BULK AT MOST 1048576: true; the input reads as it did. -/
def mediaApartUptoRow : OpenClaim := { program := "ytmjkpnplfeafeaa", sum := "a6cb208973766f40977ef31144e7ca0d2ba209682b89c20c3e04166eb1ed7376", func := "tegula/tegulalaw11.MediaApart", spec := "mediaApart", apart := false, narrowed := true }
def MediaApartUptoSaid : Prop := mediaApartUptoRow.holds Try.pinned (OpenSpec.upto mediaApartSpec)

/-- 'tegulalaw11.MediaSequential', WHERE WHAT IT READS IS OF BULK AT MOST 1048576: true; the input reads as it did. -/
def mediaSequentialUptoRow : OpenClaim := { program := "ytmjkpnplfeafeaa", sum := "a6cb208973766f40977ef31144e7ca0d2ba209682b89c20c3e04166eb1ed7376", func := "tegula/tegulalaw11.MediaSequential", spec := "mediaSequential", apart := false, narrowed := true }
def MediaSequentialUptoSaid : Prop := mediaSequentialUptoRow.holds Try.pinned (OpenSpec.upto mediaSequentialSpec)

/-- 'tegulalaw11.MediaOps', WHERE WHAT IT READS IS OF BULK AT MOST 1048576: true; the input reads as it did. -/
def mediaOpsUptoRow : OpenClaim := { program := "ytmjkpnplfeafeaa", sum := "a6cb208973766f40977ef31144e7ca0d2ba209682b89c20c3e04166eb1ed7376", func := "tegula/tegulalaw11.MediaOps", spec := "mediaOps", apart := false, narrowed := true }
def MediaOpsUptoSaid : Prop := mediaOpsUptoRow.holds Try.pinned (OpenSpec.upto mediaOpsSpec)

/-- 'tegulalaw11.MediaLocal', WHERE WHAT IT READS IS OF BULK AT MOST 1048576: true; the input reads as it did. -/
def mediaLocalUptoRow : OpenClaim := { program := "ytmjkpnplfeafeaa", sum := "a6cb208973766f40977ef31144e7ca0d2ba209682b89c20c3e04166eb1ed7376", func := "tegula/tegulalaw11.MediaLocal", spec := "mediaLocal", apart := false, narrowed := true }
def MediaLocalUptoSaid : Prop := mediaLocalUptoRow.holds Try.pinned (OpenSpec.upto mediaLocalSpec)

/-- 'tegulalaw11.MediaClone', WHERE WHAT IT READS IS OF BULK AT MOST 1048576: true; the input reads as it did. -/
def mediaCloneUptoRow : OpenClaim := { program := "ytmjkpnplfeafeaa", sum := "a6cb208973766f40977ef31144e7ca0d2ba209682b89c20c3e04166eb1ed7376", func := "tegula/tegulalaw11.MediaClone", spec := "mediaClone", apart := false, narrowed := true }
def MediaCloneUptoSaid : Prop := mediaCloneUptoRow.holds Try.pinned (OpenSpec.upto mediaCloneSpec)

/-- 'tegulalaw11.MediaNil', WHERE WHAT IT READS IS OF BULK AT MOST 1048576: true; the input reads as it did. -/
def mediaNilUptoRow : OpenClaim := { program := "ytmjkpnplfeafeaa", sum := "a6cb208973766f40977ef31144e7ca0d2ba209682b89c20c3e04166eb1ed7376", func := "tegula/tegulalaw11.MediaNil", spec := "mediaNil", apart := false, narrowed := true }
def MediaNilUptoSaid : Prop := mediaNilUptoRow.holds Try.pinned (OpenSpec.upto mediaNilSpec)

/-- 'tegulalaw12.CacheGiven', WHERE WHAT IT READS IS OF BULK AT MOST 1048576: true; the input reads as it did. -/
def cacheGivenUptoRow : OpenClaim := { program := "ytmjkpnplfeafeaa", sum := "a6cb208973766f40977ef31144e7ca0d2ba209682b89c20c3e04166eb1ed7376", func := "tegula/tegulalaw12.CacheGiven", spec := "cacheGiven", unfollowed := true, recurses := true, apart := false, narrowed := true }
def CacheGivenUptoSaid : Prop := cacheGivenUptoRow.holds Try.pinned (OpenSpec.upto cacheGivenSpec)

/-- 'tegulalaw12.CacheSteps', WHERE WHAT IT READS IS OF BULK AT MOST 1048576: true; the input reads as it did. -/
def cacheStepsUptoRow : OpenClaim := { program := "ytmjkpnplfeafeaa", sum := "a6cb208973766f40977ef31144e7ca0d2ba209682b89c20c3e04166eb1ed7376", func := "tegula/tegulalaw12.CacheSteps", spec := "cacheSteps", unfollowed := true, recurses := true, apart := false, narrowed := true }
def CacheStepsUptoSaid : Prop := cacheStepsUptoRow.holds Try.pinned (OpenSpec.upto cacheStepsSpec)

/-- 'tegulalaw12.CacheCut', WHERE WHAT IT READS IS OF BULK AT MOST 1048576: true; the input reads as it did. -/
def cacheCutUptoRow : OpenClaim := { program := "ytmjkpnplfeafeaa", sum := "a6cb208973766f40977ef31144e7ca0d2ba209682b89c20c3e04166eb1ed7376", func := "tegula/tegulalaw12.CacheCut", spec := "cacheCut", unfollowed := true, recurses := true, apart := false, narrowed := true }
def CacheCutUptoSaid : Prop := cacheCutUptoRow.holds Try.pinned (OpenSpec.upto cacheCutSpec)

/-- 'tegulalaw12.CacheFlush', WHERE WHAT IT READS IS OF BULK AT MOST 1048576: true; the input reads as it did. -/
def cacheFlushUptoRow : OpenClaim := { program := "ytmjkpnplfeafeaa", sum := "a6cb208973766f40977ef31144e7ca0d2ba209682b89c20c3e04166eb1ed7376", func := "tegula/tegulalaw12.CacheFlush", spec := "cacheFlush", unfollowed := true, recurses := true, apart := false, narrowed := true }
def CacheFlushUptoSaid : Prop := cacheFlushUptoRow.holds Try.pinned (OpenSpec.upto cacheFlushSpec)

/-- 'tegulalaw12.CacheClone', WHERE WHAT IT READS IS OF BULK AT MOST 1048576: true; the input reads as it did. -/
def cacheCloneUptoRow : OpenClaim := { program := "ytmjkpnplfeafeaa", sum := "a6cb208973766f40977ef31144e7ca0d2ba209682b89c20c3e04166eb1ed7376", func := "tegula/tegulalaw12.CacheClone", spec := "cacheClone", unfollowed := true, recurses := true, apart := false, narrowed := true }
def CacheCloneUptoSaid : Prop := cacheCloneUptoRow.holds Try.pinned (OpenSpec.upto cacheCloneSpec)

/-- 'tegulalaw12.CacheNil', WHERE WHAT IT READS IS OF BULK AT MOST 1048576: true; the input reads as it did. -/
def cacheNilUptoRow : OpenClaim := { program := "ytmjkpnplfeafeaa", sum := "a6cb208973766f40977ef31144e7ca0d2ba209682b89c20c3e04166eb1ed7376", func := "tegula/tegulalaw12.CacheNil", spec := "cacheNil", unfollowed := true, recurses := true, apart := false, narrowed := true }
def CacheNilUptoSaid : Prop := cacheNilUptoRow.holds Try.pinned (OpenSpec.upto cacheNilSpec)

end Rows
end Go.Proofs.Ytmjkpnplfeafeaa

/-
  WHAT IS SHOWN: what sameMedia and same of tegulalaw12 return: true where a cache and one of the reference agree. Conditions: the caches lie in memory.
-/
import Derived.Test.YtckdhhadlemakaaGreatCac5
namespace Go.Proofs.YtckdhhadlemakaaGreat
set_option linter.unusedVariables false
open Go.RowKit

section
variable {w w' : World} {S : Nat → Prop} {B : Bd} {p : Nat} {g : Geo} {LM : List Sec} {ops : List OpV}
theorem CacheM.mono {B' : Bd} (h : CacheM w B p g LM ops) (hB : Bd.Sub w.heap.size B B') : CacheM w B' p g LM ops := by
  obtain ⟨m1, b1, m2, b2, A, c, F, h⟩ := h
  exact ⟨m1, b1, m2, b2, A, c, F, own_mono h.obj hB.1, (hB.2 _ h.lt h.low).2, fun k e => (hB.2 _ (h.typA k e).1.lt (h.typA k e).2).2, hB.2 _ h.med1.types.2.lt h.lb1, hB.2 _ h.med2.types.2.lt h.lb2, h.ne, h.med1, h.med2, own_mono h.own hB.1, h.fn⟩
theorem RCacheM.mono {B' : Bd} (h : RCacheM w B p g LM ops) (hB : Bd.Sub w.heap.size B B') : RCacheM w B' p g LM ops := by
  obtain ⟨l, m, b, A, c, e, h⟩ := h
  exact ⟨l, m, b, A, c, e, own_mono h.obj hB.1, (hB.2 _ h.lt h.low).2, hB.2 _ h.med.types.2.lt h.lb, h.med, h.rd, h.op, h.nil⟩
end
end Go.Proofs.YtckdhhadlemakaaGreat

/-
  WHAT IS SHOWN: what do, Do, play and same of tegulalaw11 and tegularef11 return and make of media. Conditions: the media lie in memory; the operations can be read.
-/
import Derived.Test.YtckdhhadlemakaaGreatMed7
namespace Go.Proofs.YtckdhhadlemakaaGreat
set_option linter.unusedVariables false
open Go.RowKit

/-- An operation that can be read. -/
structure OpV where
  er : Bool
  at_ : Int
  xs : List Int
  A : Option Addr
  c : Nat
def OpV.cells (o : OpV) : List Value := [.bool o.er, .int .i64 o.at_, .slice o.A o.xs.length o.c]
theorem opcells_len (o : OpV) : o.cells.length = 3 := rfl
def flatOps (l : List OpV) : List Value := l.flatMap OpV.cells
structure OpOk (w : World) (B : Nat) (o : OpV) : Prop where
  at_ : I64 o.at_
  rd : Rd w B o.A (o.xs.map (Value.int .u8))
  n : o.xs.length ≤ 100000
def doE (g : Geo) (L : List Sec) (o : OpV) : Int := if o.er then eraseE g o.at_ else writeE L o.at_ o.xs
def doL (g : Geo) (L : List Sec) (o : OpV) : List Sec := if o.er then eraseL g L o.at_ else writeL g L o.at_ o.xs
def playL (g : Geo) (L : List Sec) (l : List OpV) : List Sec := l.foldl (doL g) L
theorem doL_len (g : Geo) (L : List Sec) (o : OpV) : (doL g L o).length = L.length := by
  unfold doL; split
  · exact eraseL_len _ _ _
  · exact writeL_len _ _ _ _
theorem playL_len (g : Geo) : ∀ (l : List OpV) (L : List Sec), (playL g L l).length = L.length
  | [], L => rfl
  | o :: l, L => by unfold playL; rw [List.foldl_cons]; exact (playL_len g l (doL g L o)).trans (doL_len g L o)
theorem playL_take (g : Geo) (L : List Sec) (l : List OpV) (k : Nat) (h : k < l.length) : playL g L (l.take (k + 1)) = doL g (playL g L (l.take k)) l[k] := by
  unfold playL; rw [List.take_succ_eq_append_getElem h, List.foldl_append]; rfl
theorem short_set {L : List Sec} (h : ShortB L) (i : Nat) (s : Sec) (hs : s.by_.length ≤ 64) : ShortB (L.set i s) := by
  intro t ht
  rcases List.mem_or_eq_of_mem_set ht with h1 | h1
  · exact h t h1
  · subst h1; exact hs
theorem short_destroy : ∀ (ss : List Int) {L : List Sec}, ShortB L → ShortB (destroy ss L)
  | [], L, h => h
  | s :: ss, L, h => by unfold destroy; rw [List.foldl_cons]; exact short_destroy ss (short_set h _ goneS (by simp [goneS]))
theorem short_erase (L : List Sec) (f : Nat) (h : ShortB L) : ∀ k, ShortB (eraseTo L f k)
  | 0 => h
  | k + 1 => by rw [eraseTo_succ]; exact short_set (short_erase L f h k) _ blankS (by simp [blankS])
theorem short_do {g : Geo} {L : List Sec} (h : ShortB L) (o : OpV) : ShortB (doL g L o) := by
  unfold doL; split
  · unfold eraseL; split
    · exact short_erase _ _ h _
    · exact h
  · unfold writeL; split
    · rename_i hc
      simp at hc
      exact short_destroy _ (short_set h _ _ hc.2)
    · exact h
theorem short_play {g : Geo} : ∀ (l : List OpV) {L : List Sec}, ShortB L → ShortB (playL g L l)
  | [], L, h => h
  | o :: l, L, h => by unfold playL; rw [List.foldl_cons]; exact short_play l (short_do h o)
theorem short_blank (n : Nat) : ShortB (List.replicate n blankS) := by
  intro s hs; rw [(List.mem_replicate.1 hs).2]; simp [blankS]

section
variable {m bs : Nat} {g : Geo} {L : List Sec} {w : World} {B : Nat}
set_option maxHeartbeats 400000 in
theorem rdo_any (o : OpV) (hm : RMed w m bs g L) (hf : Fit g L) (ho : OpOk w B o) (hB : B ≤ w.heap.size) :
    Calls Tryz.prog 74 #[.pointer (some ⟨m, 0, none⟩), .agg #[.bool o.er, .int .i64 o.at_, .slice o.A o.xs.length o.c]] w (RWritePost w m bs g (doE g L o) (doL g L o)) := by
  have hb0 : Below w.heap.size w (w.alloc (.cells #[.bool o.er, .int .i64 o.at_, .slice o.A o.xs.length o.c] 115)) := (Below.refl _ _).alloc (Nat.le_refl _) _
  have HM := Lib.hid (RMed.below0 hm hb0)
  have HR := Lib.hid ((ho.rd.more hB).below hb0 (Nat.le_refl _))
  have HF := Lib.hid hf
  have HO := Lib.hid ho
  obtain ⟨er, at_, xs, A, c⟩ := o
  simp only at *
  have hn := ho.n
  simp only at hn
  cases er
  · have HE : Hid (doE g L ⟨false, at_, xs, A, c⟩ = writeE L at_ xs) := rfl
    have HL : Hid (doL g L ⟨false, at_, xs, A, c⟩ = writeL g L at_ xs) := rfl
    clear hm hf ho
    go_enter Tryz.func74, Tryz.ntmps74
    go_wp2_with fail
    refine (rwrite_any at_ HO.out.at_ HM.out HF.out xs A c (HR.out.more (by simp)) hn).mono ?_
    rintro e w1 ⟨rfl, hm1, hk1⟩
    go_wp2
    go_ret
    exact ⟨by rw [HE.out]; rfl, by rw [HL.out]; exact hm1, (belKept0 (S := fun k => k = bs) hb0).trans hk1 (fun _ _ h => h)⟩
  · have HE : Hid (doE g L ⟨true, at_, xs, A, c⟩ = eraseE g at_) := rfl
    have HL : Hid (doL g L ⟨true, at_, xs, A, c⟩ = eraseL g L at_) := rfl
    clear hm hf ho
    go_enter Tryz.func74, Tryz.ntmps74
    go_wp2_with fail
    refine (rerase_any at_ HM.out HF.out).mono ?_
    rintro e w1 ⟨rfl, hm1, hk1⟩
    go_wp2
    go_ret
    exact ⟨by rw [HE.out]; rfl, by rw [HL.out]; exact hm1, (belKept0 (S := fun k => k = bs) hb0).trans hk1 (fun _ _ h => h)⟩
end
end Go.Proofs.YtckdhhadlemakaaGreat

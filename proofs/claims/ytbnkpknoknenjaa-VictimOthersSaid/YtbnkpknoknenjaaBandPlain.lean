/-
  WHAT IS SHOWN: plain facts on lists of bands (api.BandInfo) and what the functions of the packages band and tegularef16 compute on them. Conditions: as each theorem names them.
-/
import Derived.Test.YtbnkpknoknenjaaMem
namespace Go.Proofs.Ytbnkpknoknenjaa
set_option linter.unusedVariables false
open Go.RowKit

/-- A band: Used, Live, Age, Wear. -/
structure BI where
  used : Int
  live : Int
  age : Int
  wear : Int
def BI.cells (b : BI) : List Value := [.int .i64 b.used, .int .i64 b.live, .int .u64 b.age, .int .u64 b.wear]
def BI.val (b : BI) : Value := .agg #[.int .i64 b.used, .int .i64 b.live, .int .u64 b.age, .int .u64 b.wear]
def I64 (n : Int) : Prop := -9223372036854775808 ≤ n ∧ n ≤ 9223372036854775807
def U64 (n : Int) : Prop := 0 ≤ n ∧ n ≤ 18446744073709551615
structure BI.Ok (b : BI) : Prop where
  used : I64 b.used
  live : I64 b.live
  age : U64 b.age
  wear : U64 b.wear
def Oks (l : List BI) : Prop := ∀ b ∈ l, b.Ok
def flat (l : List BI) : List Value := l.flatMap BI.cells
theorem cells_len (b : BI) : b.cells.length = 4 := rfl
theorem flat_len4 (l : List BI) : (flat l).length = l.length * 4 := flat_len _ 4 cells_len l

/-- The four cells of element i, as a walk spells their places. -/
theorem Rd.band {w : World} {B : Nat} {A : Option Addr} {l : List BI} (h : Rd w B A (flat l)) {i : Nat} {b : BI} (hb : l[i]? = some b) :
    ∃ g o, A = some ⟨g, o, none⟩ ∧ g < B ∧ w.cell? ⟨g, o + i * 4, none⟩ = some (.int .i64 b.used) ∧ w.cell? ⟨g, o + i * 4 + 1, none⟩ = some (.int .i64 b.live) ∧
      w.cell? ⟨g, o + i * 4 + 2, none⟩ = some (.int .u64 b.age) ∧ w.cell? ⟨g, o + i * 4 + 3, none⟩ = some (.int .u64 b.wear) := by
  have e : ∀ t, t < 4 → (flat l)[i * 4 + t]? = b.cells[t]? := fun t ht => by
    unfold flat; rw [flat_get _ 4 cells_len l i t ht, hb]; rfl
  obtain ⟨g, o, rfl, hg, h0⟩ := h (i * 4 + 0) _ (e 0 (by omega))
  obtain ⟨g1, o1, e1, _, h1⟩ := h (i * 4 + 1) _ (e 1 (by omega))
  obtain ⟨g2, o2, e2, _, h2⟩ := h (i * 4 + 2) _ (e 2 (by omega))
  obtain ⟨g3, o3, e3, _, h3⟩ := h (i * 4 + 3) _ (e 3 (by omega))
  simp only [Option.some.injEq, Addr.mk.injEq, and_true] at e1 e2 e3
  obtain ⟨rfl, rfl⟩ := e1; obtain ⟨rfl, rfl⟩ := e2; obtain ⟨rfl, rfl⟩ := e3
  exact ⟨g, o, rfl, hg, h0, by rw [Nat.add_assoc]; exact h1, by rw [Nat.add_assoc]; exact h2, by rw [Nat.add_assoc]; exact h3⟩

/-! ### what is computed -/
def badB (sz u l : Int) : Bool := decide (l < 0) || decide (u < l) || decide (sz < u)
def anyBad (sz : Int) (l : List BI) : Bool := l.any fun b => badB sz b.used b.live
def validB (l : List BI) (sz : Int) : Bool := decide (1 ≤ l.length) && decide (l.length ≤ 64) && decide (1 ≤ sz) && !anyBad sz l
def freeN (l : List BI) : Int := ((l.filter fun b => b.used == 0).length : Int)
/-- Partial: neither free nor full. -/
def partB (sz : Int) (b : BI) : Bool := decide (0 < b.used) && decide (b.used < sz)
/-- The best of the first k: the index (or -1), and its age. -/
def openStep (sz : Int) (s : Int × Int) (k : Nat) (b : BI) : Int × Int :=
  if partB sz b && (decide (s.1 < 0) || decide (s.2 < b.age)) then ((k : Int), b.age) else s
def openFrom (sz : Int) : Int × Int → Nat → List BI → Int × Int
  | s, _, [] => s
  | s, k, b :: l => openFrom sz (openStep sz s k b) (k + 1) l
def openB (l : List BI) (sz : Int) : Int := if validB l sz then (openFrom sz (-1, 0) 0 l).1 else -1
def firstBad (sz : Int) : List BI → Nat → Int
  | [], _ => -1
  | b :: l, i => if badB sz b.used b.live then (i : Int) else firstBad sz l (i + 1)
theorem firstBad_ge (sz : Int) : ∀ (l : List BI) (i : Nat), decide (0 ≤ firstBad sz l i) = anyBad sz l
  | [], i => by simp [firstBad, anyBad]
  | b :: l, i => by
    unfold firstBad anyBad
    rw [List.any_cons]
    cases h : badB sz b.used b.live
    · simp only [Bool.false_eq_true, if_false, Bool.false_or]; exact firstBad_ge sz l (i + 1)
    · simp
theorem anyBad_cons (sz : Int) (b : BI) (l : List BI) : anyBad sz (b :: l) = (badB sz b.used b.live || anyBad sz l) := rfl
theorem get_some {α : Type} {l : List α} {k : Nat} (h : k < l.length) : l[k]? = some l[k] := List.getElem?_eq_getElem h
theorem oks_get {l : List BI} (h : Oks l) {k : Nat} (hk : k < l.length) : l[k].Ok := h _ (List.getElem_mem hk)
theorem freeN_take (l : List BI) (k : Nat) (h : k < l.length) : freeN (l.take (k + 1)) = freeN (l.take k) + if (l[k].used == 0) = true then 1 else 0 := by
  unfold freeN
  rw [List.take_succ_eq_append_getElem h, List.filter_append, List.length_append]
  cases hb : l[k].used == 0 <;> simp [hb]
theorem freeN_le (l : List BI) : 0 ≤ freeN l ∧ freeN l ≤ l.length := by
  unfold freeN; exact ⟨by omega, by have := List.length_filter_le (fun b : BI => b.used == 0) l; omega⟩
theorem openFrom_snoc (sz : Int) : ∀ (l : List BI) (s : Int × Int) (k : Nat) (b : BI), openFrom sz s k (l ++ [b]) = openStep sz (openFrom sz s k l) (k + l.length) b
  | [], s, k, b => by simp [openFrom]
  | a :: l, s, k, b => by
    rw [List.cons_append, openFrom, openFrom, openFrom_snoc sz l, List.length_cons]
    congr 1; omega
theorem openFrom_take (sz : Int) (l : List BI) (s : Int × Int) (k : Nat) (h : k < l.length) : openFrom sz s 0 (l.take (k + 1)) = openStep sz (openFrom sz s 0 (l.take k)) k l[k] := by
  rw [List.take_succ_eq_append_getElem h, openFrom_snoc, List.length_take, Nat.min_eq_left (by omega), Nat.zero_add]
/-- The open band so far: an index below k whose age is the second number, or -1. -/
theorem openFrom_inv (sz : Int) (l : List BI) : ∀ k, k ≤ l.length → ((openFrom sz (-1, 0) 0 (l.take k)).1 = -1 ∨ ∃ i : Nat, i < k ∧ (openFrom sz (-1, 0) 0 (l.take k)).1 = (i : Int) ∧ ∃ b, l[i]? = some b ∧ b.age = (openFrom sz (-1, 0) 0 (l.take k)).2)
  | 0, _ => by left; simp [openFrom]
  | k + 1, h => by
    rw [openFrom_take sz l _ k (by omega)]
    unfold openStep
    split
    · exact .inr ⟨k, by omega, rfl, l[k], get_some (by omega), rfl⟩
    · rcases openFrom_inv sz l k (by omega) with h1 | ⟨i, hi, h1, h2⟩
      · exact .inl h1
      · exact .inr ⟨i, by omega, h1, h2⟩

/-- Append, Unlink, Reset: the error (0: none), and the list behind it. -/
def inL (l : List BI) (band : Int) : Bool := decide (0 ≤ band) && decide (band < l.length)
def at_ (l : List BI) (band : Int) : BI := (l[band.toNat]?).getD ⟨0, 0, 0, 0⟩
def appE (l : List BI) (sz band : Int) : Int := if inL l band then (if sz ≤ (at_ l band).used then 11 else 0) else 2
def appBI (now : Int) (b : BI) : BI := ⟨wrap64 (b.used + 1), wrap64 (b.live + 1), now, b.wear⟩
def appL (l : List BI) (sz band now : Int) : List BI := if appE l sz band = 0 then l.set band.toNat (appBI now (at_ l band)) else []
def unlE (l : List BI) (band : Int) : Int := if inL l band then (if (at_ l band).live < 1 then 8 else 0) else 2
def unlBI (b : BI) : BI := ⟨b.used, b.live - 1, b.age, b.wear⟩
def unlL (l : List BI) (band : Int) : List BI := if unlE l band = 0 then l.set band.toNat (unlBI (at_ l band)) else []
def resE (l : List BI) (band : Int) : Int := if inL l band then 0 else 2
def resBI (b : BI) : BI := ⟨0, 0, 0, IntKind.u64.wrap (b.wear + 1)⟩
def resL (l : List BI) (band : Int) : List BI := if resE l band = 0 then l.set band.toNat (resBI (at_ l band)) else []
def liveN (l : List BI) : Int := l.foldl (fun n b => wrap64 (n + b.live)) 0
theorem wrap64_ok (n : Int) : I64 (wrap64 n) := by unfold wrap64 I64; omega
theorem oks_set {l : List BI} (h : Oks l) {k : Nat} {b : BI} (hb : b.Ok) : Oks (l.set k b) := fun x hx => by
  rcases List.mem_or_eq_of_mem_set hx with h1 | rfl
  · exact h x h1
  · exact hb
theorem oks_nil : Oks [] := fun x hx => by cases hx
theorem at_eq {l : List BI} {k : Nat} (h : k < l.length) : at_ l (k : Int) = l[k] := by unfold at_; simp [h]
theorem at_ok {l : List BI} (h : Oks l) {band : Int} (hi : inL l band = true) : (at_ l band).Ok := by
  simp [inL] at hi
  obtain ⟨k, rfl⟩ := Int.eq_ofNat_of_zero_le hi.1
  rw [at_eq (by omega)]
  exact oks_get h (by omega)
theorem appL_ok {l : List BI} (h : Oks l) {sz band now : Int} (hn : U64 now) : Oks (appL l sz band now) := by
  unfold appL
  split
  · rename_i he
    have hi : inL l band = true := by unfold appE at he; cases hx : inL l band <;> simp [hx] at he ⊢
    exact oks_set h ⟨wrap64_ok _, wrap64_ok _, hn, (at_ok h hi).wear⟩
  · exact oks_nil
theorem unlL_ok {l : List BI} (h : Oks l) {band : Int} : Oks (unlL l band) := by
  unfold unlL
  split
  · rename_i he
    have hi : inL l band = true := by unfold unlE at he; cases hx : inL l band <;> simp [hx] at he ⊢
    have hk := at_ok h hi
    have h1 : 1 ≤ (at_ l band).live := by unfold unlE at he; rw [hi] at he; simp at he; omega
    exact oks_set h ⟨hk.used, ⟨by simp [unlBI]; omega, by have := hk.live.2; simp [unlBI]; omega⟩, hk.age, hk.wear⟩
  · exact oks_nil
theorem resL_ok {l : List BI} (h : Oks l) {band : Int} : Oks (resL l band) := by
  unfold resL
  split
  · exact oks_set h ⟨by constructor <;> simp [resBI], by constructor <;> simp [resBI], by constructor <;> simp [resBI], by constructor <;> simp only [resBI, IntKind.wrap_u64] <;> omega⟩
  · exact oks_nil
end Go.Proofs.Ytbnkpknoknenjaa

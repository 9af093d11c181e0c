/-
  WHAT IS SHOWN: plain facts on memory and bytes; what Clone of bytes returns. Conditions: as each theorem names them.
-/
import Derived.Test.YtndifkjenjfjpaaRecP
import Derived.Test.YtndifkjenjfjpaaRows
import Derived.Handy
import Derived.Deep.QuietTactic
import Derived.BigQuiet
import Derived.Laws.BytesArg
import Derived.Lib.ConvBytes
import Derived.Deep.AppendLies
namespace Go.Proofs.Ytndifkjenjfjpaa
set_option linter.unusedVariables false
open Go.RowKit

theorem own_type {w : World} {base : Nat} {e : TypeId} {size n c g : Nat} {xs : List Value} (h : w.ownsRow base e size (.slice (some ⟨g, 0, none⟩) n c) n xs) : ∃ cur, w.heap[g]? = some (.cells cur e (0, 0)) := by
  rcases h.2 with ⟨h2, _⟩ | ⟨g', cap, cur, h1, _, h3, _⟩
  · cases h2
  · injection h1 with h1; injection h1 with h1; injection h1 with h1; subst h1
    exact ⟨cur, h3⟩
theorem info_u8 : (Try.prog.info? 5).map (fun i => (i.zero, i.size, i.bytes)) = some (some (.int .u8 0), 1, 1) := by kernel_rfl
theorem Rd.at_add {w : World} {B : Nat} {a : Addr} {xs : List Value} (h : Rd w B (some a) xs) : ∀ j u, xs[j]? = some u → w.cell? (a.add j) = some u := fun j u hu => by
  obtain ⟨g, o, e, _, hc⟩ := h j u hu
  injection e with e; subst e
  rw [add_off]; exact hc
theorem Rd.at_none {w : World} {B : Nat} {xs : List Value} (h : Rd w B none xs) : xs = [] := by
  cases xs with
  | nil => rfl
  | cons b l => obtain ⟨g, o, e, _⟩ := h 0 b rfl; cases e
theorem bytes_one (xs : List Int) : ∀ u ∈ xs.map (Value.int .u8), u.oneCell' = true := by
  intro u hu
  obtain ⟨b, _, rfl⟩ := List.mem_map.1 hu
  rfl
/-- Bytes. -/
def U8s (xs : List Int) : Prop := ∀ x ∈ xs, 0 ≤ x ∧ x ≤ 255
/-- What returns new bytes. -/
def NewO (w : World) (xs : List Int) (e : Ending) (w' : World) : Prop := ∃ A c, e = .returned (.slice A xs.length c) ∧ w'.ownsRow w.heap.size 5 1 (.slice A xs.length c) xs.length (xs.map (Value.int .u8)) ∧ Below w.heap.size w w'
set_option maxRecDepth 100000 in
set_option maxHeartbeats 400000 in
theorem cloneo_any (xs : List Int) (A : Option Addr) (c : Nat) (w : World) (hr : Rd w w.heap.size A (xs.map (Value.int .u8))) (hn : xs.length ≤ 1000000) :
    Calls Try.prog 58 #[.slice A xs.length c] w (NewO w xs) := by
  obtain ⟨i0, hi, hz0, hz1, hz2⟩ := info_parts info_u8
  have hnil := fun (w : World) a n c => Lib.run_eql_slice_nil (P := Try.prog) w 25 5 a n c 0 0 Try.underlying25
  cases A with
  | none =>
    have hx := hr.at_none
    obtain rfl : xs = [] := by cases xs; rfl; simp at hx
    go_enter Try.func58, Try.ntmps58
    go_wp2
    go_ret
    exact ⟨none, 0, rfl, World.ownsRow_nil _ _ _ _, Below.refl _ _⟩
  | some a =>
    have hro := World.ownsRow_lit (base := w.heap.size) (e := 5) (size := 1) w #[] 0 (Nat.le_refl _) (by decide) rfl
    have hla := hr.alloc (Nat.le_refl _) (.cells #[] 5)
    go_enter Try.func58, Try.ntmps58
    go_wp2_with (at_builtin; refine wpList_append_own _ rfl _ _ 25 rfl w.heap.size 5 i0 _ 1 1 Try.underlying25 hi hz0 hz1 hz2 rfl (by decide) _ 0 [] rfl hro a xs.length c (xs.map (Value.int .u8)) rfl (by simp) hla.at_add (bytes_one xs) ?c1 ?c2 ?c3 ?_)
    case c1 => unfold maxLen; omega
    case c2 => omega
    intro v' w' hown hgrow hiff
    try simp only [Nat.zero_add, List.nil_append] at hown
    obtain ⟨A', c', hv⟩ := own_form hown
    subst hv
    go_wp2
    go_ret
    exact ⟨A', c', rfl, hown, ((Below.refl _ _).alloc (Nat.le_refl _) _).grown hgrow (by simp) (fun k hk => by simp [Value.ownBlock] at hk; omega)⟩
theorem getD_cells {w : World} {B : Nat} {A : Option Addr} {xs : List Int} {b off : Nat} (h : Rd w B A (xs.map (Value.int .u8))) (hA : A = some ⟨b, off, none⟩) : ∀ i, i < xs.length → w.cell? ⟨b, off + i, none⟩ = some (.int .u8 (xs.getD i 0)) := by
  intro i hi
  obtain ⟨g, o, e, _, hc⟩ := h i (.int .u8 xs[i]) (by simp [hi])
  rw [hA] at e
  injection e with e; injection e with e1 e2; subst e1; subst e2
  rw [hc]; simp [List.getD, hi]
set_option maxRecDepth 100000 in
/-- string(b) of a slice that reads as bytes. -/
theorem conv_bytes {w : World} {B : Nat} {A : Option Addr} {xs : List Int} (c : Nat) (h : Rd w B A (xs.map (Value.int .u8))) : (convert 25 9 (.slice A xs.length c)).run Try.prog w = .ok (.string (strOfNums xs)) w := by
  cases A with
  | none =>
    have hx := h.at_none
    obtain rfl : xs = [] := by cases xs; rfl; simp at hx
    exact run_convert_bytes_nil w 25 5 Try.underlying25 Try.underlying5 _ _ 9 Try.underlying9
  | some a =>
    cases xs with
    | nil =>
      rw [run_convert_bytes_string w 25 9 5 _ _ c Try.underlying25 Try.underlying5 Try.underlying9]
      rfl
    | cons x xs =>
      obtain ⟨g, o, e, _, hc⟩ := h 0 (.int .u8 x) rfl
      injection e with e
      subst e
      have hcs := getD_cells h rfl
      have key := run_convert_bytes_arg (P := Try.prog) w 25 5 Try.underlying25 Try.underlying5 g o (x :: xs).length c (x :: xs) rfl hcs 9 Try.underlying9
      exact key
/-- The byte of number k of bytes that can be read. -/
theorem byte_at {w : World} {B : Nat} {A : Option Addr} {xs : List Int} (h : Rd w B A (xs.map (Value.int .u8))) {k : Nat} (hk : k < xs.length) : ∃ g o, A = some ⟨g, o, none⟩ ∧ g < B ∧ w.cell? ⟨g, o + k, none⟩ = some (.int .u8 xs[k]) := by
  obtain ⟨g, o, e, hg, hc⟩ := h k (.int .u8 xs[k]) (by simp [hk])
  exact ⟨g, o, e, hg, hc⟩
end Go.Proofs.Ytndifkjenjfjpaa

/-
  WHAT IS SHOWN: plain facts, of no program, on reading records from bytes. Conditions: as each theorem names them.
-/
import Derived.Test.YtndifkjenjfjpaaRec23
namespace Go.Proofs.Ytndifkjenjfjpaa
set_option linter.unusedVariables false

/-! ### strict reading -/
def sW (l : List Int) : Option (PW × List Int) := match uintD l with
  | none => none
  | some (g, l1) => match uintD l1 with
    | none => none
    | some (p, l2) => match uintD l2 with
      | none => none
      | some (v, l3) => if l3.length < 8 then none else some (⟨g, p, v, l3.getD 0 0, l3.getD 1 0, l3.getD 2 0, l3.getD 3 0, l3.getD 4 0, l3.getD 5 0, l3.getD 6 0, l3.getD 7 0⟩, l3.drop 8)
def sM (l : List Int) : Option (Mv × List Int) := match uintD l with
  | none => none
  | some (g, l1) => match uintD l1 with
    | none => none
    | some (p, l2) => match uintD l2 with
      | none => none
      | some (k, l3) => match uintD l3 with
        | none => none
        | some (b, l4) => some (⟨g, p, zagN k, b⟩, l4)
def sN {α : Type} (f : List Int → Option (α × List Int)) : Nat → List Int → Option (List α × List Int)
  | 0, l => some ([], l)
  | k + 1, l => match sN f k l with
    | none => none
    | some (xs, l1) => match f l1 with
      | none => none
      | some (x, l2) => some (xs ++ [x], l2)
def sRec (b : List Int) : Option Rec := match uintD b with
  | none => none
  | some (gen, l1) => match uintD l1 with
    | none => none
    | some (seq, l2) => match uintD l2 with
      | none => none
      | some (n, l3) => match sN sW n l3 with
        | none => none
        | some (ws, l4) => match uintD l4 with
          | none => none
          | some (m, l5) => match sN sM m l5 with
            | none => none
            | some (ms, l6) => match uintD l6 with
              | none => none
              | some (k, l7) => if l7.length = k then some ⟨gen, seq, ws, ms, l7⟩ else none
def recD (b : List Int) : Option Rec := match sRec b with
  | none => none
  | some r => if validR r = true then some r else none
/-! ### the readers -/
theorem uint_good {l l' : List Int} {n : Nat} {b : Bool} (h : uintD l = some (n, l')) : (⟨l, b⟩ : Rdr).uint = (n, 0, ⟨l', b⟩) := by unfold Rdr.uint; rw [h]
theorem uint_none {l : List Int} {b : Bool} (h : uintD l = none) : (⟨l, b⟩ : Rdr).uint = (0, 5, Rdr.fail) := by unfold Rdr.uint; rw [h]
theorem uintD_nil : uintD [] = none := uintGo_nil 0 0
theorem uint_fail : Rdr.fail.uint = (0, 5, Rdr.fail) := uint_none uintD_nil
theorem count_fail (m : Nat) : Rdr.fail.count m = (0, 5, Rdr.fail) := by unfold Rdr.count; rw [uint_fail]; simp
theorem take_fail (n : Nat) : Rdr.fail.take n = ([], 5, Rdr.fail) := by unfold Rdr.take Rdr.fail; simp
theorem bytes_fail : Rdr.fail.bytes = ([], 5, Rdr.fail) := by unfold Rdr.bytes; rw [uint_fail]; simp
theorem blk_fail : Rdr.fail.blk = ([0, 0, 0, 0, 0, 0, 0, 0], 5, Rdr.fail) := by unfold Rdr.blk; rw [take_fail]; simp
theorem done_fail : Rdr.fail.done = 5 := by unfold Rdr.done Rdr.fail; simp
theorem count_good {l l' : List Int} {n m : Nat} (h : uintD l = some (n, l')) (hm : n ≤ m) : (⟨l, false⟩ : Rdr).count m = (n, 0, ⟨l', false⟩) := by
  unfold Rdr.count; rw [uint_good h]; simp; omega
theorem count_high {l l' : List Int} {n m : Nat} (h : uintD l = some (n, l')) (hm : m < n) : (⟨l, false⟩ : Rdr).count m = (0, 5, Rdr.fail) := by
  unfold Rdr.count; rw [uint_good h]; simp; omega
theorem count_none {l : List Int} {m : Nat} (h : uintD l = none) : (⟨l, false⟩ : Rdr).count m = (0, 5, Rdr.fail) := by
  unfold Rdr.count; rw [uint_none h]; simp
theorem take_good {l : List Int} {n : Nat} (h : n ≤ l.length) : (⟨l, false⟩ : Rdr).take n = (l.take n, 0, ⟨l.drop n, false⟩) := by
  unfold Rdr.take; rw [if_neg]; simp; omega
theorem take_short {l : List Int} {n : Nat} (h : l.length < n) : (⟨l, false⟩ : Rdr).take n = ([], 5, Rdr.fail) := by
  unfold Rdr.take; rw [if_pos]; exact .inr h
theorem take8 {l : List Int} (h : 8 ≤ l.length) : l.take 8 = [l.getD 0 0, l.getD 1 0, l.getD 2 0, l.getD 3 0, l.getD 4 0, l.getD 5 0, l.getD 6 0, l.getD 7 0] := by
  match l, h with
  | a :: b :: c :: d :: e :: f :: g :: i :: r, _ => rfl
theorem blk_good {l : List Int} (h : 8 ≤ l.length) : (⟨l, false⟩ : Rdr).blk = ([l.getD 0 0, l.getD 1 0, l.getD 2 0, l.getD 3 0, l.getD 4 0, l.getD 5 0, l.getD 6 0, l.getD 7 0], 0, ⟨l.drop 8, false⟩) := by
  unfold Rdr.blk; rw [take_good h, take8 h]; simp
theorem blk_short {l : List Int} (h : l.length < 8) : (⟨l, false⟩ : Rdr).blk = ([0, 0, 0, 0, 0, 0, 0, 0], 5, Rdr.fail) := by
  unfold Rdr.blk; rw [take_short h]; simp
theorem bytes_good {l l' : List Int} {n : Nat} (h : uintD l = some (n, l')) (hn : n ≤ l'.length) : (⟨l, false⟩ : Rdr).bytes = (l'.take n, 0, ⟨l'.drop n, false⟩) := by
  unfold Rdr.bytes; rw [uint_good h]; simp [take_good hn]
theorem bytes_short {l l' : List Int} {n : Nat} (h : uintD l = some (n, l')) (hn : l'.length < n) : (⟨l, false⟩ : Rdr).bytes = ([], 5, Rdr.fail) := by
  unfold Rdr.bytes; rw [uint_good h]; simp [take_short hn]
theorem bytes_none {l : List Int} (h : uintD l = none) : (⟨l, false⟩ : Rdr).bytes = ([], 5, Rdr.fail) := by
  unfold Rdr.bytes; rw [uint_none h]; simp
/-- A reader is good, or has failed. -/
def Rdr.std (r : Rdr) : Prop := r.bad = false ∨ r = Rdr.fail
theorem std_uint {r : Rdr} (h : r.std) : r.uint.2.2.std := by
  rcases h with h | rfl
  · obtain ⟨l, b⟩ := r
    simp only at h; subst h
    cases hu : uintD l with
    | none => rw [uint_none hu]; exact .inr rfl
    | some x => obtain ⟨n, l'⟩ := x; rw [uint_good hu]; exact .inl rfl
  · rw [uint_fail]; exact .inr rfl
/-! ### what parse of record computes -/
def cW (r : Rdr) : PW × Rdr :=
  let g := r.count 4096
  let p := g.2.2.count 16
  let v := p.2.2.uint
  let d := v.2.2.blk
  (⟨g.1, p.1, v.1, d.1.getD 0 0, d.1.getD 1 0, d.1.getD 2 0, d.1.getD 3 0, d.1.getD 4 0, d.1.getD 5 0, d.1.getD 6 0, d.1.getD 7 0⟩, d.2.2)
def cM (r : Rdr) : Mv × Rdr :=
  let g := r.count 4096
  let p := g.2.2.count 16
  let k := p.2.2.uint
  let b := k.2.2.count 65536
  (⟨g.1, p.1, zagN k.1, b.1⟩, b.2.2)
def cN {α : Type} (f : Rdr → α × Rdr) : Nat → Rdr → List α × Rdr
  | 0, r => ([], r)
  | k + 1, r => ((cN f k r).1 ++ [(f (cN f k r).2).1], (f (cN f k r).2).2)
theorem cN_len {α : Type} (f : Rdr → α × Rdr) : ∀ (k : Nat) (r : Rdr), (cN f k r).1.length = k
  | 0, _ => rfl
  | k + 1, r => by
    show ((cN f k r).1 ++ [_]).length = k + 1
    rw [List.length_append, cN_len f k r]; rfl
def c1 (b : List Int) : Nat × Int × Rdr := (⟨b, false⟩ : Rdr).uint
def c2 (b : List Int) : Nat × Int × Rdr := (c1 b).2.2.uint
def c3 (b : List Int) : Nat × Int × Rdr := (c2 b).2.2.count 64
def c4 (b : List Int) : List PW × Rdr := cN cW (c3 b).1 (c3 b).2.2
def c5 (b : List Int) : Nat × Int × Rdr := (c4 b).2.count 64
def c6 (b : List Int) : List Mv × Rdr := cN cM (c5 b).1 (c5 b).2.2
def c7 (b : List Int) : List Int × Int × Rdr := (c6 b).2.bytes
def cRec (b : List Int) : Rec := ⟨(c1 b).1, (c2 b).1, (c4 b).1, (c6 b).1, (c7 b).1⟩
def cOk (b : List Int) : Bool := (c7 b).2.2.done == 0 && validR (cRec b)
theorem cW_fail : (cW Rdr.fail).2 = Rdr.fail := by unfold cW; simp only [count_fail, uint_fail, blk_fail]
theorem cM_fail : (cM Rdr.fail).2 = Rdr.fail := by unfold cM; simp only [count_fail, uint_fail]
/-- What one step of a reader has to do with strict reading. -/
def Step {α : Type} (f : Rdr → α × Rdr) (s : List Int → Option (α × List Int)) (lim : α → Prop) : Prop :=
  (f Rdr.fail).2 = Rdr.fail ∧ ∀ l, (∃ x l', s l = some (x, l') ∧ lim x ∧ f ⟨l, false⟩ = (x, ⟨l', false⟩)) ∨ ((∀ x l', s l = some (x, l') → ¬ lim x) ∧ (f ⟨l, false⟩).2 = Rdr.fail)
def limW (x : PW) : Prop := x.g ≤ 4096 ∧ x.p ≤ 16
def limM (x : Mv) : Prop := x.g ≤ 4096 ∧ x.p ≤ 16 ∧ x.b ≤ 65536
theorem cW_step : Step cW sW limW := by
  refine ⟨cW_fail, fun l => ?_⟩
  cases h1 : uintD l with
  | none => right; unfold sW cW; rw [h1]; simp only [count_none h1, count_fail, uint_fail, blk_fail]; exact ⟨by simp, trivial⟩
  | some x1 =>
    obtain ⟨g, l1⟩ := x1
    by_cases hg : g ≤ 4096
    · cases h2 : uintD l1 with
      | none => right; unfold sW cW; rw [h1]; simp only [h2, count_good h1 hg, count_none h2, uint_fail, blk_fail]; exact ⟨by simp, trivial⟩
      | some x2 =>
        obtain ⟨p, l2⟩ := x2
        by_cases hp : p ≤ 16
        · cases h3 : uintD l2 with
          | none => right; unfold sW cW; rw [h1]; simp only [h2, h3, count_good h1 hg, count_good h2 hp, uint_none h3, blk_fail]; exact ⟨by simp, trivial⟩
          | some x3 =>
            obtain ⟨v, l3⟩ := x3
            by_cases h8 : l3.length < 8
            · right; unfold sW cW; rw [h1]; simp only [h2, h3, count_good h1 hg, count_good h2 hp, uint_good h3, blk_short h8, if_pos h8]; exact ⟨by simp, trivial⟩
            · left
              unfold sW cW; rw [h1]; simp only [h2, h3, count_good h1 hg, count_good h2 hp, uint_good h3, blk_good (by omega : 8 ≤ l3.length), if_neg h8]
              exact ⟨_, _, rfl, ⟨by show (g : Int) ≤ 4096; omega, by show (p : Int) ≤ 16; omega⟩, rfl⟩
        · right
          refine ⟨fun x l' hx hl => ?_, ?_⟩
          · unfold sW at hx; rw [h1] at hx; simp only [h2] at hx
            split at hx
            · cases hx
            · split at hx
              · cases hx
              · injection hx with hx; injection hx with hx _; subst hx
                have := hl.2; simp only at this; omega
          · unfold cW; simp only [count_good h1 hg, count_high h2 (by omega : 16 < p), uint_fail, blk_fail]
    · right
      refine ⟨fun x l' hx hl => ?_, ?_⟩
      · unfold sW at hx; rw [h1] at hx; simp only at hx
        split at hx
        · cases hx
        · split at hx
          · cases hx
          · split at hx
            · cases hx
            · injection hx with hx; injection hx with hx _; subst hx
              have := hl.1; simp only at this; omega
      · unfold cW; simp only [count_high h1 (by omega : 4096 < g), count_fail, uint_fail, blk_fail]
theorem cM_step : Step cM sM limM := by
  refine ⟨cM_fail, fun l => ?_⟩
  cases h1 : uintD l with
  | none => right; unfold sM cM; rw [h1]; simp only [count_none h1, count_fail, uint_fail]; exact ⟨by simp, trivial⟩
  | some x1 =>
    obtain ⟨g, l1⟩ := x1
    cases h2 : uintD l1 with
    | none =>
      right; refine ⟨by unfold sM; rw [h1]; simp [h2], ?_⟩
      unfold cM
      by_cases hg : g ≤ 4096
      · simp only [count_good h1 hg, count_none h2, count_fail, uint_fail]
      · simp only [count_high h1 (by omega : 4096 < g), count_fail, uint_fail]
    | some x2 =>
      obtain ⟨p, l2⟩ := x2
      cases h3 : uintD l2 with
      | none =>
        right; refine ⟨by unfold sM; rw [h1]; simp [h2, h3], ?_⟩
        unfold cM
        by_cases hg : g ≤ 4096
        · by_cases hp : p ≤ 16
          · simp only [count_good h1 hg, count_good h2 hp, uint_none h3, count_fail]
          · simp only [count_good h1 hg, count_high h2 (by omega : 16 < p), count_fail, uint_fail]
        · simp only [count_high h1 (by omega : 4096 < g), count_fail, uint_fail]
      | some x3 =>
        obtain ⟨k, l3⟩ := x3
        cases h4 : uintD l3 with
        | none =>
          right; refine ⟨by unfold sM; rw [h1]; simp [h2, h3, h4], ?_⟩
          unfold cM
          by_cases hg : g ≤ 4096
          · by_cases hp : p ≤ 16
            · simp only [count_good h1 hg, count_good h2 hp, uint_good h3, count_none h4]
            · simp only [count_good h1 hg, count_high h2 (by omega : 16 < p), count_fail, uint_fail]
          · simp only [count_high h1 (by omega : 4096 < g), count_fail, uint_fail]
        | some x4 =>
          obtain ⟨b, l4⟩ := x4
          have hs : sM l = some (⟨g, p, zagN k, b⟩, l4) := by unfold sM; rw [h1]; simp only [h2, h3, h4]
          by_cases hl : g ≤ 4096 ∧ p ≤ 16 ∧ b ≤ 65536
          · left
            refine ⟨_, _, hs, ⟨by show (g : Int) ≤ 4096; omega, by show (p : Int) ≤ 16; omega, by show (b : Int) ≤ 65536; omega⟩, ?_⟩
            unfold cM; simp only [count_good h1 hl.1, count_good h2 hl.2.1, uint_good h3, count_good h4 hl.2.2]
          · right
            refine ⟨fun x l' hx hlim => ?_, ?_⟩
            · rw [hs] at hx; injection hx with hx; injection hx with hx _; subst hx
              obtain ⟨a1, a2, a3⟩ := hlim
              simp only at a1 a2 a3
              exact hl ⟨by omega, by omega, by omega⟩
            · unfold cM
              by_cases hg : g ≤ 4096
              · by_cases hp : p ≤ 16
                · simp only [count_good h1 hg, count_good h2 hp, uint_good h3, count_high h4 (by omega : 65536 < b)]
                · simp only [count_good h1 hg, count_high h2 (by omega : 16 < p), count_fail, uint_fail]
              · simp only [count_high h1 (by omega : 4096 < g), count_fail, uint_fail]
theorem cN_fail {α : Type} {f : Rdr → α × Rdr} (h : (f Rdr.fail).2 = Rdr.fail) : ∀ k, (cN f k Rdr.fail).2 = Rdr.fail
  | 0 => rfl
  | k + 1 => by show (f (cN f k Rdr.fail).2).2 = _; rw [cN_fail h k, h]
theorem cN_step {α : Type} {f : Rdr → α × Rdr} {s : List Int → Option (α × List Int)} {lim : α → Prop} (h : Step f s lim) : ∀ k, Step (fun r => cN f k r) (sN s k) (fun xs => ∀ x ∈ xs, lim x)
  | 0 => ⟨rfl, fun l => .inl ⟨[], l, rfl, by simp, rfl⟩⟩
  | k + 1 => by
    obtain ⟨hf, hs⟩ := cN_step h k
    refine ⟨cN_fail h.1 (k + 1), fun l => ?_⟩
    rcases hs l with ⟨xs, l1, e1, e2, e3⟩ | ⟨e1, e2⟩
    · rcases h.2 l1 with ⟨x, l2, d1, d2, d3⟩ | ⟨d1, d2⟩
      · left
        refine ⟨xs ++ [x], l2, by unfold sN; rw [e1]; simp only [d1], fun y hy => ?_, ?_⟩
        · rcases List.mem_append.1 hy with hy | hy
          · exact e2 y hy
          · simp at hy; subst hy; exact d2
        · show (_ ++ [_], _) = _
          have e3' : cN f k ⟨l, false⟩ = (xs, ⟨l1, false⟩) := e3
          rw [e3', d3]
      · right
        refine ⟨fun ys l' hy hl => ?_, ?_⟩
        · unfold sN at hy; rw [e1] at hy; simp only at hy
          split at hy
          · cases hy
          · rename_i x l2 hx
            injection hy with hy; injection hy with hy _; subst hy
            exact d1 x l2 hx (hl x (by simp))
        · have e3' : cN f k ⟨l, false⟩ = (xs, ⟨l1, false⟩) := e3
          show (f (cN f k ⟨l, false⟩).2).2 = _
          rw [e3', d2]
    · right
      refine ⟨fun ys l' hy hl => ?_, ?_⟩
      · unfold sN at hy
        split at hy
        · cases hy
        · rename_i xs l1 hx
          split at hy
          · cases hy
          · injection hy with hy; injection hy with hy _; subst hy
            exact e1 xs l1 hx (fun x hx => hl x (by simp [hx]))
      · have e2' : (cN f k ⟨l, false⟩).2 = Rdr.fail := e2
        show (f (cN f k ⟨l, false⟩).2).2 = _
        rw [e2', h.1]
end Go.Proofs.Ytndifkjenjfjpaa

/-
  WHAT IS SHOWN: what perform of disk returns and leaves with the closures of Flush and Erase. what Flush and Erase of disk return and leave. what only of tegulalaw14 returns: the acts that are operations, with the key 0. what do of tegulalaw14 returns and leaves: each act on a disk. plain facts, of no program: operations of a disk that are called again while it is busy; sectors that are written and read one after another. Conditions: as each theorem names them.
-/
import Derived.Test.YtaggiceejcegdaaGreatNb23
import Derived.Deep.AppendLies
import Derived.Test.YtaggiceejcegdaaGreatNb00
namespace Go.Proofs.YtaggiceejcegdaaGreat
set_option linter.unusedVariables false
open Go.RowKit

section
variable {w w' : World} {B : Bd} {q pw p : Nat} {g : Geo} {F : List Flt} {s : DS} {P : Pow} {LM : List Sec} {O : List OpV} {FA : Option Addr} {fc : Nat}
end
end Go.Proofs.YtaggiceejcegdaaGreat
namespace Go.Proofs.YtaggiceejcegdaaGreat
set_option linter.unusedVariables false
open Go.RowKit

section
variable {w w' : World} {B : Bd} {q pw : Nat} {g : Geo} {F : List Flt} {s : DS} {P : Pow} {LM : List Sec} {O : List OpV}
def dFlS (F : List Flt) (s : DS) (P : Pow) (key : Int) : DS := if (begD F s P key).er = 0 then { (begD F s P key).s with f := wrap64 ((begD F s P key).s.f + 1) } else (begD F s P key).s
def dFlLM (g : Geo) (F : List Flt) (s : DS) (P : Pow) (LM : List Sec) (O : List OpV) (key : Int) : List Sec := if (begD F s P key).er = 0 then playL g LM (O.take O.length) else LM
def dFlO (F : List Flt) (s : DS) (P : Pow) (O : List OpV) (key : Int) : List OpV := if (begD F s P key).er = 0 then [] else O
def DFlushPost (w : World) (B : Bd) (q pw : Nat) (g : Geo) (F : List Flt) (s : DS) (P : Pow) (LM : List Sec) (O : List OpV) (key : Int) (e : Ending) (w' : World) : Prop :=
  e = .returned (.int .i64 (begD F s P key).er) ∧ DPm w' B q pw g F (dFlS F s P key) (begD F s P key).P (dFlLM g F s P LM O key) (dFlO F s P O key) ∧ KeptT DAT B w w'
def dErE (g : Geo) (F : List Flt) (s : DS) (P : Pow) (LM : List Sec) (O : List OpV) (key a : Int) : Int := if (begD F s P key).er = 0 then doE g (playL g LM O) ⟨true, a, [], none, 0⟩ else (begD F s P key).er
def dErS (g : Geo) (F : List Flt) (s : DS) (P : Pow) (LM : List Sec) (O : List OpV) (key a : Int) : DS := if (begD F s P key).er = 0 then erS g LM O a (begD F s P key).s else (begD F s P key).s
def dErO (g : Geo) (F : List Flt) (s : DS) (P : Pow) (LM : List Sec) (O : List OpV) (key a : Int) : List OpV := if (begD F s P key).er = 0 then erO g LM O a else O
def DErasePost (w : World) (B : Bd) (q pw : Nat) (g : Geo) (F : List Flt) (s : DS) (P : Pow) (LM : List Sec) (O : List OpV) (key a : Int) (e : Ending) (w' : World) : Prop :=
  e = .returned (.int .i64 (dErE g F s P LM O key a)) ∧ DPm w' B q pw g F (dErS g F s P LM O key a) (begD F s P key).P LM (dErO g F s P LM O key a) ∧ KeptT DAT B w w'
end
end Go.Proofs.YtaggiceejcegdaaGreat
namespace Go.Proofs.YtaggiceejcegdaaGreat
set_option linter.unusedVariables false
open Go.RowKit

/-- An act. -/
structure ActV where
  disk : Int
  kind : Int
  key : Int
  at_ : Int
  A : Option Addr
  xs : List Int
  c : Nat
  force : Bool
def ActV.cells (a : ActV) : List Value := [.int .u8 a.disk, .int .u8 a.kind, .int .u64 a.key, .int .i64 a.at_, .slice a.A a.xs.length a.c, .bool a.force]
def flatA (l : List ActV) : List Value := l.flatMap ActV.cells
def onlyA (l : List ActV) : List ActV := (l.filter fun a => decide (a.kind ≤ 3)).map fun a => { a with key := 0 }
end Go.Proofs.YtaggiceejcegdaaGreat
namespace Go.Proofs.YtaggiceejcegdaaGreat
set_option linter.unusedVariables false
open Go.RowKit

/-- A disk's state with its power supply's. -/
structure DC where
  s : DS
  P : Pow
  L : List Sec
  O : List OpV
def doC (g : Geo) (F : List Flt) (d : DC) (a : ActV) : DC :=
  if a.kind = 0 then ⟨dRdS F d.s d.P d.L (playL g d.L d.O) a.key a.at_, (begD F d.s d.P a.key).P, d.L, d.O⟩
  else if a.kind = 1 then ⟨dWrS F d.s d.P d.L a.key a.at_ a.xs, (begD F d.s d.P a.key).P, dWrLM g F d.s d.P d.L d.O a.key a.at_ a.xs a.force, dWrO g F d.s d.P d.L d.O a.key a.at_ a.xs a.force⟩
  else if a.kind = 2 then ⟨dErS g F d.s d.P d.L d.O a.key a.at_, (begD F d.s d.P a.key).P, d.L, dErO g F d.s d.P d.L d.O a.key a.at_⟩
  else if a.kind = 3 then ⟨dFlS F d.s d.P a.key, (begD F d.s d.P a.key).P, dFlLM g F d.s d.P d.L d.O a.key, dFlO F d.s d.P d.O a.key⟩
  else if a.kind = 4 then ⟨acqS d.s d.P a.key, d.P, d.L, d.O⟩
  else if a.kind = 5 then ⟨{ d.s with dead := true }, d.P, d.L, d.O⟩
  else if a.kind = 6 then ⟨rstS d.s d.P, d.P, rstLM g d.s d.P d.L d.O a.at_, rstO d.s d.P d.O⟩
  else if a.kind = 7 then ⟨d.s, armP d.P a.at_, d.L, d.O⟩
  else if a.kind = 8 then ⟨d.s, { d.P with off := false }, d.L, d.O⟩
  else d
def doEr (g : Geo) (F : List Flt) (d : DC) (a : ActV) : Int :=
  if a.kind = 0 then dRdE F d.s d.P d.L (playL g d.L d.O) a.key a.at_
  else if a.kind = 1 then dWrE F d.s d.P d.L a.key a.at_ a.xs
  else if a.kind = 2 then dErE g F d.s d.P d.L d.O a.key a.at_
  else if a.kind = 3 then (begD F d.s d.P a.key).er
  else if a.kind = 4 then stE d.s d.P
  else if a.kind = 6 then rstE d.s d.P
  else 0
def doBy (g : Geo) (F : List Flt) (d : DC) (a : ActV) : List Int := if a.kind = 0 then dRdB F d.s d.P d.L (playL g d.L d.O) a.key a.at_ else []
def DoDPost (w : World) (B : Bd) (q pw : Nat) (g : Geo) (F : List Flt) (d : DC) (a : ActV) (e : Ending) (w' : World) : Prop :=
  e = .returned (.tuple #[.string (strOfNums (doBy g F d a)), .int .i64 (doEr g F d a)]) ∧ DPm w' B q pw g F (doC g F d a).s (doC g F d a).P (doC g F d a).L (doC g F d a).O ∧ KeptT DAT B w w'
theorem atF_mem : ∀ (l : List Flt) (op : Int), atF l op = noF ∨ atF l op ∈ l
  | [], _ => .inl rfl
  | f :: l, op => by
    unfold atF
    split
    · exact .inr (by simp)
    · rcases atF_mem l op with h | h
      · exact .inl h
      · exact .inr (by simp [h])
theorem begD_to {F : List Flt} (s : DS) (P : Pow) (key : Int) (hF : ∀ f ∈ F, I64 f.to_) : I64 (begD F s P key).f.to_ := by
  have h0 : I64 noF.to_ := noI64
  unfold begD
  repeat' split
  all_goals first | exact h0 | skip
  rcases atF_mem F s.ops with h | h
  · simp only [h]; exact h0
  · exact hF _ h
end Go.Proofs.YtaggiceejcegdaaGreat
namespace Go.Proofs.YtaggiceejcegdaaGreat
set_option linter.unusedVariables false

/-! ### one operation -/
/-- What an operation answers: the error, the bytes. -/
structure Ans where
  er : Int
  by_ : List Int
def wOne (g : Geo) (F : List Flt) (key a : Int) (xs : List Int) (d : DC) : DC × Ans :=
  (⟨dWrS F d.s d.P d.L key a xs, (begD F d.s d.P key).P, dWrLM g F d.s d.P d.L d.O key a xs false, dWrO g F d.s d.P d.L d.O key a xs false⟩, ⟨dWrE F d.s d.P d.L key a xs, []⟩)
def rOne (g : Geo) (F : List Flt) (key a : Int) (d : DC) : DC × Ans :=
  (⟨dRdS F d.s d.P d.L (playL g d.L d.O) key a, (begD F d.s d.P key).P, d.L, d.O⟩, ⟨dRdE F d.s d.P d.L (playL g d.L d.O) key a, dRdB F d.s d.P d.L (playL g d.L d.O) key a⟩)
def fOne (g : Geo) (F : List Flt) (key : Int) (d : DC) : DC × Ans :=
  (⟨dFlS F d.s d.P key, (begD F d.s d.P key).P, dFlLM g F d.s d.P d.L d.O key, dFlO F d.s d.P d.O key⟩, ⟨(begD F d.s d.P key).er, []⟩)
/-! ### again and again -/
/-- The state behind n calls. -/
def callN (f : DC → DC × Ans) (d : DC) : Nat → DC
  | 0 => d
  | n + 1 => (f (callN f d n)).1
/-- The answer of call n, from 0. -/
def ansN (f : DC → DC × Ans) (d : DC) (n : Nat) : Ans := (f (callN f d n)).2
/-- The number of the last call. -/
def lastN (f : DC → DC × Ans) (d : DC) : Nat → Nat
  | 0 => 0
  | m + 1 => if lastN f d m = m ∧ (ansN f d m).er = 16 then m + 1 else lastN f d m
def tryD (f : DC → DC × Ans) (d : DC) : DC × Ans := (callN f d (lastN f d 8 + 1), ansN f d (lastN f d 8))
theorem lastN_le (f : DC → DC × Ans) (d : DC) : ∀ m, lastN f d m ≤ m
  | 0 => Nat.le_refl _
  | m + 1 => by
    unfold lastN
    split
    · exact Nat.le_refl _
    · exact Nat.le_trans (lastN_le f d m) (by omega)
theorem lastN_busy {f : DC → DC × Ans} {d : DC} : ∀ {m : Nat}, (∀ j, j < m → (ansN f d j).er = 16) → lastN f d m = m
  | 0, _ => rfl
  | m + 1, h => by
    unfold lastN
    rw [if_pos ⟨lastN_busy (fun j hj => h j (by omega)), h m (by omega)⟩]
theorem lastN_stop {f : DC → DC × Ans} {d : DC} {k : Nat} (h : ∀ j, j < k → (ansN f d j).er = 16) (hk : ¬ (ansN f d k).er = 16) : ∀ m, k ≤ m → lastN f d m = k
  | 0, h0 => by
    obtain rfl : k = 0 := by omega
    rfl
  | m + 1, h0 => by
    by_cases hkm : k = m + 1
    · subst hkm; exact lastN_busy h
    · have ih := lastN_stop h hk m (by omega)
      unfold lastN
      rw [ih, if_neg]
      rintro ⟨h1, h2⟩
      subst h1
      exact hk h2
theorem try_stop {f : DC → DC × Ans} {d : DC} {k : Nat} (h : ∀ j, j < k → (ansN f d j).er = 16) (hk : k = 8 ∨ (k ≤ 8 ∧ ¬ (ansN f d k).er = 16)) : tryD f d = (callN f d (k + 1), ansN f d k) := by
  unfold tryD
  rcases hk with rfl | ⟨h1, h2⟩
  · rw [lastN_busy h]
  · rw [lastN_stop h h2 8 h1]
theorem callN_len {f : DC → DC × Ans} (h : ∀ d, (f d).1.O.length ≤ d.O.length + 1) (d : DC) : ∀ n, (callN f d n).O.length ≤ d.O.length + n
  | 0 => Nat.le_refl _
  | n + 1 => by
    have h1 := callN_len h d n
    have h2 := h (callN f d n)
    show (f (callN f d n)).1.O.length ≤ _
    omega
theorem tryD_len {f : DC → DC × Ans} (h : ∀ d, (f d).1.O.length ≤ d.O.length + 1) (d : DC) : (tryD f d).1.O.length ≤ d.O.length + 9 := by
  have h1 := callN_len h d (lastN f d 8 + 1)
  have h2 := lastN_le f d 8
  unfold tryD
  simp only
  omega
theorem wOne_len (g : Geo) (F : List Flt) (key a : Int) (xs : List Int) (d : DC) : (wOne g F key a xs d).1.O.length ≤ d.O.length + 1 := by
  unfold wOne dWrO wrO
  simp only
  repeat' split
  all_goals simp
/-! ### sectors, one after another -/
/-- What writing the first k sectors leaves; the error of the last one. -/
def wrAll (g : Geo) (F : List Flt) (key a : Int) (ls : List (List Int)) (d : DC) : Nat → DC × Int
  | 0 => (d, 0)
  | k + 1 => if (wrAll g F key a ls d k).2 = 0 then ((tryD (wOne g F key (a + k) (ls.getD k [])) (wrAll g F key a ls d k).1).1, (tryD (wOne g F key (a + k) (ls.getD k [])) (wrAll g F key a ls d k).1).2.er) else wrAll g F key a ls d k
theorem wrAll_stay {g : Geo} {F : List Flt} {key a : Int} {ls : List (List Int)} {d : DC} {k : Nat} (h : ¬ (wrAll g F key a ls d k).2 = 0) : ∀ j, wrAll g F key a ls d (k + j) = wrAll g F key a ls d k
  | 0 => rfl
  | j + 1 => by
    have ih := wrAll_stay h j
    rw [← ih] at h
    show (if (wrAll g F key a ls d (k + j)).2 = 0 then _ else _) = _
    rw [if_neg h]
    exact ih
theorem wrAll_len (g : Geo) (F : List Flt) (key a : Int) (ls : List (List Int)) (d : DC) : ∀ k, (wrAll g F key a ls d k).1.O.length ≤ d.O.length + 9 * k
  | 0 => Nat.le_refl _
  | k + 1 => by
    have ih := wrAll_len g F key a ls d k
    have h2 := tryD_len (wOne_len g F key (a + k) (ls.getD k [])) (wrAll g F key a ls d k).1
    unfold wrAll
    split
    · simp only
      omega
    · omega
def wrD (g : Geo) (F : List Flt) (key a : Int) (ls : List (List Int)) (d : DC) : DC × Int := wrAll g F key a ls d ls.length
/-- What one more sector makes of what was read. -/
def rdNext (r : DC × List (List Int) × Int) (x : DC × Ans) : DC × List (List Int) × Int :=
  if x.2.er = 0 then (x.1, r.2.1 ++ [x.2.by_], 0) else if x.2.er = 15 ∨ x.2.er = 16 then (x.1, r.2.1 ++ [[]], 0) else (x.1, [], x.2.er)
/-- What reading the first k sectors leaves: the state, the sectors, the error. -/
def rdAll (g : Geo) (F : List Flt) (key a : Int) (d : DC) : Nat → DC × List (List Int) × Int
  | 0 => (d, [], 0)
  | k + 1 => if (rdAll g F key a d k).2.2 = 0 then rdNext (rdAll g F key a d k) (tryD (rOne g F key (a + k)) (rdAll g F key a d k).1) else rdAll g F key a d k
theorem rdNext_one (r : DC × List (List Int) × Int) (x : DC × Ans) : (rdNext r x).1 = x.1 := by
  unfold rdNext
  split
  · rfl
  · split <;> rfl
theorem rdNext_len {r : DC × List (List Int) × Int} {x : DC × Ans} (h : (rdNext r x).2.2 = 0) : (rdNext r x).2.1.length = r.2.1.length + 1 := by
  unfold rdNext at h ⊢
  split
  · simp
  · rename_i h1
    rw [if_neg h1] at h
    split
    · simp
    · rename_i h2
      rw [if_neg h2] at h
      exact absurd h h1
theorem rdAll_yes {g : Geo} {F : List Flt} {key a : Int} {d : DC} {k : Nat} (h : (rdAll g F key a d k).2.2 = 0) : rdAll g F key a d (k + 1) = rdNext (rdAll g F key a d k) (tryD (rOne g F key (a + k)) (rdAll g F key a d k).1) := by
  rw [rdAll, if_pos h]
theorem rdAll_no {g : Geo} {F : List Flt} {key a : Int} {d : DC} {k : Nat} (h : ¬ (rdAll g F key a d k).2.2 = 0) : rdAll g F key a d (k + 1) = rdAll g F key a d k := by
  rw [rdAll, if_neg h]
theorem rdAll_stay {g : Geo} {F : List Flt} {key a : Int} {d : DC} {k : Nat} (h : ¬ (rdAll g F key a d k).2.2 = 0) : ∀ j, rdAll g F key a d (k + j) = rdAll g F key a d k
  | 0 => rfl
  | j + 1 => by
    have ih := rdAll_stay h j
    rw [← ih] at h
    exact (rdAll_no h).trans ih
def rdD (g : Geo) (F : List Flt) (key a : Int) (n : Int) (d : DC) : DC × List (List Int) × Int := rdAll g F key a d n.toNat
/-! ### several disks -/
/-- A disk among several: its faults, its state. -/
structure DX where
  F : List Flt
  s : DS
  L : List Sec
  O : List OpV
/-- Disks that share a power supply. -/
structure MS where
  ds : List DX
  P : Pow
def MS.dc (m : MS) (v : DX) : DC := ⟨v.s, m.P, v.L, v.O⟩
def MS.put (m : MS) (i : Nat) (F : List Flt) (d : DC) : MS := ⟨m.ds.set i ⟨F, d.s, d.L, d.O⟩, d.P⟩
/-- What is written to the first k disks, those in `no` left out: the disks, the errors. -/
def allK (g : Geo) (key a : Int) (ls : List (List Int)) (no : Nat → Bool) (m : MS) : Nat → MS × List Int
  | 0 => (m, [])
  | k + 1 =>
    match (allK g key a ls no m k).1.ds[k]? with
    | none => allK g key a ls no m k
    | some v =>
      if no k then ((allK g key a ls no m k).1, (allK g key a ls no m k).2 ++ [0])
      else ((allK g key a ls no m k).1.put k v.F (wrD g v.F key a ls ((allK g key a ls no m k).1.dc v)).1, (allK g key a ls no m k).2 ++ [(wrD g v.F key a ls ((allK g key a ls no m k).1.dc v)).2])
def allD (g : Geo) (key a : Int) (ls : List (List Int)) (no : Nat → Bool) (m : MS) : MS × List Int := allK g key a ls no m m.ds.length
/-- Every disk has at most N pending operations; its faults are numbers. -/
def MS.Ok (m : MS) (N : Nat) : Prop := ∀ (i : Nat) (v : DX), m.ds[i]? = some v → (∀ f ∈ v.F, I64 f.to_) ∧ v.F.length ≤ 9223372036854775807 ∧ v.O.length ≤ N
theorem MS.Ok.mono {m : MS} {N M : Nat} (h : m.Ok N) (hn : N ≤ M) : m.Ok M := fun i v hv => ⟨(h i v hv).1, (h i v hv).2.1, Nat.le_trans (h i v hv).2.2 hn⟩
theorem MS.Ok.put {m : MS} {N k : Nat} {v : DX} {d : DC} (h : m.Ok N) (hv : m.ds[k]? = some v) (hd : d.O.length ≤ N) : (m.put k v.F d).Ok N := by
  intro i u hu
  unfold MS.put at hu
  by_cases e : k = i
  · subst e
    rw [List.getElem?_set_self (List.getElem?_eq_some_iff.1 hv).1] at hu
    injection hu with hu; subst hu
    exact ⟨(h k v hv).1, (h k v hv).2.1, hd⟩
  · rw [List.getElem?_set_ne e] at hu
    exact h i u hu
theorem allK_len (g : Geo) (key a : Int) (ls : List (List Int)) (no : Nat → Bool) (m : MS) : ∀ k, k ≤ m.ds.length → (allK g key a ls no m k).1.ds.length = m.ds.length ∧ (allK g key a ls no m k).2.length = k
  | 0, _ => ⟨rfl, rfl⟩
  | k + 1, hk => by
    obtain ⟨h1, h2⟩ := allK_len g key a ls no m k (by omega)
    unfold allK
    split
    · rename_i hn
      rw [List.getElem?_eq_none_iff, h1] at hn
      omega
    · split
      · exact ⟨h1, by simp [h2]⟩
      · exact ⟨by simp [MS.put, h1], by simp [h2]⟩
/-- The disks from k on are as before. -/
theorem allK_rest (g : Geo) (key a : Int) (ls : List (List Int)) (no : Nat → Bool) (m : MS) : ∀ k j, k ≤ j → (allK g key a ls no m k).1.ds[j]? = m.ds[j]?
  | 0, _, _ => rfl
  | k + 1, j, hj => by
    have ih := allK_rest g key a ls no m k j (by omega)
    unfold allK
    split
    · exact ih
    · split
      · exact ih
      · unfold MS.put
        rw [List.getElem?_set_ne (by omega)]
        exact ih
theorem wrD_len (g : Geo) (F : List Flt) (key a : Int) (ls : List (List Int)) (d : DC) : (wrD g F key a ls d).1.O.length ≤ d.O.length + 9 * ls.length := wrAll_len g F key a ls d ls.length
theorem allK_ok {g : Geo} {key a : Int} {ls : List (List Int)} {no : Nat → Bool} {m : MS} {N : Nat} (h : m.Ok N) : ∀ k, (allK g key a ls no m k).1.Ok (N + 9 * ls.length)
  | 0 => h.mono (by omega)
  | k + 1 => by
    have ih := allK_ok (g := g) (key := key) (a := a) (ls := ls) (no := no) h k
    have hr := allK_rest g key a ls no m k k (Nat.le_refl _)
    unfold allK
    split
    · exact ih
    · rename_i v hv
      split
      · exact ih
      · refine ih.put hv ?_
        have h1 := wrD_len g v.F key a ls ((allK g key a ls no m k).1.dc v)
        rw [hr] at hv
        have h2 := (h k v hv).2.2
        have h3 : ((allK g key a ls no m k).1.dc v).O.length = v.O.length := rfl
        omega
theorem allD_ok {g : Geo} {key a : Int} {ls : List (List Int)} {no : Nat → Bool} {m : MS} {N : Nat} (h : m.Ok N) : (allD g key a ls no m).1.Ok (N + 9 * ls.length) := allK_ok h _
/-! ### the bytes of a disk -/
def SecU (L : List Sec) : Prop := ∀ s ∈ L, U8s s.by_
/-- All bytes of a disk are bytes. -/
def DC.U8 (d : DC) : Prop := SecU d.L ∧ ∀ o ∈ d.O, U8s o.xs
theorem U8s.nil : U8s [] := fun x hx => by simp at hx
theorem U8s.take {xs : List Int} (h : U8s xs) (n : Nat) : U8s (xs.take n) := fun x hx => h x (List.mem_of_mem_take hx)
theorem SecU.set {L : List Sec} (h : SecU L) (i : Nat) (s : Sec) (hs : U8s s.by_) : SecU (L.set i s) := by
  intro t ht
  rcases List.mem_or_eq_of_mem_set ht with h1 | h1
  · exact h t h1
  · subst h1; exact hs
def MS.U8 (m : MS) : Prop := ∀ (i : Nat) (v : DX), m.ds[i]? = some v → (m.dc v).U8
theorem MS.U8.put {m : MS} {k : Nat} {v : DX} {d : DC} (h : m.U8) (hv : m.ds[k]? = some v) (hd : d.U8) : (m.put k v.F d).U8 := by
  intro i u hu
  unfold MS.put at hu
  by_cases e : k = i
  · subst e
    rw [List.getElem?_set_self (List.getElem?_eq_some_iff.1 hv).1] at hu
    injection hu with hu; subst hu
    exact hd
  · rw [List.getElem?_set_ne e] at hu
    exact h i u hu
theorem callN_r {g : Geo} {F : List Flt} {key a : Int} {d : DC} : ∀ n, (callN (rOne g F key a) d n).L = d.L ∧ (callN (rOne g F key a) d n).O = d.O
  | 0 => ⟨rfl, rfl⟩
  | n + 1 => callN_r n
theorem tryD_r {g : Geo} {F : List Flt} {key a : Int} {d : DC} : (tryD (rOne g F key a) d).1.L = d.L ∧ (tryD (rOne g F key a) d).1.O = d.O := callN_r _
theorem rdAll_r {g : Geo} {F : List Flt} {key a : Int} {d : DC} : ∀ n, (rdAll g F key a d n).1.L = d.L ∧ (rdAll g F key a d n).1.O = d.O
  | 0 => ⟨rfl, rfl⟩
  | n + 1 => by
    have ih := rdAll_r (g := g) (F := F) (key := key) (a := a) (d := d) n
    by_cases h0 : (rdAll g F key a d n).2.2 = 0
    · rw [rdAll_yes h0, rdNext_one]
      have h := tryD_r (g := g) (F := F) (key := key) (a := a + n) (d := (rdAll g F key a d n).1)
      exact ⟨h.1.trans ih.1, h.2.trans ih.2⟩
    · rw [rdAll_no h0]; exact ih
theorem rdAll_len {g : Geo} {F : List Flt} {key a : Int} {d : DC} : ∀ n, (rdAll g F key a d n).2.2 = 0 → (rdAll g F key a d n).2.1.length = n
  | 0, _ => rfl
  | n + 1, h => by
    by_cases h0 : (rdAll g F key a d n).2.2 = 0
    · have ih := rdAll_len (g := g) (F := F) (key := key) (a := a) (d := d) n h0
      rw [rdAll_yes h0] at h ⊢
      rw [rdNext_len h, ih]
    · rw [rdAll_no h0] at h; exact absurd h h0
end Go.Proofs.YtaggiceejcegdaaGreat

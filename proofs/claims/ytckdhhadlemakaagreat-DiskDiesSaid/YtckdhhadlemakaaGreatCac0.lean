/-
  WHAT IS SHOWN: plain facts on memory, of no program: worlds that differ in blocks of some types alone; how a cache lies in memory, and what keeps it. Conditions: as each theorem names them.
-/
import Derived.Test.YtckdhhadlemakaaGreatMed9
namespace Go.Proofs.YtckdhhadlemakaaGreat
set_option linter.unusedVariables false
open Go.RowKit

/-- Block k holds cells of this type. -/
def IsT (t : TypeId) (w : World) (k : Nat) : Prop := ∃ cur fr, w.heap[k]? = some (.cells cur t fr)
/-- Block k holds cells of one of these types. -/
def HasT (ts : List TypeId) (w : World) (k : Nat) : Prop := ∃ t, t ∈ ts ∧ IsT t w k
/-- A bound: the blocks from n on, without those of X, which lie below top. -/
structure Bd where
  n : Nat
  X : Nat → Prop
  top : Nat
  hx : ∀ k, X k → k < top
  le : n ≤ top
def Bd.has (B : Bd) (k : Nat) : Prop := B.n ≤ k ∧ ¬ B.X k
/-- The blocks from n on. -/
def Bd.of (n : Nat) : Bd := ⟨n, fun _ => False, n, fun _ h => h.elim, Nat.le_refl _⟩
theorem Bd.fresh {B : Bd} {k : Nat} (h : B.top ≤ k) : B.has k := ⟨Nat.le_trans B.le h, fun hx => by have := B.hx k hx; omega⟩
theorem Bd.nx {B : Bd} {k : Nat} (h : B.top ≤ k) : ¬ B.X k := (Bd.fresh h).2
theorem Bd.hasOf {n k : Nat} : (Bd.of n).has k ↔ n ≤ k := ⟨fun h => h.1, fun h => ⟨h, fun h => h⟩⟩
/-- A bound that allows what another one allows, of the blocks that a world has. -/
def Bd.Sub (N : Nat) (C B : Bd) : Prop := B.n ≤ C.n ∧ ∀ k, k < N → C.has k → B.has k
theorem Bd.subOf {N : Nat} {B : Bd} {n : Nat} (h : B.top ≤ n) : Bd.Sub N (Bd.of n) B := ⟨Nat.le_trans B.le h, fun _ _ hk => Bd.fresh (Nat.le_trans h hk.1)⟩
/-- Only blocks of these types, within B, have changed, of those that were there. -/
def KeptT (ts : List TypeId) (B : Bd) (w w' : World) : Prop := Kept (fun k => B.has k ∧ HasT ts w k) w w'
section
variable {ts us : List TypeId} {B C : Bd} {w w' w'' : World} {S : Nat → Prop} {t t' : TypeId}
theorem IsT.same {k : Nat} (h : IsT t w k) (h' : IsT t' w k) : t = t' := by
  obtain ⟨c1, f1, h1⟩ := h
  obtain ⟨c2, f2, h2⟩ := h'
  rw [h1] at h2; injection h2 with h2; injection h2
theorem IsT.ne {a b : Nat} (h : IsT t w a) (h' : IsT t' w b) (ht : t ≠ t') : a ≠ b := fun e => by subst e; exact ht (h.same h')
theorem IsT.lt {k : Nat} (h : IsT t w k) : k < w.heap.size := by obtain ⟨_, _, h⟩ := h; exact lt_of_block h
theorem IsT.of {k : Nat} {cur : Array Value} {fr : Nat × Nat} (h : w.heap[k]? = some (.cells cur t fr)) : IsT t w k := ⟨cur, fr, h⟩
theorem IsT.own {base : Nat} {size n c k : Nat} {xs : List Value} (h : w.ownsRow base t size (.slice (some ⟨k, 0, none⟩) n c) n xs) : IsT t w k := by
  obtain ⟨cur, h⟩ := own_type h; exact ⟨cur, _, h⟩
theorem HasT.no {k : Nat} (h : IsT t w k) (ht : t ∉ ts) : ¬ HasT ts w k := fun ⟨u, hu, h'⟩ => ht (h.same h' ▸ hu)
theorem HasT.mem {k : Nat} (h : IsT t w k) (ht : t ∈ ts) : HasT ts w k := ⟨t, ht, h⟩
theorem KeptT.refl (ts : List TypeId) (B : Bd) (w : World) : KeptT ts B w w := Kept.refl _ _
theorem KeptT.trans (h : KeptT ts B w w') (k : KeptT ts B w' w'') : KeptT ts B w w'' :=
  Kept.trans h k (fun i hi hs => by
    by_cases hh : B.has i ∧ HasT ts w i
    · exact hh
    · have e := h.block i hi hh
      obtain ⟨h1, t, ht, cur, fr, h2⟩ := hs
      exact ⟨h1, t, ht, cur, fr, e.symm.trans h2⟩)
theorem KeptT.of (h : Kept S w w') (hS : ∀ k, k < w.heap.size → S k → B.has k ∧ HasT ts w k) : KeptT ts B w w' := h.more hS
theorem KeptT.bel (h : Below w.heap.size w w') : KeptT ts B w w' := belKept0 h
theorem KeptT.thenBelow (h : KeptT ts B w w') (k : Below w'.heap.size w' w'') : KeptT ts B w w'' := Kept.thenBelow h k
theorem KeptT.below (h : KeptT ts B w w') (hB : B.n ≤ w.heap.size) : Below B.n w w' := Kept.below h (fun _ h => h.1.1) hB
theorem KeptT.wider (h : KeptT ts C w w') (hs : ∀ k, C.has k → B.has k) : KeptT ts B w w' := Kept.more h (fun _ _ ⟨h1, h2⟩ => ⟨hs _ h1, h2⟩)
/-- What lies in X is kept. -/
theorem KeptT.shut (h : KeptT ts B w w') : Kept (fun k => ¬ B.X k) w w' := Kept.more h (fun _ _ ⟨h1, _⟩ => h1.2)
theorem KeptT.sub (h : KeptT ts B w w') (hs : ∀ t, t ∈ ts → t ∈ us) : KeptT us B w w' := Kept.more h (fun _ _ ⟨h1, t, ht, h2⟩ => ⟨h1, t, hs t ht, h2⟩)
theorem KeptT.free (ht : t ∉ ts) : Free w t (fun k => B.has k ∧ HasT ts w k) := fun k hk _ cur fr e => HasT.no (IsT.of e) ht hk.2
theorem KeptT.no {k : Nat} (h : IsT t w k) (ht : t ∉ ts) : ¬ (B.has k ∧ HasT ts w k) := fun h' => HasT.no h ht h'.2
theorem KeptT.size (h : KeptT ts B w w') : w.heap.size ≤ w'.heap.size := Kept.size h
theorem Med.types {m bs : Nat} {g : Geo} {L : List Sec} (h : Med w m bs g L) : IsT 126 w m ∧ IsT 133 w bs := by
  obtain ⟨c, V, h1, h2, h3, h4⟩ := h
  exact ⟨IsT.of h1, IsT.own h2⟩
theorem RMed.types {m bs : Nat} {g : Geo} {L : List Sec} (h : RMed w m bs g L) : IsT 94 w m ∧ IsT 123 w bs := by
  obtain ⟨c, h1, h2⟩ := h
  exact ⟨IsT.of h1, IsT.own h2⟩
theorem Med.keptT {m bs : Nat} {g : Geo} {L : List Sec} (h : Med w m bs g L) (hk : KeptT ts B w w') (h1 : 126 ∉ ts) (h2 : 133 ∉ ts) (h3 : 5 ∉ ts) : Med w' m bs g L :=
  h.kept hk (KeptT.no h.types.1 h1) (KeptT.no h.types.2 h2) (KeptT.free h3)
theorem RMed.keptT {m bs : Nat} {g : Geo} {L : List Sec} (h : RMed w m bs g L) (hk : KeptT ts B w w') (h1 : 94 ∉ ts) (h2 : 123 ∉ ts) : RMed w' m bs g L :=
  h.kept hk (KeptT.no h.types.1 h1) (KeptT.no h.types.2 h2)
end

/-! ### pure -/
def OpV.bare (o : OpV) : OpV := { o with A := none, c := 0 }
theorem doL_bare (g : Geo) (L : List Sec) (o : OpV) : doL g L o.bare = doL g L o := rfl
theorem doE_bare (g : Geo) (L : List Sec) (o : OpV) : doE g L o.bare = doE g L o := rfl
theorem playL_bare (g : Geo) : ∀ (l : List OpV) (L : List Sec), playL g L (l.map OpV.bare) = playL g L l
  | [], L => rfl
  | o :: l, L => by unfold playL; rw [List.map_cons, List.foldl_cons, List.foldl_cons, doL_bare]; exact playL_bare g l _
theorem playL_snoc (g : Geo) (L : List Sec) (l : List OpV) (o : OpV) : playL g L (l ++ [o]) = doL g (playL g L l) o := by unfold playL; rw [List.foldl_append]; rfl
theorem playL_app (g : Geo) (L : List Sec) (l k : List OpV) : playL g L (l ++ k) = playL g (playL g L l) k := by unfold playL; rw [List.foldl_append]
/-- An operation with an error changes nothing. -/
theorem doL_err {g : Geo} {L : List Sec} {o : OpV} (h : doE g L o ≠ 0) : doL g L o = L := by
  unfold doE at h; unfold doL
  split
  · rename_i he
    rw [if_pos he] at h
    unfold eraseE at h; unfold eraseL
    split
    · rename_i hi
      rw [if_pos hi] at h; exact absurd rfl h
    · rfl
  · rename_i he
    rw [if_neg he] at h
    unfold writeE at h; unfold writeL
    cases hi : inL L o.at_
    · rfl
    · rw [hi, if_pos rfl] at h
      by_cases hl : o.xs.length ≤ 64
      · rw [if_pos hl] at h; exact absurd rfl h
      · rw [decide_eq_false hl]; rfl
/-- How many operations a cut keeps. -/
def cutN (keep : Int) (n : Nat) : Nat := (min (max keep 0) n).toNat
theorem cutN_le (keep : Int) (n : Nat) : cutN keep n ≤ n := by unfold cutN; omega
theorem cutN_all {keep : Int} {n : Nat} (h : ¬ keep < n) : cutN keep n = n := by unfold cutN; omega

/-! ### in memory -/
/-- The types of the blocks that a cache changes; those that one of the reference changes. -/
def CT : List TypeId := [133, 118, 120]
def RT : List TypeId := [123, 90]
/-- The function value of an operation. -/
def OpFn (w : World) (v : Value) (o : OpV) : Prop :=
  I64 o.at_ ∧ o.xs.length ≤ 100000 ∧
  ((o.er = true ∧ ∃ pa fr, v = .func (.func 87) #[] #[.pointer (some ⟨pa, 0, none⟩)] ∧ w.heap[pa]? = some (.cells #[.int .i64 o.at_] 3 fr)) ∨
   (o.er = false ∧ ∃ pa pb A c fr fr', v = .func (.func 84) #[] #[.pointer (some ⟨pa, 0, none⟩), .pointer (some ⟨pb, 0, none⟩)] ∧ w.heap[pa]? = some (.cells #[.int .i64 o.at_] 3 fr) ∧
     w.heap[pb]? = some (.cells #[.slice A o.xs.length c] 53 fr') ∧ RdT w 5 A (o.xs.map (Value.int .u8))))
/-- No block in S holds what operations read. -/
def FreeF (w : World) (S : Nat → Prop) : Prop := Free w 3 S ∧ Free w 53 S ∧ Free w 5 S
section
variable {w w' : World} {S : Nat → Prop} {B : Bd} {p : Nat} {g : Geo} {LM : List Sec} {ops : List OpV}
theorem FreeF.none (w : World) : FreeF w (fun _ => False) := ⟨Free.none _ _, Free.none _ _, Free.none _ _⟩
theorem FreeF.one {k : Nat} {t : TypeId} (h : IsT t w k) (h1 : t ≠ 3) (h2 : t ≠ 53) (h3 : t ≠ 5) : FreeF w (fun i => i = k) := by
  obtain ⟨cur, fr, h⟩ := h
  exact ⟨Free.one h h1, Free.one h h2, Free.one h h3⟩
theorem FreeF.all {ts : List TypeId} (h1 : 3 ∉ ts) (h2 : 53 ∉ ts) (h3 : 5 ∉ ts) : FreeF w (fun k => B.has k ∧ HasT ts w k) := ⟨KeptT.free h1, KeptT.free h2, KeptT.free h3⟩
theorem FreeF.or {T : Nat → Prop} (h : FreeF w S) (k : FreeF w T) : FreeF w (fun i => S i ∨ T i) := ⟨h.1.or k.1, h.2.1.or k.2.1, h.2.2.or k.2.2⟩
theorem OpFn.kept {v : Value} {o : OpV} (h : OpFn w v o) (hk : Kept S w w') (hf : FreeF w S) : OpFn w' v o := by
  obtain ⟨h1, h2, h3⟩ := h
  refine ⟨h1, h2, ?_⟩
  rcases h3 with ⟨e, pa, fr, hv, ha⟩ | ⟨e, pa, pb, A, c, fr, fr', hv, ha, hb, hr⟩
  · exact .inl ⟨e, pa, fr, hv, hk.obj ha (fun hs => hf.1 pa hs (lt_of_block ha) _ _ ha)⟩
  · exact .inr ⟨e, pa, pb, A, c, fr, fr', hv, hk.obj ha (fun hs => hf.1 pa hs (lt_of_block ha) _ _ ha), hk.obj hb (fun hs => hf.2.1 pb hs (lt_of_block hb) _ _ hb), hr.kept hk hf.2.2⟩

/-- The cache of block p, in its parts. -/
structure Cac (w : World) (B : Bd) (p : Nat) (g : Geo) (LM : List Sec) (ops : List OpV) (m1 b1 m2 b2 : Nat) (A : Option Addr) (c : Nat) (F : List Value) : Prop where
  obj : w.ownsRow B.n 118 3 (.slice (some ⟨p, 0, none⟩) 1 1) 1 [.pointer (some ⟨m1, 0, none⟩), .pointer (some ⟨m2, 0, none⟩), .slice A ops.length c]
  px : ¬ B.X p
  ax : ∀ k, (Value.slice A ops.length c).ownBlock = some k → ¬ B.X k
  lb1 : B.has b1
  lb2 : B.has b2
  ne : b1 ≠ b2
  med1 : Med w m1 b1 g LM
  med2 : Med w m2 b2 g (playL g LM ops)
  own : w.ownsRow B.n 120 1 (.slice A ops.length c) ops.length F
  fn : ∀ (i : Nat) (o : OpV), ops[i]? = some o → ∃ v, F[i]? = some v ∧ OpFn w v o
/-- The cache of block p: its durable medium, and its pending operations. -/
def CacheM (w : World) (B : Bd) (p : Nat) (g : Geo) (LM : List Sec) (ops : List OpV) : Prop := ∃ m1 b1 m2 b2 A c F, Cac w B p g LM ops m1 b1 m2 b2 A c F
section
variable {m1 b1 m2 b2 : Nat} {A : Option Addr} {c : Nat} {F : List Value}
theorem Cac.kept (h : Cac w B p g LM ops m1 b1 m2 b2 A c F) (hk : Kept S w w') (hp : ¬ S p) (h1 : ¬ S m1) (h2 : ¬ S b1) (h3 : ¬ S m2) (h4 : ¬ S b2) (hA : ∀ k, (Value.slice A ops.length c).ownBlock = some k → ¬ S k) (hf : FreeF w S) : Cac w' B p g LM ops m1 b1 m2 b2 A c F :=
  ⟨own_kept h.obj hk (fun k e => by simp [Value.ownBlock] at e; subst e; exact hp), h.px, h.ax, h.lb1, h.lb2, h.ne, h.med1.kept hk h1 h2 hf.2.2, h.med2.kept hk h3 h4 hf.2.2, own_kept h.own hk hA, fun i o ho => by
    obtain ⟨v, hv, hF⟩ := h.fn i o ho
    exact ⟨v, hv, hF.kept hk hf⟩⟩
theorem Cac.typ (h : Cac w B p g LM ops m1 b1 m2 b2 A c F) : IsT 118 w p := IsT.own h.obj
theorem Cac.typA (h : Cac w B p g LM ops m1 b1 m2 b2 A c F) : ∀ k, (Value.slice A ops.length c).ownBlock = some k → IsT 120 w k ∧ B.has k := by
  intro k hk
  rcases h.own.2 with ⟨h2, _⟩ | ⟨g', cap, cur, h2, h3, h4, _⟩
  · rw [h2] at hk; cases hk
  · rw [h2] at hk; injection hk with hk; subst hk; exact ⟨IsT.of h4, h3, h.ax _ (by rw [h2]; rfl)⟩
theorem Cac.low (h : Cac w B p g LM ops m1 b1 m2 b2 A c F) : B.has p := by
  rcases h.obj.2 with ⟨h2, _⟩ | ⟨g', cap, cur, h2, h3, _⟩
  · cases h2
  · injection h2 with h2; injection h2 with h2; injection h2 with h2; subst h2; exact ⟨h3, h.px⟩
theorem Cac.cells (h : Cac w B p g LM ops m1 b1 m2 b2 A c F) : w.cell? ⟨p, 0, none⟩ = some (.pointer (some ⟨m1, 0, none⟩)) ∧ w.cell? ⟨p, 1, none⟩ = some (.pointer (some ⟨m2, 0, none⟩)) ∧ w.cell? ⟨p, 2, none⟩ = some (.slice A ops.length c) :=
  ⟨(World.ownsRow.cellAt h.obj 0 (by decide)).trans rfl, (World.ownsRow.cellAt h.obj 1 (by decide)).trans rfl, (World.ownsRow.cellAt h.obj 2 (by decide)).trans rfl⟩
theorem Cac.free (h : Cac w B p g LM ops m1 b1 m2 b2 A c F) (j : Nat) : w.frozen? ⟨p, j, none⟩ = false := h.obj.frozenAt j
theorem Cac.lt (h : Cac w B p g LM ops m1 b1 m2 b2 A c F) : p < w.heap.size := h.typ.lt
theorem Cac.keptT {ts : List TypeId} {B' : Bd} (h : Cac w B p g LM ops m1 b1 m2 b2 A c F) (hk : KeptT ts B' w w') (ht : ∀ t, t ∈ [118, 126, 133, 120, 3, 53, 5] → t ∉ ts) : Cac w' B p g LM ops m1 b1 m2 b2 A c F :=
  h.kept hk (KeptT.no h.typ (ht _ (by simp))) (KeptT.no h.med1.types.1 (ht _ (by simp))) (KeptT.no h.med1.types.2 (ht _ (by simp))) (KeptT.no h.med2.types.1 (ht _ (by simp))) (KeptT.no h.med2.types.2 (ht _ (by simp)))
    (fun k hk' => KeptT.no (h.typA k hk').1 (ht _ (by simp))) (FreeF.all (ht 3 (by simp)) (ht 53 (by simp)) (ht 5 (by simp)))
end
theorem CacheM.lt (h : CacheM w B p g LM ops) : p < w.heap.size := by obtain ⟨_, _, _, _, _, _, _, h⟩ := h; exact h.lt
theorem CacheM.low (h : CacheM w B p g LM ops) : B.has p := by obtain ⟨_, _, _, _, _, _, _, h⟩ := h; exact h.low
theorem CacheM.keptR {B' : Bd} (h : CacheM w B p g LM ops) (hk : KeptT RT B' w w') : CacheM w' B p g LM ops := by
  obtain ⟨m1, b1, m2, b2, A, c, F, h⟩ := h
  exact ⟨m1, b1, m2, b2, A, c, F, h.keptT hk (by unfold RT; decide)⟩
theorem CacheM.below0 (h : CacheM w B p g LM ops) (hk : Below w.heap.size w w') : CacheM w' B p g LM ops := h.keptR (B' := Bd.of 0) (KeptT.bel hk)

/-- The reference's cache of block p, in its parts. -/
structure RCac (w : World) (B : Bd) (p : Nat) (g : Geo) (LM : List Sec) (l : List OpV) (m b : Nat) (A : Option Addr) (c : Nat) : Prop where
  obj : w.ownsRow B.n 90 2 (.slice (some ⟨p, 0, none⟩) 1 1) 1 [.pointer (some ⟨m, 0, none⟩), .slice A l.length c]
  px : ¬ B.X p
  lb : B.has b
  med : RMed w m b g LM
  rd : RdT w 115 A (flatOps l)
  op : ∀ o ∈ l, I64 o.at_ ∧ o.xs.length ≤ 100000 ∧ RdT w 5 o.A (o.xs.map (Value.int .u8))
  nil : l = [] → A = none ∧ c = 0
/-- The reference's cache of block p: its medium, and its pending operations. -/
def RCacheM (w : World) (B : Bd) (p : Nat) (g : Geo) (LM : List Sec) (ops : List OpV) : Prop := ∃ l m b A c, l.map OpV.bare = ops ∧ RCac w B p g LM l m b A c
section
variable {m b : Nat} {A : Option Addr} {c : Nat} {l : List OpV}
theorem RCac.kept (h : RCac w B p g LM l m b A c) (hk : Kept S w w') (hp : ¬ S p) (h1 : ¬ S m) (h2 : ¬ S b) (hA : Free w 115 S) (hf : Free w 5 S) : RCac w' B p g LM l m b A c :=
  ⟨own_kept h.obj hk (fun k e => by simp [Value.ownBlock] at e; subst e; exact hp), h.px, h.lb, h.med.kept hk h1 h2, h.rd.kept hk hA, fun o ho => by
    obtain ⟨a1, a2, a3⟩ := h.op o ho
    exact ⟨a1, a2, a3.kept hk hf⟩, h.nil⟩
theorem RCac.typ (h : RCac w B p g LM l m b A c) : IsT 90 w p := IsT.own h.obj
theorem RCac.low (h : RCac w B p g LM l m b A c) : B.has p := by
  rcases h.obj.2 with ⟨h2, _⟩ | ⟨g', cap, cur, h2, h3, _⟩
  · cases h2
  · injection h2 with h2; injection h2 with h2; injection h2 with h2; subst h2; exact ⟨h3, h.px⟩
theorem RCac.cells (h : RCac w B p g LM l m b A c) : w.cell? ⟨p, 0, none⟩ = some (.pointer (some ⟨m, 0, none⟩)) ∧ w.cell? ⟨p, 1, none⟩ = some (.slice A l.length c) :=
  ⟨(World.ownsRow.cellAt h.obj 0 (by decide)).trans rfl, (World.ownsRow.cellAt h.obj 1 (by decide)).trans rfl⟩
theorem RCac.free (h : RCac w B p g LM l m b A c) (j : Nat) : w.frozen? ⟨p, j, none⟩ = false := h.obj.frozenAt j
theorem RCac.lt (h : RCac w B p g LM l m b A c) : p < w.heap.size := h.typ.lt
theorem RCac.keptT {ts : List TypeId} {B' : Bd} (h : RCac w B p g LM l m b A c) (hk : KeptT ts B' w w') (ht : ∀ t, t ∈ [90, 94, 123, 115, 5] → t ∉ ts) : RCac w' B p g LM l m b A c :=
  h.kept hk (KeptT.no h.typ (ht _ (by simp))) (KeptT.no h.med.types.1 (ht _ (by simp))) (KeptT.no h.med.types.2 (ht _ (by simp))) (KeptT.free (ht 115 (by simp))) (KeptT.free (ht 5 (by simp)))
end
theorem RCacheM.lt (h : RCacheM w B p g LM ops) : p < w.heap.size := by obtain ⟨_, _, _, _, _, _, h⟩ := h; exact h.lt
theorem RCacheM.low (h : RCacheM w B p g LM ops) : B.has p := by obtain ⟨_, _, _, _, _, _, h⟩ := h; exact h.low
theorem RCacheM.keptC {B' : Bd} (h : RCacheM w B p g LM ops) (hk : KeptT CT B' w w') : RCacheM w' B p g LM ops := by
  obtain ⟨l, m, b, A, c, e, h⟩ := h
  exact ⟨l, m, b, A, c, e, h.keptT hk (by unfold CT; decide)⟩
theorem RCacheM.below0 (h : RCacheM w B p g LM ops) (hk : Below w.heap.size w w') : RCacheM w' B p g LM ops := h.keptC (B' := Bd.of 0) (KeptT.bel hk)
end
end Go.Proofs.YtckdhhadlemakaaGreat

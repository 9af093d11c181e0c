/-
  WHAT IS SHOWN: plain facts on records, their payload, their sectors, and where they lie in memory. Conditions: as each theorem names them.
-/
import Derived.Test.YtndifkjenjfjpaaRec10
namespace Go.Proofs.Ytndifkjenjfjpaa
set_option linter.unusedVariables false
open Go.RowKit

/-- A write of a record. -/
structure PW where
  g : Int
  p : Int
  v : Nat
  d0 : Int
  d1 : Int
  d2 : Int
  d3 : Int
  d4 : Int
  d5 : Int
  d6 : Int
  d7 : Int
def PW.data (x : PW) : List Int := [x.d0, x.d1, x.d2, x.d3, x.d4, x.d5, x.d6, x.d7]
def PW.cells (x : PW) : List Value := [.int .i64 x.g, .int .i64 x.p, .int .u64 x.v, .int .u8 x.d0, .int .u8 x.d1, .int .u8 x.d2, .int .u8 x.d3, .int .u8 x.d4, .int .u8 x.d5, .int .u8 x.d6, .int .u8 x.d7]
/-- A move of a record. -/
structure Mv where
  g : Int
  p : Int
  k : Int
  b : Int
def Mv.cells (x : Mv) : List Value := [.int .i64 x.g, .int .i64 x.p, .int .i64 x.k, .int .i64 x.b]
structure Rec where
  gen : Nat
  seq : Nat
  ws : List PW
  ms : List Mv
  note : List Int
structure PW.Ok (x : PW) : Prop where
  g : I64 x.g
  p : I64 x.p
  v : x.v < 2 ^ 64
  d : U8s x.data
structure Mv.Ok (x : Mv) : Prop where
  g : I64 x.g
  p : I64 x.p
  k : I64 x.k
  b : I64 x.b
structure Rec.Ok (r : Rec) : Prop where
  gen : r.gen < 2 ^ 64
  seq : r.seq < 2 ^ 64
  ws : ∀ x ∈ r.ws, x.Ok
  ms : ∀ x ∈ r.ms, x.Ok
  note : U8s r.note
def flatW (l : List PW) : List Value := l.flatMap PW.cells
def flatM (l : List Mv) : List Value := l.flatMap Mv.cells
theorem flatW_len (l : List PW) : (flatW l).length = l.length * 11 := flat_len _ 11 (fun _ => rfl) l
theorem flatM_len (l : List Mv) : (flatM l).length = l.length * 4 := flat_len _ 4 (fun _ => rfl) l
/-- A list of structs in memory: the place of an element. -/
theorem Rd.flat {α : Type} {f : α → List Value} {n : Nat} (hf : ∀ a, (f a).length = n) (hn : 0 < n) {w : World} {B : Nat} {A : Option Addr} {l : List α} (h : Rd w B A (l.flatMap f)) {i : Nat} (hi : i < l.length) :
    ∃ g o, A = some ⟨g, o, none⟩ ∧ g < B ∧ ∀ t u, (f l[i])[t]? = some u → w.cell? ⟨g, o + i * n + t, none⟩ = some u := by
  have e : ∀ t, t < n → (l.flatMap f)[i * n + t]? = (f l[i])[t]? := fun t ht => by
    rw [flat_get _ n hf l i t ht, List.getElem?_eq_getElem hi]; rfl
  obtain ⟨g, o, rfl, hg, _⟩ := h (i * n + 0) ((f l[i])[0]'(by rw [hf]; exact hn)) (by rw [e 0 hn]; exact List.getElem?_eq_getElem (by rw [hf]; exact hn))
  refine ⟨g, o, rfl, hg, fun t u hu => ?_⟩
  have ht : t < n := by have := (List.getElem?_eq_some_iff.1 hu).1; rw [hf] at this; exact this
  obtain ⟨g1, o1, e1, _, h1⟩ := h (i * n + t) u (by rw [e t ht]; exact hu)
  injection e1 with e1; injection e1 with e1 e2; subst e1; subst e2
  rw [Nat.add_assoc]; exact h1
theorem Rd.pw {w : World} {B : Nat} {A : Option Addr} {l : List PW} (h : Rd w B A (flatW l)) {i : Nat} (hi : i < l.length) :
    ∃ g o, A = some ⟨g, o, none⟩ ∧ g < B ∧ w.cell? ⟨g, o + i * 11, none⟩ = some (.int .i64 (l[i]).g) ∧ w.cell? ⟨g, o + i * 11 + 1, none⟩ = some (.int .i64 (l[i]).p) ∧ w.cell? ⟨g, o + i * 11 + 2, none⟩ = some (.int .u64 (l[i]).v) ∧ w.cell? ⟨g, o + i * 11 + 3, none⟩ = some (.int .u8 (l[i]).d0) ∧ w.cell? ⟨g, o + i * 11 + 4, none⟩ = some (.int .u8 (l[i]).d1) ∧ w.cell? ⟨g, o + i * 11 + 5, none⟩ = some (.int .u8 (l[i]).d2) ∧ w.cell? ⟨g, o + i * 11 + 6, none⟩ = some (.int .u8 (l[i]).d3) ∧ w.cell? ⟨g, o + i * 11 + 7, none⟩ = some (.int .u8 (l[i]).d4) ∧ w.cell? ⟨g, o + i * 11 + 8, none⟩ = some (.int .u8 (l[i]).d5) ∧ w.cell? ⟨g, o + i * 11 + 9, none⟩ = some (.int .u8 (l[i]).d6) ∧ w.cell? ⟨g, o + i * 11 + 10, none⟩ = some (.int .u8 (l[i]).d7) := by
  obtain ⟨g, o, e, hg, hc⟩ := Rd.flat (n := 11) (fun _ => rfl) (by decide) h hi
  exact ⟨g, o, e, hg, hc 0 _ rfl, hc 1 _ rfl, hc 2 _ rfl, hc 3 _ rfl, hc 4 _ rfl, hc 5 _ rfl, hc 6 _ rfl, hc 7 _ rfl, hc 8 _ rfl, hc 9 _ rfl, hc 10 _ rfl⟩
theorem Rd.mv {w : World} {B : Nat} {A : Option Addr} {l : List Mv} (h : Rd w B A (flatM l)) {i : Nat} (hi : i < l.length) :
    ∃ g o, A = some ⟨g, o, none⟩ ∧ g < B ∧ w.cell? ⟨g, o + i * 4, none⟩ = some (.int .i64 (l[i]).g) ∧ w.cell? ⟨g, o + i * 4 + 1, none⟩ = some (.int .i64 (l[i]).p) ∧ w.cell? ⟨g, o + i * 4 + 2, none⟩ = some (.int .i64 (l[i]).k) ∧ w.cell? ⟨g, o + i * 4 + 3, none⟩ = some (.int .i64 (l[i]).b) := by
  obtain ⟨g, o, e, hg, hc⟩ := Rd.flat (n := 4) (fun _ => rfl) (by decide) h hi
  exact ⟨g, o, e, hg, hc 0 _ rfl, hc 1 _ rfl, hc 2 _ rfl, hc 3 _ rfl⟩
/-! ### what is computed -/
def pieceB (g p : Int) : Bool := decide (0 ≤ g) && decide (g < 4096) && decide (0 ≤ p) && decide (p < 16)
def placeB (k b : Int) : Bool := if k = -1 then b == 0 else decide (0 ≤ k) && decide (k < 60) && decide (0 ≤ b) && decide (b < 65536)
def PW.ok (x : PW) : Bool := pieceB x.g x.p
def Mv.ok (x : Mv) : Bool := pieceB x.g x.p && placeB x.k x.b
def wsB (l : List PW) : Bool := l.all PW.ok
def msB (l : List Mv) : Bool := l.all Mv.ok
def validR (r : Rec) : Bool := decide (1 ≤ r.seq) && decide (r.ws.length ≤ 64) && decide (r.ms.length ≤ 64) && decide (r.note.length ≤ 256) && wsB r.ws && msB r.ms
theorem all_take {α : Type} {f : α → Bool} {l : List α} {k : Nat} (h : k < l.length) : (l.take (k + 1)).all f = ((l.take k).all f && f l[k]) := by
  rw [List.take_succ_eq_append_getElem h, List.all_append]; simp
theorem all_bad {α : Type} {f : α → Bool} {l : List α} {k : Nat} (h : k < l.length) (hb : f l[k] = false) : l.all f = false := by
  rw [List.all_eq_false]
  exact ⟨_, List.getElem_mem h, by simp [hb]⟩
def PW.enc (x : PW) : List Int := uintB x.g.toNat ++ uintB x.p.toNat ++ uintB x.v ++ x.data
def Mv.enc (x : Mv) : List Int := uintB x.g.toNat ++ uintB x.p.toNat ++ uintB (zigN x.k) ++ uintB x.b.toNat
def wsE (l : List PW) : List Int := l.flatMap PW.enc
def msE (l : List Mv) : List Int := l.flatMap Mv.enc
/-- The payload of a record. -/
def payR (r : Rec) : List Int := uintB r.gen ++ uintB r.seq ++ uintB r.ws.length ++ wsE r.ws ++ uintB r.ms.length ++ msE r.ms ++ uintB r.note.length ++ r.note
theorem wsE_take {l : List PW} {k : Nat} (h : k < l.length) : wsE (l.take (k + 1)) = wsE (l.take k) ++ (l[k]).enc := by
  unfold wsE; rw [List.take_succ_eq_append_getElem h, List.flatMap_append]; simp
theorem msE_take {l : List Mv} {k : Nat} (h : k < l.length) : msE (l.take (k + 1)) = msE (l.take k) ++ (l[k]).enc := by
  unfold msE; rw [List.take_succ_eq_append_getElem h, List.flatMap_append]; simp
theorem flatMap_le {α : Type} (f : α → List Int) (n : Nat) (h : ∀ a, (f a).length ≤ n) (l : List α) : (l.flatMap f).length ≤ l.length * n := by
  induction l with
  | nil => simp
  | cons a l ih =>
    rw [List.flatMap_cons, List.length_append, List.length_cons, Nat.add_mul]
    have := h a
    omega
theorem PW.enc_len (x : PW) : x.enc.length ≤ 38 := by
  unfold PW.enc PW.data
  have h1 := uintB_len x.g.toNat; have h2 := uintB_len x.p.toNat; have h3 := uintB_len x.v
  simp; omega
theorem Mv.enc_len (x : Mv) : x.enc.length ≤ 40 := by
  unfold Mv.enc
  have h1 := uintB_len x.g.toNat; have h2 := uintB_len x.p.toNat; have h3 := uintB_len (zigN x.k); have h4 := uintB_len x.b.toNat
  simp; omega
theorem wsE_len (l : List PW) : (wsE l).length ≤ l.length * 38 := flatMap_le _ _ PW.enc_len l
theorem msE_len (l : List Mv) : (msE l).length ≤ l.length * 40 := flatMap_le _ _ Mv.enc_len l
theorem u8_append {xs ys : List Int} (h : U8s xs) (k : U8s ys) : U8s (xs ++ ys) := fun x hx => by
  rcases List.mem_append.1 hx with hx | hx
  · exact h x hx
  · exact k x hx
theorem u8_uintB (n : Nat) : U8s (uintB n) := uintB_u8 n
theorem u8_flat {α : Type} {f : α → List Int} {l : List α} (h : ∀ a ∈ l, U8s (f a)) : U8s (l.flatMap f) := fun x hx => by
  obtain ⟨a, ha, hx⟩ := List.mem_flatMap.1 hx
  exact h a ha x hx
theorem PW.enc_u8 {x : PW} (h : x.Ok) : U8s x.enc := u8_append (u8_append (u8_append (u8_uintB _) (u8_uintB _)) (u8_uintB _)) h.d
theorem Mv.enc_u8 (x : Mv) : U8s x.enc := u8_append (u8_append (u8_append (u8_uintB _) (u8_uintB _)) (u8_uintB _)) (u8_uintB _)
theorem payR_u8 {r : Rec} (h : r.Ok) : U8s (payR r) :=
  u8_append (u8_append (u8_append (u8_append (u8_append (u8_append (u8_append (u8_uintB _) (u8_uintB _)) (u8_uintB _)) (u8_flat fun a ha => PW.enc_u8 (h.ws a ha))) (u8_uintB _)) (u8_flat fun a _ => Mv.enc_u8 a)) (u8_uintB _)) h.note
/-- What is known of a valid record. -/
structure Vld (r : Rec) : Prop where
  seq : 1 ≤ r.seq
  nw : r.ws.length ≤ 64
  nm : r.ms.length ≤ 64
  nn : r.note.length ≤ 256
  ws : ∀ x ∈ r.ws, 0 ≤ x.g ∧ x.g < 4096 ∧ 0 ≤ x.p ∧ x.p < 16
  ms : ∀ x ∈ r.ms, (0 ≤ x.g ∧ x.g < 4096 ∧ 0 ≤ x.p ∧ x.p < 16) ∧ -1 ≤ x.k ∧ x.k < 60 ∧ 0 ≤ x.b ∧ x.b < 65536
theorem validR_vld {r : Rec} (h : validR r = true) : Vld r := by
  unfold validR wsB msB at h
  simp only [Bool.and_eq_true, decide_eq_true_eq, List.all_eq_true] at h
  obtain ⟨⟨⟨⟨⟨h1, h2⟩, h3⟩, h4⟩, h5⟩, h6⟩ := h
  refine ⟨h1, h2, h3, h4, fun x hx => ?_, fun x hx => ?_⟩
  · have := h5 x hx
    unfold PW.ok pieceB at this
    simp only [Bool.and_eq_true, decide_eq_true_eq] at this
    omega
  · have := h6 x hx
    unfold Mv.ok pieceB placeB at this
    simp only [Bool.and_eq_true, decide_eq_true_eq] at this
    obtain ⟨⟨⟨⟨a1, a2⟩, a3⟩, a4⟩, a5⟩ := this
    refine ⟨⟨a1, a2, a3, a4⟩, ?_⟩
    split at a5
    · simp at a5; omega
    · simp only [Bool.and_eq_true, decide_eq_true_eq] at a5; omega
theorem payR_len {r : Rec} (h : Vld r) : (payR r).length ≤ 6000 := by
  unfold payR
  have h1 := wsE_len r.ws; have h2 := msE_len r.ms
  have u1 := uintB_len r.gen; have u2 := uintB_len r.seq; have u3 := uintB_len r.ws.length; have u4 := uintB_len r.ms.length; have u5 := uintB_len r.note.length
  have := h.nw; have := h.nm; have := h.nn
  simp only [List.length_append]
  omega
/-- Where a record lies: the values of its fields, read below block B. -/
structure RecR (w : World) (B : Nat) (r : Rec) (A : Option Addr) (c : Nat) (D : Option Addr) (d : Nat) (N : Option Addr) (n : Nat) : Prop where
  ws : Rd w B A (flatW r.ws)
  ms : Rd w B D (flatM r.ms)
  note : Rd w B N (r.note.map (Value.int .u8))
theorem RecR.below {w w' : World} {B C : Nat} {r : Rec} {A D N : Option Addr} {c d n : Nat} (h : RecR w B r A c D d N n) (hb : Below C w w') (hC : B ≤ C) : RecR w' B r A c D d N n := ⟨h.ws.below hb hC, h.ms.below hb hC, h.note.below hb hC⟩
theorem RecR.more {w : World} {B B' : Nat} {r : Rec} {A D N : Option Addr} {c d n : Nat} (h : RecR w B r A c D d N n) (hB : B ≤ B') : RecR w B' r A c D d N n := ⟨h.ws.more hB, h.ms.more hB, h.note.more hB⟩
theorem RecR.up {w w' : World} {r : Rec} {A D N : Option Addr} {c d n : Nat} (h : RecR w w.heap.size r A c D d N n) (hb : Below w.heap.size w w') : RecR w' w'.heap.size r A c D d N n := (h.below hb (Nat.le_refl _)).more hb.size
end Go.Proofs.Ytndifkjenjfjpaa

/-
  WHAT IS SHOWN: plain facts on memory, of no program: two disks that share a power supply, and what keeps the one while the other one works. Conditions: as each theorem names them.
-/
import Derived.Test.YtaggiceejcegdaaGreatNc21
namespace Go.Proofs.YtaggiceejcegdaaGreat
set_option linter.unusedVariables false
open Go.RowKit
def Bd.on (n N : Nat) (S : Nat → Prop) (h : n ≤ N) : Bd:=⟨n,fun k=>k < N ∧ ¬ S k,N,fun _ h=>h.1,h⟩
theorem Bd.on_has {n N : Nat} {S : Nat → Prop} {h : n ≤ N} {k : Nat} (hk : k < N) : (Bd.on n N S h).has k ↔ n ≤ k ∧ S k:=by
 refine ⟨fun ⟨h1,h2⟩=>⟨h1,?_⟩,fun ⟨h1,h2⟩=>⟨h1,fun h3=>h3.2 h2⟩⟩
 by_cases hs : S k
 ·exact hs
 ·exact absurd (show (Bd.on n N S h).X k from ⟨hk,hs⟩) h2
section
variable {w w' : World} {B C : Bd} {q pw p : Nat} {g : Geo} {F : List Flt} {s : DS} {P P' : Pow} {LM : List Sec} {O : List OpV} {FA : Option Addr} {fc : Nat}
theorem PowM.lt (h : PowM w B pw P) : pw < w.heap.size:=(IsT.own h.obj).lt
theorem PowM.low (h : PowM w B pw P) : B.has pw:=⟨row_low h.obj,h.px⟩
theorem PowM.mono (h : PowM w B pw P) (hs : Bd.Sub w.heap.size B C) : PowM w C pw P:=⟨own_mono h.obj hs.1,(hs.2 _ h.lt h.low).2⟩
theorem Dsk.mono (h : Dsk w B q pw g F s LM O p FA fc) (hs : Bd.Sub w.heap.size B C) : Dsk w C q pw g F s LM O p FA fc:=
 ⟨own_mono h.obj hs.1,(hs.2 _ (IsT.own h.obj).lt ⟨row_low h.obj,h.px⟩).2,h.c.mono hs,h.fl⟩
theorem DPm.mono (h : DPm w B q pw g F s P LM O) (hs : Bd.Sub w.heap.size B C) (hC : C.top ≤ w.heap.size) : DPm w C q pw g F s P LM O:=by
 obtain ⟨⟨p,FA,fc,hd⟩,hp,hf,hb,_⟩:=h
 exact ⟨⟨p,FA,fc,hd.mono hs⟩,hp.mono hs,hf,hb,hC⟩
theorem CacheM.shut (h : CacheM w B p g LM O) {ts : List TypeId} (hk : KeptT ts C w w') (ht : 197 ∉ ts ∧ 3 ∉ ts ∧ 26 ∉ ts ∧ 5 ∉ ts) (tp : IsT 120 w pw) (hd : ∀ k,k < w.heap.size → B.has k → C.has k → k = pw) : CacheM w' B p g LM O:=by
 obtain ⟨m1,b1,m2,b2,A,c,G,h⟩:=h
 have no : ∀ {k : Nat} {t : TypeId},IsT t w k → t ≠ 120 → B.has k → ¬ (C.has k ∧ HasT ts w k):=fun hk' hne hB hC=>(hk'.ne tp hne) (hd _ hk'.lt hB hC.1)
 exact ⟨m1,b1,m2,b2,A,c,G,h.kept hk (no h.typ (by decide) h.low) (KeptT.no h.med1.types.1 ht.1) (no h.med1.types.2 (by decide) h.lb1) (KeptT.no h.med2.types.1 ht.1) (no h.med2.types.2 (by decide) h.lb2)
  (fun k hk'=>no (h.typA k hk').1 (by decide) (h.typA k hk').2) (FreeF.all ht.2.1 ht.2.2.1 ht.2.2.2)⟩
theorem Dsk.shut (h : Dsk w B q pw g F s LM O p FA fc) (hk : KeptT DAT C w w') (tp : IsT 120 w pw) (hd : ∀ k,k < w.heap.size → B.has k → C.has k → k = pw) : Dsk w' B q pw g F s LM O p FA fc:=
 ⟨own_kept h.obj hk (fun k e=>by
    simp [Value.ownBlock] at e; subst e
    exact fun hC=>((IsT.own h.obj).ne tp (by decide)) (hd _ (IsT.own h.obj).lt ⟨row_low h.obj,h.px⟩ hC.1)),h.px,h.c.shut hk (by unfold DAT; decide) tp hd,h.fl.kept hk (KeptT.free (by unfold DAT; decide))⟩
theorem DPm.other {D : Bd} (h : DPm w B q pw g F s P LM O) (hp : PowM w' C pw P') (hk : KeptT DAT C w w') (hs : Bd.Sub w.heap.size B D) (hn : C.n = D.n) (hD : D.top ≤ w'.heap.size) (hd : ∀ k,k < w.heap.size → D.has k → C.has k → k = pw) : DPm w' D q pw g F s P' LM O:=by
 obtain ⟨⟨p,FA,fc,hd'⟩,hp',hf,hb,hB⟩:=h
 exact ⟨⟨p,FA,fc,(hd'.mono hs).shut hk (IsT.own hp'.obj) hd⟩,⟨by rw [← hn]; exact hp.obj,(hp'.mono hs).px⟩,hf,hb,hD⟩
end
structure Two (w : World) (n pw q0 q1 : Nat) (g : Geo) (F0 F1 : List Flt) (s0 s1 : DS) (P : Pow) (L0 L1 : List Sec) (O0 O1 : List OpV) (S0 S1 : Nat → Prop) (hn : n ≤ w.heap.size) : Prop where
 a : DPm w (Bd.on n w.heap.size S0 hn) q0 pw g F0 s0 P L0 O0
 b : DPm w (Bd.on n w.heap.size S1 hn) q1 pw g F1 s1 P L1 O1
 no : ∀ k,k < w.heap.size → S0 k → S1 k → k = pw
def TwoM (w : World) (n pw q0 q1 : Nat) (g : Geo) (F0 F1 : List Flt) (s0 s1 : DS) (P : Pow) (L0 L1 : List Sec) (O0 O1 : List OpV) : Prop:=∃ S0 S1 hn,Two w n pw q0 q1 g F0 F1 s0 s1 P L0 L1 O0 O1 S0 S1 hn
section
variable {w w' : World} {n pw q0 q1 : Nat} {g : Geo} {F0 F1 : List Flt} {s0 s1 : DS} {P : Pow} {L0 L1 : List Sec} {O0 O1 : List OpV} {S0 S1 : Nat → Prop} {hn : n ≤ w.heap.size}
end
end Go.Proofs.YtaggiceejcegdaaGreat

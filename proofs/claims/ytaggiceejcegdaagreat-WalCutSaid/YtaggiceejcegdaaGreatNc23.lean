/-
  WHAT IS SHOWN: plain facts on memory, of no program: several disks that share a power supply. Conditions: as each theorem names them.
-/
import Derived.Test.YtaggiceejcegdaaGreatNc21
import Derived.Test.YtaggiceejcegdaaGreatNc22
namespace Go.Proofs.YtaggiceejcegdaaGreat
set_option linter.unusedVariables false
open Go.RowKit
theorem own_ty {w w' : World} {ts : List TypeId} {B : Bd} {base size n : Nat} {e : TypeId} {v : Value} {xs : List Value} (h : w.ownsRow base e size v n xs) (hk : KeptT ts B w w') (he : e ∉ ts) : w'.ownsRow base e size v n xs:=by
 refine own_kept h hk (fun b hb=>?_)
 rcases h.2 with ⟨h2,_⟩ | ⟨g,cap,cur,h2,_,h4,_⟩
 ·rw [h2] at hb; cases hb
 ·rw [h2] at hb; injection hb with hb; subst hb; exact KeptT.no (IsT.of h4) he
abbrev DM (w : World) (B : Bd) (q pw : Nat) (g : Geo) (F : List Flt) (d : DC) : Prop:=DPm w B q pw g F d.s d.P d.L d.O
structure Many (w : World) (n pw : Nat) (g : Geo) (qs : List Nat) (m : MS) (S : Nat → Nat → Prop) (hn : n ≤ w.heap.size) : Prop where
 disk : ∀ (i : Nat) (v : DX) (q : Nat),m.ds[i]? = some v → qs[i]? = some q → DM w (Bd.on n w.heap.size (S i) hn) q pw g v.F (m.dc v)
 pow : PowM w (Bd.of n) pw m.P
 no : ∀ i j k,i < m.ds.length → j < m.ds.length → i ≠ j → k < w.heap.size → S i k → S j k → k = pw
 len : qs.length = m.ds.length
def ManyM (w : World) (n pw : Nat) (g : Geo) (qs : List Nat) (m : MS) : Prop:=∃ S hn,Many w n pw g qs m S hn
section
variable {w w' : World} {B C D : Bd} {n q pw : Nat} {g : Geo} {qs : List Nat} {m : MS} {F : List Flt} {s : DS} {P P' : Pow} {L : List Sec} {O : List OpV} {S : Nat → Nat → Prop} {hn : n ≤ w.heap.size}
theorem DPm.moveN (h : DPm w B q pw g F s P L O) (hb : Below w.heap.size w w') (hs : Bd.Sub w.heap.size B C) (hC : C.top ≤ w'.heap.size) : DPm w' C q pw g F s P L O:=by
 obtain ⟨⟨p,FA,fc,hd⟩,hp,hf,hsb,hB⟩:=h
 exact ⟨⟨p,FA,fc,(hd.mono hs).below0 hb⟩,(hp.mono hs).below0 hb,hf,hsb,hC⟩
theorem DPm.moveT {ts : List TypeId} (h : DPm w B q pw g F s P L O) (hk : KeptT ts D w w') (ht : ∀ t,t ∈ [180,197,216,182,3,26,5] → t ∉ ts) (h1 : 127 ∉ ts) (h2 : 138 ∉ ts) (h3 : 120 ∉ ts) (hs : Bd.Sub w.heap.size B C) (hC : C.top ≤ w'.heap.size) : DPm w' C q pw g F s P L O:=by
 obtain ⟨⟨p,FA,fc,hd⟩,hp,hf,hsb,hB⟩:=h
 exact ⟨⟨p,FA,fc,(hd.mono hs).keptT hk ht h1 h2⟩,(hp.mono hs).keptT hk h3,hf,hsb,hC⟩
theorem Many.step {i : Nat} {v : DX} {d : DC} (h : Many w n pw g qs m S hn) (hv : m.ds[i]? = some v) (hq : qs[i]? = some q) (ha : DM w' (Bd.on n w.heap.size (S i) hn) q pw g v.F d) (hk : KeptT DAT (Bd.on n w.heap.size (S i) hn) w w') :
  ManyM w' n pw g qs (m.put i v.F d):=by
 have hsz:=hk.size
 have hi : i < m.ds.length:=(List.getElem?_eq_some_iff.1 hv).1
 have hP:=ha.p
 refine ⟨fun j k=>if j = i then (S i k ∨ w.heap.size ≤ k) else (S j k ∧ k < w.heap.size),Nat.le_trans hn hsz,?_,?_,?_,by rw [h.len]; simp [MS.put]⟩
 ·intro j u r hu hr
  by_cases hj : j = i
  ·subst hj
   unfold MS.put at hu
   rw [List.getElem?_set_self hi] at hu
   injection hu with hu
   subst hu
   rw [hq] at hr
   injection hr with hr
   subst hr
   refine DPm.mono ha ⟨Nat.le_refl _,fun k hk' hh=>?_⟩ (Nat.le_refl _)
   refine (Bd.on_has hk').2 ⟨hh.1,?_⟩
   rw [if_pos rfl]
   by_cases h2 : k < w.heap.size
   ·exact .inl ((Bd.on_has h2).1 hh).2
   ·exact .inr (by omega)
  ·unfold MS.put at hu
   rw [List.getElem?_set_ne (Ne.symm hj)] at hu
   have hjl : j < m.ds.length:=(List.getElem?_eq_some_iff.1 hu).1
   refine DPm.other (h.disk j u r hu hr) hP hk ⟨Nat.le_refl _,fun k hk' hh=>?_⟩ rfl (Nat.le_refl _) (fun k hk' h1 h0=>?_)
   ·refine (Bd.on_has (by omega)).2 ⟨hh.1,?_⟩
    rw [if_neg hj]
    exact ⟨((Bd.on_has hk').1 hh).2,hk'⟩
   ·have h1':=((Bd.on_has (by omega)).1 h1).2
    rw [if_neg hj] at h1'
    exact h.no j i k hjl hi hj hk' h1'.1 ((Bd.on_has hk').1 h0).2
 ·exact ⟨hP.obj,fun h=>h⟩
 ·intro a b k ha' hb' hab hk' h1 h2
  unfold MS.put at ha' hb'
  rw [List.length_set] at ha' hb'
  by_cases haI : a = i
  ·subst haI
   rw [if_pos rfl] at h1
   rw [if_neg (fun e=>hab e.symm)] at h2
   rcases h1 with h1 | h1
   ·exact h.no a b k ha' hb' hab h2.2 h1 h2.1
   ·omega
  ·rw [if_neg haI] at h1
   by_cases hbI : b = i
   ·subst hbI
    rw [if_pos rfl] at h2
    rcases h2 with h2 | h2
    ·exact h.no a b k ha' hb' hab h1.2 h1.1 h2
    ·omega
   ·rw [if_neg hbI] at h2
    exact h.no a b k ha' hb' hab h1.2 h1.1 h2.1
theorem ManyM.at_ {i : Nat} {v : DX} (h : ManyM w n pw g qs m) (hv : m.ds[i]? = some v) (hq : qs[i]? = some q) : ∃ B : Bd,B.n = n ∧ DM w B q pw g v.F (m.dc v) ∧ ∀ w' d,DM w' B q pw g v.F d → KeptT DAT B w w' → ManyM w' n pw g qs (m.put i v.F d):=by
 obtain ⟨S,hn,h⟩:=h
 exact ⟨_,rfl,h.disk i v q hv hq,fun w' d hd hk=>h.step hv hq hd hk⟩
theorem Many.add (h : Many w n pw g qs m S hn) (hb : Below w.heap.size w w') (ha : DPm w' (Bd.on n w.heap.size (fun k=>k = pw) hn) q pw g F s m.P L O) : ManyM w' n pw g (qs ++ [q]) ⟨m.ds ++ [⟨F,s,L,O⟩],m.P⟩:=by
 have hsz:=hb.size
 refine ⟨fun j k=>if j < m.ds.length then (S j k ∧ k < w.heap.size) else (k = pw ∨ w.heap.size ≤ k),Nat.le_trans hn hsz,?_,?_,?_,by simp [h.len]⟩
 ·intro j u r hu hr
  by_cases hj : j < m.ds.length
  ·simp only at hu
   rw [List.getElem?_append_left hj] at hu
   rw [List.getElem?_append_left (by rw [h.len]; exact hj)] at hr
   refine DPm.moveN (h.disk j u r hu hr) hb ⟨Nat.le_refl _,fun k hk' hh=>?_⟩ (Nat.le_refl _)
   refine (Bd.on_has (by omega)).2 ⟨hh.1,?_⟩
   rw [if_pos hj]
   exact ⟨((Bd.on_has hk').1 hh).2,hk'⟩
  ·have hj2 : j = m.ds.length:=by
    have:=(List.getElem?_eq_some_iff.1 hu).1
    simp only [List.length_append,List.length_singleton] at this
    omega
   subst hj2
   simp only at hu
   rw [List.getElem?_append_right (Nat.le_refl _),Nat.sub_self] at hu
   rw [List.getElem?_append_right (by rw [h.len]; exact Nat.le_refl _),h.len,Nat.sub_self] at hr
   injection hu with hu
   subst hu
   injection hr with hr
   subst hr
   refine DPm.mono ha ⟨Nat.le_refl _,fun k hk' hh=>?_⟩ (Nat.le_refl _)
   refine (Bd.on_has hk').2 ⟨hh.1,?_⟩
   rw [if_neg (Nat.lt_irrefl _)]
   by_cases h2 : k < w.heap.size
   ·exact .inl ((Bd.on_has h2).1 hh).2
   ·exact .inr (by omega)
 ·exact h.pow.below0 hb
 ·intro a b k ha' hb' hab hk' h1 h2
  simp only [List.length_append,List.length_singleton] at ha' hb'
  by_cases haI : a < m.ds.length
  ·rw [if_pos haI] at h1
   by_cases hbI : b < m.ds.length
   ·rw [if_pos hbI] at h2
    exact h.no a b k haI hbI hab h1.2 h1.1 h2.1
   ·rw [if_neg hbI] at h2
    rcases h2 with h2 | h2
    ·exact h2
    ·omega
  ·rw [if_neg haI] at h1
   by_cases hbI : b < m.ds.length
   ·rw [if_pos hbI] at h2
    rcases h1 with h1 | h1
    ·exact h1
    ·omega
   ·omega
theorem ManyM.new (h : ManyM w n pw g qs m) : ∃ B : Bd,B.top ≤ w.heap.size ∧ PowM w B pw m.P ∧ ∀ w' q F s L O,Below w.heap.size w w' → DPm w' B q pw g F s m.P L O → ManyM w' n pw g (qs ++ [q]) ⟨m.ds ++ [⟨F,s,L,O⟩],m.P⟩:=by
 obtain ⟨S,hn,h⟩:=h
 refine ⟨Bd.on n w.heap.size (fun k=>k = pw) hn,Nat.le_refl _,⟨h.pow.obj,fun hh=>hh.2 rfl⟩,fun w' q F s L O hb hd=>h.add hb hd⟩
theorem ManyM.below0 (h : ManyM w n pw g qs m) (hb : Below w.heap.size w w') : ManyM w' n pw g qs m:=by
 obtain ⟨S,hn,h⟩:=h
 refine ⟨fun j k=>S j k ∧ k < w.heap.size,Nat.le_trans hn hb.size,?_,h.pow.below0 hb,fun i j k hi hj hij _ h1 h2=>h.no i j k hi hj hij h1.2 h1.1 h2.1,h.len⟩
 intro j u r hu hr
 refine DPm.moveN (h.disk j u r hu hr) hb ⟨Nat.le_refl _,fun k hk' hh=>?_⟩ (Nat.le_refl _)
 exact (Bd.on_has (by have:=hb.size; omega)).2 ⟨hh.1,((Bd.on_has hk').1 hh).2,hk'⟩
theorem ManyM.types {ts : List TypeId} (h : ManyM w n pw g qs m) (hk : KeptT ts C w w') (ht : ∀ t,t ∈ [180,197,216,182,3,26,5] → t ∉ ts) (h1 : 127 ∉ ts) (h2 : 138 ∉ ts) (h3 : 120 ∉ ts) : ManyM w' n pw g qs m:=by
 obtain ⟨S,hn,h⟩:=h
 refine ⟨fun j k=>S j k ∧ k < w.heap.size,Nat.le_trans hn hk.size,?_,h.pow.keptT hk h3,fun i j k hi hj hij _ h1 h2=>h.no i j k hi hj hij h1.2 h1.1 h2.1,h.len⟩
 intro j u r hu hr
 refine DPm.moveT (h.disk j u r hu hr) hk ht h1 h2 h3 ⟨Nat.le_refl _,fun k hk' hh=>?_⟩ (Nat.le_refl _)
 exact (Bd.on_has (by have:=hk.size; omega)).2 ⟨hh.1,((Bd.on_has hk').1 hh).2,hk'⟩
theorem ManyM.none_ (h : PowM w (Bd.of n) pw P) (hn : n ≤ w.heap.size) : ManyM w n pw g [] ⟨[],P⟩:=
 ⟨fun _ _=>False,hn,fun i v q hv=>by simp at hv,h,fun i j k hi=>by simp at hi,rfl⟩
theorem ManyM.low (h : ManyM w n pw g qs m) : n ≤ w.heap.size:=by obtain ⟨_,hn,_⟩:=h; exact hn
theorem ManyM.len (h : ManyM w n pw g qs m) : qs.length = m.ds.length:=by obtain ⟨_,_,h⟩:=h; exact h.len
end
end Go.Proofs.YtaggiceejcegdaaGreat

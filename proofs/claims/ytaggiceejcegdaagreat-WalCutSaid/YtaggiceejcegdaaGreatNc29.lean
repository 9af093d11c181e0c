/-
  WHAT IS SHOWN: what New of the reference's disk returns and leaves. plain facts on memory, of no program: two disks of the reference that share a power supply. plain facts on memory, of no program: several disks of the reference that share a power supply. what try of wal returns and leaves: the operation is called as long as it is busy. what the closures of Write and Flush of wal return and leave. Conditions: as each theorem names them.
-/
import Derived.Test.YtaggiceejcegdaaGreatNc28
import Derived.Deep.RegionHeld3
import Derived.Test.YtaggiceejcegdaaGreatNc23
import Derived.Test.YtaggiceejcegdaaGreatNc17
namespace Go.Proofs.YtaggiceejcegdaaGreat
set_option linter.unusedVariables false
open Go.RowKit
theorem step_append_own {P : Program} {w : World} {ops : Array Oper} {o : Oper} {a : Act} {K : Act → World → Prop} {Q : Exit → Act → World → Prop} {E : Prop} (hgd : o.guard = none) (s x : Operand) (t : TypeId)
  (ho : o.op = .call { callee:=.builtin .append,args:=#[s,x],argTypes:=#[t,t] })
  (base : Nat) (e : TypeId) (i : TypeInfo) (z : Value) (size bytes : Nat) (ht : P.underlying t = some (.slice e)) (hi : P.info? e = some i) (hz : i.zero = some z)
  (hsize : i.size = size) (hby : i.bytes = bytes) (hzs : z.cells.size = size) (hsz : 0 < size)
  (v : Value) (n : Nat) (xs : List Value) (hs : a.eval s = v) (hown : w.ownsRow base e size v n xs)
  (ad : Addr) (m c : Nat) (news : List Value) (hx : a.eval x = .slice (some ad) m c) (hl : news.length = m * size) (hnews : ∀ j u,news[j]? = some u → w.cell? (ad.add j) = some u) (h1 : ∀ u ∈ news,u.oneCell' = true)
  (h63 : n + m ≤ maxLen) (hbytes : (n + m) * bytes ≤ 140737488355328) (hbase : base ≤ w.heap.size)
  (h : ∀ v' w',w'.ownsRow base e size v' (n + m) (xs ++ news) → w.grownBy w' v.ownBlock → (v' = .slice none 0 0 ↔ v = .slice none 0 0 ∧ m = 0) → K (a.put o.dst v') w') :
  if Region.wanted o (yielded ops a.tmps) = true then Oper.wp P o a w K Q else E:=by
 have hw : Region.wanted o (yielded ops a.tmps) = true:=by simp [Region.wanted,hgd]
 rw [if_pos hw]
 exact wp_append_own w s x t ho base e i z size bytes ht hi hz hsize hby hzs hsz v n xs hs hown ad m c news hx hl hnews h1 h63 hbytes hbase h
theorem rcache_grown {w w' : World} {B : Bd} {p b base : Nat} {g : Geo} {LM : List Sec} {O : List OpV} (h : RCacheM w B p g LM O) (hg : w.grownBy w' (Value.slice (some ⟨b,0,none⟩) 0 0).ownBlock) (hr : w.ownsRow base 138 3 (.slice (some ⟨b,0,none⟩) 0 0) 0 []) : RCacheM w' B p g LM O:=by
 have hk:=(Kept.refl (fun k=>k = b) w).grown hg (fun i _ e=>by simp [Value.ownBlock] at e; omega)
 exact h.keptT (ts:=[138]) (B':=Bd.of 0) (KeptT.of hk (fun k _ e=>by have e' : k = b:=e; subst e'; exact ⟨⟨Nat.zero_le _,fun h=>h⟩,HasT.mem (IsT.own hr) (by simp)⟩)) (by decide)
def RDNewPost (w : World) (B : Bd) (pw : Nat) (g : Geo) (F : List Flt) (P : Pow) (e : Ending) (w' : World) : Prop:=
 ∃ q,e = .returned (.tuple #[.pointer (some ⟨q,0,none⟩),.int .i64 0]) ∧ RDPm w' B q pw g F (newS P) P (blankL g) [] ∧ Below w.heap.size w w'
section
variable {w w' : World} {B : Bd} {pw : Nat} {g : Geo} {P R : Pow}
set_option maxRecDepth 100000 in
set_option maxHeartbeats 4000000 in
theorem rdnew_yes (l : List Flt) (A : Option Addr) (c : Nat) (hv : validG g = true) (hvl : validF l = true) (hr : Rd w w.heap.size A (flatF l)) (hn : l.length * 24 ≤ 140737488355328) (hp : RPow w B pw R) (hrel : RelP P R) (hB : B.top ≤ w.heap.size) :
  Calls Tryz.prog 46 #[.agg #[.int .i64 g.random,.int .i64 g.bands,.int .i64 g.tracks,.int .i64 g.sectors,.int .i64 g.overlap],.slice A l.length c,.pointer (some ⟨pw,0,none⟩)] w (RDNewPost w B pw g l P):=by
 have HF:=Lib.hid (blank_fit ((validG_iff g).1 hv))
 have HN:=Lib.hid (fun W=>rnew_yes g hv W)
 have hb0 : Below w.heap.size w (w.alloc (.cells #[.int .i64 g.random,.int .i64 g.bands,.int .i64 g.tracks,.int .i64 g.sectors,.int .i64 g.overlap] 97)):=(Below.refl _ _).alloc (Nat.le_refl _) _
 have HFV : Hid (∀ W,Below w.heap.size w W → Calls Tryz.prog 53 #[.slice A l.length c] W fun e w'=>e = .returned (.bool true) ∧ Below W.heap.size W w'):=by
  unfold Hid; intro W hW; have:=rfvalid_any l A c W ((hr.below hW (Nat.le_refl _)).more hW.size) (by omega); rw [hvl] at this; exact this
 have HPW : Hid (∀ W,Below w.heap.size w W → RPow W B pw R ∧ W.cell? ⟨pw,3,none⟩ = some (.int .i64 R.fails)):=by
  unfold Hid; intro W hW; exact ⟨hp.below0 hW,(hp.below0 hW).cells.2.2.2⟩
 have HRD:=Lib.hid hr
 have HRL:=Lib.hid hrel
 have hlp:=(IsT.own hp.obj).lt
 have pw0:=hp.cells.2.2.2
 clear hv hvl hr hp hrel
 go_enter Tryz.func46,Tryz.ntmps46
 go_wp2_with fail
 refine (HN.out _).mono ?_
 rintro e w1 ⟨m,bs,rfl,hm,hmb,hbb,hb1⟩
 have HM:=Lib.hid hm
 have PG:=(Cells5.new w 97 (.int .i64 g.random) (.int .i64 g.bands) (.int .i64 g.tracks) (.int .i64 g.sectors) (.int .i64 g.overlap)).below hb1 (by simp)
 have hbl1:=hb0.trans (hb1.mono hb0.size)
 clear hm
 go_wp2_with fail
 refine (HFV.out _ hbl1).mono ?_
 rintro e w2 ⟨rfl,hb2⟩
 have hbl2:=hbl1.trans (hb2.mono hbl1.size)
 have hz1 : w.heap.size < w1.heap.size:=by have:=hb1.size; simp at this; omega
 have PG2:=PG.below hb2 hz1
 have hz2 : w.heap.size < w2.heap.size:=Nat.lt_of_lt_of_le hz1 hb2.size
 have HM2:=Lib.hid (HM.out.below0 hb2)
 have p0:=PG2.c0; have p1:=PG2.c1; have p2:=PG2.c2; have p3:=PG2.c3; have p4:=PG2.c4
 have r3:=(HPW.out w2 hbl2).2
 have hlp2 : pw < w2.heap.size:=Nat.lt_of_lt_of_le hlp hbl2.size
 have HCN : Hid (∀ W,Below w2.heap.size w2 W → Calls Tryz.prog 78 #[.pointer (some ⟨m,0,none⟩)] W (RCNewPost W g (blankL g) [])):=by
  unfold Hid; intro W hW; exact rcnew_any (HM2.out.below0 hW) HF.out
 have hA0 : Below w2.heap.size w2 w2.drew:=(Below.refl _ _).drew
 have hB0 : Below w2.heap.size w2 (w2.drew.alloc (.cells #[] 138)):=((Below.refl w2.heap.size w2).drew).alloc (Nat.le_refl _) _
 have HFIN : Hid (∀ W p A4 c4,RCacheM W (Bd.of w2.heap.size) p g (blankL g) [] → RdT W 138 A4 (flatF l) → Below w2.heap.size w2 W →
   RDPm (W.alloc (.cells #[.int .i64 g.random,.int .i64 g.bands,.int .i64 g.tracks,.int .i64 g.sectors,.int .i64 g.overlap,.pointer (some ⟨p,0,none⟩),.slice A4 l.length c4,.pointer (some ⟨pw,0,none⟩),.int .u64 0,.bool false,.int .i64 R.fails,.int .i64 0,.int .i64 0,.int .i64 0,.int .i64 0,.int .i64 0] 145)) B W.heap.size pw g l (newS P) P (blankL g) [] ∧
   Below w.heap.size w (W.alloc (.cells #[.int .i64 g.random,.int .i64 g.bands,.int .i64 g.tracks,.int .i64 g.sectors,.int .i64 g.overlap,.pointer (some ⟨p,0,none⟩),.slice A4 l.length c4,.pointer (some ⟨pw,0,none⟩),.int .u64 0,.bool false,.int .i64 R.fails,.int .i64 0,.int .i64 0,.int .i64 0,.int .i64 0,.int .i64 0] 145))):=by
  unfold Hid; intro W p A4 c4 hc hr4 hW
  have hw24 : Below w.heap.size w W:=hbl2.trans (hW.mono hbl2.size)
  have hfe : R.fails = P.fails:=HRL.out.2.2.1.symm
  rw [hfe]
  have hb9 : Below W.heap.size W (W.alloc (.cells #[.int .i64 g.random,.int .i64 g.bands,.int .i64 g.tracks,.int .i64 g.sectors,.int .i64 g.overlap,.pointer (some ⟨p,0,none⟩),.slice A4 l.length c4,.pointer (some ⟨pw,0,none⟩),.int .u64 0,.bool false,.int .i64 P.fails,.int .i64 0,.int .i64 0,.int .i64 0,.int .i64 0,.int .i64 0] 145)):=(Below.refl _ _).alloc (Nat.le_refl _) _
  refine ⟨⟨⟨p,A4,c4,⟨?_,Bd.nx (Nat.le_trans hB hw24.size),?_,hr4.below0 hb9⟩⟩,⟨R,HRL.out,(HPW.out W hw24).1.below0 hb9⟩,HF.out,short_blank _,Nat.le_trans hB (hw24.trans (hb9.mono hw24.size)).size⟩,hw24.alloc hw24.size _⟩
  ·exact World.ownsRow_lit (base:=B.n) (e:=145) (size:=16) W _ 1 (Nat.le_trans B.le (Nat.le_trans hB hw24.size)) (by decide) rfl
  ·exact (hc.below0 hb9).mono (Bd.subOf (Nat.le_trans hB hbl2.size))
 clear PG PG2 pw0
 obtain ⟨i0,hi0,hy0,hy1,hy2⟩:=info_parts info_flt
 cases A with
 | none=>
   have hx:=HRD.out.at_none
   obtain rfl : l = []:=by cases l; rfl; simp [flatF,Flt.cells] at hx
   clear hx
   go_wp2
   go_region_held3 (fun W=>W.cell? ⟨w.heap.size,0,none⟩ = some (.int .i64 g.random) ∧ W.cell? ⟨w.heap.size,1,none⟩ = some (.int .i64 g.bands) ∧ W.cell? ⟨w.heap.size,2,none⟩ = some (.int .i64 g.tracks) ∧ W.cell? ⟨w.heap.size,3,none⟩ = some (.int .i64 g.sectors) ∧ W.cell? ⟨w.heap.size,4,none⟩ = some (.int .i64 g.overlap) ∧ W.cell? ⟨pw,3,none⟩ = some (.int .i64 R.fails))
    (first | (refine ⟨?_,?_,?_,?_,?_,?_⟩ <;> assumption) | (simp (maxDischargeDepth:=20) [World.cell?_alloc_some, *]; done))
    ((go_at_call 78; first | (refine (HCN.out _ hA0).mono ?_; rintro e w3 ⟨p,rfl,hp3,hb3⟩; have hw3 : Below w2.heap.size w2 w3:=hA0.trans hb3; have q0_w3:=(hw3.cell (p:=⟨w.heap.size,0,none⟩) hz2).trans p0; have q1_w3:=(hw3.cell (p:=⟨w.heap.size,1,none⟩) hz2).trans p1; have q2_w3:=(hw3.cell (p:=⟨w.heap.size,2,none⟩) hz2).trans p2; have q3_w3:=(hw3.cell (p:=⟨w.heap.size,3,none⟩) hz2).trans p3; have q4_w3:=(hw3.cell (p:=⟨w.heap.size,4,none⟩) hz2).trans p4; have q5_w3:=(hw3.cell (p:=⟨pw,3,none⟩) hlp2).trans r3; have HP3 : Hid (RCacheM w3 (Bd.of w2.heap.size) p g (blankL g) []):=hp3; clear hp3) | (refine (HCN.out _ hB0).mono ?_; rintro e w3 ⟨p,rfl,hp3,hb3⟩; have hw3 : Below w2.heap.size w2 w3:=hB0.trans (hb3.mono (by simp)); have q0_w3:=(hw3.cell (p:=⟨w.heap.size,0,none⟩) hz2).trans p0; have q1_w3:=(hw3.cell (p:=⟨w.heap.size,1,none⟩) hz2).trans p1; have q2_w3:=(hw3.cell (p:=⟨w.heap.size,2,none⟩) hz2).trans p2; have q3_w3:=(hw3.cell (p:=⟨w.heap.size,3,none⟩) hz2).trans p3; have q4_w3:=(hw3.cell (p:=⟨w.heap.size,4,none⟩) hz2).trans p4; have q5_w3:=(hw3.cell (p:=⟨pw,3,none⟩) hlp2).trans r3; have HP3 : Hid (RCacheM w3 (Bd.of w2.heap.size) p g (blankL g) []):=hp3.mono ⟨by show w2.heap.size ≤ _; simp [Bd.of],fun k _ hk=>⟨Nat.le_trans (by show w2.heap.size ≤ _; simp [Bd.of]) hk.1,fun h=>h⟩⟩; clear hp3)))
   ·have hbA : Below w3.heap.size w3 (w3.alloc (.cells #[] 138)):=(Below.refl _ _).alloc (Nat.le_refl _) _
    have HG:=Lib.hid (HFIN.out (w3.alloc (.cells #[] 138)) p (some ⟨w3.heap.size,0,none⟩) 0 (HP3.out.below0 hbA) (RdT.nil _ _ _) (hw3.trans (hbA.mono hw3.size)))
    rw [World.size_alloc] at HG
    rename_i hheld
    clear hheld
    go_wp2
    go_ret2
    exact ⟨_,rfl,HG.out⟩
   ·have HG:=Lib.hid (HFIN.out w3 p (some ⟨w2.heap.size,0,none⟩) 0 HP3.out (RdT.nil _ _ _) hw3)
    rename_i hheld
    clear hheld
    go_wp2
    go_ret2
    exact ⟨_,rfl,HG.out⟩
 | some a=>
   have hroA:=World.ownsRow_lit (base:=w2.heap.size) (e:=138) (size:=3) w2.drew #[] 0 (Nat.le_refl _) (by decide) rfl
   have HRO:=Lib.hid hroA
   have HLA:=Lib.hid (fun W (hW : Below w2.heap.size w2 W)=>((HRD.out.below (hbl2.trans (hW.mono hbl2.size)) (Nat.le_refl _)).at_add))
   clear hroA
   go_wp2
   go_region_held3 (fun W=>W.cell? ⟨w.heap.size,0,none⟩ = some (.int .i64 g.random) ∧ W.cell? ⟨w.heap.size,1,none⟩ = some (.int .i64 g.bands) ∧ W.cell? ⟨w.heap.size,2,none⟩ = some (.int .i64 g.tracks) ∧ W.cell? ⟨w.heap.size,3,none⟩ = some (.int .i64 g.sectors) ∧ W.cell? ⟨w.heap.size,4,none⟩ = some (.int .i64 g.overlap) ∧ W.cell? ⟨pw,3,none⟩ = some (.int .i64 R.fails))
    (first | (refine ⟨?_,?_,?_,?_,?_,?_⟩ <;> assumption) | (simp (maxDischargeDepth:=20) [World.cell?_alloc_some, *]; done))
    ((first
    | (go_at_call 78; first
      | (refine (HCN.out _ hA0).mono ?_; rintro e w3 ⟨p,rfl,hp3,hb3⟩; have hw3 : Below w2.heap.size w2 w3:=hA0.trans hb3; have q0_w3:=(hw3.cell (p:=⟨w.heap.size,0,none⟩) hz2).trans p0; have q1_w3:=(hw3.cell (p:=⟨w.heap.size,1,none⟩) hz2).trans p1; have q2_w3:=(hw3.cell (p:=⟨w.heap.size,2,none⟩) hz2).trans p2; have q3_w3:=(hw3.cell (p:=⟨w.heap.size,3,none⟩) hz2).trans p3; have q4_w3:=(hw3.cell (p:=⟨w.heap.size,4,none⟩) hz2).trans p4; have q5_w3:=(hw3.cell (p:=⟨pw,3,none⟩) hlp2).trans r3; have HP3 : Hid (RCacheM w3 (Bd.of w2.heap.size) p g (blankL g) []):=hp3; have HRB:=Lib.hid (World.ownsRow_lit (base:=w3.heap.size) (e:=138) (size:=3) w3 #[] 0 (Nat.le_refl _) (by decide) rfl); clear hp3)
      | (refine (HCN.out _ hB0).mono ?_; rintro e w3 ⟨p,rfl,hp3,hb3⟩; have hw3 : Below w2.heap.size w2 w3:=hB0.trans (hb3.mono (by simp)); have q0_w3:=(hw3.cell (p:=⟨w.heap.size,0,none⟩) hz2).trans p0; have q1_w3:=(hw3.cell (p:=⟨w.heap.size,1,none⟩) hz2).trans p1; have q2_w3:=(hw3.cell (p:=⟨w.heap.size,2,none⟩) hz2).trans p2; have q3_w3:=(hw3.cell (p:=⟨w.heap.size,3,none⟩) hz2).trans p3; have q4_w3:=(hw3.cell (p:=⟨w.heap.size,4,none⟩) hz2).trans p4; have q5_w3:=(hw3.cell (p:=⟨pw,3,none⟩) hlp2).trans r3; have HP3 : Hid (RCacheM w3 (Bd.of w2.heap.size) p g (blankL g) []):=hp3.mono ⟨by show w2.heap.size ≤ _; simp [Bd.of],fun k _ hk=>⟨Nat.le_trans (by show w2.heap.size ≤ _; simp [Bd.of]) hk.1,fun h=>h⟩⟩; have HRB:=Lib.hid (own_kept HRO.out (belKept0 (S:=fun _=>False) hb3) (fun _ _ h=>h)); clear hp3)
      | (refine (HCN.out _ hw4).mono ?_; rintro e w3 ⟨p,rfl,hp3,hb3⟩; have hw3 : Below w2.heap.size w2 w3:=hw4.trans (hb3.mono hw4.size); have q0_w3:=(hw3.cell (p:=⟨w.heap.size,0,none⟩) hz2).trans p0; have q1_w3:=(hw3.cell (p:=⟨w.heap.size,1,none⟩) hz2).trans p1; have q2_w3:=(hw3.cell (p:=⟨w.heap.size,2,none⟩) hz2).trans p2; have q3_w3:=(hw3.cell (p:=⟨w.heap.size,3,none⟩) hz2).trans p3; have q4_w3:=(hw3.cell (p:=⟨w.heap.size,4,none⟩) hz2).trans p4; have q5_w3:=(hw3.cell (p:=⟨pw,3,none⟩) hlp2).trans r3; have HGG:=Lib.hid (HFIN.out w3 p A4 c4 (hp3.mono ⟨hw4.size,fun k _ hk=>⟨Nat.le_trans hw4.size hk.1,fun h=>h⟩⟩) (HR4.out.below0 hb3) hw3); clear hp3))
    | (refine step_append_own rfl _ _ 48 rfl w2.heap.size 138 i0 _ 3 24 Tryz.underlying48 hi0 hy0 hy1 hy2 rfl (by decide) (.slice (some ⟨w2.heap.size,0,none⟩) 0 0) 0 [] rfl HRO.out a l.length c (flatF l) rfl (flatF_len l) (HLA.out _ hB0) (flatF_one l) (by unfold maxLen; omega) (by omega) (by simp) ?_
       intro v4 w4 hown hgrow _
       try simp only [Nat.zero_add,List.nil_append] at hown
       obtain ⟨A4,c4,hv⟩:=own_form hown
       subst hv
       have hw4 : Below w2.heap.size w2 w4:=hB0.grown hgrow (by simp) (fun k hk=>by simp [Value.ownBlock] at hk; omega)
       have q0_w4:=(hw4.cell (p:=⟨w.heap.size,0,none⟩) hz2).trans p0; have q1_w4:=(hw4.cell (p:=⟨w.heap.size,1,none⟩) hz2).trans p1; have q2_w4:=(hw4.cell (p:=⟨w.heap.size,2,none⟩) hz2).trans p2; have q3_w4:=(hw4.cell (p:=⟨w.heap.size,3,none⟩) hz2).trans p3; have q4_w4:=(hw4.cell (p:=⟨w.heap.size,4,none⟩) hz2).trans p4; have q5_w4:=(hw4.cell (p:=⟨pw,3,none⟩) hlp2).trans r3
       have HR4:=Lib.hid (RdT.of_own hown)
       clear hown hgrow)
    | (refine step_append_own rfl _ _ 48 rfl w3.heap.size 138 i0 _ 3 24 Tryz.underlying48 hi0 hy0 hy1 hy2 rfl (by decide) (.slice (some ⟨w3.heap.size,0,none⟩) 0 0) 0 [] rfl HRB.out a l.length c (flatF l) rfl (flatF_len l) (HLA.out _ (hw3.alloc hw3.size _)) (flatF_one l) (by unfold maxLen; omega) (by omega) (by simp) ?_
       intro v4 w4 hown hgrow _
       try simp only [Nat.zero_add,List.nil_append] at hown
       obtain ⟨A4,c4,hv⟩:=own_form hown
       subst hv
       have hb4 : Below w3.heap.size w3 w4:=((Below.refl _ _).alloc (Nat.le_refl _) _).grown hgrow (by simp) (fun k hk=>by simp [Value.ownBlock] at hk; omega)
       have hw4 : Below w2.heap.size w2 w4:=hw3.trans (hb4.mono hw3.size)
       have q0_w4:=(hw4.cell (p:=⟨w.heap.size,0,none⟩) hz2).trans p0; have q1_w4:=(hw4.cell (p:=⟨w.heap.size,1,none⟩) hz2).trans p1; have q2_w4:=(hw4.cell (p:=⟨w.heap.size,2,none⟩) hz2).trans p2; have q3_w4:=(hw4.cell (p:=⟨w.heap.size,3,none⟩) hz2).trans p3; have q4_w4:=(hw4.cell (p:=⟨w.heap.size,4,none⟩) hz2).trans p4; have q5_w4:=(hw4.cell (p:=⟨pw,3,none⟩) hlp2).trans r3
       have HGG:=Lib.hid (HFIN.out w4 p A4 c4 (HP3.out.below0 hb4) (RdT.of_own hown) hw4)
       clear hown hgrow)
    | (refine step_append_own rfl _ _ 48 rfl w2.heap.size 138 i0 _ 3 24 Tryz.underlying48 hi0 hy0 hy1 hy2 rfl (by decide) (.slice (some ⟨w2.heap.size,0,none⟩) 0 0) 0 [] rfl HRB.out a l.length c (flatF l) rfl (flatF_len l) (HLA.out _ hw3) (flatF_one l) (by unfold maxLen; omega) (by omega) hw3.size ?_
       intro v4 w4 hown hgrow _
       try simp only [Nat.zero_add,List.nil_append] at hown
       obtain ⟨A4,c4,hv⟩:=own_form hown
       subst hv
       have hw4 : Below w2.heap.size w2 w4:=hw3.grown hgrow hw3.size (fun k hk=>by simp [Value.ownBlock] at hk; omega)
       have q0_w4:=(hw4.cell (p:=⟨w.heap.size,0,none⟩) hz2).trans p0; have q1_w4:=(hw4.cell (p:=⟨w.heap.size,1,none⟩) hz2).trans p1; have q2_w4:=(hw4.cell (p:=⟨w.heap.size,2,none⟩) hz2).trans p2; have q3_w4:=(hw4.cell (p:=⟨w.heap.size,3,none⟩) hz2).trans p3; have q4_w4:=(hw4.cell (p:=⟨w.heap.size,4,none⟩) hz2).trans p4; have q5_w4:=(hw4.cell (p:=⟨pw,3,none⟩) hlp2).trans r3
       have hk4 : RCacheM w4 (Bd.of w2.heap.size) p g (blankL g) []:=rcache_grown HP3.out hgrow HRB.out
       have HGG:=Lib.hid (HFIN.out w4 p A4 c4 hk4 (RdT.of_own hown) hw4)
       clear hown hgrow hk4)))
   all_goals (rename_i hheld; clear hheld; go_wp2; go_ret2; exact ⟨_,rfl,HGG.out⟩)
end
end Go.Proofs.YtaggiceejcegdaaGreat
namespace Go.Proofs.YtaggiceejcegdaaGreat
set_option linter.unusedVariables false
open Go.RowKit
section
variable {w w' : World} {B C D : Bd} {q pw p : Nat} {g : Geo} {F : List Flt} {s : DS} {P P' R : Pow} {LM : List Sec} {O : List OpV} {FA : Option Addr} {fc : Nat}
theorem RPow.lt (h : RPow w B pw R) : pw < w.heap.size:=(IsT.own h.obj).lt
theorem RPow.low (h : RPow w B pw R) : B.has pw:=⟨row_low h.obj,h.px⟩
theorem RPow.mono (h : RPow w B pw R) (hs : Bd.Sub w.heap.size B C) : RPow w C pw R:=⟨own_mono h.obj hs.1,(hs.2 _ h.lt h.low).2⟩
theorem RDsk.mono (h : RDsk w B q pw g F s LM O p FA fc) (hs : Bd.Sub w.heap.size B C) : RDsk w C q pw g F s LM O p FA fc:=
 ⟨own_mono h.obj hs.1,(hs.2 _ (IsT.own h.obj).lt ⟨row_low h.obj,h.px⟩).2,h.c.mono hs,h.fl⟩
theorem RDPm.mono (h : RDPm w B q pw g F s P LM O) (hs : Bd.Sub w.heap.size B C) (hC : C.top ≤ w.heap.size) : RDPm w C q pw g F s P LM O:=by
 obtain ⟨⟨p,FA,fc,hd⟩,⟨R,hr,hp⟩,hf,hb,_⟩:=h
 exact ⟨⟨p,FA,fc,hd.mono hs⟩,⟨R,hr,hp.mono hs⟩,hf,hb,hC⟩
theorem RDPm.move (h : RDPm w B q pw g F s P LM O) (hb : Below w.heap.size w w') (hs : Bd.Sub w.heap.size B C) (hC : C.top ≤ w'.heap.size) : RDPm w' C q pw g F s P LM O:=by
 obtain ⟨⟨p,FA,fc,hd⟩,⟨R,hr,hp⟩,hf,hsb,hB⟩:=h
 exact ⟨⟨p,FA,fc,(hd.mono hs).below0 hb⟩,⟨R,hr,(hp.mono hs).below0 hb⟩,hf,hsb,hC⟩
end
structure RTwo (w : World) (n pw q0 q1 : Nat) (g : Geo) (F0 F1 : List Flt) (s0 s1 : DS) (P : Pow) (L0 L1 : List Sec) (O0 O1 : List OpV) (S0 S1 : Nat → Prop) (hn : n ≤ w.heap.size) : Prop where
 a : RDPm w (Bd.on n w.heap.size S0 hn) q0 pw g F0 s0 P L0 O0
 b : RDPm w (Bd.on n w.heap.size S1 hn) q1 pw g F1 s1 P L1 O1
 no : ∀ k,k < w.heap.size → S0 k → S1 k → k = pw
def RTwoM (w : World) (n pw q0 q1 : Nat) (g : Geo) (F0 F1 : List Flt) (s0 s1 : DS) (P : Pow) (L0 L1 : List Sec) (O0 O1 : List OpV) : Prop:=∃ S0 S1 hn,RTwo w n pw q0 q1 g F0 F1 s0 s1 P L0 L1 O0 O1 S0 S1 hn
section
variable {w w' : World} {n pw q0 q1 : Nat} {g : Geo} {F0 F1 : List Flt} {s0 s1 : DS} {P : Pow} {L0 L1 : List Sec} {O0 O1 : List OpV} {S0 S1 : Nat → Prop} {hn : n ≤ w.heap.size}
end
end Go.Proofs.YtaggiceejcegdaaGreat
namespace Go.Proofs.YtaggiceejcegdaaGreat
set_option linter.unusedVariables false
open Go.RowKit
abbrev RDM (w : World) (B : Bd) (q pw : Nat) (g : Geo) (F : List Flt) (d : DC) : Prop:=RDPm w B q pw g F d.s d.P d.L d.O
structure RMany (w : World) (n pw : Nat) (g : Geo) (qs : List Nat) (m : MS) (S : Nat → Nat → Prop) (hn : n ≤ w.heap.size) : Prop where
 disk : ∀ (i : Nat) (v : DX) (q : Nat),m.ds[i]? = some v → qs[i]? = some q → RDM w (Bd.on n w.heap.size (S i) hn) q pw g v.F (m.dc v)
 pow : ∃ R,RelP m.P R ∧ RPow w (Bd.of n) pw R
 no : ∀ i j k,i < m.ds.length → j < m.ds.length → i ≠ j → k < w.heap.size → S i k → S j k → k = pw
 len : qs.length = m.ds.length
def RManyM (w : World) (n pw : Nat) (g : Geo) (qs : List Nat) (m : MS) : Prop:=∃ S hn,RMany w n pw g qs m S hn
section
variable {w w' : World} {B C D : Bd} {n q pw : Nat} {g : Geo} {qs : List Nat} {m : MS} {F : List Flt} {s : DS} {P P' : Pow} {L : List Sec} {O : List OpV} {S : Nat → Nat → Prop} {hn : n ≤ w.heap.size}
theorem RDPm.moveT {ts : List TypeId} (h : RDPm w B q pw g F s P L O) (hk : KeptT ts D w w') (ht : ∀ t,t ∈ [204,200,234,172,5] → t ∉ ts) (h1 : 145 ∉ ts) (h2 : 138 ∉ ts) (h3 : 131 ∉ ts) (hs : Bd.Sub w.heap.size B C) (hC : C.top ≤ w'.heap.size) : RDPm w' C q pw g F s P L O:=by
 obtain ⟨⟨p,FA,fc,hd⟩,⟨R,hr,hp⟩,hf,hsb,hB⟩:=h
 exact ⟨⟨p,FA,fc,(hd.mono hs).keptT hk ht h1 h2⟩,⟨R,hr,(hp.mono hs).keptT hk h3⟩,hf,hsb,hC⟩
theorem RMany.add (h : RMany w n pw g qs m S hn) (hb : Below w.heap.size w w') (ha : RDPm w' (Bd.on n w.heap.size (fun k=>k = pw) hn) q pw g F s m.P L O) : RManyM w' n pw g (qs ++ [q]) ⟨m.ds ++ [⟨F,s,L,O⟩],m.P⟩:=by
 have hsz:=hb.size
 refine ⟨fun j k=>if j < m.ds.length then (S j k ∧ k < w.heap.size) else (k = pw ∨ w.heap.size ≤ k),Nat.le_trans hn hsz,?_,?_,?_,by simp [h.len]⟩
 ·intro j u r hu hr
  by_cases hj : j < m.ds.length
  ·simp only at hu
   rw [List.getElem?_append_left hj] at hu
   rw [List.getElem?_append_left (by rw [h.len]; exact hj)] at hr
   refine RDPm.move (h.disk j u r hu hr) hb ⟨Nat.le_refl _,fun k hk' hh=>?_⟩ (Nat.le_refl _)
   refine (Bd.on_has (by omega)).2 ⟨hh.1,?_⟩
   rw [if_pos hj]
   exact ⟨((Bd.on_has hk').1 hh).2,hk'⟩
  ·have hj2 : j = m.ds.length:=by
    have:=(List.getElem?_eq_some_iff.1 hu).1
    simp only [List.length_append,List.length_singleton] at this
    omega
   subst hj2
   simp only at hu
   rw [List.getElem?_append_right (Nat.le_refl _),Nat.sub_self] at hu
   rw [List.getElem?_append_right (by rw [h.len]; exact Nat.le_refl _),h.len,Nat.sub_self] at hr
   injection hu with hu
   subst hu
   injection hr with hr
   subst hr
   refine RDPm.mono ha ⟨Nat.le_refl _,fun k hk' hh=>?_⟩ (Nat.le_refl _)
   refine (Bd.on_has hk').2 ⟨hh.1,?_⟩
   rw [if_neg (Nat.lt_irrefl _)]
   by_cases h2 : k < w.heap.size
   ·exact .inl ((Bd.on_has h2).1 hh).2
   ·exact .inr (by omega)
 ·obtain ⟨R,hr,hp⟩:=h.pow
  exact ⟨R,hr,hp.below0 hb⟩
 ·intro a b k ha' hb' hab hk' h1 h2
  simp only [List.length_append,List.length_singleton] at ha' hb'
  by_cases haI : a < m.ds.length
  ·rw [if_pos haI] at h1
   by_cases hbI : b < m.ds.length
   ·rw [if_pos hbI] at h2
    exact h.no a b k haI hbI hab h1.2 h1.1 h2.1
   ·rw [if_neg hbI] at h2
    rcases h2 with h2 | h2
    ·exact h2
    ·omega
  ·rw [if_neg haI] at h1
   by_cases hbI : b < m.ds.length
   ·rw [if_pos hbI] at h2
    rcases h1 with h1 | h1
    ·exact h1
    ·omega
   ·omega
theorem RManyM.new (h : RManyM w n pw g qs m) : ∃ (B : Bd) (R : Pow),B.top ≤ w.heap.size ∧ RelP m.P R ∧ RPow w B pw R ∧ ∀ w' q F s L O,Below w.heap.size w w' → RDPm w' B q pw g F s m.P L O → RManyM w' n pw g (qs ++ [q]) ⟨m.ds ++ [⟨F,s,L,O⟩],m.P⟩:=by
 obtain ⟨S,hn,h⟩:=h
 obtain ⟨R,hr,hp⟩:=h.pow
 refine ⟨Bd.on n w.heap.size (fun k=>k = pw) hn,R,Nat.le_refl _,hr,⟨hp.obj,fun hh=>hh.2 rfl⟩,fun w' q F s L O hb hd=>h.add hb hd⟩
theorem RManyM.below0 (h : RManyM w n pw g qs m) (hb : Below w.heap.size w w') : RManyM w' n pw g qs m:=by
 obtain ⟨S,hn,h⟩:=h
 refine ⟨fun j k=>S j k ∧ k < w.heap.size,Nat.le_trans hn hb.size,?_,(by obtain ⟨R,hr,hp⟩:=h.pow; exact ⟨R,hr,hp.below0 hb⟩),fun i j k hi hj hij _ h1 h2=>h.no i j k hi hj hij h1.2 h1.1 h2.1,h.len⟩
 intro j u r hu hr
 refine RDPm.move (h.disk j u r hu hr) hb ⟨Nat.le_refl _,fun k hk' hh=>?_⟩ (Nat.le_refl _)
 exact (Bd.on_has (by have:=hb.size; omega)).2 ⟨hh.1,((Bd.on_has hk').1 hh).2,hk'⟩
theorem RManyM.types {ts : List TypeId} (h : RManyM w n pw g qs m) (hk : KeptT ts C w w') (ht : ∀ t,t ∈ [204,200,234,172,5] → t ∉ ts) (h1 : 145 ∉ ts) (h2 : 138 ∉ ts) (h3 : 131 ∉ ts) : RManyM w' n pw g qs m:=by
 obtain ⟨S,hn,h⟩:=h
 refine ⟨fun j k=>S j k ∧ k < w.heap.size,Nat.le_trans hn hk.size,?_,(by obtain ⟨R,hr,hp⟩:=h.pow; exact ⟨R,hr,hp.keptT hk h3⟩),fun i j k hi hj hij _ h1 h2=>h.no i j k hi hj hij h1.2 h1.1 h2.1,h.len⟩
 intro j u r hu hr
 refine RDPm.moveT (h.disk j u r hu hr) hk ht h1 h2 h3 ⟨Nat.le_refl _,fun k hk' hh=>?_⟩ (Nat.le_refl _)
 exact (Bd.on_has (by have:=hk.size; omega)).2 ⟨hh.1,((Bd.on_has hk').1 hh).2,hk'⟩
theorem RManyM.none_ (h : ∃ R,RelP P R ∧ RPow w (Bd.of n) pw R) (hn : n ≤ w.heap.size) : RManyM w n pw g [] ⟨[],P⟩:=
 ⟨fun _ _=>False,hn,fun i v q hv=>by simp at hv,h,fun i j k hi=>by simp at hi,rfl⟩
end
end Go.Proofs.YtaggiceejcegdaaGreat
namespace Go.Proofs.YtaggiceejcegdaaGreat
set_option linter.unusedVariables false
open Go.RowKit
set_option maxRecDepth 100000 in
set_option maxHeartbeats 4000000 in
theorem trywrite_any {w : World} (bd bk ba bi bs : Nat) (J : Nat → World → Prop) (er : Nat → Int) (h0 : J 0 w) (HC : ∀ n W,n ≤ 8 → J n W → Calls Tryz.prog 55 #[.pointer (some ⟨bd,0,none⟩),.pointer (some ⟨bk,0,none⟩),.pointer (some ⟨ba,0,none⟩),.pointer (some ⟨bi,0,none⟩),.pointer (some ⟨bs,0,none⟩)] W fun e w'=>e = .returned (.int .i64 (er n)) ∧ J (n + 1) w') :
  Calls Tryz.prog 54 #[.func (.func 55) #[] #[.pointer (some ⟨bd,0,none⟩),.pointer (some ⟨bk,0,none⟩),.pointer (some ⟨ba,0,none⟩),.pointer (some ⟨bi,0,none⟩),.pointer (some ⟨bs,0,none⟩)]] w fun e w'=>∃ k,e = .returned (.int .i64 (er k)) ∧ J (k + 1) w' ∧ (∀ j,j < k → er j = 16) ∧ (k = 8 ∨ (k ≤ 8 ∧ ¬ er k = 16)):=by
 have HC':=Lib.hid HC
 clear HC
 go_enter Tryz.func54,Tryz.ntmps54
 go_wp2_with fail
 refine (HC'.out 0 w (by omega) h0).mono ?_
 rintro e w1 ⟨rfl,h1⟩
 go_wp2
 go_loopw [3,4] (fun e n wr=>∃ k : Nat,k ≤ 8 ∧ e = .int .i64 (er k) ∧ n = .int .i64 ((k + 1 : Nat) : Int) ∧ J (k + 1) wr ∧ Hid (∀ j,j < k → er j = 16)) (fun _ n _=>10 - (intOf n).toNat)
 case atStart=>exact ⟨0,by omega,rfl,rfl,h1,by unfold Hid; intro j hj; omega⟩
 case round=>
  obtain ⟨k,hk,rfl,rfl,hJ,HJ⟩:=hrel
  generalize hE : er k = E at *
  by_cases h8 : k < 8
  ·by_cases h16 : E = 16
   ·subst h16
    have d1 : decide (((k + 1 : Nat) : Int) < 9) = true:=decide_eq_true (by omega)
    have hw : IntKind.i64.wrap (((k + 1 : Nat) : Int) + 1) = ((k + 1 + 1 : Nat) : Int):=by rw [IntKind.wrap_i64]; omega
    have HJ2 : Hid (∀ j,j < k + 1 → er j = 16):=by
     unfold Hid; intro j hj
     by_cases e : j = k
     ·subst e; exact hE
     ·exact HJ.out j (by omega)
    go_wp2_with fail
    refine (HC'.out (k + 1) wr (by omega) hJ).mono ?_
    rintro e w2 ⟨rfl,h2⟩
    go_wp2
    go_roundw
    case rel=>exact ⟨k + 1,by omega,rfl,by go_num,h2,HJ2⟩
    case measure=>simp [intOf]; omega
   ·have d1 : decide (((k + 1 : Nat) : Int) < 9) = true:=decide_eq_true (by omega)
    have d2 : (E == 16) = false:=by simpa using h16
    go_wp2
    go_ret
    exact ⟨k,by rw [hE]; rfl,hJ,HJ.out,.inr ⟨hk,by rw [hE]; exact h16⟩⟩
  ·have d1 : decide (((k + 1 : Nat) : Int) < 9) = false:=decide_eq_false (by omega)
   go_wp2
   go_ret
   exact ⟨k,by rw [hE]; rfl,hJ,HJ.out,.inl (by omega)⟩
end Go.Proofs.YtaggiceejcegdaaGreat
namespace Go.Proofs.YtaggiceejcegdaaGreat
set_option linter.unusedVariables false
open Go.RowKit
section
variable {w w' : World} {B : Bd} {q pw : Nat} {g : Geo} {F : List Flt} {d : DC}
theorem cell_one {k : Nat} {v : Value} {t : TypeId} {fr : Nat × Nat} (h : w.heap[k]? = some (.cells #[v] t fr)) : w.cell? ⟨k,0,none⟩ = some v:=by rw [cell_of_row _ _ _ _ _ _ h]; rfl
set_option maxRecDepth 100000 in
set_option maxHeartbeats 2000000 in
theorem wrcl_any {key at_ i : Int} {xs : List Int} {A : Option Addr} {c bd bk ba bi bs : Nat} {fd fk fa fi fs : Nat × Nat} (h : DM w B q pw g F d) (hF : ∀ f ∈ F,I64 f.to_) (hn : F.length ≤ 9223372036854775807) (hon : d.O.length ≤ 99000) (hai : I64 (at_ + i))
  (hr : ∀ W,KeptT DAT B w W → Rd W W.heap.size A (xs.map (Value.int .u8))) (hx : xs.length ≤ 100000) (hc : xs.length ≤ c)
  (hd : w.heap[bd]? = some (.cells #[.pointer (some ⟨q,0,none⟩)] 52 fd)) (hk : w.heap[bk]? = some (.cells #[.int .u64 key] 23 fk)) (ha : w.heap[ba]? = some (.cells #[.int .i64 at_] 3 fa)) (hi : w.heap[bi]? = some (.cells #[.int .i64 i] 3 fi)) (hs : w.heap[bs]? = some (.cells #[.slice A xs.length c] 26 fs)) :
  Calls Tryz.prog 55 #[.pointer (some ⟨bd,0,none⟩),.pointer (some ⟨bk,0,none⟩),.pointer (some ⟨ba,0,none⟩),.pointer (some ⟨bi,0,none⟩),.pointer (some ⟨bs,0,none⟩)] w fun e w'=>e = .returned (.int .i64 (wOne g F key (at_ + i) xs d).2.er) ∧ DM w' B q pw g F (wOne g F key (at_ + i) xs d).1 ∧ KeptT DAT B w w':=by
 have c0:=cell_one hd
 have c1:=cell_one hk
 have c2:=cell_one ha
 have c3:=cell_one hi
 have c4:=cell_one hs
 have hw : IntKind.i64.wrap (at_ + i) = at_ + i:=by obtain ⟨h1,h2⟩:=hai; rw [IntKind.wrap_i64]; omega
 have HC:=Lib.hid (dwrite_any key (at_ + i) xs false A c h hn hon hai (begD_to d.s d.P key hF) (fun W hW=>hr W (hW.sub dpt_dat)) hx hc)
 clear hd hk ha hi hs h hr hF hai
 go_enter Tryz.func55,Tryz.ntmps55
 go_wp2_with fail
 refine HC.out.mono ?_
 rintro e w1 ⟨rfl,hd1,hk1⟩
 have HD:=Lib.hid (And.intro hd1 hk1)
 clear hd1 hk1 HC
 go_wp2
 go_ret
 exact ⟨rfl,HD.out⟩
theorem trywr_any {key at_ i : Int} {xs : List Int} {A : Option Addr} {c bd bk ba bi bs : Nat} {fd fk fa fi fs : Nat × Nat} (h : DM w B q pw g F d) (hF : ∀ f ∈ F,I64 f.to_) (hn : F.length ≤ 9223372036854775807) (hon : d.O.length + 9 ≤ 99000) (hai : I64 (at_ + i))
  (hr : ∀ W,KeptT DAT B w W → Rd W W.heap.size A (xs.map (Value.int .u8))) (hx : xs.length ≤ 100000) (hc : xs.length ≤ c)
  (hd : w.heap[bd]? = some (.cells #[.pointer (some ⟨q,0,none⟩)] 52 fd)) (hk : w.heap[bk]? = some (.cells #[.int .u64 key] 23 fk)) (ha : w.heap[ba]? = some (.cells #[.int .i64 at_] 3 fa)) (hi : w.heap[bi]? = some (.cells #[.int .i64 i] 3 fi)) (hs : w.heap[bs]? = some (.cells #[.slice A xs.length c] 26 fs)) :
  Calls Tryz.prog 54 #[.func (.func 55) #[] #[.pointer (some ⟨bd,0,none⟩),.pointer (some ⟨bk,0,none⟩),.pointer (some ⟨ba,0,none⟩),.pointer (some ⟨bi,0,none⟩),.pointer (some ⟨bs,0,none⟩)]] w fun e w'=>e = .returned (.int .i64 (tryD (wOne g F key (at_ + i) xs) d).2.er) ∧ DM w' B q pw g F (tryD (wOne g F key (at_ + i) xs) d).1 ∧ KeptT DAT B w w':=by
 refine (trywrite_any bd bk ba bi bs (fun n W=>DM W B q pw g F (callN (wOne g F key (at_ + i) xs) d n) ∧ KeptT DAT B w W) (fun n=>(ansN (wOne g F key (at_ + i) xs) d n).er) ⟨h,KeptT.refl _ _ w⟩ ?_).mono ?_
 ·intro n W hn8 ⟨hW,hkW⟩
  have hl:=callN_len (wOne_len g F key (at_ + i) xs) d n
  refine (wrcl_any hW hF hn (by omega) hai (fun W' hW'=>hr W' (hkW.trans hW')) hx hc (Kept.obj hkW hd (KeptT.no (IsT.of hd) (by unfold DAT; decide))) (Kept.obj hkW hk (KeptT.no (IsT.of hk) (by unfold DAT; decide)))
   (Kept.obj hkW ha (KeptT.no (IsT.of ha) (by unfold DAT; decide))) (Kept.obj hkW hi (KeptT.no (IsT.of hi) (by unfold DAT; decide))) (Kept.obj hkW hs (KeptT.no (IsT.of hs) (by unfold DAT; decide)))).mono ?_
  rintro e w' ⟨rfl,hd',hk'⟩
  exact ⟨rfl,hd',hkW.trans hk'⟩
 ·rintro e w' ⟨k,rfl,⟨hd',hk'⟩,hb,hlast⟩
  rw [try_stop hb hlast]
  exact ⟨rfl,hd',hk'⟩
end
end Go.Proofs.YtaggiceejcegdaaGreat

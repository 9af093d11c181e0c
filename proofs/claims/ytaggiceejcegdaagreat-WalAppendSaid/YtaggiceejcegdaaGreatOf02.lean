/-
  WHAT IS SHOWN: more: what Do of the reference's cache returns and leaves. Conditions: as each theorem names them.
-/
import Derived.Test.YtaggiceejcegdaaGreatNc35
import Derived.BigQuiet
import Derived.ChangeKeysEq
import Derived.ChangeOld
import Derived.Deep.AppendLies
import Derived.Deep.DeepCutAuto
import Derived.Deep.Draws
import Derived.Deep.Fields
import Derived.Deep.QuietTactic
import Derived.Deep.RegionHeld3
import Derived.Deep.RegionLaw
import Derived.Deep.Slices
import Derived.Handy
import Derived.Laws.AppendOwnNone
import Derived.Laws.BytesArg
import Derived.Laws.Cover3
import Derived.Laws.MakeOwn
import Derived.Laws.OwnMore
import Derived.Laws.Rows
import Derived.Lib.ConvBytes
import Derived.Lib.Hide
import Derived.Lib.SmallJoins
import Derived.Lib.VarintBits
import Derived.Lib.Zigzag
import Derived.LoopIn
import Derived.LoopNIn
import Derived.Maps.AppendAt
import Derived.OpenShut
import Derived.OwnWalkIn
import Derived.ProofKit
import Derived.RangeFuncBox
import Derived.RangeFuncLeaves
import Derived.Shelf.Abstract
import Derived.Sort.QuietIn
import Derived.TacticsInMore
import Derived.WalkKit
import Derived.WalkLawsBesides
import Derived.WalkMore
import Derived.WalkSpells
import Derived.Test.YtaggiceejcegdaaGreatOf01
namespace Go.Proofs.YtaggiceejcegdaaGreat
set_option linter.unusedVariables false
open Go.RowKit
theorem info_op : (Tryz.prog.info? 172).map (fun i=>(i.zero,i.size,i.bytes)) = some (some (.agg #[.bool false,.int .i64 0,.slice none 0 0]),3,40):=by kernel_rfl
section
variable {w w' : World} {S : Nat → Prop} {B : Bd} {p : Nat} {g : Geo} {LM : List Sec} {ops : List OpV}
theorem flatOps_snoc (l : List OpV) (o : OpV) : flatOps (l ++ [o]) = flatOps l ++ o.cells:=by unfold flatOps; rw [List.flatMap_append]; simp
theorem rcac_push {l : List OpV} {m b : Nat} {A : Option Addr} {c : Nat} {w3 : World} {o : OpV} {q cap B2 : Nat} (h : RCac w B p g LM l m b A c) (hb : Below w.heap.size w w3)
  (hown : w3.ownsRow B2 172 3 (.slice (some ⟨q,0,none⟩) (l.length + 1) cap) (l.length + 1) (flatOps l ++ o.cells))
  (ha : I64 o.at_) (hx : o.xs.length ≤ 100000) (hr : RdT w3 5 o.A (o.xs.map (Value.int .u8))) :
  RCacheM (w3.setCell ⟨p,1,none⟩ (.slice (some ⟨q,0,none⟩) (l.length + 1) cap)) B p g LM (l.map OpV.bare ++ [o.bare]) ∧ KeptT RT B w (w3.setCell ⟨p,1,none⟩ (.slice (some ⟨q,0,none⟩) (l.length + 1) cap)):=by
 have hobj:=own_kept h.obj (belKept0 (S:=fun _=>False) hb) (fun _ _ h=>h)
 have tp : IsT 204 w3 p:=IsT.own hobj
 have hlow:=h.low
 have hm3:=h.med.below0 hb
 have hk1 : Kept (fun k=>k = p) w3 (w3.setCell ⟨p,1,none⟩ (.slice (some ⟨q,0,none⟩) (l.length + 1) cap)):=(Kept.refl (fun k=>k = p) _).setCell (p:=⟨p,1,none⟩) (fun _=>rfl) _
 have fO : Free w3 172 (fun k=>k = p):=by obtain ⟨cur,fr,hh⟩:=tp; exact Free.one hh (by decide)
 have fb : Free w3 5 (fun k=>k = p):=by obtain ⟨cur,fr,hh⟩:=tp; exact Free.one hh (by decide)
 refine ⟨⟨l ++ [o],m,b,some ⟨q,0,none⟩,cap,by simp,?_,h.px,h.lb,hm3.kept hk1 (hm3.types.1.ne tp (by decide)) (hm3.types.2.ne tp (by decide)),?_,fun u hu=>?_,fun e=>by simp at e⟩,?_⟩
 ·have:=(World.ownsRow.stored hobj 1 (.slice (some ⟨q,0,none⟩) (l.length + 1) cap)).1
  simpa using this
 ·rw [flatOps_snoc]
  exact (RdT.of_own hown).kept hk1 fO
 ·rcases List.mem_append.1 hu with hu | hu
  ·obtain ⟨a1,a2,a3⟩:=h.op u hu
   exact ⟨a1,a2,(a3.below0 hb).kept hk1 fb⟩
  ·rw [List.mem_singleton] at hu
   subst hu
   exact ⟨ha,hx,hr.kept hk1 fb⟩
 ·exact (KeptT.bel hb).trans (KeptT.of hk1 (fun k _ hs=>by have e : k = p:=hs; subst e; exact ⟨hlow,HasT.mem tp (by simp [RT])⟩))
theorem flatOps_one (l : List OpV) : ∀ u ∈ flatOps l,u.oneCell' = true:=by
 intro u hu
 obtain ⟨o,_,hu⟩:=List.mem_flatMap.1 hu
 simp [OpV.cells] at hu
 rcases hu with rfl | rfl | rfl <;> rfl
theorem ops3_len (l : List OpV) : (flatOps l).length = l.length * 3:=flat_len OpV.cells 3 opcells_len l
set_option maxRecDepth 100000 in
set_option maxHeartbeats 8000000 in
theorem rcdo_any {B' : Nat} (o : OpV) (h : RCacheM w B p g LM ops) (hf : Fit g LM) (ho : OpOk w B' o) (hB' : B' ≤ w.heap.size) (hB : B.top ≤ w.heap.size) (hn : ops.length ≤ 100000) :
  Calls Tryz.prog 97 #[.pointer (some ⟨p,0,none⟩),.agg #[.bool o.er,.int .i64 o.at_,.slice o.A o.xs.length o.c]] w (RDoPost w B p g LM ops o.bare):=by
 have hb0 : Below w.heap.size w (w.alloc (.cells #[.bool o.er,.int .i64 o.at_,.slice o.A o.xs.length o.c] 172)):=(Below.refl _ _).alloc (Nat.le_refl _) _
 have HF:=Lib.hid hf
 have HC : Hid (∀ W,Below w.heap.size w W → Calls Tryz.prog 141 #[.pointer (some ⟨p,0,none⟩)] W (RClonePost W g (playL g LM ops))):=by
  unfold Hid; intro W hW; exact rcontents_any (h.below0 hW) hf hn
 have HD : Hid (∀ W m b,Below w.heap.size w W → RMed W m b g (playL g LM ops) → Calls Tryz.prog 142 #[.pointer (some ⟨m,0,none⟩),.agg #[.bool o.er,.int .i64 o.at_,.slice o.A o.xs.length o.c]] W (RWritePost W m b g (doE g (playL g LM ops) o) (doL g (playL g LM ops) o))):=by
  unfold Hid; intro W m b hW hm
  exact rdo_any o hm (hf.len (playL_len _ _ _)) ⟨ho.at_,(ho.rd.more hB').below hW (Nat.le_refl _),ho.n⟩ hW.size
 have HE : Hid (doE g (playL g LM ops) o.bare = doE g (playL g LM ops) o):=rfl
 have HH:=Lib.hid h
 have HO:=Lib.hid ho
 have HR0 : Hid ((w.alloc (.cells #[.bool o.er,.int .i64 o.at_,.slice o.A o.xs.length o.c] 172)).drew.ownsRow w.heap.size 172 3 (.slice (some ⟨w.heap.size,0,none⟩) 1 1) 1 o.cells):=
  World.ownsRow_lit (base:=w.heap.size) (e:=172) (size:=3) w #[.bool o.er,.int .i64 o.at_,.slice o.A o.xs.length o.c] 1 (Nat.le_refl _) (by decide) rfl
 clear h hf ho
 go_enter Tryz.func97,Tryz.ntmps97
 go_wp2
 go_region_held3 (fun W=>W.cell? ⟨w.heap.size,0,none⟩ = some (.bool o.er) ∧ W.cell? ⟨w.heap.size,1,none⟩ = some (.int .i64 o.at_) ∧ W.cell? ⟨w.heap.size,2,none⟩ = some (.slice o.A o.xs.length o.c))
  (first | (refine ⟨?_,?_,?_⟩ <;> assumption) | (simp (maxDischargeDepth:=20) [*]; done))
  ((first
    | (go_at_call 142
       refine (HD.out _ m2 b2 hw2 hm2).mono ?_
       rintro e w3 ⟨rfl,hm3,hk3⟩
       have hrow3:=own_kept hrow2 hk3 (fun k e=>by simp [Value.ownBlock] at e; subst e; show ¬ (w.heap.size = b2); omega)
       have hw3 : Below w.heap.size w w3:=hw2.trans (hk3.below (B:=w.heap.size) (fun i hi=>by have e : i = b2:=hi; omega) hw2.size)
       have r0:=(World.ownsRow.cellAt hrow3 0 (by decide)).trans rfl
       have r1:=(World.ownsRow.cellAt hrow3 1 (by decide)).trans rfl
       have r2:=(World.ownsRow.cellAt hrow3 2 (by decide)).trans rfl)
    | (go_at_call 141
       refine (HC.out _ hb0.drew).mono ?_
       rintro e w2 ⟨m2,b2,rfl,hm2,hmm2,hbb2,hb2⟩
       have hbb3 : w.heap.size < b2:=by simp at hbb2; omega
       have hw2 : Below w.heap.size w w2:=hb0.drew.trans (hb2.mono (by simp))
       have hrow2:=own_kept (HR0.out) (belKept0 (S:=fun _=>False) hb2) (fun _ _ h=>h)
       have q0:=(World.ownsRow.cellAt hrow2 0 (by decide)).trans rfl
       have q1:=(World.ownsRow.cellAt hrow2 1 (by decide)).trans rfl
       have q2:=(World.ownsRow.cellAt hrow2 2 (by decide)).trans rfl)))
 clear hm2 hm3 q0 q1 q2 hrow2 r0 r1 r2
 have r0 : w3.cell? ⟨w.heap.size,0,none⟩ = some (.bool o.er):=(World.ownsRow.cellAt hrow3 0 (by decide)).trans rfl
 have r1 : w3.cell? ⟨w.heap.size,1,none⟩ = some (.int .i64 o.at_):=(World.ownsRow.cellAt hrow3 1 (by decide)).trans rfl
 have r2 : w3.cell? ⟨w.heap.size,2,none⟩ = some (.slice o.A o.xs.length o.c):=(World.ownsRow.cellAt hrow3 2 (by decide)).trans rfl
 rename_i hheld
 clear hheld HC HD HR0 hb2 hk3 hmm2 hbb2 hbb3 hb0 HF
 by_cases hE : doE g (playL g LM ops) o = 0
 ·obtain ⟨l,m,b,A,c,rfl,h⟩:=HH.out
  rw [List.length_map] at hn
  have HP : Hid (∀ (o2 : OpV) (w5 : World) (q cap B2 : Nat),o2.bare = o.bare → Below w.heap.size w w5 → w5.ownsRow B2 172 3 (.slice (some ⟨q,0,none⟩) (l.length + 1) cap) (l.length + 1) (flatOps l ++ o2.cells) → RdT w5 5 o2.A (o2.xs.map (Value.int .u8)) →
    RDoPost w B p g LM (l.map OpV.bare) o.bare (.returned (.int .i64 0)) (w5.setCell ⟨p,1,none⟩ (.slice (some ⟨q,0,none⟩) (l.length + 1) cap))):=by
   unfold Hid; intro o2 w5 q cap B2 hob hb hown hr
   have e1 : o2.at_ = o.at_:=by have:=congrArg OpV.at_ hob; exact this
   have e2 : o2.xs = o.xs:=by have:=congrArg OpV.xs hob; exact this
   have:=rcac_push h hb hown (by rw [e1]; exact HO.out.at_) (by rw [e2]; exact HO.out.n) hr
   rw [hob] at this
   refine ⟨by rw [doE_bare,hE],?_,this.2⟩
   rw [doE_bare,if_pos hE]; exact this.1
  have HH2:=Lib.hid h
  obtain ⟨er,at_,xs,OA,oc⟩:=o
  simp only [OpV.cells] at r0 r1 r2 hrow3 hE
  rw [hE]
  clear hE HH HE h
  have hor:=HO.out.rd
  have hon:=HO.out.n
  simp only at hor hon
  obtain ⟨i1,hi1,hy0,hy1,hy2⟩:=info_parts info_u8
  go_upto_region 4 with fail
  go_cut [16] (fun s16 wx=>∃ (A5 : Option Addr) (c5 : Nat),s16 = .slice A5 xs.length c5 ∧ Below w.heap.size w wx ∧ wx.ownsRow w.heap.size 172 3 (.slice (some ⟨w.heap.size,0,none⟩) 1 1) 1 [.bool er,.int .i64 at_,.slice A5 xs.length c5] ∧ RdT wx 5 A5 (xs.map (Value.int .u8)))
  case first=>
   cases OA with
   | none=>
     have hx:=hor.at_none
     obtain rfl : xs = []:=by cases xs; rfl; simp at hx
     simp only [List.length_nil] at r2 hrow3
     have hrow4:=hrow3.alloc (.cells #[] 5)
     have f2:=hrow4.frozenAt 2
     have s2 : (w3.alloc (.cells #[] 5)).cell? ⟨w.heap.size,2,none⟩ = some (.slice none 0 oc):=(World.ownsRow.cellAt hrow4 2 (by decide)).trans rfl
     clear hor hx hon r0 r1 r2 hrow4
     have hw5 : Below w.heap.size w ((w3.alloc (.cells #[] 5)).setCell ⟨w.heap.size,2,none⟩ (.slice (some ⟨w3.heap.size,0,none⟩) 0 0)):=(hw3.alloc hw3.size _).setCell (p:=⟨w.heap.size,2,none⟩) (Nat.le_refl _) _
     have hrow5:=(World.ownsRow.stored (hrow3.alloc (.cells #[] 5)) 2 (.slice (some ⟨w3.heap.size,0,none⟩) 0 0)).1
     simp only [List.set_cons_succ,List.set_cons_zero] at hrow5
     go_wp2_with fail
     go_meet
     exact ⟨_,_,rfl,hw5,hrow5,RdT.nil _ _ _⟩
   | some a=>
     have hro:=World.ownsRow_lit (base:=w3.heap.size) (e:=5) (size:=1) w3 #[] 0 (Nat.le_refl _) (by decide) rfl
     have hla:=((hor.more hB').below hw3 (Nat.le_refl _)).alloc hw3.size (.cells #[] 5)
     have q2 : (w3.alloc (.cells #[] 5)).cell? ⟨w.heap.size,2,none⟩ = some (.slice (some a) xs.length oc):=(World.ownsRow.cellAt (hrow3.alloc (.cells #[] 5)) 2 (by decide)).trans rfl
     clear hor r0 r1 r2
     go_wp2_with (at_builtin; refine wpList_append_own _ rfl _ _ 26 rfl w3.heap.size 5 i1 _ 1 1 Tryz.underlying26 hi1 hy0 hy1 hy2 rfl (by decide) _ 0 [] rfl hro a xs.length oc (xs.map (Value.int .u8)) rfl (by simp) hla.at_add (bytes_one xs) (by unfold maxLen; omega) (by omega) (by simp) ?_)
     intro v' w4 hown4 hgrow4 hiff
     try simp only [Nat.zero_add,List.nil_append] at hown4
     obtain ⟨A4,c4,hv⟩:=own_form hown4
     subst hv
     have hb4 : Below w3.heap.size w3 w4:=((Below.refl _ _).alloc (Nat.le_refl _) _).grown hgrow4 (by simp) (fun k hk=>by simp [Value.ownBlock] at hk; omega)
     have hrow4:=own_kept hrow3 (belKept0 (S:=fun _=>False) hb4) (fun _ _ h=>h)
     have f2:=hrow4.frozenAt 2
     have s2:=(World.ownsRow.cellAt hrow4 2 (by decide)).trans rfl
     have hw5 : Below w.heap.size w (w4.setCell ⟨w.heap.size,2,none⟩ (.slice A4 xs.length c4)):=(hw3.trans (hb4.mono hw3.size)).setCell (p:=⟨w.heap.size,2,none⟩) (Nat.le_refl _) _
     have hrow5:=(World.ownsRow.stored hrow4 2 (.slice A4 xs.length c4)).1
     simp only [List.set_cons_succ,List.set_cons_zero] at hrow5
     have hr5 : RdT (w4.setCell ⟨w.heap.size,2,none⟩ (.slice A4 xs.length c4)) 5 A4 (xs.map (Value.int .u8)):=
      (RdT.of_own hown4).kept ((Kept.refl (fun k=>k = w.heap.size) w4).setCell (p:=⟨w.heap.size,2,none⟩) (fun _=>rfl) _) (by obtain ⟨cur,fr,hh⟩:=IsT.own hrow4; exact Free.one hh (by decide))
     clear hro hla hgrow4 hiff q2
     go_wp2_with fail
     go_meet
     exact ⟨_,_,rfl,hw5,hrow5,hr5⟩
  case rest=>
   obtain ⟨A5,c5,rfl,hw5,hrow5,hr5⟩:=hcut
   obtain ⟨w5,hww⟩ : ∃ w5,w5 = wc:=⟨_,rfl⟩
   subst hww
   clear hrow3 r0 r1 r2 hor
   go_upto_region 5 with fail
   have hlp:=HH2.out.lt
   obtain ⟨c0,c1⟩:=HH2.out.cells
   have t0 : w5.cell? ⟨w.heap.size,0,none⟩ = some (.bool er):=(World.ownsRow.cellAt hrow5 0 (by decide)).trans rfl
   have t1 : w5.cell? ⟨w.heap.size,1,none⟩ = some (.int .i64 at_):=(World.ownsRow.cellAt hrow5 1 (by decide)).trans rfl
   have t2 : w5.cell? ⟨w.heap.size,2,none⟩ = some (.slice A5 xs.length c5):=(World.ownsRow.cellAt hrow5 2 (by decide)).trans rfl
   have p1 : w5.cell? ⟨p,1,none⟩ = some (.slice A l.length c):=(hw5.cell (p:=⟨p,1,none⟩) hlp).trans c1
   have hH : w.heap.size < w5.heap.size:=(IsT.own hrow5).lt
   have hpH : p < w5.heap.size:=Nat.lt_of_lt_of_le hlp hw5.size
   have HOB : Hid (∀ W,Below w5.heap.size w5 W → W.frozen? ⟨p,1,none⟩ = false):=by unfold Hid; intro W hW; exact (own_kept HH2.out.obj (belKept0 (S:=fun _=>False) (hw5.trans (hW.mono hw5.size))) (fun _ _ h=>h)).frozenAt 1
   have HOC : Hid (∀ W,Below w5.heap.size w5 W → W.cell? ⟨p,1,none⟩ = some (.slice A l.length c)):=by unfold Hid; intro W hW; exact (hW.cell (p:=⟨p,1,none⟩) hpH).trans p1
   have bA : Below w5.heap.size w5 (w5.alloc (.cells #[] 172)).drew:=((Below.refl w5.heap.size w5).alloc (Nat.le_refl _) _).drew
   have bB : Below w5.heap.size w5 ((w5.alloc (.cells #[] 172)).alloc (.cells #[.bool er,.int .i64 at_,.slice A5 xs.length c5] 172)).drew:=(((Below.refl w5.heap.size w5).alloc (Nat.le_refl _) _).alloc (by simp) _).drew
   have bC : Below w5.heap.size w5 (w5.alloc (.cells #[.bool er,.int .i64 at_,.slice A5 xs.length c5] 172)).drew:=((Below.refl w5.heap.size w5).alloc (Nat.le_refl _) _).drew
   have bD : Below w5.heap.size w5 ((w5.alloc (.cells #[.bool er,.int .i64 at_,.slice A5 xs.length c5] 172)).alloc (.cells #[] 172)).drew:=(((Below.refl w5.heap.size w5).alloc (Nat.le_refl _) _).alloc (by simp) _).drew
   have p1A:=(bA.cell (p:=⟨p,1,none⟩) hpH).trans p1
   have p1B:=(bB.cell (p:=⟨p,1,none⟩) hpH).trans p1
   have p1C:=(bC.cell (p:=⟨p,1,none⟩) hpH).trans p1
   have p1D:=(bD.cell (p:=⟨p,1,none⟩) hpH).trans p1
   have t0A:=(bA.cell (p:=⟨w.heap.size,0,none⟩) hH).trans t0
   have t1A:=(bA.cell (p:=⟨w.heap.size,1,none⟩) hH).trans t1
   have t2A:=(bA.cell (p:=⟨w.heap.size,2,none⟩) hH).trans t2
   have HRA : Hid ((w5.alloc (.cells #[] 172)).drew.ownsRow w5.heap.size 172 3 (.slice (some ⟨w5.heap.size,0,none⟩) 0 0) 0 []):=World.ownsRow_lit (base:=w5.heap.size) (e:=172) (size:=3) w5 #[] 0 (Nat.le_refl _) (by decide) rfl
   have HRB : Hid (((w5.alloc (.cells #[] 172)).alloc (.cells #[.bool er,.int .i64 at_,.slice A5 xs.length c5] 172)).drew.ownsRow w5.heap.size 172 3 (.slice (some ⟨w5.heap.size,0,none⟩) 0 0) 0 []):=HRA.out.alloc (.cells #[.bool er,.int .i64 at_,.slice A5 xs.length c5] 172)
   have HRD : Hid (((w5.alloc (.cells #[.bool er,.int .i64 at_,.slice A5 xs.length c5] 172)).alloc (.cells #[] 172)).drew.ownsRow w5.heap.size 172 3 (.slice (some ⟨w5.heap.size + 1,0,none⟩) 0 0) 0 []):=by unfold Hid; have:=World.ownsRow_lit (base:=w5.heap.size) (e:=172) (size:=3) (w5.alloc (.cells #[.bool er,.int .i64 at_,.slice A5 xs.length c5] 172)) #[] 0 (by simp) (by decide) rfl; rw [World.size_alloc] at this; exact this
   have HOBB : Hid (((w5.alloc (.cells #[] 172)).alloc (.cells #[.bool er,.int .i64 at_,.slice A5 xs.length c5] 172)).drew.heap[w5.heap.size + 1]? = some (.cells #[.bool er,.int .i64 at_,.slice A5 xs.length c5] 172 (0,0))):=by unfold Hid; have:=heap_alloc_new (w5.alloc (.cells #[] 172)) (.cells #[.bool er,.int .i64 at_,.slice A5 xs.length c5] 172); rw [World.size_alloc] at this; exact this
   have HODD : Hid (((w5.alloc (.cells #[.bool er,.int .i64 at_,.slice A5 xs.length c5] 172)).alloc (.cells #[] 172)).drew.heap[w5.heap.size]? = some (.cells #[.bool er,.int .i64 at_,.slice A5 xs.length c5] 172 (0,0))):=belObj (B:=w5.heap.size + 1) (w:=w5.alloc (.cells #[.bool er,.int .i64 at_,.slice A5 xs.length c5] 172)) (((Below.refl _ _).alloc (by simp) _).drew) (heap_alloc_new w5 (.cells #[.bool er,.int .i64 at_,.slice A5 xs.length c5] 172)) (by omega)
   obtain ⟨i0,hi0,hz0,hz1,hz2⟩:=info_parts info_op
   by_cases hl0 : l = []
   ·obtain ⟨rfl,rfl⟩:=HH2.out.nil hl0
    subst hl0
    simp only [List.length_nil] at p1 p1A p1B p1C p1D c1 HOC
    go_region_law ((first | (refine step_append_lies _ rfl _ _ 202 rfl w5.heap.size 172 i0 _ 3 40 Tryz.underlying202 hi0 hz0 hz1 hz2 rfl (by decide) (.slice (some ⟨w5.heap.size,0,none⟩) 0 0) 0 [] rfl HRB.out ⟨w5.heap.size + 1,0,none⟩ 1 1 [.bool er,.int .i64 at_,.slice A5 xs.length c5] rfl rfl (World.news_of_block HOBB.out) (by intro u hu; simp at hu; rcases hu with rfl | rfl | rfl <;> rfl) (by decide) (by unfold maxLen; omega) (by omega) (by first | omega | (simp; done) | (simp; omega)) _ rfl ?_; intro g7 c7 w7 hown7 hgr7 hloc7 hlt7; have hw7 : Below w5.heap.size w5 w7:=bB.grown hgr7 (by simp; omega) (fun k hk=>by simp [Value.ownBlock] at hk; omega); have hfz7:=HOB.out w7 hw7; have hce7:=HOC.out w7 hw7) | (refine step_append_lies _ rfl _ _ 202 rfl w5.heap.size 172 i0 _ 3 40 Tryz.underlying202 hi0 hz0 hz1 hz2 rfl (by decide) (.slice (some ⟨w5.heap.size + 1,0,none⟩) 0 0) 0 [] rfl HRD.out ⟨w5.heap.size,0,none⟩ 1 1 [.bool er,.int .i64 at_,.slice A5 xs.length c5] rfl rfl (World.news_of_block HODD.out) (by intro u hu; simp at hu; rcases hu with rfl | rfl | rfl <;> rfl) (by decide) (by unfold maxLen; omega) (by omega) (by first | omega | (simp; done) | (simp; omega)) _ rfl ?_; intro g7 c7 w7 hown7 hgr7 hloc7 hlt7; have hw7 : Below w5.heap.size w5 w7:=bD.grown hgr7 (by simp; omega) (fun k hk=>by simp [Value.ownBlock] at hk; omega); have hfz7:=HOB.out w7 hw7; have hce7:=HOC.out w7 hw7)))
    all_goals (have hr7:=hr5.below0 hw7; have hww7:=hw5.trans (hw7.mono hw5.size); have HRES:=Lib.hid (HP.out ⟨er,at_,xs,A5,c5⟩ w7 g7 c7 _ rfl hww7 hown7 hr7); clear hown7 hr7; go_wp2; go_ret; exact HRES.out)
   ·have hlp0 : 0 < l.length:=by rcases Nat.eq_zero_or_pos l.length with h | h; exact absurd (List.eq_nil_of_length_eq_zero h) hl0; exact h
    obtain ⟨ga,oa,rfl,_,_,_,_⟩:=ops_at HH2.out.rd.rd hlp0
    have hrd5 : Rd w5 w5.heap.size (some ⟨ga,oa,none⟩) (flatOps l):=(HH2.out.rd.below0 hw5).rd
    have HLA : Hid (Rd (w5.alloc (.cells #[] 172)).drew w5.heap.size (some ⟨ga,oa,none⟩) (flatOps l)):=hrd5.below bA (Nat.le_refl _)
    have HLB : Hid (Rd ((w5.alloc (.cells #[] 172)).alloc (.cells #[.bool er,.int .i64 at_,.slice A5 xs.length c5] 172)).drew w5.heap.size (some ⟨ga,oa,none⟩) (flatOps l)):=hrd5.below bB (Nat.le_refl _)
    have HLD : Hid (Rd ((w5.alloc (.cells #[.bool er,.int .i64 at_,.slice A5 xs.length c5] 172)).alloc (.cells #[] 172)).drew w5.heap.size (some ⟨ga,oa,none⟩) (flatOps l)):=hrd5.below bD (Nat.le_refl _)
    clear hrd5
    go_region_law ((first | (refine step_append_lies _ rfl _ _ 202 rfl w5.heap.size 172 i0 _ 3 40 Tryz.underlying202 hi0 hz0 hz1 hz2 rfl (by decide) (.slice (some ⟨w5.heap.size,0,none⟩) 0 0) 0 [] rfl HRA.out ⟨ga,oa,none⟩ l.length c (flatOps l) rfl (ops3_len l) HLA.out.at_add (flatOps_one l) hlp0 (by unfold maxLen; omega) (by omega) (by first | omega | (simp; done) | (simp; omega)) _ rfl ?_; intro g6 c6 w6 hown6 hgr6 hloc6 hlt6; have hw6 : Below w5.heap.size w5 w6:=bA.grown hgr6 (by first | omega | (simp; done) | (simp; omega)) (fun k hk=>by simp [Value.ownBlock] at hk; omega); have q0:=(hw6.cell (p:=⟨w.heap.size,0,none⟩) hH).trans t0; have q1:=(hw6.cell (p:=⟨w.heap.size,1,none⟩) hH).trans t1; have q2:=(hw6.cell (p:=⟨w.heap.size,2,none⟩) hH).trans t2; simp only [Nat.zero_add,List.nil_append] at hown6; have HOW6:=Lib.hid hown6; have hlow6:=(hown6.lt g6 rfl).1; have hz6:=hw6.size; clear hown6 hgr6 hloc6; simp only [Nat.zero_add]) | (refine step_append_lies _ rfl _ _ 202 rfl w5.heap.size 172 i0 _ 3 40 Tryz.underlying202 hi0 hz0 hz1 hz2 rfl (by decide) (.slice (some ⟨w5.heap.size,0,none⟩) 0 0) 0 [] rfl HRB.out ⟨ga,oa,none⟩ l.length c (flatOps l) rfl (ops3_len l) HLB.out.at_add (flatOps_one l) hlp0 (by unfold maxLen; omega) (by omega) (by first | omega | (simp; done) | (simp; omega)) _ rfl ?_; intro g6 c6 w6 hown6 hgr6 hloc6 hlt6; have hw6 : Below w5.heap.size w5 w6:=bB.grown hgr6 (by first | omega | (simp; done) | (simp; omega)) (fun k hk=>by simp [Value.ownBlock] at hk; omega); have q0:=(hw6.cell (p:=⟨w.heap.size,0,none⟩) hH).trans t0; have q1:=(hw6.cell (p:=⟨w.heap.size,1,none⟩) hH).trans t1; have q2:=(hw6.cell (p:=⟨w.heap.size,2,none⟩) hH).trans t2; have HSRC : Hid (w6.heap[w5.heap.size + 1]? = some (.cells #[.bool er,.int .i64 at_,.slice A5 xs.length c5] 172 (0,0))):=(hgr6.block (w5.heap.size + 1) (by first | (simp; done) | (simp; omega)) (by simp [Value.ownBlock])).trans HOBB.out; simp only [Nat.zero_add,List.nil_append] at hown6; have HOW6:=Lib.hid hown6; have hlow6:=(hown6.lt g6 rfl).1; have hz6:=hw6.size; clear hown6 hgr6 hloc6; simp only [Nat.zero_add]) | (refine step_append_lies _ rfl _ _ 202 rfl w5.heap.size 172 i0 _ 3 40 Tryz.underlying202 hi0 hz0 hz1 hz2 rfl (by decide) (.slice (some ⟨w5.heap.size + 1,0,none⟩) 0 0) 0 [] rfl HRD.out ⟨ga,oa,none⟩ l.length c (flatOps l) rfl (ops3_len l) HLD.out.at_add (flatOps_one l) hlp0 (by unfold maxLen; omega) (by omega) (by first | omega | (simp; done) | (simp; omega)) _ rfl ?_; intro g6 c6 w6 hown6 hgr6 hloc6 hlt6; have hw6 : Below w5.heap.size w5 w6:=bD.grown hgr6 (by first | omega | (simp; done) | (simp; omega)) (fun k hk=>by simp [Value.ownBlock] at hk; omega); have q0:=(hw6.cell (p:=⟨w.heap.size,0,none⟩) hH).trans t0; have q1:=(hw6.cell (p:=⟨w.heap.size,1,none⟩) hH).trans t1; have q2:=(hw6.cell (p:=⟨w.heap.size,2,none⟩) hH).trans t2; have HSRC : Hid (w6.heap[w5.heap.size]? = some (.cells #[.bool er,.int .i64 at_,.slice A5 xs.length c5] 172 (0,0))):=(hgr6.block (w5.heap.size) (by first | (simp; done) | (simp; omega)) (by simp [Value.ownBlock])).trans HODD.out; simp only [Nat.zero_add,List.nil_append] at hown6; have HOW6:=Lib.hid hown6; have hlow6:=(hown6.lt g6 rfl).1; have hz6:=hw6.size; clear hown6 hgr6 hloc6; simp only [Nat.zero_add]) | (refine step_append_lies _ rfl _ _ 202 rfl w5.heap.size 172 i0 _ 3 40 Tryz.underlying202 hi0 hz0 hz1 hz2 rfl (by decide) (.slice (some ⟨g6,0,none⟩) l.length c6) l.length (flatOps l) rfl (HOW6.out.alloc (.cells #[.bool er,.int .i64 at_,.slice A5 xs.length c5] 172)) ⟨w6.heap.size,0,none⟩ 1 1 [.bool er,.int .i64 at_,.slice A5 xs.length c5] rfl rfl (World.news_of_block (heap_alloc_new _ _)) (by intro u hu; simp at hu; rcases hu with rfl | rfl | rfl <;> rfl) (by decide) (by unfold maxLen; omega) (by omega) (by first | omega | (simp; done) | (simp; omega)) _ rfl ?_; intro g7 c7 w7 hown7 hgr7 hloc7 hlt7; have hw7 : Below w5.heap.size w5 w7:=(hw6.alloc hz6 _).grown hgr7 (by first | omega | (simp; done) | (simp; omega)) (fun k hk=>by simp [Value.ownBlock] at hk; omega); have hfz7:=HOB.out w7 hw7; have hce7:=HOC.out w7 hw7) | (refine step_append_lies _ rfl _ _ 202 rfl w5.heap.size 172 i0 _ 3 40 Tryz.underlying202 hi0 hz0 hz1 hz2 rfl (by decide) (.slice (some ⟨g6,0,none⟩) l.length c6) l.length (flatOps l) rfl HOW6.out ⟨w5.heap.size + 1,0,none⟩ 1 1 [.bool er,.int .i64 at_,.slice A5 xs.length c5] rfl rfl (World.news_of_block HSRC.out) (by intro u hu; simp at hu; rcases hu with rfl | rfl | rfl <;> rfl) (by decide) (by unfold maxLen; omega) (by omega) (by first | omega | (simp; done) | (simp; omega)) _ rfl ?_; intro g7 c7 w7 hown7 hgr7 hloc7 hlt7; have hw7 : Below w5.heap.size w5 w7:=(hw6).grown hgr7 (by first | omega | (simp; done) | (simp; omega)) (fun k hk=>by simp [Value.ownBlock] at hk; omega); have hfz7:=HOB.out w7 hw7; have hce7:=HOC.out w7 hw7) | (refine step_append_lies _ rfl _ _ 202 rfl w5.heap.size 172 i0 _ 3 40 Tryz.underlying202 hi0 hz0 hz1 hz2 rfl (by decide) (.slice (some ⟨g6,0,none⟩) l.length c6) l.length (flatOps l) rfl HOW6.out ⟨w5.heap.size,0,none⟩ 1 1 [.bool er,.int .i64 at_,.slice A5 xs.length c5] rfl rfl (World.news_of_block HSRC.out) (by intro u hu; simp at hu; rcases hu with rfl | rfl | rfl <;> rfl) (by decide) (by unfold maxLen; omega) (by omega) (by first | omega | (simp; done) | (simp; omega)) _ rfl ?_; intro g7 c7 w7 hown7 hgr7 hloc7 hlt7; have hw7 : Below w5.heap.size w5 w7:=(hw6).grown hgr7 (by first | omega | (simp; done) | (simp; omega)) (fun k hk=>by simp [Value.ownBlock] at hk; omega); have hfz7:=HOB.out w7 hw7; have hce7:=HOC.out w7 hw7)))
    all_goals (have hr7:=hr5.below0 hw7; have hww7:=hw5.trans (hw7.mono hw5.size); have HRES:=Lib.hid (HP.out ⟨er,at_,xs,A5,c5⟩ w7 g7 c7 _ rfl hww7 hown7 hr7); clear hown7 hr7; go_wp2; go_ret; exact HRES.out)
 ·have hE2 : (doE g (playL g LM ops) o != 0) = true:=by simpa using hE
  have HR : Hid (RDoPost w B p g LM ops o.bare (.returned (.int .i64 (doE g (playL g LM ops) o))) w3):=by
   unfold Hid
   refine ⟨rfl,?_,KeptT.bel hw3⟩
   rw [doE_bare,if_neg hE]; exact HH.out.below0 hw3
  generalize doE g (playL g LM ops) o = E at *
  clear hE HE HH HO hrow3
  go_wp2
  go_ret
  exact HR.out
end
end Go.Proofs.YtaggiceejcegdaaGreat

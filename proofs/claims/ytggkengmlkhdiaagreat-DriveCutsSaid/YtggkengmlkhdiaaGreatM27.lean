/-
  WHAT IS SHOWN: what the inner function create of drive and New return and leave. what New of drive returns and leaves. plain facts on numbers and lists, of no program: the example of a drive that awake of the laws runs. what awake of the laws of the drive returns. Conditions: as each theorem names them.
-/
import Derived.Test.YtggkengmlkhdiaaGreatM26
import Derived.Test.YtggkengmlkhdiaaGreatM12
namespace Go.Proofs.YtggkengmlkhdiaaGreat
set_option linter.unusedVariables false
open Go.RowKit
theorem info_newest:(Tryz.prog.info? 84).map (fun i=>(i.zero,i.size,i.bytes))=some (some (.agg #[.int .i64 0,.int .u64 0,.int .i64 0]),3,24):=by kernel_rfl
theorem info_bandi:(Tryz.prog.info? 76).map (fun i=>(i.zero,i.size,i.bytes))=some (some (.agg #[.int .i64 0,.int .i64 0,.int .u64 0,.int .u64 0]),4,32):=by kernel_rfl
theorem made4_get (z0 z1 z2 z3:Value) (n j:Nat) (hj:j < n * 4):(madeCells #[z0,z1,z2,z3] (n * 4)).toList[j]?=#[z0,z1,z2,z3].toList[j % 4]?:=by
 unfold madeCells
 have h4:j % 4=0∨j % 4=1∨j % 4=2∨j % 4=3:=by omega
 simp only [Array.toList_map,Array.toList_range,List.getElem?_map,List.getElem?_range hj,Option.map_some]
 rcases h4 with h | h | h | h <;> simp [h]
theorem made4_flat (n:Nat):(madeCells #[.int .i64 0,.int .i64 0,.int .u64 0,.int .u64 0] (n * 4)).toList=V.flat (List.replicate n ⟨0,0,0,0⟩):=by
 apply List.ext_getElem?
 intro j
 by_cases hj:j < n * 4
 ·rw [made4_get _ _ _ _ _ _ hj]
  unfold V.flat
  have h:=flat_get V.BI.cells 4 (fun _=>rfl) (List.replicate n (⟨0,0,0,0⟩:V.BI)) (j / 4) (j % 4) (Nat.mod_lt _ (by decide))
  rw [show j / 4 * 4+j % 4=j by omega] at h
  rw [h,List.getElem?_replicate,if_pos (by omega)]
  rfl
 ·rw [List.getElem?_eq_none (by rw [Array.length_toList,size_madeCells]; omega),List.getElem?_eq_none]
  unfold V.flat
  rw [flat_len _ 4 (fun _=>rfl),List.length_replicate]
  omega
structure CrM (w0 w:World) (p q b nb:Nat) (key:Int) (k:Nat) (A:Option Addr) (c:Nat):Prop where
 obj:w.ownsRow w0.heap.size 87 6 (.slice (some ⟨p,0,none⟩) 1 1) 1 [.pointer (some ⟨q,0,none⟩),.int .u64 key,.slice A k c,.slice (some ⟨b,0,none⟩) nb nb,.int .u64 0,.int .i64 0]
 es:w.ownsRow w0.heap.size 84 3 (.slice A k c) k (flatE (List.replicate k noNE))
 bs:w.ownsRow w0.heap.size 76 4 (.slice (some ⟨b,0,none⟩) nb nb) nb (V.flat (List.replicate nb ⟨0,0,0,0⟩))
 bel:Below w0.heap.size w0 w
theorem CrM.cells {w0 w:World} {p q b nb:Nat} {key:Int} {k:Nat} {A:Option Addr} {c:Nat} (h:CrM w0 w p q b nb key k A c):w.cell? ⟨p,2,none⟩=some (.slice A k c)∧w.frozen? ⟨p,2,none⟩=false:=
 ⟨(World.ownsRow.cellAt h.obj 2 (by decide)).trans rfl,h.obj.frozenAt 2⟩
theorem CrM.next {w0 w w2:World} {p q b nb:Nat} {key:Int} {k:Nat} {A A':Option Addr} {c c':Nat} (h:CrM w0 w p q b nb key k A c)
  (hown:w2.ownsRow w0.heap.size 84 3 (.slice A' (k+1) c') (k+1) (flatE (List.replicate k noNE)++[.int .i64 0,.int .u64 0,.int .i64 (-1)]))
  (hgr:(w.alloc (.cells #[.int .i64 0,.int .u64 0,.int .i64 (-1)] 84)).grownBy w2 (Value.slice A k c).ownBlock):
  (w2.cell? ⟨p,2,none⟩=some (.slice A k c)∧w2.frozen? ⟨p,2,none⟩=false)∧CrM w0 (w2.setCell ⟨p,2,none⟩ (.slice A' (k+1) c')) p q b nb key (k+1) A' c':=by
 have hkk:Kept (fun i=>(Value.slice A k c).ownBlock=some i) w w2:=((Kept.refl (fun i=>(Value.slice A k c).ownBlock=some i) w).alloc (.cells #[.int .i64 0,.int .u64 0,.int .i64 (-1)] 84)).grown hgr (fun i _ e=>e)
 have hkt:KeptT [84] (Bd.of w0.heap.size) w w2:=KeptT.of hkk (fun i _ e=>by
  rcases h.es.2 with ⟨h2,_⟩ | ⟨g',cap,cur,h2,h3,h4⟩
  ·rw [h2] at e; cases e
  ·rw [h2] at e
   simp only [Value.ownBlock,Option.some.injEq] at e
   subst e
   have:=h.es
   rw [h2] at this
   exact ⟨Bd.hasOf.2 h3,HasT.mem (IsT.own this) (by simp)⟩)
 have ho2:=own_ty h.obj hkt (by decide)
 have hp:w0.heap.size≤p:=drow_low ho2
 have hst:=(World.ownsRow.stored ho2 2 (.slice A' (k+1) c')).1
 have hk2:KeptT [87] (Bd.of w0.heap.size) w2 (w2.setCell ⟨p,2,none⟩ (.slice A' (k+1) c')):=KeptT.of ((Kept.refl (fun i=>i=p) w2).setCell (p:=⟨p,2,none⟩) (fun _=>rfl) _) (fun i _ e=>by have e':i=p:=e; subst e'; exact ⟨Bd.hasOf.2 hp,HasT.mem (IsT.own ho2) (by simp)⟩)
 refine ⟨⟨(World.ownsRow.cellAt ho2 2 (by decide)).trans rfl,ho2.frozenAt 2⟩,hst,?_,own_ty (own_ty h.bs hkt (by decide)) hk2 (by decide),?_⟩
 ·have e:flatE (List.replicate (k+1) noNE)=flatE (List.replicate k noNE)++[.int .i64 0,.int .u64 0,.int .i64 (-1)]:=by
   rw [List.replicate_succ']; unfold flatE; rw [List.flatMap_append]; rfl
  rw [e]
  exact own_ty hown hk2 (by decide)
 ·have h1:=hkk.below (B:=w0.heap.size) (fun i e=>by
   rcases h.es.2 with ⟨h2,_⟩ | ⟨g',cap,cur,h2,h3,_⟩
   ·rw [h2] at e; cases e
   ·rw [h2] at e
    simp only [Value.ownBlock,Option.some.injEq] at e
    omega) h.bel.size
  exact (h.bel.trans h1).setCell (p:=⟨p,2,none⟩) hp _
def CreatePost (w:World) (B:Bd) (q pw:Nat) (g:Geo) (F:List Flt) (key:Int) (d:DC) (n:Int) (e:Ending) (w':World):Prop:=
 if possB g n=true then ∃ p ea ec BA bc,e= .returned (.tuple #[.pointer (some ⟨p,0,none⟩),.int .i64 0])∧Drv w' B p q pw g F key ⟨freshV g n.toNat,d⟩ ea ec BA bc∧w.heap.size≤p∧Below w.heap.size w w'
 else e= .returned (.tuple #[.pointer none,.int .i64 1])∧Below w.heap.size w w'
section
variable {w w':World} {B:Bd} {p q pw:Nat} {g:Geo} {F:List Flt} {key:Int} {d:DC}
set_option maxRecDepth 100000 in
set_option maxHeartbeats 4000000 in
theorem create20_any (n:Int) (hg:Vg g) (h:DM w B q pw g F d):Calls Tryz.prog 56 #[.pointer (some ⟨q,0,none⟩),.int .u64 key,.int .i64 n] w (CreatePost w B q pw g F key d n):=by
 have HNO:Hid (∀ e w',possB g n=false→(e= .returned (.tuple #[.pointer none,.int .i64 1])∧Below w.heap.size w w')→CreatePost w B q pw g F key d n e w'):=by
  intro e w' h1 h2; unfold CreatePost; rw [h1,if_neg (by decide)]; exact h2
 have HYES:Hid (∀ e w',possB g n=true→(∃ p ea ec BA bc,e= .returned (.tuple #[.pointer (some ⟨p,0,none⟩),.int .i64 0])∧Drv w' B p q pw g F key ⟨freshV g n.toNat,d⟩ ea ec BA bc∧w.heap.size≤p∧Below w.heap.size w w')→CreatePost w B q pw g F key d n e w'):=by
  intro e w' h1 h2; unfold CreatePost; rw [if_pos h1]; exact h2
 have HG:=Lib.hid (dgeo_any h)
 have HPO:Hid (possB g n=(decide (1≤n) && (decide (n≤65536) && decide (n≤(g.bands - 3) * bzN g)))):=rfl
 have HH:=Lib.hid h
 have hbz:=hg.bz
 have hm0: -3072≤(g.bands - 3) * bzN g∧(g.bands - 3) * bzN g≤65536:=by
  have h1:=hg.sz
  rw [bzN_valid hg,Int.sub_mul]
  omega
 obtain ⟨i0,hi,hz0,hz1,hz2⟩:=info_parts info_bandi
 have hnb:0≤g.bands∧g.bands≤64:=⟨by have:=hg.b0; omega,hg.b1⟩
 have hmk:∀ W:World,(Instr.makeSlice 35 (.int .i64 g.bands) (.int .i64 g.bands)).run Tryz.prog W= .ok (.slice (some ⟨W.heap.size,0,none⟩) g.bands.toNat g.bands.toNat) (W.alloc (.cells (madeCells _ (g.bands.toNat * 4)) 76)):=fun W=>by
  have:=run_make (P:=Tryz.prog) W 35 76 i0 _ Tryz.underlying35 hi hz0 .i64 .i64 g.bands g.bands (by omega) (Int.le_refl _) (by rw [hz2]; omega) (by omega)
  rw [hz1] at this
  exact this
 have HMK:=Lib.hid hmk
 have HBZ:=Lib.hid (fun W=>gbz_any g W)
 have HI0:=Lib.hid info_newest
 have HNB:=Lib.hid hnb
 clear h hg hbz hi hz0 hz1 hz2 hmk
 generalize CreatePost w B q pw g F key d n=CP at *
 generalize bzN g=z at *
 go_enter Tryz.func56,Tryz.ntmps56
 go_wp2_with fail
 refine HG.out.mono ?_
 rintro e w1 ⟨rfl,hb1⟩
 have PG:=Cells5.new w1 42 (.int .i64 g.random) (.int .i64 g.bands) (.int .i64 g.tracks) (.int .i64 g.sectors) (.int .i64 g.overlap)
 go_upto_region 2 with fail
 have hb2:Below w.heap.size w (w1.alloc (.cells #[.int .i64 g.random,.int .i64 g.bands,.int .i64 g.tracks,.int .i64 g.sectors,.int .i64 g.overlap] 42)):=hb1.alloc hb1.size _
 have HB2:=Lib.hid hb2
 have HLT:Hid (w1.heap.size < (w1.alloc (.cells #[.int .i64 g.random,.int .i64 g.bands,.int .i64 g.tracks,.int .i64 g.sectors,.int .i64 g.overlap] 42)).heap.size):=by unfold Hid; simp
 clear hb2 hb1
 generalize (w1.alloc (.cells #[.int .i64 g.random,.int .i64 g.bands,.int .i64 g.tracks,.int .i64 g.sectors,.int .i64 g.overlap] 42))=w2 at *
 obtain ⟨p0,p1,p2,p3,p4⟩:w2.cell? ⟨w1.heap.size,0,none⟩=some (.int .i64 g.random)∧w2.cell? ⟨w1.heap.size,1,none⟩=some (.int .i64 g.bands)∧w2.cell? ⟨w1.heap.size,2,none⟩=some (.int .i64 g.tracks)∧w2.cell? ⟨w1.heap.size,3,none⟩=some (.int .i64 g.sectors)∧w2.cell? ⟨w1.heap.size,4,none⟩=some (.int .i64 g.overlap):=⟨PG.c0,PG.c1,PG.c2,PG.c3,PG.c4⟩
 by_cases hn1:n < 1
 ·have d1:decide (n < 1)=true:=decide_eq_true hn1
  have HF:Hid (possB g n=false):=by unfold Hid; rw [HPO.out,decide_eq_false (show ¬ 1≤n by omega)]; rfl
  clear hn1
  go_quiet (fail)
  go_wp2
  exact HNO.out _ _ HF.out ⟨rfl,below_drewN HB2.out _⟩
 ·have d1:decide (n < 1)=false:=decide_eq_false hn1
  by_cases hn2:65536 < n
  ·have d2:decide (65536 < n)=true:=decide_eq_true hn2
   have HF:Hid (possB g n=false):=by unfold Hid; rw [HPO.out,decide_eq_false (show ¬ n≤65536 by omega)]; simp
   clear hn1 hn2
   go_quiet (fail)
   go_wp2
   exact HNO.out _ _ HF.out ⟨rfl,below_drewN HB2.out _⟩
  ·have d2:decide (65536 < n)=false:=decide_eq_false hn2
   have s1:=Held.cell p1 HLT.out
   have s0:=Held.cell p0 HLT.out
   have s2:=Held.cell p2 HLT.out
   have s3:=Held.cell p3 HLT.out
   have s4:=Held.cell p4 HLT.out
   have hw0:IntKind.i64.wrap (g.bands - 3)=g.bands - 3:=by rw [IntKind.wrap_i64]; omega
   obtain ⟨zz,hzz⟩:∃ zz,(g.bands - 3) * z=zz:=⟨_,rfl⟩
   have hw1:IntKind.i64.wrap ((g.bands - 3) * z)=zz:=by rw [IntKind.wrap_i64]; omega
   have HZZ:=Lib.hid hzz
   clear hzz
   have hne:Nonempty (Held (Below w2.heap.size w2)):=⟨⟨_,(Held.drew_below (Nat.le_refl _))⟩⟩
   refine wp_region_heldq (S:=(Below w2.heap.size w2)) (by kernel_rfl) (by kernel_rfl) (Held.drew_below (Nat.le_refl _)) ?_
   repeat (go_big_quiet_step ((go_at_call 90; exact Calls.held_below (Nat.le_refl _) (HBZ.out _))))
   refine wpQuiet_nil ?_
   intro _ hw'
   obtain ⟨sq,hw''⟩:=hw'
   subst hw''
   clear hne
   by_cases hn3:zz < n
   ·have d3:decide (zz < n)=true:=decide_eq_true hn3
    have HF:Hid (possB g n=false):=by unfold Hid; rw [HPO.out,decide_eq_false (show ¬ n≤(g.bands - 3) * z by rw [HZZ.out]; omega)]; simp
    clear hn1 hn2 hn3
    rw [d3]
    go_wp2
    exact HNO.out _ _ HF.out ⟨rfl,HB2.out.trans (sq.h.mono HB2.out.size)⟩
   ·have d3:decide (zz < n)=false:=decide_eq_false hn3
    rw [d3]
    have HF:Hid (possB g n=true):=by
     unfold Hid; rw [HPO.out,decide_eq_true (show 1≤n by omega),decide_eq_true (show n≤65536 by omega),decide_eq_true (show n≤(g.bands - 3) * z by rw [HZZ.out]; omega)]; rfl
    obtain ⟨m,rfl⟩:∃ m:Nat,n=(m:Int):=⟨n.toNat,by omega⟩
    have HM:Hid (m≤65536):=by unfold Hid; omega
    have HK1:Hid (1≤m):=by unfold Hid; omega
    have b1:=Held.cell p1 HLT.out
    have HB3:Hid (Below w.heap.size w sq.w):=HB2.out.trans (sq.h.mono HB2.out.size)
    have c1:sq.w.cell? ⟨w1.heap.size,1,none⟩=some (.int .i64 g.bands):=(sq.h.cell (p:=⟨w1.heap.size,1,none⟩) HLT.out).trans p1
    clear hn1 hn2 hn3 d1 d2 s0 s1 s2 s3 s4 b1 hw0 hw1 p0 p1 p2 p3 p4 HNO
    have hmk:=HMK.out sq.w
    generalize sq.w=w3 at *
    generalize hNB:g.bands.toNat=nb at *
    have HNBE:=Lib.hid hNB
    have HNB2:Hid (nb≤64):=by have:=HNB.out; unfold Hid; omega
    clear HMK
    have hrow:=World.ownsRow_lit (base:=w.heap.size) (e:=76) (size:=4) w3 (madeCells #[.int .i64 0,.int .i64 0,.int .u64 0,.int .u64 0] (nb * 4)) nb HB3.out.size (by have:=HNB2.out; unfold maxLen; omega) (by rw [size_madeCells])
    rw [made4_flat] at hrow
    have HB4:Hid (Below w.heap.size w (w3.alloc (.cells (madeCells #[.int .i64 0,.int .i64 0,.int .u64 0,.int .u64 0] (nb * 4)) 76))):=HB3.out.alloc HB3.out.size _
    have hobj:=World.ownsRow_lit (base:=w.heap.size) (e:=87) (size:=6) (w3.alloc (.cells (madeCells #[.int .i64 0,.int .i64 0,.int .u64 0,.int .u64 0] (nb * 4)) 76)) #[.pointer (some ⟨q,0,none⟩),.int .u64 key,.slice none 0 0,.slice (some ⟨w3.heap.size,0,none⟩) nb nb,.int .u64 0,.int .i64 0] 1 HB4.out.size (by decide) rfl
    have hbd:Below w3.heap.size.succ (w3.alloc (.cells (madeCells #[.int .i64 0,.int .i64 0,.int .u64 0,.int .u64 0] (nb * 4)) 76)) ((w3.alloc (.cells (madeCells #[.int .i64 0,.int .i64 0,.int .u64 0,.int .u64 0] (nb * 4)) 76)).alloc (.cells #[.pointer (some ⟨q,0,none⟩),.int .u64 key,.slice none 0 0,.slice (some ⟨w3.heap.size,0,none⟩) nb nb,.int .u64 0,.int .i64 0] 87)):=(Below.refl _ _).alloc (by simp) _
    have hp:(w3.alloc (.cells (madeCells #[.int .i64 0,.int .i64 0,.int .u64 0,.int .u64 0] (nb * 4)) 76)).heap.size=w3.heap.size+1:=by simp
    rw [hp] at hobj
    have H0:Hid (CrM w ((w3.alloc (.cells (madeCells #[.int .i64 0,.int .i64 0,.int .u64 0,.int .u64 0] (nb * 4)) 76)).alloc (.cells #[.pointer (some ⟨q,0,none⟩),.int .u64 key,.slice none 0 0,.slice (some ⟨w3.heap.size,0,none⟩) nb nb,.int .u64 0,.int .i64 0] 87)) (w3.heap.size+1) q w3.heap.size nb key 0 none 0):=
     ⟨hobj,World.ownsRow_nil _ _ _ _,own_kept hrow (belKept0 (S:=fun _=>False) ((Below.refl _ _).alloc (Nat.le_refl _) _)) (fun _ _ h=>h),HB4.out.alloc HB4.out.size _⟩
    clear hp hrow hobj hbd
    go_upto_region 6 with fail
    clear hmk
    have HPw:Hid (w.heap.size≤w3.heap.size+1):=by have:=HB3.out.size; unfold Hid; omega
    have HBW:=Lib.hid HB4.out
    generalize w3.heap.size+1=P at *
    generalize hW4:((w3.alloc (.cells (madeCells #[.int .i64 0,.int .i64 0,.int .u64 0,.int .u64 0] (nb * 4)) 76)).alloc (.cells #[.pointer (some ⟨q,0,none⟩),.int .u64 key,.slice none 0 0,.slice (some ⟨w3.heap.size,0,none⟩) nb nb,.int .u64 0,.int .i64 0] 87))=w4 at *
    clear hW4
    go_loopw [40] (fun i wr=>∃ (k:Nat) (A:Option Addr) (c:Nat),k≤m∧i= .int .i64 k∧Hid (CrM w wr P q w3.heap.size nb key k A c)) (fun i _=>m - (intOf i).toNat)
    case atStart=>exact ⟨0,none,0,Nat.zero_le _,rfl,H0⟩
    case round=>
     obtain ⟨k,A,c,hk,rfl,HR⟩:=hrel
     by_cases hlt:k < m
     ·obtain ⟨x0,x1⟩:=HR.out.cells
      have dk:decide ((k:Int) < (m:Int))=true:=decide_eq_true (by omega)
      obtain ⟨i0,hi,hz0,hz1,hz2⟩:=info_parts HI0.out
      have hes:=HR.out.es.alloc (.cells #[.int .i64 0,.int .u64 0,.int .i64 (-1)] 84)
      have hfl:(flatE (List.replicate k noNE)).length=k * 3:=by rw [flatE_len,List.length_replicate]
      have HSZ:=Lib.hid HR.out.bel.size
      have HM2:=HM.out
      go_wp2_with (at_builtin; refine wpList_append_own _ rfl _ _ 85 rfl w.heap.size 84 i0 _ 3 24 Tryz.underlying85 hi hz0 hz1 hz2 rfl (by decide) _ k (flatE (List.replicate k noNE)) rfl hes ⟨wr.heap.size,0,none⟩ 1 1 [.int .i64 0,.int .u64 0,.int .i64 (-1)] rfl rfl (World.news_of_block (heap_alloc_new _ _)) (by intro u hu; simp at hu; rcases hu with rfl | rfl | rfl <;> rfl) ?c1 ?c2 ?c3 ?_)
      case c1=>unfold maxLen; omega
      case c2=>omega
      case c3=>have:=HSZ.out; simp; omega
      intro v' w' hown hgrow hiff
      obtain ⟨A',c',hv⟩:=own_form hown
      subst hv
      have HN:=Lib.hid (HR.out.next hown hgrow)
      obtain ⟨⟨y0,y1⟩,_⟩:=HN.out
      clear hown hgrow hiff x0 x1
      go_wp2
      exact ⟨⟨k+1,A',c',by omega,by go_num,HN.out.2⟩,by simp [intOf]; omega⟩
     ·have hkm:k=m:=by omega
      subst hkm
      have dk:decide ((k:Int) < (k:Int))=false:=decide_eq_false (by omega)
      have HFIN:Hid (∀ wr,CrM w wr P q w3.heap.size nb key k A c→CP (.returned (.tuple #[.pointer (some ⟨P,0,none⟩),.int .i64 0])) wr):=by
       intro wr hr
       refine HYES.out _ _ HF.out ?_
       have hBt:=HH.out.B
       obtain ⟨ea,rfl⟩:∃ ea,A=some ⟨ea,0,none⟩:=by
        rcases hr.es.2 with ⟨h2,h3⟩ | ⟨g',cap,cur,h2,_⟩
        ·injection h2 with h2 h3'
         have:=HK1.out
         omega
        ·injection h2 with h2 _ _
         exact ⟨_,h2⟩
       have hme:=HNBE.out
       have hl1:(freshV g ((k:Int)).toNat).es.length=k:=by unfold freshV; simp
       have hl2:(freshV g ((k:Int)).toNat).bs.length=nb:=by unfold freshV; simp [hme]
       refine ⟨P,ea,c,some ⟨w3.heap.size,0,none⟩,nb,rfl,⟨?_,Bd.nx (by have:=HPw.out; omega),?_,Bd.nx (by have:=drow_low hr.es; omega),?_,DPm.below0 HH.out hr.bel⟩,HPw.out,hr.bel⟩
       ·have e:vObj q key (freshV g ((k:Int)).toNat) ea c (some ⟨w3.heap.size,0,none⟩) nb=[.pointer (some ⟨q,0,none⟩),.int .u64 key,.slice (some ⟨ea,0,none⟩) k c,.slice (some ⟨w3.heap.size,0,none⟩) nb nb,.int .u64 0,.int .i64 0]:=by
         unfold vObj; rw [hl1,hl2]; rfl
        rw [e]
        exact own_mono hr.obj (Nat.le_trans B.le hBt)
       ·rw [hl1]
        have e:flatE (freshV g ((k:Int)).toNat).es=flatE (List.replicate k noNE):=by unfold freshV; simp
        rw [e]
        exact own_mono hr.es (Nat.le_trans B.le hBt)
       ·have e:V.flat (freshV g ((k:Int)).toNat).bs=V.flat (List.replicate nb ⟨0,0,0,0⟩):=by unfold freshV; simp [hme]
        rw [e]
        exact RdT.of_own hr.bs
      have HFI:=Lib.hid (HFIN.out wr HR.out)
      clear HFIN
      go_wp2
      exact HFI.out
end
end Go.Proofs.YtggkengmlkhdiaaGreat
namespace Go.Proofs.YtggkengmlkhdiaaGreat
set_option linter.unusedVariables false
open Go.RowKit
theorem ersK_len (g:Geo) (F:List Flt) (key:Int) (d:DC):∀ j,(ersK g F key d j).1.O.length≤d.O.length+9 * j
 | 0=>by unfold ersK; simp
 | j+1=>by
   have ih:=ersK_len g F key d j
   have h:=tryD_len (eOne_len g F key j) (ersK g F key d j).1
   unfold ersK
   split
   ·simp only; omega
   ·omega
def NewPost20 (w:World) (B:Bd) (q pw:Nat) (g:Geo) (F:List Flt) (key:Int) (d:DC) (n:Int) (e:Ending) (w':World):Prop:=
 if possB g n=true then
  (if (newDD g F key d).2=0 then ∃ p ea ec BA bc,e= .returned (.tuple #[.pointer (some ⟨p,0,none⟩),.int .i64 0])∧Drv w' B p q pw g F key ⟨freshV g n.toNat,(newDD g F key d).1⟩ ea ec BA bc∧w.heap.size≤p
   else e= .returned (.tuple #[.pointer none,.int .i64 (newDD g F key d).2])∧DM w' B q pw g F (newDD g F key d).1)∧KeptT DAT B w w'
 else e= .returned (.tuple #[.pointer none,.int .i64 1])∧Below w.heap.size w w'
section
variable {w w':World} {B:Bd} {p q pw:Nat} {g:Geo} {F:List Flt} {key:Int} {d:DC}
set_option maxRecDepth 100000 in
set_option maxHeartbeats 8000000 in
theorem new20_any (n:Int) (hg:Vg g) (hn:F.length≤9223372036854775807) (hon:d.O.length+600≤99000) (h:DM w B q pw g F d):Calls Tryz.prog 34 #[.pointer (some ⟨q,0,none⟩),.int .u64 key,.int .i64 n] w (NewPost20 w B q pw g F key d n):=by
 have HNO:Hid (∀ e w',possB g n=false→(e= .returned (.tuple #[.pointer none,.int .i64 1])∧Below w.heap.size w w')→NewPost20 w B q pw g F key d n e w'):=by
  intro e w' h1 h2; unfold NewPost20; rw [h1,if_neg (by decide)]; exact h2
 have HYES:Hid (∀ e w',possB g n=true→(newDD g F key d).2=0→(∃ p ea ec BA bc,e= .returned (.tuple #[.pointer (some ⟨p,0,none⟩),.int .i64 0])∧Drv w' B p q pw g F key ⟨freshV g n.toNat,(newDD g F key d).1⟩ ea ec BA bc∧w.heap.size≤p)→KeptT DAT B w w'→NewPost20 w B q pw g F key d n e w'):=by
  intro e w' h1 h2 h3 h4; unfold NewPost20; rw [if_pos h1,if_pos h2]; exact ⟨h3,h4⟩
 have HBAD:Hid (∀ e w' er dd,possB g n=true→newDD g F key d=(dd,er)→er≠0→e= .returned (.tuple #[.pointer none,.int .i64 er])→DM w' B q pw g F dd→KeptT DAT B w w'→NewPost20 w B q pw g F key d n e w'):=by
  intro e w' er dd h1 h2 h3 h4 h5 h6; unfold NewPost20; rw [if_pos h1,h2,if_neg h3]; exact ⟨⟨h4,h5⟩,h6⟩
 have HDD:Hid (newDD g F key d=if (ersK g F key d g.bands.toNat).2=0 then ((tryD (fOne g F key) (ersK g F key d g.bands.toNat).1).1,(tryD (fOne g F key) (ersK g F key d g.bands.toNat).1).2.er) else ersK g F key d g.bands.toNat):=rfl
 have HST:Hid (∀ k,k < g.bands.toNat→(ersK g F key d k).2=0→ersK g F key d (k+1)=((tryD (eOne g F key k) (ersK g F key d k).1).1,(tryD (eOne g F key k) (ersK g F key d k).1).2.er)):=by
  intro k _ h0; rw [ersK,if_pos h0]
 have HFA:Hid (∀ j k,j≤k→(ersK g F key d j).2≠0→ersK g F key d k=ersK g F key d j):=by
  intro j k hjk h0
  obtain ⟨i,rfl⟩:∃ i,k=j+i:=⟨k - j,by omega⟩
  clear hjk
  induction i with
  | zero=>rfl
  | succ i ih=>rw [show j+(i+1)=j+i+1 by omega,ersK,ih,if_neg h0]
 have HLE:=Lib.hid (ersK_len g F key d)
 have hbd:Below w.heap.size w ((w.alloc (.cells #[.pointer (some ⟨q,0,none⟩)] 54)).alloc (.cells #[.int .u64 key] 23)):=((Below.refl _ _).alloc (Nat.le_refl _) _).alloc (by simp) _
 have HCR:=Lib.hid (create20_any (key:=key) n hg (DPm.below0 h hbd))
 have HN:=Lib.hid hn
 have HON:=Lib.hid hon
 have HB1:=Lib.hid hbd
 have HX0:Hid (((w.alloc (.cells #[.pointer (some ⟨q,0,none⟩)] 54)).alloc (.cells #[.int .u64 key] 23)).heap[w.heap.size]?=some (.cells #[.pointer (some ⟨q,0,none⟩)] 54 (0,0))):=belObj ((Below.refl (w.heap.size+1) _).alloc (by simp) _) (heap_alloc_new _ _) (by omega)
 have HX1:Hid (((w.alloc (.cells #[.pointer (some ⟨q,0,none⟩)] 54)).alloc (.cells #[.int .u64 key] 23)).heap[w.heap.size+1]?=some (.cells #[.int .u64 key] 23 (0,0))):=by
  have:=heap_alloc_new (w.alloc (.cells #[.pointer (some ⟨q,0,none⟩)] 54)) (.cells #[.int .u64 key] 23)
  unfold Hid
  simpa using this
 have HNB:Hid (0≤g.bands∧g.bands≤64):=⟨by have:=hg.b0; omega,hg.b1⟩
 clear h hbd hn hon hg
 generalize NewPost20 w B q pw g F key d n=NP at *
 go_enter Tryz.func34,Tryz.ntmps34
 go_upto_region 1 with fail
 generalize ((w.alloc (.cells #[.pointer (some ⟨q,0,none⟩)] 54)).alloc (.cells #[.int .u64 key] 23))=w1 at *
 have a0:=dcell_one HX0.out
 have a1:=dcell_one HX1.out
 go_wp2_with fail
 refine HCR.out.mono ?_
 intro e w2 hcr
 cases hpo:possB g n
 ·have hc2:e= .returned (.tuple #[.pointer none,.int .i64 1])∧Below w1.heap.size w1 w2:=by
   unfold CreatePost at hcr; rw [hpo,if_neg (by decide)] at hcr; exact hcr
  obtain ⟨rfl,hb2⟩:=hc2
  have HB2:=Lib.hid (HB1.out.trans (hb2.mono HB1.out.size))
  have HP:=Lib.hid hpo
  clear hcr hb2 hpo a0 a1
  go_wp2
  exact HNO.out _ _ HP.out ⟨rfl,HB2.out⟩
 ·have hc2:∃ p ea ec BA bc,e= .returned (.tuple #[.pointer (some ⟨p,0,none⟩),.int .i64 0])∧Drv w2 B p q pw g F key ⟨freshV g n.toNat,d⟩ ea ec BA bc∧w1.heap.size≤p∧Below w1.heap.size w1 w2:=by
   unfold CreatePost at hcr; rw [if_pos hpo] at hcr; exact hcr
  obtain ⟨p,ea,ec,BA,bc,rfl,hd2,hp2,hb2⟩:=hc2
  have HP:=Lib.hid hpo
  have HPP:Hid (w.heap.size≤p):=Nat.le_trans HB1.out.size hp2
  have HB2:=Lib.hid (HB1.out.trans (hb2.mono HB1.out.size))
  have HY0:=Lib.hid (belObj hb2 HX0.out (lt_of_block HX0.out))
  have HY1:=Lib.hid (belObj hb2 HX1.out (lt_of_block HX1.out))
  have hbl:(freshV g n.toNat).bs.length=g.bands.toNat:=by unfold freshV; simp
  have HD2:=Lib.hid hd2
  have c3:=hd2.cells.2.2.2.1
  simp only [hbl] at c3
  clear hcr hpo a0 a1 hb2 hd2 hp2 HNO
  generalize hNB:g.bands.toNat=nb at *
  go_wp2_with fail
  clear c3
  have H0:Hid (Drv w2 B p q pw g F key ⟨freshV g n.toNat,(ersK g F key d 0).1⟩ ea ec BA bc∧(ersK g F key d 0).2=0∧KeptT DAT B w w2∧w2.heap[w.heap.size]?=some (.cells #[.pointer (some ⟨q,0,none⟩)] 54 (0,0))∧w2.heap[w.heap.size+1]?=some (.cells #[.int .u64 key] 23 (0,0))):=⟨HD2.out,rfl,KeptT.bel HB2.out,HY0.out,HY1.out⟩
  have HNB2:Hid (nb≤64):=by have:=HNB.out; unfold Hid; omega
  clear hNB HNB HY0 HY1 HX0 HX1 HD2 HB1 HCR
  go_loopw [28] (fun i wr=>∃ k:Nat,k≤nb∧i= .int .i64 k∧Hid (Drv wr B p q pw g F key ⟨freshV g n.toNat,(ersK g F key d k).1⟩ ea ec BA bc∧(ersK g F key d k).2=0∧KeptT DAT B w wr∧wr.heap[w.heap.size]?=some (.cells #[.pointer (some ⟨q,0,none⟩)] 54 (0,0))∧wr.heap[w.heap.size+1]?=some (.cells #[.int .u64 key] 23 (0,0)))) (fun i _=>nb - (intOf i).toNat)
  case atStart=>exact ⟨0,Nat.zero_le _,rfl,H0⟩
  case round=>
   obtain ⟨k,hk,rfl,HR⟩:=hrel
   by_cases hlt:k < nb
   ·have dk:decide ((k:Int) < (nb:Int))=true:=decide_eq_true (by omega)
    have hbl3:Below wr.heap.size wr (wr.alloc (.cells #[.int .i64 (k:Int)] 3)):=(Below.refl _ _).alloc (Nat.le_refl _) _
    have hle:=HLE.out k
    have h64:=HNB2.out
    have hon:=HON.out
    have HTR:=Lib.hid (tryner_any (key:=key) (k:=(k:Int)) (bi:=wr.heap.size) (fi:=(0,0)) (by unfold I64; omega) (DPm.below0 HR.out.1.dsk hbl3) HN.out (by simp only; omega) (belObj hbl3 HR.out.2.2.2.1 (lt_of_block HR.out.2.2.2.1)) (belObj hbl3 HR.out.2.2.2.2 (lt_of_block HR.out.2.2.2.2)) (heap_alloc_new _ _))
    have HK3:Hid (KeptT DAT B w (wr.alloc (.cells #[.int .i64 (k:Int)] 3))):=HR.out.2.2.1.trans (KeptT.bel hbl3)
    have HZ0:=Lib.hid (belObj hbl3 HR.out.2.2.2.1 (lt_of_block HR.out.2.2.2.1))
    have HZ1:=Lib.hid (belObj hbl3 HR.out.2.2.2.2 (lt_of_block HR.out.2.2.2.2))
    have HD3:=Lib.hid (HR.out.1.below0 hbl3)
    have HS1:=Lib.hid (HST.out k hlt HR.out.2.1)
    have HZS:Hid (∀ er,(tryD (eOne g F key k) (ersK g F key d k).1).2.er=er→er≠0→newDD g F key d=((tryD (eOne g F key k) (ersK g F key d k).1).1,er)):=by
     intro er h1 h2
     have h3:(ersK g F key d (k+1)).2≠0:=by rw [HS1.out,h1]; exact h2
     rw [HDD.out,HFA.out (k+1) nb (by omega) h3,if_neg h3,HS1.out,h1]
    clear hle h64 hon hbl3
    go_upto_region 7 with fail
    generalize (wr.alloc (.cells #[.int .i64 (k:Int)] 3))=w3 at *
    generalize hT:tryD (eOne g F key k) (ersK g F key d k).1=T at *
    clear hT
    obtain ⟨d',⟨er,ys⟩⟩:=T
    have HTR2:Hid (Calls Tryz.prog 47 #[.func (.func 61) #[] #[.pointer (some ⟨w.heap.size,0,none⟩),.pointer (some ⟨w.heap.size+1,0,none⟩),.pointer (some ⟨wr.heap.size,0,none⟩)]] w3 fun e w'=>e= .returned (.int .i64 er)∧DM w' B q pw g F d'∧KeptT DAT B w3 w'):=HTR.out
    have HS2:Hid (ersK g F key d (k+1)=(d',er)):=HS1.out
    have HZS2:Hid (er≠0→newDD g F key d=(d',er)):=HZS.out er rfl
    clear HTR HS1 HZS HST HFA HLE HR
    go_wp2_with fail
    refine HTR2.out.mono ?_
    rintro e w4 ⟨rfl,hd4,hk4⟩
    have HD4:=Lib.hid (HD3.out.disk hd4 hk4)
    have HDM4:=Lib.hid hd4
    have HK4:Hid (KeptT DAT B w w4):=HK3.out.trans hk4
    have HY0:=Lib.hid (Kept.obj hk4 HZ0.out (KeptT.no (IsT.of HZ0.out) (by unfold DAT; decide)))
    have HY1:=Lib.hid (Kept.obj hk4 HZ1.out (KeptT.no (IsT.of HZ1.out) (by unfold DAT; decide)))
    clear hd4 hk4 HTR2 HZ0 HZ1 HD3 HK3
    by_cases her:er=0
    ·subst her
     have hk64:k < 64:=by have:=HNB2.out; omega
     go_wp2
     exact ⟨⟨k+1,by omega,by go_num,by unfold Hid; rw [HS2.out]; exact ⟨HD4.out,rfl,HK4.out,HY0.out,HY1.out⟩⟩,by simp [intOf]; omega⟩
    ·have hner:(er !=0)=true:=by simpa using her
     have HDN:=Lib.hid (HZS2.out her)
     have HER:=Lib.hid her
     clear her
     go_wp2
     exact HBAD.out _ _ er d' HP.out HDN.out HER.out rfl HDM4.out HK4.out
   ·obtain rfl:k=nb:=by omega
    have dk:decide ((k:Int) < (k:Int))=false:=decide_eq_false (by omega)
    have hle:=HLE.out k
    have h64:=HNB2.out
    have hon:=HON.out
    have HTR:=Lib.hid (trynfl_any (key:=key) HR.out.1.dsk HN.out (by simp only; omega) HR.out.2.2.2.1 HR.out.2.2.2.2)
    have HDN:Hid (newDD g F key d=((tryD (fOne g F key) (ersK g F key d k).1).1,(tryD (fOne g F key) (ersK g F key d k).1).2.er)):=by
     unfold Hid; rw [HDD.out,if_pos HR.out.2.1]
    have HD3:=Lib.hid HR.out.1
    have HK3:=Lib.hid HR.out.2.2.1
    generalize hT:tryD (fOne g F key) (ersK g F key d k).1=T at *
    clear hT hle h64 hon
    obtain ⟨d',⟨er,ys⟩⟩:=T
    have HTR2:Hid (Calls Tryz.prog 47 #[.func (.func 63) #[] #[.pointer (some ⟨w.heap.size,0,none⟩),.pointer (some ⟨w.heap.size+1,0,none⟩)]] wr fun e w'=>e= .returned (.int .i64 er)∧DM w' B q pw g F d'∧KeptT DAT B wr w'):=HTR.out
    have HDN2:Hid (newDD g F key d=(d',er)):=HDN.out
    clear HTR HDN HST HFA HLE HR HDD
    go_wp2_with fail
    refine HTR2.out.mono ?_
    rintro e w4 ⟨rfl,hd4,hk4⟩
    have HD4:=Lib.hid (HD3.out.disk hd4 hk4)
    have HDM4:=Lib.hid hd4
    have HK4:Hid (KeptT DAT B w w4):=HK3.out.trans hk4
    clear hd4 hk4 HTR2 HD3 HK3
    by_cases her:er=0
    ·subst her
     have HFI:Hid (NP (.returned (.tuple #[.pointer (some ⟨p,0,none⟩),.int .i64 0])) w4):=by
      refine HYES.out _ _ HP.out (by rw [HDN2.out]) ⟨p,ea,ec,BA,bc,rfl,?_,HPP.out⟩ HK4.out
      rw [HDN2.out]; exact HD4.out
     go_wp2
     exact HFI.out
    ·have hner:(er !=0)=true:=by simpa using her
     have HER:=Lib.hid her
     clear her
     go_wp2
     exact HBAD.out _ _ er d' HP.out HDN2.out HER.out rfl HDM4.out HK4.out
end
end Go.Proofs.YtggkengmlkhdiaaGreat
namespace Go.Proofs.YtggkengmlkhdiaaGreat
set_option linter.unusedVariables false
open Go.RowKit
def exG:Geo:=⟨0,5,2,4,1⟩
def exP:Pow:=⟨false,false,0,0⟩
def exD0:DC:=⟨newS exP,exP,blankL exG,[]⟩
def exS0:ST:=⟨freshV exG 4,(newDD exG [] 0 exD0).1⟩
def exX1:Ent:=⟨1,1,5,[7,0,0,0,0,0,0,0]⟩
def exS1:ST:=(appN exG [] 0 exS0 exX1 (-1)).1
def exS2:ST:=readS20 exG [] 0 exS1 1
def exX4:Ent:=⟨2,1,6,zeros8⟩
def exS4:ST:=(appN exG [] 0 exS2 exX4 (-1)).1
set_option maxRecDepth 100000
theorem ex_new:(newDD exG [] 0 exD0).2=0:=by decide+kernel
theorem ex_w1:(appN exG [] 0 exS0 exX1 (-1)).2=0:=by decide+kernel
theorem ex_r1:readE20 exG [] 0 exS1 1=0:=by decide+kernel
theorem ex_r2:(readX20 exG [] 0 exS1 1).ver=5∧(readX20 exG [] 0 exS1 1).dt=[7,0,0,0,0,0,0,0]:=by decide+kernel
theorem ex_p2:preE exS2.v 1 4=1:=by decide+kernel
theorem ex_w4:(appN exG [] 0 exS2 exX4 (-1)).2=0:=by decide+kernel
theorem ex_r5:readE20 exG [] 0 exS4 1=9:=by decide+kernel
theorem ex_p1:preE exS0.v 1 5=0:=by decide+kernel
theorem ex_p4:preE exS2.v 1 6=0:=by decide+kernel
theorem ex_poss:possB exG 4=true:=by decide+kernel
theorem ex_f:exS0.v.failed=0∧exS1.v.failed=0∧exS2.v.failed=0∧exS4.v.failed=0:=by decide+kernel
theorem ex_fr:2≤V.freeN exS0.v.bs∧2≤V.freeN exS2.v.bs:=by decide+kernel
theorem ex_o:exD0.O.length=0∧exS0.d.O.length+9≤99000∧exS1.d.O.length+9≤99000∧exS2.d.O.length+9≤99000:=by decide+kernel
theorem ex_u1:exS1.d.U8:=by
 unfold DC.U8 SecU U8s
 decide+kernel
theorem ex_u4:exS4.d.U8:=by
 unfold DC.U8 SecU U8s
 decide+kernel
theorem ex_vg:Vg exG:=by constructor <;> decide
theorem ex_ok0:VOk exG exS0.v:=by
 have hn:∀ (b:Nat) (n:NE),exS0.v.es[b]?=some n→n=noNE:=fun b n h=>List.eq_of_mem_replicate (List.mem_of_getElem? h)
 refine ⟨ex_vg,?_,by decide+kernel,by decide+kernel,by decide+kernel,by decide+kernel,fun b n h=>.inl (by rw [hn b n h]; rfl),fun a b n m h _ h0=>?_,?_,fun n h=>?_,fun n h=>?_,?_⟩
 ·intro b hb
  have:b=⟨0,0,0,0⟩:=List.eq_of_mem_replicate hb
  subst this
  constructor <;> (first | unfold V.I64 | unfold V.U64) <;> decide
 ·rw [hn a n h] at h0; exact absurd h0 (by decide)
 ·decide+kernel
 ·have:n=noNE:=List.eq_of_mem_replicate h
  subst this
  unfold V.U64; decide
 ·have:n=noNE:=List.eq_of_mem_replicate h
  subst this
  decide
 ·unfold V.U64; decide
theorem ex_len:exS0.v.es.length=4∧exS0.v.bs.length=5∧exS1.v.es.length=4∧exS2.v.es.length=4∧exS2.v.bs.length=5:=by decide+kernel
theorem ex_ok1:VOk exG exS1.v:=(app_ok (F:=[]) (key:=0) (x:=exX1) (except:=-1) ex_ok0 (by unfold V.U64; decide) (by decide) (by have:=ex_len.1; show (1:Int) < _; omega) (by omega)).1
theorem ex_ok2:VOk exG exS2.v:=by
 unfold exS2 readS20
 split
 ·simp only
  split
  ·exact ex_ok1
  ·exact ex_ok1.fail _
 ·exact ex_ok1
end Go.Proofs.YtggkengmlkhdiaaGreat
namespace Go.Proofs.YtggkengmlkhdiaaGreat
set_option linter.unusedVariables false
open Go.RowKit
theorem snd_eq {α:Type} {r:α × Int} {k:Int} (h:r.2=k):r=(r.1,k):=by cases r; cases h; rfl
theorem ex_put1:putE exG [] 0 exS0 exX1=(exS1,0):=by
 have h:preE exS0.v exX1.blk exX1.ver=0:=ex_p1
 unfold putE
 rw [if_pos h]
 exact snd_eq ex_w1
theorem ex_put2:putE exG [] 0 exS2 ⟨1,1,4,zeros8⟩=(exS2,1):=by
 have h:preE exS2.v 1 4=1:=ex_p2
 unfold putE
 have h2:preE exS2.v (⟨1,1,4,zeros8⟩:Ent).blk (⟨1,1,4,zeros8⟩:Ent).ver=1:=h
 rw [h2]
 exact if_neg (by decide)
theorem ex_put4:putE exG [] 0 exS2 exX4=(exS4,0):=by
 have h:preE exS2.v exX4.blk exX4.ver=0:=ex_p4
 unfold putE
 rw [if_pos h]
 exact snd_eq ex_w4
section
variable {w:World} {B:Bd} {p q pw ea ec:Nat} {BA:Option Addr} {bc:Nat}
set_option maxRecDepth 100000
theorem exw1 (h:Drv w B p q pw exG [] 0 exS0 ea ec BA bc):Calls Tryz.prog 19 #[.pointer (some ⟨p,0,none⟩),.int .i64 1,.int .u64 5,.agg #[.int .u8 7,.int .u8 0,.int .u8 0,.int .u8 0,.int .u8 0,.int .u8 0,.int .u8 0,.int .u8 0]] w fun e w'=>e= .returned (.int .i64 0)∧DrvTo w B p q pw exG [] 0 exS1 ea ec w':=by
 have hx:KindOk ⟨1,1,5,[7,0,0,0,0,0,0,0]⟩:=⟨.inl rfl,by decide,by decide,rfl,by unfold U8s; decide⟩
 have:=write20_easy 1 5 7 0 0 0 0 0 0 0 hx ex_ok0 ex_f.1 ex_fr.1 (fun f hf=>absurd hf (by simp)) (by decide) ex_o.2.1 h
 rw [show (⟨1,1,5,[7,0,0,0,0,0,0,0]⟩:Ent)=exX1 from rfl,ex_put1] at this
 exact this
theorem exw2 (h:Drv w B p q pw exG [] 0 exS2 ea ec BA bc):Calls Tryz.prog 19 #[.pointer (some ⟨p,0,none⟩),.int .i64 1,.int .u64 4,.agg #[.int .u8 0,.int .u8 0,.int .u8 0,.int .u8 0,.int .u8 0,.int .u8 0,.int .u8 0,.int .u8 0]] w fun e w'=>e= .returned (.int .i64 1)∧DrvTo w B p q pw exG [] 0 exS2 ea ec w':=by
 have hx:KindOk ⟨1,1,4,zeros8⟩:=⟨.inl rfl,by decide,by decide,rfl,by unfold U8s; decide⟩
 have:=write20_easy 1 4 0 0 0 0 0 0 0 0 hx ex_ok2 ex_f.2.2.1 ex_fr.2 (fun f hf=>absurd hf (by simp)) (by decide) ex_o.2.2.2 h
 rw [show (⟨1,1,4,[0,0,0,0,0,0,0,0]⟩:Ent)=⟨1,1,4,zeros8⟩ from rfl,ex_put2] at this
 exact this
theorem ext4 (h:Drv w B p q pw exG [] 0 exS2 ea ec BA bc):Calls Tryz.prog 20 #[.pointer (some ⟨p,0,none⟩),.int .i64 1,.int .u64 6] w fun e w'=>e= .returned (.int .i64 0)∧DrvTo w B p q pw exG [] 0 exS4 ea ec w':=by
 have hx:KindOk ⟨2,1,6,zeros8⟩:=⟨.inr ⟨rfl,rfl⟩,by decide,by decide,rfl,by unfold U8s; decide⟩
 have:=trim20_easy 1 6 hx ex_ok2 ex_f.2.2.1 ex_fr.2 (fun f hf=>absurd hf (by simp)) (by decide) ex_o.2.2.2 h
 rw [show (⟨2,1,6,zeros8⟩:Ent)=exX4 from rfl,ex_put4] at this
 exact this
theorem exr1 (h:Drv w B p q pw exG [] 0 exS1 ea ec BA bc):Calls Tryz.prog 14 #[.pointer (some ⟨p,0,none⟩),.int .i64 1] w fun e w'=>e= .returned (.tuple #[.int .u64 5,.agg #[.int .u8 7,.int .u8 0,.int .u8 0,.int .u8 0,.int .u8 0,.int .u8 0,.int .u8 0,.int .u8 0],.int .i64 0])∧DrvTo w B p q pw exG [] 0 exS2 ea ec w':=by
 have:=read20_any 1 ex_u1 (by decide) h
 unfold ReadTo20 at this
 rw [ex_r1,ex_r2.1,ex_r2.2] at this
 exact this
theorem exr5 (h:Drv w B p q pw exG [] 0 exS4 ea ec BA bc):Calls Tryz.prog 14 #[.pointer (some ⟨p,0,none⟩),.int .i64 1] w fun e w'=>e= .returned (.tuple #[.int .u64 0,.agg #[.int .u8 0,.int .u8 0,.int .u8 0,.int .u8 0,.int .u8 0,.int .u8 0,.int .u8 0,.int .u8 0],.int .i64 9])∧DrvTo w B p q pw exG [] 0 (readS20 exG [] 0 exS4 1) ea ec w':=by
 have:=read20_any 1 ex_u4 (by decide) h
 unfold ReadTo20 at this
 rw [ex_r5,show readX20 exG [] 0 exS4 1=noEnt by unfold readX20; exact if_neg (by decide+kernel)] at this
 exact this
theorem exnew (h:DM w B q pw exG [] exD0):Calls Tryz.prog 34 #[.pointer (some ⟨q,0,none⟩),.int .u64 0,.int .i64 4] w fun e w'=>∃ p ea ec BA bc,e= .returned (.tuple #[.pointer (some ⟨p,0,none⟩),.int .i64 0])∧Drv w' B p q pw exG [] 0 exS0 ea ec BA bc∧KeptT DAT B w w':=by
 refine (new20_any (key:=0) 4 ex_vg (by decide) (by rw [ex_o.1]; decide) h).mono ?_
 intro e w' hp
 unfold NewPost20 at hp
 rw [if_pos ex_poss,if_pos ex_new] at hp
 obtain ⟨⟨p,ea,ec,BA,bc,he,hd,_⟩,hk⟩:=hp
 exact ⟨p,ea,ec,BA,bc,he,hd,hk⟩
end
end Go.Proofs.YtggkengmlkhdiaaGreat

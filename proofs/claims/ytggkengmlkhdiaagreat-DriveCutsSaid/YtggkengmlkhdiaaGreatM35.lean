/-
  WHAT IS SHOWN: what Open of drive returns and leaves. Conditions: the disk lies in memory.
-/
import Derived.Test.YtggkengmlkhdiaaGreatM34
import Derived.StillTailTactics
namespace Go.Proofs.YtggkengmlkhdiaaGreat
set_option linter.unusedVariables false
open Go.RowKit Go.Maps
section
variable {w w':World} {B:Bd} {q pw:Nat} {g:Geo} {F:List Flt} {key:Int} {d:DC}
def OpenPost (w:World) (B:Bd) (q pw:Nat) (g:Geo) (F:List Flt) (key:Int) (d:DC) (n:Int) (e:Ending) (w':World):Prop:=
 if possB g n=true then
  (if (rdS20 g F key d (nSec g)).2.2=0 then ∃ p v,OpenV g n.toNat (rdS20 g F key d (nSec g)).2.1 v∧e= .returned (.tuple #[.pointer (some ⟨p,0,none⟩),.int .i64 0])∧DrvM w' B p q pw g F key ⟨v,(rdS20 g F key d (nSec g)).1⟩∧KeptT DRT B w w'
   else e= .returned (.tuple #[.pointer none,.int .i64 (rdS20 g F key d (nSec g)).2.2])∧DM w' B q pw g F (rdS20 g F key d (nSec g)).1∧KeptT DRT B w w')
 else e= .returned (.tuple #[.pointer none,.int .i64 1])∧Below w.heap.size w w'
theorem own_capS {w:World} {base:Nat} {e:TypeId} {size n c:Nat} {A:Option Addr} {xs:List Value} (h:w.ownsRow base e size (.slice A n c) n xs):n≤c∧c≤maxLen:=by
 rcases h.2 with ⟨h1,h0⟩ | ⟨g,cap,cur,hv,hb,hg,hc,hm,_⟩
 ·injection h1 with h1 h2 h3; subst h3; subst h0; exact ⟨Nat.le_refl _,Nat.zero_le _⟩
 ·injection hv with h1 h2 h3; subst h3; exact ⟨hc,hm⟩
theorem flatD_get:∀ {L:List Cnd} {j:Nat} {c:Cnd},(∀ c∈L,c.x.dt.length=8)→L[j]?=some c→∀ t,t < 12→(flatD L)[j * 12+t]?=(c.x.cells++[Value.int .i64 c.adr])[t]?
 | [],j,c,_,h,_,_=>by simp at h
 | a::L,0,c,hd,h,t,ht=>by
   have h8:=hd a (by simp)
   simp only [List.getElem?_cons_zero,Option.some.injEq] at h
   subst h
   unfold flatD
   rw [List.flatMap_cons,List.getElem?_append_left (by simp [Ent.cells,h8]; omega)]
   simp
 | a::L,j+1,c,hd,h,t,ht=>by
   have h8:=hd a (by simp)
   have ih:=flatD_get (L:=L) (j:=j) (c:=c) (fun d hd'=>hd d (by simp [hd'])) (by simpa using h) t ht
   unfold flatD at ih ⊢
   have hl:(a.x.cells++[Value.int .i64 a.adr]).length=12:=by simp [Ent.cells,h8]
   rw [List.flatMap_cons,List.getElem?_append_right (by omega),hl,show (j+1) * 12+t - 12=j * 12+t by omega]
   exact ih
theorem RdT.found {w:World} {A:Option Addr} {L:List Cnd} (h:RdT w 118 A (flatD L)) (hd:∀ c∈L,c.x.dt.length=8) {j:Nat} {kd bk ver d0 d1 d2 d3 d4 d5 d6 d7 ad tm:Int} (hj:L[j]?=some ⟨⟨kd,bk,ver,[d0,d1,d2,d3,d4,d5,d6,d7]⟩,ad,tm⟩):
  ∃ ga oa,A=some ⟨ga,oa,none⟩∧ga < w.heap.size∧w.cell? ⟨ga,oa+j * 12,none⟩=some (.int .i64 kd)∧w.cell? ⟨ga,oa+j * 12+1,none⟩=some (.int .i64 bk)∧w.cell? ⟨ga,oa+j * 12+2,none⟩=some (.int .u64 ver)∧
   w.cell? ⟨ga,oa+j * 12+3,none⟩=some (.int .u8 d0)∧w.cell? ⟨ga,oa+j * 12+4,none⟩=some (.int .u8 d1)∧w.cell? ⟨ga,oa+j * 12+5,none⟩=some (.int .u8 d2)∧w.cell? ⟨ga,oa+j * 12+6,none⟩=some (.int .u8 d3)∧
   w.cell? ⟨ga,oa+j * 12+7,none⟩=some (.int .u8 d4)∧w.cell? ⟨ga,oa+j * 12+8,none⟩=some (.int .u8 d5)∧w.cell? ⟨ga,oa+j * 12+9,none⟩=some (.int .u8 d6)∧w.cell? ⟨ga,oa+j * 12+10,none⟩=some (.int .u8 d7)∧w.cell? ⟨ga,oa+j * 12+11,none⟩=some (.int .i64 ad):=by
 have hf:=fun t ht=>flatD_get hd hj t ht
 obtain ⟨ga,oa,rfl,hlt,_⟩:=h.rd (j * 12+0) (.int .i64 kd) (hf 0 (by decide))
 have hc:∀ t u,(flatD L)[j * 12+t]?=some u→w.cell? ⟨ga,oa+j * 12+t,none⟩=some u:=fun t u hu=>by
  obtain ⟨g2,o2,e,_,hc⟩:=h.rd (j * 12+t) u hu
  injection e with e; injection e with e1 e2; subst e1; subst e2
  rw [Nat.add_assoc]; exact hc
 exact ⟨ga,oa,rfl,hlt,hc 0 _ (hf 0 (by decide)),hc 1 _ (hf 1 (by decide)),hc 2 _ (hf 2 (by decide)),hc 3 _ (hf 3 (by decide)),hc 4 _ (hf 4 (by decide)),hc 5 _ (hf 5 (by decide)),hc 6 _ (hf 6 (by decide)),hc 7 _ (hf 7 (by decide)),hc 8 _ (hf 8 (by decide)),hc 9 _ (hf 9 (by decide)),hc 10 _ (hf 10 (by decide)),hc 11 _ (hf 11 (by decide))⟩
theorem entAll_len (n:Nat) (L:List Cnd):(entAll n L).length=n:=by
 unfold entAll
 have:∀ (L:List Cnd) (es:List NE),(L.foldl entSet es).length=es.length:=fun L=>by
  induction L with
  | nil=>intro es; rfl
  | cons c L ih=>intro es; rw [List.foldl_cons,ih]; unfold entSet; simp
 rw [this]; simp
theorem rdt_none {t:TypeId} {ys:List Int} (h:RdT w t none (ys.map (Value.int .u8))):ys=[]:=by
 cases ys with
 | nil=>rfl
 | cons y ys=>obtain ⟨g,o,cur,fr,e,_⟩:=h 0 (.int .u8 y) rfl; cases e
theorem OpnM.dm {w1 wr:World} {pd gb fc:Nat} {FA A:Option Addr} {c:Nat} {vals:List Value} {ss:List (Option (List Int))} {d':DC} (h:OpnM w1 wr B q pw pd gb g F.length fc FA d' A c vals ss) (hd:Dsk w1 B q pw g F d.s d.L d.O pd FA fc) (hr:d'.L=d.L∧d'.O=d.O) (hs:ShortB d.L∧Fit g d.L) (hB:B.top≤w1.heap.size):
  DM wr B q pw g F d'∧KeptT DPT B w1 wr:=by
 have hm:=h.mid
 refine ⟨⟨⟨pd,FA,fc,?_⟩,hm.p,?_,?_,Nat.le_trans hB hm.k.size⟩,hm.k⟩
 ·rw [hr.1,hr.2]; exact Dsk.of hm.o hm.x hd.c hd.fl hm.k
 ·rw [hr.1]; exact hs.2
 ·rw [hr.1]; exact hs.1
set_option maxRecDepth 100000
set_option maxHeartbeats 16000000
theorem opendr_any (n:Int) (hg:Vg g) (h:DM w B q pw g F d) (hu:d.U8) (hn:F.length≤9223372036854775807):
  Calls Tryz.prog 27 #[.pointer (some ⟨q,0,none⟩),.int .u64 key,.int .i64 n] w (OpenPost w B q pw g F key d n):=by
 have HNO:Hid (∀ e w',possB g n=false→(e= .returned (.tuple #[.pointer none,.int .i64 1])∧Below w.heap.size w w')→OpenPost w B q pw g F key d n e w'):=by
  intro e w' h1 h2; unfold OpenPost; rw [h1,if_neg (by decide)]; exact h2
 obtain ⟨N,hN⟩:∃ N,nSec g=N:=⟨_,rfl⟩
 have HBAD:Hid (∀ e w',possB g n=true→(rdS20 g F key d N).2.2≠0→(e= .returned (.tuple #[.pointer none,.int .i64 (rdS20 g F key d N).2.2])∧DM w' B q pw g F (rdS20 g F key d N).1∧KeptT DRT B w w')→OpenPost w B q pw g F key d n e w'):=by
  intro e w' h1 h2 h3; unfold OpenPost; rw [if_pos h1,hN,if_neg h2]; exact h3
 have HYES:Hid (∀ e w',possB g n=true→(rdS20 g F key d N).2.2=0→(∃ p v,OpenV g n.toNat (rdS20 g F key d N).2.1 v∧e= .returned (.tuple #[.pointer (some ⟨p,0,none⟩),.int .i64 0])∧DrvM w' B p q pw g F key ⟨v,(rdS20 g F key d N).1⟩∧KeptT DRT B w w')→OpenPost w B q pw g F key d n e w'):=by
  intro e w' h1 h2 h3; unfold OpenPost; rw [if_pos h1,hN,if_pos h2]; exact h3
 have HCR:=Lib.hid (create20_any (key:=key) n hg h)
 have hb0:=hg.b0
 have hb1:=hg.b1
 have hbz:=hg.bz
 have hr0:=hg.r0
 have hr1:=hg.r1
 have hsz:=hg.sz
 have hsv:szN g=g.random+(N:Int):=by
  rw [szN_valid hg,← hN]; unfold nSec
  have:bz g=g.tracks * g.sectors:=rfl
  have h0:0≤g.bands * bz g:=Int.mul_nonneg (by omega) (by omega)
  rw [Int.toNat_of_nonneg h0]; rfl
 have HGZ:Hid (∀ W,Calls Tryz.prog 58 #[.agg #[.int .i64 g.random,.int .i64 g.bands,.int .i64 g.tracks,.int .i64 g.sectors,.int .i64 g.overlap]] W fun e w'=>e= .returned (.int .i64 (g.random+(N:Int)))∧Below W.heap.size W w'):=fun W=>by rw [← hsv]; exact gsz_any g W
 have hNb:N≤65536:=by rw [← hN]; unfold nSec; have h1:g.bands * bz g≤65536:=by { have:bz g=g.tracks * g.sectors:=rfl; rw [this]; exact hsz.2 }; omega
 have HNN:=Lib.hid hN
 have HG:=Lib.hid hg
 have HR:Hid (-1000000≤g.random∧g.random≤1000000):=⟨by omega,by omega⟩
 have HHN:=Lib.hid hn
 have HU:=Lib.hid hu
 have HS0:Hid (ShortB d.L∧Fit g d.L):=⟨h.s,h.f⟩
 clear h hg hu hn hb0 hb1 hbz hr0 hr1 hsz hsv
 generalize OpenPost w B q pw g F key d n=OP at *
 clear hN
 go_enter Tryz.func27,Tryz.ntmps27
 go_wp2_with fail
 refine HCR.out.mono ?_
 intro e w1 hcr
 clear HCR
 rcases hpo:possB g n with _ | _
 ·have hcr2:e= .returned (.tuple #[.pointer none,.int .i64 1])∧Below w.heap.size w w1:=by
   unfold CreatePost at hcr; rw [hpo,if_neg (by decide)] at hcr; exact hcr
  obtain ⟨rfl,hb⟩:=hcr2
  have HF:=HNO.out (.returned (.tuple #[.pointer none,.int .i64 1])) w1 hpo ⟨rfl,hb⟩
  clear hcr hb HBAD HYES HGZ HNO
  go_wp2
  exact HF
 ·have hcr2:∃ p ea ec BA bc,e= .returned (.tuple #[.pointer (some ⟨p,0,none⟩),.int .i64 0])∧Drv w1 B p q pw g F key ⟨freshV g n.toNat,d⟩ ea ec BA bc∧w.heap.size≤p∧Below w.heap.size w w1:=by
   unfold CreatePost at hcr; rw [if_pos hpo] at hcr; exact hcr
  obtain ⟨p,ea,ec,BA,bc,rfl,hdrv,hpl,hbl⟩:=hcr2
  have HP:=Lib.hid hpo
  have HDG:=Lib.hid (dgeo_any hdrv.dsk)
  have HDRV:=Lib.hid hdrv
  have HPL:=Lib.hid (And.intro hpl hbl)
  obtain ⟨⟨pd,FA,fc,hdk⟩,hpm,hf,hs,hB⟩:=hdrv.dsk
  have HDK:=Lib.hid hdk
  have HPM:=Lib.hid hpm
  have HBT:=Lib.hid hB
  clear hcr hpo hdrv hpl hbl hdk hpm hf hs hB
  go_wp2_with fail
  refine HDG.out.mono ?_
  rintro e w2 ⟨rfl,hb2⟩
  have hb3:Below w1.heap.size w1 (w2.alloc (.cells #[.int .i64 g.random,.int .i64 g.bands,.int .i64 g.tracks,.int .i64 g.sectors,.int .i64 g.overlap] 42)):=hb2.alloc hb2.size _
  have HO0:Hid (OpnM w1 (w2.alloc (.cells #[.int .i64 g.random,.int .i64 g.bands,.int .i64 g.tracks,.int .i64 g.sectors,.int .i64 g.overlap] 42)) B q pw pd w2.heap.size g F.length fc FA (rdS20 g F key d 0).1 none 0 [] (rdS20 g F key d 0).2.1):=
   ⟨Mid.below20 ⟨HDK.out.obj,HPM.out,KeptT.refl _ _ _,HDK.out.px⟩ hb3,World.ownsRow_nil _ _ _ _,fun i v o hv _=>by simp at hv,heap_alloc_new _ _,hb2.size⟩
  have PG:=Cells5.new w2 42 (.int .i64 g.random) (.int .i64 g.bands) (.int .i64 g.tracks) (.int .i64 g.sectors) (.int .i64 g.overlap)
  have p0:=PG.c0
  clear hb2 hb3 PG HDG
  go_wp2
  clear p0
  have HNB:=Lib.hid hNb
  generalize (w2.alloc (.cells #[.int .i64 g.random,.int .i64 g.bands,.int .i64 g.tracks,.int .i64 g.sectors,.int .i64 g.overlap] 42))=w3 at *
  generalize w2.heap.size=gb at *
  go_loopw [11,12] (fun o i wr=>∃ (k:Nat) (A:Option Addr) (c:Nat) (vals:List Value),k≤N∧i= .int .i64 (g.random+(k:Int))∧o= .slice A (rdS20 g F key d k).2.1.length c∧Hid ((rdS20 g F key d k).2.2=0∧OpnM w1 wr B q pw pd gb g F.length fc FA (rdS20 g F key d k).1 A c vals (rdS20 g F key d k).2.1)) (fun _ i _=>N - (intOf i - g.random).toNat)
  case atStart=>exact ⟨0,none,0,[],Nat.zero_le _,congrArg (Value.int .i64) (by omega),rfl,rfl,HO0.out⟩
  case round=>
   obtain ⟨k,A,c,vals,hk,rfl,rfl,HO⟩:=hrel
   clear HO0
   have hgx:=HO.out.2.gx
   have p0:wr.cell? ⟨gb,0,none⟩=some (.int .i64 g.random):=by rw [cell_of_row _ _ _ _ _ _ hgx]; rfl
   have p1:wr.cell? ⟨gb,1,none⟩=some (.int .i64 g.bands):=by rw [cell_of_row _ _ _ _ _ _ hgx]; rfl
   have p2:wr.cell? ⟨gb,2,none⟩=some (.int .i64 g.tracks):=by rw [cell_of_row _ _ _ _ _ _ hgx]; rfl
   have p3:wr.cell? ⟨gb,3,none⟩=some (.int .i64 g.sectors):=by rw [cell_of_row _ _ _ _ _ _ hgx]; rfl
   have p4:wr.cell? ⟨gb,4,none⟩=some (.int .i64 g.overlap):=by rw [cell_of_row _ _ _ _ _ _ hgx]; rfl
   clear hgx
   go_wp2_with fail
   refine (HGZ.out _).mono ?_
   rintro e w4 ⟨rfl,hb4⟩
   have HO4:=Lib.hid (HO.out.2.below hb4)
   clear p0 p1 p2 p3 p4 hb4
   by_cases hlt:k < N
   ·have d1:decide (g.random+(k:Int) < g.random+(N:Int))=true:=decide_eq_true (by omega)
    have hrr:=rdS20_r (g:=g) (F:=F) (key:=key) (d:=d) k
    have HSE:=Lib.hid (sectorMid_any (p:=p) (key:=key) (a:=g.random+(k:Int)) (d:=(rdS20 g F key d k).1) HO4.out.mid (by rw [hrr.1,hrr.2]; exact HDK.out.c) HDK.out.fl (by rw [hrr.1]; exact HS0.out.2) (by rw [hrr.1]; exact HS0.out.1) HBT.out HO4.out.size HHN.out (HDRV.out.dkey.kept HO4.out.mid.k (by unfold DPT; decide)))
    have hyu:=(tryD_u8r (g:=g) (F:=F) (key:=key) (a:=g.random+(k:Int)) (rdS20_u8 (g:=g) (F:=F) (key:=key) HU.out k)).1
    have hyl:=tryD_short (g:=g) (F:=F) (key:=key) (d:=(rdS20 g F key d k).1) (by rw [hrr.1]; exact HS0.out.1) (g.random+(k:Int))
    have HLNK:=Lib.hid (rdS20_len k HO.out.1)
    have h0:=HO.out.1
    rcases ht:tryD (rOne g F key (g.random+(k:Int))) (rdS20 g F key d k).1 with ⟨dn,⟨er,ys⟩⟩
    rw [ht] at HSE hyu hyl
    have HNX:=Lib.hid (rdS20_next h0 ht)
    simp only at HSE hyu hyl
    have HYU:=Lib.hid hyu
    clear hyu ht h0 hrr HO
    generalize (rdS20 g F key d k).2.1=ss at *
    generalize (rdS20 g F key d k).1=dk at *
    go_wp2_with fail
    refine HSE.out.mono ?_
    rintro e w5 ⟨A1,c1,rfl,hby,hm5,hk5⟩
    have HO5:=Lib.hid (HO4.out.read hm5 hk5)
    clear hm5 hk5 HSE HO4
    obtain ⟨A2,c2,hx,hrd,hcap⟩:=hby
    injection hx with hx1 hx2 hx3
    subst hx1
    subst hx3
    by_cases h15:er=15
    ·subst h15
     have HNX2:Hid (rdS20 g F key d (k+1)=(dn,ss++[none],0)):=by unfold Hid; rw [HNX.out,if_pos rfl]
     clear HNX hrd hcap HYU hyl
     have hO:=HO5.out.row
     obtain ⟨i0,hi0,hz0,hz1,hz2⟩:=info_parts info_bysl
     have HSLB:Hid (ss.length≤65536):=by have:=HNB.out; have:=HLNK.out; unfold Hid; omega
     have hs5:=HO5.out.size
     go_wp2_with (at_builtin; go_loud (refine wpList_append_own _ rfl _ _ 111 rfl w1.heap.size 65 i0 _ 1 24 Tryz.underlying111 hi0 hz0 hz1 hz2 rfl (by decide) (.slice A ss.length c) ss.length vals rfl (hO.alloc _) ⟨w5.heap.size,0,none⟩ 1 1 [.slice none 0 0] rfl rfl (World.news_of_block (heap_alloc_new _ _)) (by intro u hu; simp at hu; subst hu; rfl) ?c1 ?c2 ?c3 ?_))
     case c1=>have:=HSLB.out; unfold maxLen; omega
     case c2=>have:=HSLB.out; have:=HO5.out.len; omega
     case c3=>first | omega | (simp; omega)
     intro v' w9 hown hgrow hiff
     obtain ⟨A9,c9,hv⟩:=own_form hown
     subst hv
     have hba:Below w5.heap.size w5 (w5.alloc (.cells #[.slice none 0 0] 65)):=(Below.refl _ _).alloc (Nat.le_refl _) _
     have HO9:=Lib.hid ((HO5.out.below hba).push (o:=none) (show SecV _ _ none from rfl) hgrow hown)
     have hwi:IntKind.i64.wrap (g.random+(k:Int)+1)=g.random+((k+1:Nat):Int):=by rw [IntKind.wrap_i64]; have:=HR.out; have:=HNB.out; omega
     clear hO hown hgrow hiff hba hi0 hz0 hz1 hz2 hs5
     go_wp2
     go_roundw
     case rel=>exact ⟨k+1,A9,c9,_,hlt,rfl,by rw [HNX2.out,List.length_append]; rfl,by rw [HNX2.out]; exact ⟨rfl,HO9.out⟩⟩
     case measure=>simp [intOf]; omega
    ·by_cases h0:er=0
     ·subst h0
      have HNX2:Hid (rdS20 g F key d (k+1)=(dn,ss++[some ys],0)):=by unfold Hid; rw [HNX.out,if_neg h15,if_pos rfl]
      rcases A1 with _ | a
      ·obtain rfl:=rdt_none hrd
       obtain rfl:c1=0:=hcap.1 rfl
       have en:=eqlS_none
       have hb6:Below w5.heap.size w5 (w5.alloc (.cells #[] 5)):=(Below.refl _ _).alloc (Nat.le_refl _) _
       have HO6:=Lib.hid (HO5.out.below hb6)
       have HSV:Hid (SecV (w5.alloc (.cells #[] 5)) (.slice (some ⟨w5.heap.size,0,none⟩) 0 0) (some [])):=⟨_,0,rfl,fun j u h=>by simp at h,by simp,HYU.out,by simp,by omega⟩
       clear HNX hrd hcap HYU hyl hb6 HO5
       go_upto_region 16 with fail
       generalize (w5.alloc (.cells #[] 5))=w6 at *
       generalize w5.heap.size=eb at *
       have hO:=HO6.out.row
       obtain ⟨i0,hi0,hz0,hz1,hz2⟩:=info_parts info_bysl
       have HSLB:Hid (ss.length≤65536):=by have:=HNB.out; have:=HLNK.out; unfold Hid; omega
       have hs5:=HO6.out.size
       go_wp2_with (at_builtin; go_loud (refine wpList_append_own _ rfl _ _ 111 rfl w1.heap.size 65 i0 _ 1 24 Tryz.underlying111 hi0 hz0 hz1 hz2 rfl (by decide) (.slice A ss.length c) ss.length vals rfl (hO.alloc _) ⟨w6.heap.size,0,none⟩ 1 1 [.slice (some ⟨eb,0,none⟩) 0 0] rfl rfl (World.news_of_block (heap_alloc_new _ _)) (by intro u hu; simp at hu; subst hu; rfl) ?c1 ?c2 ?c3 ?_))
       case c1=>have:=HSLB.out; unfold maxLen; omega
       case c2=>have:=HSLB.out; have:=HO6.out.len; omega
       case c3=>first | omega | (simp; omega)
       intro v' w9 hown hgrow hiff
       obtain ⟨A9,c9,hv⟩:=own_form hown
       subst hv
       have hba:Below w6.heap.size w6 (w6.alloc (.cells #[.slice (some ⟨eb,0,none⟩) 0 0] 65)):=(Below.refl _ _).alloc (Nat.le_refl _) _
       have HO9:=Lib.hid ((HO6.out.below hba).push (o:=some []) (HSV.out.kept (belKept0 (S:=fun _=>False) hba) (Free.none _ _)) hgrow hown)
       have hwi:IntKind.i64.wrap (g.random+(k:Int)+1)=g.random+((k+1:Nat):Int):=by rw [IntKind.wrap_i64]; have:=HR.out; have:=HNB.out; omega
       clear hO hown hgrow hiff hba hi0 hz0 hz1 hz2 hs5
       go_wp2
       go_roundw
       case rel=>exact ⟨k+1,A9,c9,_,hlt,rfl,by rw [HNX2.out,List.length_append]; rfl,by rw [HNX2.out]; exact ⟨rfl,HO9.out⟩⟩
       case measure=>simp [intOf]; omega
      ·have en:=eqlS_some a ys.length c1
       have HSV:Hid (SecV w5 (.slice (some a) ys.length c1) (some ys)):=⟨a,c1,rfl,hrd,hyl,HYU.out,(hcap.2 (by omega)).1,(hcap.2 (by omega)).2⟩
       clear HNX hrd hcap HYU hyl
       have hO:=HO5.out.row
       obtain ⟨i0,hi0,hz0,hz1,hz2⟩:=info_parts info_bysl
       have HSLB:Hid (ss.length≤65536):=by have:=HNB.out; have:=HLNK.out; unfold Hid; omega
       have hs5:=HO5.out.size
       go_wp2_with (at_builtin; go_loud (refine wpList_append_own _ rfl _ _ 111 rfl w1.heap.size 65 i0 _ 1 24 Tryz.underlying111 hi0 hz0 hz1 hz2 rfl (by decide) (.slice A ss.length c) ss.length vals rfl (hO.alloc _) ⟨w5.heap.size,0,none⟩ 1 1 [.slice (some a) ys.length c1] rfl rfl (World.news_of_block (heap_alloc_new _ _)) (by intro u hu; simp at hu; subst hu; rfl) ?c1 ?c2 ?c3 ?_))
       case c1=>have:=HSLB.out; unfold maxLen; omega
       case c2=>have:=HSLB.out; have:=HO5.out.len; omega
       case c3=>first | omega | (simp; omega)
       intro v' w9 hown hgrow hiff
       obtain ⟨A9,c9,hv⟩:=own_form hown
       subst hv
       have hba:Below w5.heap.size w5 (w5.alloc (.cells #[.slice (some a) ys.length c1] 65)):=(Below.refl _ _).alloc (Nat.le_refl _) _
       have HO9:=Lib.hid ((HO5.out.below hba).push (o:=some ys) (HSV.out.kept (belKept0 (S:=fun _=>False) hba) (Free.none _ _)) hgrow hown)
       have hwi:IntKind.i64.wrap (g.random+(k:Int)+1)=g.random+((k+1:Nat):Int):=by rw [IntKind.wrap_i64]; have:=HR.out; have:=HNB.out; omega
       clear hO hown hgrow hiff hba hi0 hz0 hz1 hz2 hs5
       go_wp2
       go_roundw
       case rel=>exact ⟨k+1,A9,c9,_,hlt,rfl,by rw [HNX2.out,List.length_append]; rfl,by rw [HNX2.out]; exact ⟨rfl,HO9.out⟩⟩
       case measure=>simp [intOf]; omega
     ·have hN:rdS20 g F key d N=(dn,[],er):=by
       have h1:rdS20 g F key d (k+1)=(dn,[],er):=by rw [HNX.out,if_neg h15,if_neg h0]
       have h2:=rdS20_stay (g:=g) (F:=F) (key:=key) (d:=d) (j:=k+1) (by rw [h1]; exact h0) (N - (k+1))
       rw [show k+1+(N - (k+1))=N by omega,h1] at h2
       exact h2
      have e15:(er==15)=false:=by simpa using h15
      have e0:(er !=0)=true:=by simpa using h0
      have HX:Hid (OP (.returned (.tuple #[.pointer none,.int .i64 er])) w5):=by
       have hr:=rdS20_r (g:=g) (F:=F) (key:=key) (d:=d) N
       rw [hN] at hr
       have hdm:=HO5.out.dm HDK.out hr HS0.out HBT.out
       have:=HBAD.out (.returned (.tuple #[.pointer none,.int .i64 er])) w5 HP.out (by rw [hN]; exact h0)
       rw [hN] at this
       exact this ⟨rfl,hdm.1,(KeptT.bel HPL.out.2).trans (hdm.2.sub (by unfold DPT DRT; decide))⟩
      clear HNX hrd hcap HYU hyl
      go_wp2
      exact HX.out
   ·obtain rfl:k=N:=by omega
    have d1:decide (g.random+(k:Int) < g.random+(k:Int))=false:=decide_eq_false (by omega)
    have hn64:n≤65536:=by
     have:=HP.out
     unfold possB at this
     simp only [Bool.and_eq_true,decide_eq_true_eq] at this
     exact this.2.1
    have hdm:=HO4.out.dm HDK.out (rdS20_r k) HS0.out HBT.out
    have HD4:=Lib.hid (HDRV.out.disk hdm.1 (hdm.2.sub dpt_dat))
    have HK4:=Lib.hid ((KeptT.bel (ts:=DRT) (B:=B) HPL.out.2).trans (hdm.2.sub (by unfold DPT DRT; decide)))
    have HL0:=Lib.hid (rdS20_len k HO.out.1)
    have HE0:=Lib.hid HO.out.1
    have HYE:=Lib.hid (fun e w'=>HYES.out e w' HP.out HO.out.1)
    obtain ⟨hcp1,hcp2⟩:=own_capS HO4.out.row
    have HSC:=Lib.hid (scan_any (w:=w4) n hn64 HG.out (rdS20 g F key d k).2.1 (HL0.out.trans HNN.out.symm) A c hcp1 (by unfold maxLen at hcp2; omega) vals HO4.out.secs)
    unfold Hid ScanPost at HSC
    replace HSC:=Lib.hid HSC
    have hgx:=HO4.out.gx
    have p0:w4.cell? ⟨gb,0,none⟩=some (.int .i64 g.random):=by rw [cell_of_row _ _ _ _ _ _ hgx]; rfl
    have p1:w4.cell? ⟨gb,1,none⟩=some (.int .i64 g.bands):=by rw [cell_of_row _ _ _ _ _ _ hgx]; rfl
    have p2:w4.cell? ⟨gb,2,none⟩=some (.int .i64 g.tracks):=by rw [cell_of_row _ _ _ _ _ _ hgx]; rfl
    have p3:w4.cell? ⟨gb,3,none⟩=some (.int .i64 g.sectors):=by rw [cell_of_row _ _ _ _ _ _ hgx]; rfl
    have p4:w4.cell? ⟨gb,4,none⟩=some (.int .i64 g.overlap):=by rw [cell_of_row _ _ _ _ _ _ hgx]; rfl
    have HN1:Hid (1≤n∧n≤65536):=by
     have:=HP.out
     unfold possB at this
     simp only [Bool.and_eq_true,decide_eq_true_eq] at this
     exact ⟨this.1,this.2.1⟩
    clear hgx HO hdm hcp1 hcp2 hn64 HO4 HBAD HYES HNO HDK HPM HDRV HPL HBT
    generalize rdS20 g F key d k=r at *
    obtain ⟨dN,ss,eN⟩:=r
    simp only at HSC HD4 HL0 HE0 HYE
    go_wp2_with fail
    refine HSC.out.mono ?_
    rintro e w5 ⟨L0,L,A2,c2,bb,hfo,hpe,rfl,hrow,hbrow,hb5⟩
    have HLC:=Lib.hid (hfo.len (scanK_mok g (bz g).toNat n ss ss.length))
    have HOV:Hid (OpenV g n.toNat ss ⟨entAll n.toNat L,liveAll g (bz g) (scanK g (bz g).toNat n ss ss.length).bs L0,maxAge 0 (liveAll g (bz g) (scanK g (bz g).toNat n ss ss.length).bs L0),0⟩):=
     ⟨L,L0,by rw [show ((n.toNat:Nat):Int)=n by have:=HN1.out; omega]; exact hfo,hpe,by rw [show ((n.toNat:Nat):Int)=n by have:=HN1.out; omega]⟩
    have hbl:g.bands.toNat=(liveAll g (bz g) (scanK g (bz g).toNat n ss ss.length).bs L0).length:=by rw [liveAll_len,scanK_len]
    generalize liveAll g (bz g) (scanK g (bz g).toNat n ss ss.length).bs L0=bs at *
    rw [hbl] at hbrow ⊢
    have hd5:=HD4.out.below0 hb5
    have y3:=hd5.cells.2.2.2.1
    have y3f:=hd5.free 3
    have hd6:=hd5.setBands (A:=some ⟨bb,0,none⟩) (c:=bs.length) (RdT.of_own hbrow)
    have HD6:=Lib.hid hd6.1
    have HK6:=Lib.hid ((HK4.out.thenBelow hb5).trans hd6.2)
    have HRW6:=Lib.hid ((RdT.of_own hrow).kept hd6.2 (KeptT.free (by unfold DRT; decide)))
    have HCP:=Lib.hid (own_capS hrow)
    have HBL:=Lib.hid hbl
    clear hd5 hd6 hrow hbrow hb5 hfo hpe hbl p0 p1 p2 p3 p4 HSC HD4 HK4 HGZ
    go_upto_region 19 with fail
    generalize (w5.setCell ⟨p,3,none⟩ (.slice (some ⟨bb,0,none⟩) bs.length bs.length))=w6 at *
    clear y3 y3f
    go_wp2
    go_loopw [75] (fun i wr=>∃ j:Nat,j≤L.length∧i= .int .i64 (j:Int)∧Hid (Drv wr B p q pw g F key ⟨⟨entAll n.toNat (L.take j),bs,0,0⟩,dN⟩ ea ec (some ⟨bb,0,none⟩) bs.length∧RdT wr 118 A2 (flatD L)∧KeptT DRT B w wr)) (fun i _=>L.length - (intOf i).toNat)
    case atStart=>exact ⟨0,Nat.zero_le _,rfl,HD6.out,HRW6.out,HK6.out⟩
    case round=>
     obtain ⟨j,hj,rfl,HJ⟩:=hrel
     clear HD6 HRW6 HK6
     by_cases hlt:j < L.length
     ·obtain ⟨h8,hk0,hkn,_⟩:=HLC.out _ (List.getElem_mem hlt)
      have hjl:=List.getElem?_eq_getElem hlt
      have HEN:Hid (entAll n.toNat (L.take (j+1))=(entAll n.toNat (L.take j)).set L[j].x.blk.toNat ⟨L[j].x.kind,L[j].x.ver,L[j].adr⟩):=by
       unfold Hid; rw [List.take_succ_eq_append_getElem hlt,entAll_snoc]; rfl
      have hfd:=fun {kd bk ver d0 d1 d2 d3 d4 d5 d6 d7 ad tm:Int}=>HJ.out.2.1.found (j:=j) (kd:=kd) (bk:=bk) (ver:=ver) (d0:=d0) (d1:=d1) (d2:=d2) (d3:=d3) (d4:=d4) (d5:=d5) (d6:=d6) (d7:=d7) (ad:=ad) (tm:=tm) (fun c hc=>(HLC.out c hc).1)
      generalize L[j]=x at *
      obtain ⟨⟨kd,bk,ver,dts⟩,ad,tm⟩:=x
      obtain ⟨d0,d1,d2,d3,d4,d5,d6,d7,rfl⟩:=len8 h8
      obtain ⟨b,rfl⟩:∃ b:Nat,bk=(b:Int):=⟨bk.toNat,by simp only at hk0; omega⟩
      obtain ⟨ga,oa,rfl,hga,x0,x1,x2,x3,x4,x5,x6,x7,x8,x9,x10,x11⟩:=hfd hjl
      have hk1:(j:Int) < L.length:=by omega
      have HBK:Hid ((b:Int) < n):=hkn
      have HJL:=Lib.hid hjl
      clear hfd hjl h8 hk0 hkn
      go_upto_region 22 with fail
      have hb7:Below wr.heap.size wr (wr.alloc (.cells #[.int .i64 kd,.int .i64 (b:Int),.int .u64 ver,.int .u8 d0,.int .u8 d1,.int .u8 d2,.int .u8 d3,.int .u8 d4,.int .u8 d5,.int .u8 d6,.int .u8 d7,.int .i64 ad] 118)):=(Below.refl _ _).alloc (Nat.le_refl _) _
      have HX7:Hid ((wr.alloc (.cells #[.int .i64 kd,.int .i64 (b:Int),.int .u64 ver,.int .u8 d0,.int .u8 d1,.int .u8 d2,.int .u8 d3,.int .u8 d4,.int .u8 d5,.int .u8 d6,.int .u8 d7,.int .i64 ad] 118)).heap[wr.heap.size]?=some (.cells #[.int .i64 kd,.int .i64 (b:Int),.int .u64 ver,.int .u8 d0,.int .u8 d1,.int .u8 d2,.int .u8 d3,.int .u8 d4,.int .u8 d5,.int .u8 d6,.int .u8 d7,.int .i64 ad] 118 (0,0))):=heap_alloc_new _ _
      have HD7:=Lib.hid (HJ.out.1.below0 hb7)
      have HR7:=Lib.hid (HJ.out.2.1.below0 hb7)
      have HK7:=Lib.hid (HJ.out.2.2.thenBelow hb7)
      clear x0 x1 x2 x3 x4 x5 x6 x7 x8 x9 x10 x11 hga hb7 HJ
      generalize (wr.alloc (.cells #[.int .i64 kd,.int .i64 (b:Int),.int .u64 ver,.int .u8 d0,.int .u8 d1,.int .u8 d2,.int .u8 d3,.int .u8 d4,.int .u8 d5,.int .u8 d6,.int .u8 d7,.int .i64 ad] 118))=w7 at *
      generalize wr.heap.size=xb at *
      have hesl:(entAll n.toNat (L.take j)).length=n.toNat:=entAll_len _ _
      have HEN2:Hid (entAll n.toNat (L.take (j+1))=(entAll n.toNat (L.take j)).set b ⟨kd,ver,ad⟩):=by have:=HEN.out; simp only [Int.toNat_natCast] at this; exact this
      clear HEN
      generalize entAll n.toNat (L.take j)=es at *
      have hbe:b < es.length:=by have:=HBK.out; omega
      have hS9:=(HD7.out.below0 (w':=w7.drew) ((Below.refl _ _).drew)).setEntry (i:=b) hbe ⟨kd,ver,ad⟩
      simp only at hS9
      have HFIN:Hid (Drv (((w7.drew.setCell ⟨ea,b * 3,none⟩ (.int .i64 kd)).setCell ⟨ea,b * 3+1,none⟩ (.int .u64 ver)).setCell ⟨ea,b * 3+2,none⟩ (.int .i64 ad)) B p q pw g F key ⟨⟨entAll n.toNat (L.take (j+1)),bs,0,0⟩,dN⟩ ea ec (some ⟨bb,0,none⟩) bs.length∧RdT (((w7.drew.setCell ⟨ea,b * 3,none⟩ (.int .i64 kd)).setCell ⟨ea,b * 3+1,none⟩ (.int .u64 ver)).setCell ⟨ea,b * 3+2,none⟩ (.int .i64 ad)) 118 (some ⟨ga,oa,none⟩) (flatD L)∧KeptT DRT B w (((w7.drew.setCell ⟨ea,b * 3,none⟩ (.int .i64 kd)).setCell ⟨ea,b * 3+1,none⟩ (.int .u64 ver)).setCell ⟨ea,b * 3+2,none⟩ (.int .i64 ad))):=by
       rw [HEN2.out]
       refine ⟨hS9.1,(HR7.out.below0 ((Below.refl _ _).drew)).kept hS9.2 (KeptT.free (by unfold DRT; decide)),HK7.out.trans (KeptT.trans (KeptT.bel ((Below.refl _ _).drew)) hS9.2)⟩
      have hd7d:=HD7.out.below0 (w':=w7.drew) ((Below.refl _ _).drew)
      have hce:=hd7d.entry (i:=b) (List.getElem?_eq_getElem hbe)
      have hcc:=hd7d.cells.2.2.1
      simp only at hce hcc
      generalize es[b]=n8 at *
      obtain ⟨C,hC⟩:∃ C:List Value→World→Prop,C=fun h W=>match h with
       | []=>W=w7.drew
       | [_]=>W=(((w7.drew.setCell ⟨ea,b * 3,none⟩ (.int .i64 kd)).setCell ⟨ea,b * 3+1,none⟩ (.int .u64 ver)).setCell ⟨ea,b * 3+2,none⟩ (.int .i64 ad))
       | _=>False:=⟨_,rfl⟩
      have hall:∀ t:HeldL C 0,t.w=w7.drew:=fun t=>by
       obtain ⟨s,W,h,l⟩:=t
       simp only
       subst hC
       match s,h,l with
       | [],h,_=>exact h
      have HC0:Hid (C [] w7.drew):=by subst hC; exact rfl
      have HG3:Hid (∀ W,C [] W→W=w7.drew):=by subst hC; exact fun _ h=>h
      have HG4:Hid (C ([]++[undef]) (((w7.drew.setCell ⟨ea,b * 3,none⟩ (.int .i64 kd)).setCell ⟨ea,b * 3+1,none⟩ (.int .u64 ver)).setCell ⟨ea,b * 3+2,none⟩ (.int .i64 ad))):=by subst hC; exact rfl
      have HG5:Hid (∀ v W,C [v] W→W=(((w7.drew.setCell ⟨ea,b * 3,none⟩ (.int .i64 kd)).setCell ⟨ea,b * 3+1,none⟩ (.int .u64 ver)).setCell ⟨ea,b * 3+2,none⟩ (.int .i64 ad))):=by subst hC; exact fun _ _ h=>h
      have e1:∀ t:HeldL C 0,t.w.cell? ⟨p,2,none⟩=some (.slice (some ⟨ea,0,none⟩) es.length ec):=fun t=>by rw [hall t]; exact hcc
      have e2:∀ t:HeldL C 0,t.w.cell? ⟨xb,1,none⟩=some (.int .i64 (b:Int)):=fun t=>by rw [hall t]; show w7.cell? _=_; rw [cell_of_row _ _ _ _ _ _ HX7.out]; rfl
      have e3:∀ t:HeldL C 0,t.w.cell? ⟨xb,0,none⟩=some (.int .i64 kd):=fun t=>by rw [hall t]; show w7.cell? _=_; rw [cell_of_row _ _ _ _ _ _ HX7.out]; rfl
      have e4:∀ t:HeldL C 0,t.w.cell? ⟨xb,2,none⟩=some (.int .u64 ver):=fun t=>by rw [hall t]; show w7.cell? _=_; rw [cell_of_row _ _ _ _ _ _ HX7.out]; rfl
      have e5:∀ t:HeldL C 0,t.w.cell? ⟨xb,11,none⟩=some (.int .i64 ad):=fun t=>by rw [hall t]; show w7.cell? _=_; rw [cell_of_row _ _ _ _ _ _ HX7.out]; rfl
      have hne1:Nonempty (HeldL C 0):=⟨⟨[],_,HC0.out,by simp⟩⟩
      have hne2:Nonempty (HeldC C):=⟨⟨[],_,HC0.out⟩⟩
      have z0:w7.cell? ⟨ea,b * 3,none⟩=some (.int .i64 n8.kind):=hce.1
      have z1:w7.cell? ⟨ea,b * 3+1,none⟩=some (.int .u64 n8.ver):=hce.2.1
      have z2:w7.cell? ⟨ea,b * 3+2,none⟩=some (.int .i64 n8.adr):=hce.2.2
      have y0:w7.frozen? ⟨ea,b * 3,none⟩=false:=hd7d.freeE (b * 3)
      have y1:w7.frozen? ⟨ea,b * 3+1,none⟩=false:=hd7d.freeE (b * 3+1)
      have y2:w7.frozen? ⟨ea,b * 3+2,none⟩=false:=hd7d.freeE (b * 3+2)
      have hbi:(b:Int) < es.length:=by omega
      have HCL:Hid (j+1≤9223372036854775807):=by have:=HCP.out; unfold maxLen at this; unfold Hid; omega
      clear hC hall hd7d hcc hS9 hce hbe hesl HX7 HD7 HR7 HK7
      go_wp2_with fail
      refine wp_region_chainL C 17 [] [17] [3,6,9,12,14] (by kernel_rfl) (by kernel_rfl) (by kernel_rfl) (by kernel_rfl) (by kernel_rfl) HC0.out ?_
      repeat (first | (refine wpCh_nl 0 (by rfl) (by rfl) (by rfl) ?_; go_big_quiet_step (fail); refine wpQuiet_nil ?_) | (refine wpCh_n (by rfl) (by rfl) ?_; go_big_quiet_step (fail); refine wpQuiet_nil ?_))
      refine wpCh_s (by rfl) (by rfl) rfl (fun W hW=>⟨(((w7.drew.setCell ⟨ea,b * 3,none⟩ (.int .i64 kd)).setCell ⟨ea,b * 3+1,none⟩ (.int .u64 ver)).setCell ⟨ea,b * 3+2,none⟩ (.int .i64 ad)),?_,HG4.out⟩) (fun v W hW=>?_)
      ·obtain rfl:=HG3.out W hW
       simp [go_sem, *]
      refine wpCh_nil ?_
      intro w9 hcw
      obtain rfl:=HG5.out _ w9 hcw
      clear hcw HG3 HG4 HG5 e1 e2 e3 e4 e5 HC0 hne1 hne2 z0 z1 z2 y0 y1 y2
      generalize (((w7.drew.setCell ⟨ea,b * 3,none⟩ (.int .i64 kd)).setCell ⟨ea,b * 3+1,none⟩ (.int .u64 ver)).setCell ⟨ea,b * 3+2,none⟩ (.int .i64 ad))=w9 at *
      have hwj:IntKind.i64.wrap ((j:Int)+1)=((j+1:Nat):Int):=by rw [IntKind.wrap_i64]; have:=HCL.out; omega
      go_wp2
      go_roundw
      case rel=>exact ⟨j+1,hlt,rfl,HFIN.out⟩
      case measure=>simp [intOf]; omega
     ·obtain rfl:j=L.length:=by omega
      have hj0:=HJ.out
      rw [List.take_of_length_le (Nat.le_refl _)] at hj0
      have HJ0:Hid (Drv wr B p q pw g F key ⟨⟨entAll n.toNat L,bs,maxAge 0 (bs.take 0),0⟩,dN⟩ ea ec (some ⟨bb,0,none⟩) bs.length∧KeptT DRT B w wr):=⟨hj0.1,hj0.2.2⟩
      have HBN:Hid (bs.length≤64):=by unfold Hid; rw [← HBL.out]; have:=HG.out.b1; omega
      clear HJ hj0
      generalize entAll n.toNat L=es at HOV HJ0
      go_wp2
      go_loopw [99] (fun i wr=>∃ m:Nat,m≤bs.length∧i= .int .i64 (m:Int)∧Hid (Drv wr B p q pw g F key ⟨⟨es,bs,maxAge 0 (bs.take m),0⟩,dN⟩ ea ec (some ⟨bb,0,none⟩) bs.length∧KeptT DRT B w wr)) (fun i _=>bs.length - (intOf i).toNat)
      case atStart=>exact ⟨0,Nat.zero_le _,rfl,HJ0.out⟩
      case round=>
       obtain ⟨m,hm,rfl,HM⟩:=hrel
       clear HJ0
       by_cases hlt:m < bs.length
       ·have HT:Hid (maxAge 0 (bs.take (m+1))=if maxAge 0 (bs.take m) < bs[m].age then bs[m].age else maxAge 0 (bs.take m)):=by
         unfold Hid maxAge; rw [List.take_succ_eq_append_getElem hlt,List.foldl_append]; rfl
        have hb:=V.get_some hlt
        obtain ⟨gB,oB,e,hgB,x0,x1,x2,x3⟩:=HM.out.1.bs.rd.band hb
        injection e with e
        injection e with e1 e2
        subst e1
        subst e2
        clear hb
        simp only [Nat.zero_add] at x0 x1 x2 x3
        generalize bs[m]=b at *
        have HB7:Hid (Below wr.heap.size wr (wr.alloc (.cells #[.int .i64 b.used,.int .i64 b.live,.int .u64 b.age,.int .u64 b.wear] 76))):=(Below.refl _ _).alloc (Nat.le_refl _) _
        have HX7:Hid ((wr.alloc (.cells #[.int .i64 b.used,.int .i64 b.live,.int .u64 b.age,.int .u64 b.wear] 76)).heap[wr.heap.size]?=some (.cells #[.int .i64 b.used,.int .i64 b.live,.int .u64 b.age,.int .u64 b.wear] 76)):=heap_alloc_new _ _
        have HD7:=Lib.hid (HM.out.1.below0 HB7.out)
        have HK7:=Lib.hid (HM.out.2.thenBelow HB7.out)
        have hk1:(m:Int) < bs.length:=by omega
        go_upto_region 27 with fail
        clear x0 x1 x2 x3 hgB HB7 HM
        generalize (wr.alloc (.cells #[.int .i64 b.used,.int .i64 b.live,.int .u64 b.age,.int .u64 b.wear] 76))=w7 at *
        generalize wr.heap.size=xb at *
        generalize maxAge 0 (bs.take m)=t0 at *
        have hS9:=(HD7.out.below0 (w':=w7.drew) ((Below.refl _ _).drew)).setTime (max t0 b.age)
        have HFIN:Hid (Drv (w7.drew.setCell ⟨p,4,none⟩ (.int .u64 (max t0 b.age))) B p q pw g F key ⟨⟨es,bs,maxAge 0 (bs.take (m+1)),0⟩,dN⟩ ea ec (some ⟨bb,0,none⟩) bs.length∧KeptT DRT B w (w7.drew.setCell ⟨p,4,none⟩ (.int .u64 (max t0 b.age)))):=by
         rw [HT.out,show (if t0 < b.age then b.age else t0)=max t0 b.age by rw [Int.max_def]; split <;> split <;> omega]
         exact ⟨hS9.1,HK7.out.trans (KeptT.trans (KeptT.bel ((Below.refl _ _).drew)) hS9.2)⟩
        have hd7d:=HD7.out.below0 (w':=w7.drew) ((Below.refl _ _).drew)
        have hcc:=hd7d.cells.2.2.2.2.1
        simp only at hcc
        have hwm:IntKind.i64.wrap ((m:Int)+1)=((m+1:Nat):Int):=by rw [IntKind.wrap_i64]; have:=HBN.out; omega
        have e1:w7.cell? ⟨p,4,none⟩=some (.int .u64 t0):=hcc
        have e2:w7.cell? ⟨xb,2,none⟩=some (.int .u64 b.age):=by rw [cell_of_row _ _ _ _ _ _ HX7.out]; rfl
        have y0:w7.frozen? ⟨p,4,none⟩=false:=hd7d.free 4
        have e1d:w7.drew.cell? ⟨p,4,none⟩=some (.int .u64 t0):=hcc
        have y0d:w7.drew.frozen? ⟨p,4,none⟩=false:=hd7d.free 4
        clear hd7d hcc hS9 HX7 HD7 HK7 HT
        go_upto_region 27 with fail
        go_still_tail 8,(by kernel_rfl)
        change wpList _ _ _ _ _ w7.drew
        generalize w7.drew=w8 at *
        go_wp2
        clear e1 e2 y0 e1d y0d
        generalize (w8.setCell ⟨p,4,none⟩ (.int .u64 (max t0 b.age)))=w9 at *
        go_roundw
        case rel=>exact ⟨m+1,hlt,rfl,HFIN.out⟩
        case measure=>simp [intOf]; omega
       ·obtain rfl:m=bs.length:=by omega
        have hm0:=HM.out
        rw [List.take_of_length_le (Nat.le_refl _)] at hm0
        have HX:=Lib.hid (HYE.out (.returned (.tuple #[.pointer (some ⟨p,0,none⟩),.int .i64 0])) wr ⟨p,_,HOV.out,rfl,⟨_,_,_,_,hm0.1⟩,hm0.2⟩)
        clear hm0 HM HYE
        go_wp2
        exact HX.out
end
end Go.Proofs.YtggkengmlkhdiaaGreat

/-
  WHAT IS SHOWN: what slices.Clone returns of bytes; what the reading methods of media and of tegularef11 return; they change nothing that was there. what the writing methods of media return and make of the medium. what Erase of media and of tegularef11 returns and makes of the medium. what Read of tegularef11 returns; what New and Clone of media and of tegularef11 return. what New of media and of tegularef11 return. No condition. what Clone of media and of tegularef11 return: a new medium with the same sectors. what do, Do, play and same of tegulalaw11 and tegularef11 return and make of media. Conditions: as each theorem names them.
-/
import Derived.Test.YtggkengmlkhdiaaGreatM01
import Derived.Deep.RegionHeld3
import Derived.Deep.DeepCutAuto
import Derived.Lib.ConvBytes
import Derived.Laws.MakeOwn
import Derived.Deep.AppendLies
namespace Go.Proofs.YtggkengmlkhdiaaGreat
set_option linter.unusedVariables false
open Go.RowKit
theorem info_u8:(Tryz.prog.info? 5).map (fun i=>(i.zero,i.size,i.bytes))=some (some (.int .u8 0),1,1):=by kernel_rfl
theorem Rd.at_add {w:World} {B:Nat} {a:Addr} {xs:List Value} (h:Rd w B (some a) xs):∀ j u,xs[j]?=some u→w.cell? (a.add j)=some u:=fun j u hu=>by
 obtain ⟨g,o,e,_,hc⟩:=h j u hu
 injection e with e; subst e
 rw [add_off]; exact hc
theorem Rd.at_none {w:World} {B:Nat} {xs:List Value} (h:Rd w B none xs):xs=[]:=by
 cases xs with
 | nil=>rfl
 | cons b l=>obtain ⟨g,o,e,_⟩:=h 0 b rfl; cases e
theorem bytes_one (xs:List Int):∀ u∈xs.map (Value.int .u8),u.oneCell'=true:=by
 intro u hu
 obtain ⟨b,_,rfl⟩:=List.mem_map.1 hu
 rfl
def NewBytes (w:World) (xs:List Int) (e:Ending) (w':World):Prop:=∃ v,e= .returned v∧Bys 5 w' v xs∧Below w.heap.size w w'
set_option maxRecDepth 100000 in
set_option maxHeartbeats 400000 in
theorem cloneb_any (xs:List Int) (A:Option Addr) (c:Nat) (w:World) (hr:Rd w w.heap.size A (xs.map (Value.int .u8))) (hn:xs.length≤100000):
  Calls Tryz.prog 170 #[.slice A xs.length c] w (NewBytes w xs):=by
 obtain ⟨i0,hi,hz0,hz1,hz2⟩:=info_parts info_u8
 have hnil:=fun (w:World) a n c=>Lib.run_eql_slice_nil (P:=Tryz.prog) w 65 5 a n c 0 0 Tryz.underlying65
 cases A with
 | none=>
   have hx:=hr.at_none
   obtain rfl:xs=[]:=by cases xs; rfl; simp at hx
   go_enter Tryz.func170,Tryz.ntmps170
   go_wp2
   go_ret
   exact ⟨_,rfl,Bys.nil _ _,Below.refl _ _⟩
 | some a=>
   have hro:=World.ownsRow_lit (base:=w.heap.size) (e:=5) (size:=1) w #[] 0 (Nat.le_refl _) (by decide) rfl
   have hla:=hr.alloc (Nat.le_refl _) (.cells #[] 5)
   go_enter Tryz.func170,Tryz.ntmps170
   go_wp2_with (at_builtin; refine wpList_append_own _ rfl _ _ 65 rfl w.heap.size 5 i0 _ 1 1 Tryz.underlying65 hi hz0 hz1 hz2 rfl (by decide) _ 0 [] rfl hro a xs.length c (xs.map (Value.int .u8)) rfl (by simp) hla.at_add (bytes_one xs) ?c1 ?c2 ?c3 ?_)
   case c1=>unfold maxLen; omega
   case c2=>omega
   intro v' w' hown hgrow hiff
   try simp only [Nat.zero_add,List.nil_append] at hown
   obtain ⟨A',c',hv⟩:=own_form hown
   subst hv
   go_wp2
   go_ret
   exact ⟨_,rfl,⟨A',c',rfl,RdT.of_own hown,bys_cap hown⟩,((Below.refl _ _).alloc (Nat.le_refl _) _).grown hgrow (by simp) (fun k hk=>by simp [Value.ownBlock] at hk; omega)⟩
section
variable {m bs:Nat} {g:Geo} {L:List Sec} {w:World}
theorem get_sec {a:Int} (h0:0≤a) (h1:a < L.length):∃ (i:Nat) (hi:i < L.length),a=(i:Int)∧L[i]?=some L[i]∧L.getD a.toNat blankS=L[i]:=by
 obtain ⟨i,rfl⟩:=Int.eq_ofNat_of_zero_le h0
 have hi:i < L.length:=by omega
 exact ⟨i,hi,rfl,List.getElem?_eq_getElem hi,by simp [List.getD,hi]⟩
set_option maxHeartbeats 400000 in
theorem has_any (a:Int) (hm:Med w m bs g L) (hf:Fit g L):Calls Tryz.prog 173 #[.pointer (some ⟨m,0,none⟩),.int .i64 a] w fun e w'=>e= .returned (.bool (inL L a))∧w=w':=by
 obtain ⟨c,_,_,_,_,_,p5,_,_⟩:=hm.cells
 have hl:=hf.le
 unfold inL
 clear hm hf
 by_cases h0:a < 0
 ·go_enter Tryz.func173,Tryz.ntmps173
  go_wp2
  go_ret
  exact ⟨by first | (simp; done) | (simp; omega),rfl⟩
 ·by_cases h1:a < L.length
  ·go_enter Tryz.func173,Tryz.ntmps173
   go_wp2
   go_ret
   exact ⟨by first | (simp; done) | (simp [h1]; done) | (simp; omega),rfl⟩
  ·go_enter Tryz.func173,Tryz.ntmps173
   go_wp2
   go_ret
   exact ⟨by first | (simp; done) | (simp [h1]; done) | (simp; omega),rfl⟩
def ReadPost (w:World) (xs:List Int) (er:Int) (e:Ending) (w':World):Prop:=∃ v,e= .returned (.tuple #[v,.int .i64 er])∧Bys 5 w' v xs∧Below w.heap.size w w'
def ShortB (L:List Sec):Prop:=∀ s∈L,s.by_.length≤64
set_option maxHeartbeats 400000 in
theorem read_any (a:Int) (hm:Med w m bs g L) (hf:Fit g L) (hb:ShortB L):Calls Tryz.prog 152 #[.pointer (some ⟨m,0,none⟩),.int .i64 a] w (ReadPost w (readB L a) (readE L a)):=by
 have HH:=Lib.hid (has_any a hm hf)
 obtain ⟨c,_,_,_,_,_,p5,hc,hs⟩:=hm.cells
 have hle:=hf.le
 cases hin:inL L a
 ·have HE:Hid (readE L a=2):=by unfold Hid readE; rw [hin]; rfl
  have HB:Hid (readB L a=[]):=by unfold Hid readB; rw [HE.out]; rfl
  rw [hin] at HH
  clear hin hm hs hf
  go_enter Tryz.func152,Tryz.ntmps152
  go_wp2_with fail
  refine HH.out.mono ?_
  rintro e w' ⟨rfl,rfl⟩
  go_wp2
  go_ret2
  exact ⟨_,by rw [HE.out]; rfl,by rw [HB.out]; exact Bys.nil _ _,Below.refl _ _⟩
 ·obtain ⟨h0,h1⟩:=(inL_iff L a).1 hin
  obtain ⟨i,hi,rfl,hg,hd⟩:=get_sec h0 h1
  obtain ⟨q0,v,q1,hv⟩:=hs i _ hg
  rw [hin] at HH
  by_cases hst:L[i].st=1
  ·have HE:Hid (readE L (i:Int)=0):=by unfold Hid readE; rw [hin,hd,hst]; rfl
   have HB:Hid (readB L (i:Int)=L[i].by_):=by unfold Hid readB; rw [HE.out,hd]; rfl
   have hsh:=hb _ (List.getElem_mem hi)
   have hst2:=Lib.hid hst
   rw [hst] at q0
   obtain ⟨A,cc,rfl,hrd,_⟩:=hv
   have HC:=Lib.hid (cloneb_any L[i].by_ A cc w hrd.rd (by omega))
   generalize L[i].by_=X at *
   clear hin hm hs hf hst hg hd
   go_enter Tryz.func152,Tryz.ntmps152
   go_wp2_with fail
   refine HH.out.mono ?_
   rintro e w' ⟨rfl,rfl⟩
   go_wp2_with fail
   refine HC.out.mono ?_
   rintro e w2 ⟨v,rfl,hv,hb2⟩
   go_wp2
   go_ret2
   exact ⟨v,by rw [HE.out]; rfl,by rw [HB.out]; exact hv,hb2⟩
  ·have HE:Hid (readE L (i:Int)=15):=by unfold Hid readE; rw [hin,hd]; simp [hst]
   have HB:Hid (readB L (i:Int)=[]):=by unfold Hid readB; rw [HE.out]; rfl
   have hst2:(L[i].st !=1)=true:=by simpa using hst
   clear hin hm hs hf hst hg hd
   go_enter Tryz.func152,Tryz.ntmps152
   go_wp2_with fail
   refine HH.out.mono ?_
   rintro e w' ⟨rfl,rfl⟩
   go_wp2
   go_ret2
   exact ⟨_,by rw [HE.out]; rfl,by rw [HB.out]; exact Bys.nil _ _,Below.refl _ _⟩
end
end Go.Proofs.YtggkengmlkhdiaaGreat
namespace Go.Proofs.YtggkengmlkhdiaaGreat
set_option linter.unusedVariables false
open Go.RowKit
def WritePost (w:World) (m bs:Nat) (g:Geo) (er:Int) (L:List Sec) (e:Ending) (w':World):Prop:=
 e= .returned (.int .i64 er)∧Med w' m bs g L∧Kept (fun k=>k=bs) w w'
theorem ints_at {w:World} {base:Nat} {A:Option Addr} {n c:Nat} {xs:List Int} (h:w.ownsRow base 3 1 (.slice A n c) n (xs.map (Value.int .i64))) (k:Nat) (hk:k < xs.length):
  ∃ g,A=some ⟨g,0,none⟩∧base≤g∧w.cell? ⟨g,k,none⟩=some (.int .i64 xs[k]):=by
 have hn:xs.length=n:=by have:=h.1; simpa using this
 obtain ⟨g,rfl,hg,_⟩:=own_at h (by omega)
 refine ⟨g,rfl,hg,?_⟩
 rw [World.ownsRow.cellAt h k (by omega)]
 simp [hk]
theorem shadow_len (g:Geo) (a:Int):(shadowL g a).length≤3:=by
 by_cases he:(locN g a).e=0
 ·rw [shadow_in he,shTo_len]
  have:=(loc_ok he).1.o1
  unfold shCnt; omega
 ·rw [shadow_out he]; simp
theorem sec_at {m bs:Nat} {g:Geo} {L:List Sec} {w:World} (hm:Med w m bs g L) {i:Nat} (hi:i < L.length):∃ v,w.cell? ⟨bs,i * 2,none⟩=some (.int .i64 L[i].st)∧w.cell? ⟨bs,i * 2+1,none⟩=some v:=by
 obtain ⟨c2,_,_,_,_,_,_,_,hs2⟩:=hm.cells
 obtain ⟨q0,v1,q1,_⟩:=hs2 i L[i] (List.getElem?_eq_getElem hi)
 exact ⟨v1,q0,q1⟩
set_option maxRecDepth 100000 in
set_option maxHeartbeats 1000000 in
theorem write_any {m bs:Nat} {g:Geo} {L:List Sec} {w:World} (a:Int) (ha:I64 a) (hm:Med w m bs g L) (hf:Fit g L) (xs:List Int) (A:Option Addr) (c:Nat) (hr:Rd w w.heap.size A (xs.map (Value.int .u8))) (hn:xs.length≤100000):
  Calls Tryz.prog 172 #[.pointer (some ⟨m,0,none⟩),.int .i64 a,.slice A xs.length c] w (WritePost w m bs g (writeE L a xs) (writeL g L a xs)):=by
 have HH:=Lib.hid (has_any a hm hf)
 cases hin:inL L a
 ·have HE:Hid (writeE L a xs=2):=by unfold Hid writeE; rw [hin]; rfl
  have HB:Hid (writeL g L a xs=L):=by unfold Hid writeL; rw [hin]; rfl
  rw [hin] at HH
  have HM:=Lib.hid hm
  clear hin hm hf hr
  go_enter Tryz.func172,Tryz.ntmps172
  go_wp2_with fail
  refine HH.out.mono ?_
  rintro e w' ⟨rfl,rfl⟩
  go_wp2
  go_ret
  exact ⟨by rw [HE.out]; rfl,by rw [HB.out]; exact HM.out,Kept.refl _ _⟩
 ·rw [hin] at HH
  by_cases hlen:xs.length≤64
  ·have HE:Hid (writeE L a xs=0):=by unfold Hid writeE; rw [hin,if_pos rfl,if_pos hlen]
   have HB:Hid (writeL g L a xs=destroy (shadowL g a) (L.set a.toNat ⟨1,xs⟩)):=by unfold Hid writeL; rw [hin,decide_eq_true hlen]; rfl
   obtain ⟨h0,h1⟩:=(inL_iff L a).1 hin
   obtain ⟨i,hi,rfl,hg,hd⟩:=get_sec h0 h1
   obtain ⟨cc,p0,p1,p2,p3,p4,p5,hcc,hs⟩:=hm.cells
   obtain ⟨hlm,hlb,hmb⟩:=hm.lt
   have hle:=hf.le
   have HC:Hid (∀ W,Below w.heap.size w W→Calls Tryz.prog 170 #[.slice A xs.length c] W (NewBytes W xs)):=by
    unfold Hid; intro W hW; exact cloneb_any xs A c W ((hr.below hW (Nat.le_refl _)).more hW.size) hn
   have HM2:Hid (∀ W,Below w.heap.size w W→Med W m bs g L):=by unfold Hid; intro W hW; exact hm.below0 hW
   have HF:=Lib.hid hf
   have HS:=Lib.hid (fun W=>gshadow_any g (i:Int) ha W)
   have q4:(0:Int)≤i:=by omega
   have q5:(i:Int) < L.length:=by omega
   rw [Int.toNat_natCast] at HB
   clear hin hm hf hr hg hd hs p0 p1 p2 p3 p4 ha
   go_enter Tryz.func172,Tryz.ntmps172
   go_wp2_with fail
   refine HH.out.mono ?_
   rintro e w' ⟨rfl,rfl⟩
   go_wp2
   go_region_held3 (fun W=>W.cell? ⟨m,5,none⟩=some (.slice (some ⟨bs,0,none⟩) L.length cc)) (first | assumption | (simp [World.cell?_setCell_far, *]; done))
    ((go_at_call 170
      refine (HC.out _ ((Below.refl _ _).drew)).mono ?_
      rintro e w2 ⟨v,rfl,hv,hb2⟩
      have hbw2:Below w.heap.size w w2:=((Below.refl w.heap.size w).drew).trans hb2
      have hm2:=HM2.out w2 hbw2
      have p5':w2.cell? ⟨m,5,none⟩=some (.slice (some ⟨bs,0,none⟩) L.length cc):=(hbw2.cell (p:=⟨m,5,none⟩) hlm).trans p5
      have hbm:¬ (bs=m):=fun e=>hmb e.symm
      have f0:=hm2.free
      have hs2:=sec_at hm2 hi
      obtain ⟨v1,q0,q1⟩:=hs2
      have hv2:=Lib.hid hv
      obtain ⟨A2,c2,rfl,_,_⟩:=hv))
   have hm3:Med _ m bs g (L.set i ⟨1,xs⟩):=hm2.set hi ⟨1,xs⟩ (.slice A2 xs.length c2) hv2.out
   have hk3:=(belKept0 (S:=fun k=>k=bs) hbw2).trans (set2_kept w2 bs i (.int .i64 1) (.slice A2 xs.length c2)) (fun _ _ h=>h)
   simp only at hm3
   generalize (w2.setCell ⟨bs,i * 2,none⟩ (.int .i64 1)).setCell ⟨bs,i * 2+1,none⟩ (.slice A2 xs.length c2)=w3 at *
   clear hv2 hb2 hbw2 q0 q1 f0 hm2 p5' p5 HH HC HM2
   obtain ⟨c3,p0,p1,p2,p3,p4,p5,hc3,_⟩:=hm3.cells
   have HF3:=Lib.hid (HF.out.len (L':=L.set i ⟨1,xs⟩) (by simp))
   have HSR:Hid (∀ s∈shadowL g (i:Int),0≤s∧s < (L.set i ⟨1,xs⟩).length):=by
    unfold Hid; intro s hs; exact shadow_range HF3.out hs
   have hss:=shadow_len g (i:Int)
   have hL1:=HF3.out.le
   go_wp2_with fail
   refine (HS.out _).mono ?_
   rintro e w4 ⟨A4,c4,rfl,hown4,hb4⟩
   have HX:Hid (writeL g L (i:Int) xs=destroy (shadowL g (i:Int)) (L.set i ⟨1,xs⟩)):=HB
   clear HB
   generalize shadowL g (i:Int)=ss at *
   generalize L.set i ⟨1,xs⟩=L1 at *
   have hm4:=hm3.below0 hb4
   have hk4:=hk3.thenBelow hb4
   have HI:Hid (∀ k (hk:k < ss.length),∃ g',A4=some ⟨g',0,none⟩∧w3.heap.size≤g'∧w4.cell? ⟨g',k,none⟩=some (.int .i64 ss[k])):=by
    unfold Hid; intro k hk; exact ints_at hown4 k hk
   have hlb3:=hm3.lt.2.1
   clear p0 p1 p2 p3 p4 p5 hb4 hm3 HS hown4 hk3
   go_wp2
   go_loopw [8,37] (fun x v wr=>∃ k:Nat,k≤ss.length∧v= .int .i64 k∧Med wr m bs g (destroy (ss.take k) L1)∧Kept (fun k=>k=bs) w4 wr) (fun _ v _=>ss.length - (intOf v).toNat)
   case atStart=>exact ⟨0,Nat.zero_le _,rfl,hm4,Kept.refl _ _⟩
   case round=>
    obtain ⟨k,hk,rfl,hmr,hkr⟩:=hrel
    by_cases hlt:k < ss.length
    ·obtain ⟨g',rfl,hg',hcg⟩:=HI.out k hlt
     obtain ⟨s0,s1⟩:=HSR.out ss[k] (List.getElem_mem hlt)
     have hcr:=hkr.cell hcg (by show ¬ (g'=bs); omega)
     have HT:=Lib.hid (destroy_take ss k hlt L1)
     have hdl:=destroy_len (ss.take k) L1
     obtain ⟨j,hj⟩:=Int.eq_ofNat_of_zero_le s0
     have hjl:j < (destroy (ss.take k) L1).length:=by omega
     rw [hj] at hcr HT
     rw [Int.toNat_natCast] at HT
     have q6:(0:Int)≤j:=by omega
     have q7:(j:Int) < (destroy (ss.take k) L1).length:=by omega
     have hk2:(k:Int) < ss.length:=by omega
     have hk0:(0:Int)≤k:=by omega
     obtain ⟨cr,_,_,_,_,_,r5,hcc2,_⟩:=hmr.cells
     obtain ⟨v1,q0,q1⟩:=sec_at hmr hjl
     have f0:=hmr.free
     have hmS:Hid (Med ((wr.setCell ⟨bs,j * 2,none⟩ (.int .i64 2)).setCell ⟨bs,j * 2+1,none⟩ (.slice none 0 0)) m bs g ((destroy (ss.take k) L1).set j goneS)):=
      hmr.set hjl goneS (.slice none 0 0) (Bys.nil _ _)
     have hkS:=hkr.trans (set2_kept wr bs j (.int .i64 2) (.slice none 0 0)) (fun _ _ h=>h)
     have HKS:=Lib.hid hkS
     have hll:=Lib.hid hdl
     clear hcg hj s0 s1 hmr hkr hm4 HI hkS hdl
     generalize destroy (ss.take k) L1=D at *
     go_wp2
     go_roundw
     case rel=>exact ⟨k+1,by omega,by go_num,by rw [HT.out]; exact hmS.out,HKS.out⟩
     case measure=>simp [intOf]; omega
    ·have hk':k=ss.length:=by omega
     subst hk'
     have hmr':Med wr m bs g (writeL g L (i:Int) xs):=by rw [HX.out]; rw [List.take_of_length_le (Nat.le_refl _)] at hmr; exact hmr
     have HM':=Lib.hid hmr'
     clear hmr hmr' hm4
     go_wp2
     go_ret
     exact ⟨by rw [HE.out]; rfl,HM'.out,hk4.trans hkr (fun _ _ h=>h)⟩
  ·have HE:Hid (writeE L a xs=7):=by unfold Hid writeE; rw [hin,if_pos rfl,if_neg hlen]
   have HB:Hid (writeL g L a xs=L):=by unfold Hid writeL; rw [hin,decide_eq_false hlen]; rfl
   have HM:=Lib.hid hm
   clear hin hm hf hr
   go_enter Tryz.func172,Tryz.ntmps172
   go_wp2_with fail
   refine HH.out.mono ?_
   rintro e w' ⟨rfl,rfl⟩
   go_wp2
   go_ret
   exact ⟨by rw [HE.out]; rfl,by rw [HB.out]; exact HM.out,Kept.refl _ _⟩
end Go.Proofs.YtggkengmlkhdiaaGreat
namespace Go.Proofs.YtggkengmlkhdiaaGreat
set_option linter.unusedVariables false
open Go.RowKit
theorem erase_adr {g:Geo} {L:List Sec} (hf:Fit g L) {band:Int} (hb:inR band 0 (g.bands - 1)=true):adrN g band 0 0=(g.random+band * (g.tracks * g.sectors),0):=by
 have ht:=hf.v.t0; have hs:=hf.v.s0
 rw [adr_in ((validG_iff g).2 hf.v) hb ((inR_iff _ _ _).2 ⟨by omega,by omega⟩) ((inR_iff _ _ _).2 ⟨by omega,by omega⟩)]
 rw [Int.add_zero,Int.add_zero,Int.mul_assoc]
theorem erase_no {g:Geo} {L:List Sec} (hf:Fit g L) {band:Int} (hb:inR band 0 (g.bands - 1)=false):adrN g band 0 0=(0,2):=by
 rw [adr_out ((validG_iff g).2 hf.v) (by rw [hb]; rfl)]
set_option maxRecDepth 100000 in
set_option maxHeartbeats 1000000 in
theorem erase_any {m bs:Nat} {g:Geo} {L:List Sec} {w:World} (band:Int) (hm:Med w m bs g L) (hf:Fit g L):
  Calls Tryz.prog 127 #[.pointer (some ⟨m,0,none⟩),.int .i64 band] w (WritePost w m bs g (eraseE g band) (eraseL g L band)):=by
 have HA:=Lib.hid (fun W=>gadr_any g band 0 0 W)
 obtain ⟨c3,p0,p1,p2,p3,p4,p5,hc3,_⟩:=hm.cells
 obtain ⟨hlm,hlb,hmb⟩:=hm.lt
 have HM:=Lib.hid hm
 have hle:=hf.le
 cases hin:inR band 0 (g.bands - 1)
 ·have HE:Hid (eraseE g band=2):=by unfold Hid eraseE; rw [hin]; rfl
  have HB:Hid (eraseL g L band=L):=by unfold Hid eraseL; rw [hin]; rfl
  rw [erase_no hf hin] at HA
  simp only at HA
  clear hin hf hm
  go_enter Tryz.func127,Tryz.ntmps127
  go_wp2_with fail
  refine (HA.out _).mono ?_
  rintro e w1 ⟨rfl,hb1⟩
  have HM1:=Lib.hid (HM.out.below0 hb1)
  clear p0 p1 p2 p3 p4 p5 HM
  go_wp2
  go_ret
  exact ⟨by rw [HE.out]; rfl,by rw [HB.out]; exact HM1.out,belKept0 hb1⟩
 ·have HE:Hid (eraseE g band=0):=by unfold Hid eraseE; rw [hin]; rfl
  have HB:Hid (eraseL g L band=eraseTo L (g.random+band * (g.tracks * g.sectors)).toNat (g.tracks * g.sectors).toNat):=by unfold Hid eraseL; rw [hin]; rfl
  rw [erase_adr hf hin] at HA
  simp only at HA
  obtain ⟨r0,r1⟩:=erase_range hf hin
  have hz:=hf.v.bz
  have HZ:Hid (∀ W,Calls Tryz.prog 90 #[.agg #[.int .i64 g.random,.int .i64 g.bands,.int .i64 g.tracks,.int .i64 g.sectors,.int .i64 g.overlap]] W fun e w'=>e= .returned (.int .i64 (g.tracks * g.sectors))∧Below W.heap.size W w'):=by
   unfold Hid; intro W; have:=gbz_any g W; rw [bzN_valid hf.v] at this; exact this
  generalize g.random+band * (g.tracks * g.sectors)=F at *
  generalize g.tracks * g.sectors=Z at *
  obtain ⟨f,rfl⟩:=Int.eq_ofNat_of_zero_le r0
  obtain ⟨z,rfl⟩:=Int.eq_ofNat_of_zero_le (show 0≤Z by omega)
  rw [Int.toNat_natCast,Int.toNat_natCast] at HB
  have hfz:f+z≤L.length:=by omega
  clear hin hf hm r1
  go_enter Tryz.func127,Tryz.ntmps127
  go_wp2_with fail
  refine (HA.out _).mono ?_
  rintro e w1 ⟨rfl,hb1⟩
  have HM1:=HM.out.below0 hb1
  clear p0 p1 p2 p3 p4 p5 HM
  obtain ⟨c4,p0,p1,p2,p3,p4,p5,hc4,_⟩:=HM1.cells
  go_wp2_with fail
  refine (HZ.out _).mono ?_
  rintro e w2 ⟨rfl,hb2⟩
  have hm2:=HM1.below0 hb2
  have hk2:=(belKept0 (S:=fun k=>k=bs) hb1).thenBelow hb2
  clear p0 p1 p2 p3 p4 p5 HM1 hb1 hb2
  go_wp2
  go_loopw [7,26] (fun x v wr=>∃ k:Nat,k≤z∧v= .int .i64 k∧Med wr m bs g (eraseTo L f k)∧Kept (fun k=>k=bs) w wr) (fun _ v _=>z - (intOf v).toNat)
  case atStart=>exact ⟨0,Nat.zero_le _,rfl,hm2,hk2⟩
  case round=>
   obtain ⟨k,hk,rfl,hmr,hkr⟩:=hrel
   by_cases hlt:k < z
   ·have HT:=Lib.hid (eraseTo_succ L f k)
    have hdl:=eraseTo_len L f k
    have hjl:f+k < (eraseTo L f k).length:=by omega
    have q6:(0:Int)≤(f:Int)+k:=by omega
    have q7:(f:Int)+k < (eraseTo L f k).length:=by omega
    obtain ⟨cr,_,_,_,_,_,r5,hcc2,_⟩:=hmr.cells
    obtain ⟨v1,q0,q1⟩:=sec_at hmr hjl
    have f0:=hmr.free
    have hmS:Hid (Med ((wr.setCell ⟨bs,(f+k) * 2,none⟩ (.int .i64 0)).setCell ⟨bs,(f+k) * 2+1,none⟩ (.slice none 0 0)) m bs g ((eraseTo L f k).set (f+k) blankS)):=
     hmr.set hjl blankS (.slice none 0 0) (Bys.nil _ _)
    have HKS:=Lib.hid (hkr.trans (set2_kept wr bs (f+k) (.int .i64 0) (.slice none 0 0)) (fun _ _ h=>h))
    have hn:(eraseTo L f k).length≤81920:=by omega
    have qt:((f:Int)+k).toNat=f+k:=by omega
    clear hmr hkr hm2 hdl
    generalize eraseTo L f k=D at *
    go_wp2
    go_roundw
    case rel=>exact ⟨k+1,by omega,by go_num,by rw [HT.out]; exact hmS.out,HKS.out⟩
    case measure=>simp [intOf]; omega
   ·have hk':k=z:=by omega
    subst hk'
    have HM':Hid (Med wr m bs g (eraseL g L band)):=by unfold Hid; rw [HB.out]; exact hmr
    clear hmr hm2
    go_wp2
    go_ret
    exact ⟨by rw [HE.out]; rfl,HM'.out,hkr⟩
end Go.Proofs.YtggkengmlkhdiaaGreat
namespace Go.Proofs.YtggkengmlkhdiaaGreat
set_option linter.unusedVariables false
open Go.RowKit
def norm (xs:List Int):List Int:=xs.map fun n=>((UInt8.ofNat n.toNat).toNat:Int)
section
variable {m bs:Nat} {g:Geo} {L:List Sec} {w:World}
end
theorem info_sec:(Tryz.prog.info? 196).map (fun i=>(i.zero,i.size,i.bytes))=some (some (.agg #[.int .i64 0,.slice none 0 0]),2,32):=by kernel_rfl
theorem made_get (z0 z1:Value) (n j:Nat) (hj:j < n * 2):(madeCells #[z0,z1] (n * 2)).toList[j]?=some (if j % 2=0 then z0 else z1):=by
 unfold madeCells
 simp only [Array.toList_map,Array.toList_range,List.getElem?_map,List.getElem?_range hj,Option.map_some]
 rcases Nat.mod_two_eq_zero_or_one j with h | h <;> simp [h]
theorem made_flat {α:Type} (f:α→List Value) (z0 z1:Value) (a:α) (hf:f a=[z0,z1]) (n:Nat):(madeCells #[z0,z1] (n * 2)).toList=(List.replicate n a).flatMap f:=by
 apply List.ext_getElem?
 intro j
 rcases Nat.lt_or_ge j (n * 2) with hj | hj
 ·rw [made_get z0 z1 n j hj]
  have hflat:∀ (n j:Nat),j < n * 2→((List.replicate n a).flatMap f)[j]?=some (if j % 2=0 then z0 else z1):=by
   intro n
   induction n with
   | zero=>intro j h; omega
   | succ n ih=>
     intro j h
     rw [List.replicate_succ,List.flatMap_cons,hf]
     match j with
     | 0=>rfl
     | 1=>rfl
     | j+2=>
       have:=ih j (by omega)
       simp only [List.cons_append,List.nil_append,List.getElem?_cons_succ]
       rw [this]
       congr 1
       have:(j+2) % 2=j % 2:=by omega
       rw [this]
  rw [hflat n j hj]
 ·rw [List.getElem?_eq_none (by rw [Array.length_toList,size_madeCells]; exact hj),List.getElem?_eq_none]
  have:((List.replicate n a).flatMap f).length=n * 2:=by
   clear hj
   induction n with
   | zero=>rfl
   | succ n ih=>rw [List.replicate_succ,List.flatMap_cons,List.length_append,ih,hf]; simp; omega
  omega
end Go.Proofs.YtggkengmlkhdiaaGreat
namespace Go.Proofs.YtggkengmlkhdiaaGreat
set_option linter.unusedVariables false
open Go.RowKit
def blankL (g:Geo):List Sec:=List.replicate (szN g).toNat blankS
theorem blank_fit {g:Geo} (h:Vg g):Fit g (blankL g):=by
 refine ⟨h,?_⟩
 unfold blankL
 rw [List.length_replicate,szN_valid h]
 have:=h.sz; have:=h.r0; omega
theorem med_new {w:World} {g:Geo} {n:Nat} (hn:n≤100000):Med ((w.alloc (.cells (madeCells #[.int .i64 0,.slice none 0 0] (n * 2)) 196)).alloc (.cells (medObj g w.heap.size n n) 162)) (w.heap.size+1) w.heap.size g (List.replicate n blankS):=by
 have ho:=World.ownsRow_lit (base:=0) (e:=196) (size:=2) w (madeCells #[.int .i64 0,.slice none 0 0] (n * 2)) n (Nat.zero_le _) (by unfold maxLen; omega) (size_madeCells _ _)
 refine ⟨n,List.replicate n (0,.slice none 0 0),?_,?_,by simp,fun i s hs=>?_⟩
 ·have:=heap_alloc_new (w.alloc (.cells (madeCells #[.int .i64 0,.slice none 0 0] (n * 2)) 196)) (.cells (medObj g w.heap.size n n) 162)
  rw [World.size_alloc] at this
  simpa using this
 ·rw [made_flat secV (.int .i64 0) (.slice none 0 0) (0,.slice none 0 0) rfl n] at ho
  have:=ho.alloc (.cells (medObj g w.heap.size n n) 162)
  simpa using this
 ·rw [List.getElem?_replicate] at hs
  split at hs
  ·rename_i h
   injection hs with hs
   subst hs
   exact ⟨_,by rw [List.getElem?_replicate,if_pos h]; rfl,Bys.nil _ _⟩
  ·cases hs
def NewPost (w:World) (g:Geo) (L:List Sec) (e:Ending) (w':World):Prop:=
 ∃ m bs,e= .returned (.tuple #[.pointer (some ⟨m,0,none⟩),.int .i64 0])∧Med w' m bs g L∧w.heap.size≤m∧w.heap.size≤bs∧Below w.heap.size w w'
set_option maxHeartbeats 1000000 in
theorem new_yes (g:Geo) (hv:validG g=true) (w:World):Calls Tryz.prog 83 #[.agg #[.int .i64 g.random,.int .i64 g.bands,.int .i64 g.tracks,.int .i64 g.sectors,.int .i64 g.overlap]] w (NewPost w g (blankL g)):=by
 obtain ⟨i0,hi,hz0,hz1,hz2⟩:=info_parts info_sec
 have hszb:=szN_bound g
 have HS:Hid (∀ W,Calls Tryz.prog 58 #[.agg #[.int .i64 g.random,.int .i64 g.bands,.int .i64 g.tracks,.int .i64 g.sectors,.int .i64 g.overlap]] W fun e w'=>e= .returned (.int .i64 ((szN g).toNat:Int))∧Below W.heap.size W w'):=by
  unfold Hid; intro W; have:=gsz_any g W; rw [show (((szN g).toNat:Nat):Int)=szN g from by omega]; exact this
 have HN:Hid (blankL g=List.replicate (szN g).toNat blankS):=by unfold Hid; rfl
 have hn:(szN g).toNat≤100000:=by omega
 generalize (szN g).toNat=n at *
 have hmk:∀ W:World,(Instr.makeSlice 160 (.int .i64 (n:Int)) (.int .i64 (n:Int))).run Tryz.prog W= .ok (.slice (some ⟨W.heap.size,0,none⟩) n n) (W.alloc (.cells (madeCells _ (n * 2)) 196)):=fun W=>by
  have:=run_make (P:=Tryz.prog) W 160 196 i0 _ Tryz.underlying160 hi hz0 .i64 .i64 (n:Int) (n:Int) (by omega) (Int.le_refl _) (by rw [hz2]; omega) (by omega)
  rw [Int.toNat_natCast,hz1] at this
  exact this
 clear hszb hz0 hz1 hz2 hi
 go_enter Tryz.func83,Tryz.ntmps83
 go_wp2_with fail
 refine (gvalid_any g _).mono ?_
 rintro e w1 ⟨rfl,hb1⟩
 rw [hv]
 clear hv
 have PG:=(Cells5.new w 42 _ _ _ _ _).below hb1 (by simp)
 have hbl1:Below w.heap.size w w1:=((Below.refl _ _).alloc (Nat.le_refl _) _).trans (hb1.mono (by simp))
 have hzz1:w.heap.size < w1.heap.size:=by have:=hb1.size; simp at this; omega
 clear hb1
 have p0:=PG.c0; have p1:=PG.c1; have p2:=PG.c2; have p3:=PG.c3; have p4:=PG.c4
 have hW1:=hbl1.size
 go_wp2
 go_region_held3 (fun W=>W.cell? ⟨w.heap.size,0,none⟩=some (.int .i64 g.random)∧W.cell? ⟨w.heap.size,1,none⟩=some (.int .i64 g.bands)∧W.cell? ⟨w.heap.size,2,none⟩=some (.int .i64 g.tracks)∧W.cell? ⟨w.heap.size,3,none⟩=some (.int .i64 g.sectors)∧W.cell? ⟨w.heap.size,4,none⟩=some (.int .i64 g.overlap))
  (first | (refine ⟨?_,?_,?_,?_,?_⟩ <;> assumption) | (simp (maxDischargeDepth:=20) [World.cell?_alloc_some, *]; done))
  ((go_at_call 58
    refine (HS.out _).mono ?_
    rintro e w2 ⟨rfl,hb2⟩
    have hw2:Below w1.heap.size w1 w2:=((Below.refl w1.heap.size w1).drew).trans hb2
    have PG2:=PG.below hw2 hzz1
    have q0:=PG2.c0
    have q1:=PG2.c1
    have q2:=PG2.c2
    have q3:=PG2.c3
    have q4:=PG2.c4))
 go_wp2
 go_ret2
 have hbf:Below w.heap.size w w2:=hbl1.trans (hw2.mono hW1)
 have hbs:=hbf.size
 refine ⟨w2.heap.size+1,w2.heap.size,rfl,?_,by omega,hbs,?_⟩
 ·rw [HN.out]; exact med_new hn
 ·exact (hbf.alloc hbs _).alloc (by simp; omega) _
end Go.Proofs.YtggkengmlkhdiaaGreat
namespace Go.Proofs.YtggkengmlkhdiaaGreat
set_option linter.unusedVariables false
open Go.RowKit
theorem rd_own {w:World} {base:Nat} {e:TypeId} {size n c g:Nat} {xs:List Value} (h:w.ownsRow base e size (.slice (some ⟨g,0,none⟩) n c) n xs):Rd w w.heap.size (some ⟨g,0,none⟩) xs:=Rd.of_own h
def ClonePost (w:World) (g:Geo) (L:List Sec) (e:Ending) (w':World):Prop:=
 ∃ m bs,e= .returned (.pointer (some ⟨m,0,none⟩))∧Med w' m bs g L∧w.heap.size≤m∧w.heap.size≤bs∧Below w.heap.size w w'
set_option maxRecDepth 100000 in
set_option maxHeartbeats 400000 in
theorem clones_any (xs:List Value) (n:Nat) (g c:Nat) (w:World) (hr:Rd w w.heap.size (some ⟨g,0,none⟩) xs) (hl:xs.length=n * 2) (h1:∀ u∈xs,u.oneCell'=true) (hn:n≤100000) (hp:0 < n):
  Calls Tryz.prog 151 #[.slice (some ⟨g,0,none⟩) n c] w fun e w'=>∃ g' c',e= .returned (.slice (some ⟨g',0,none⟩) n c')∧w'.ownsRow w.heap.size 196 2 (.slice (some ⟨g',0,none⟩) n c') n xs∧Below w.heap.size w w':=by
 obtain ⟨i0,hi,hz0,hz1,hz2⟩:=info_parts info_sec
 have hnil:=fun (w:World) a n c=>Lib.run_eql_slice_nil (P:=Tryz.prog) w 160 196 a n c 0 0 Tryz.underlying160
 have hro:=World.ownsRow_lit (base:=w.heap.size) (e:=196) (size:=2) w #[] 0 (Nat.le_refl _) (by decide) rfl
 have hla:=hr.alloc (Nat.le_refl _) (.cells #[] 196)
 go_enter Tryz.func151,Tryz.ntmps151
 go_wp2_with (at_builtin; refine wpList_append_own _ rfl _ _ 160 rfl w.heap.size 196 i0 _ 2 32 Tryz.underlying160 hi hz0 hz1 hz2 rfl (by decide) _ 0 [] rfl hro ⟨g,0,none⟩ n c xs rfl hl hla.at_add h1 ?c1 ?c2 ?c3 ?_)
 case c1=>unfold maxLen; omega
 case c2=>omega
 intro v' w' hown hgrow hiff
 try simp only [Nat.zero_add,List.nil_append] at hown
 obtain ⟨A',c',hv⟩:=own_form hown
 subst hv
 obtain ⟨g',rfl,_,_⟩:=own_at hown hp
 go_wp2
 go_ret
 exact ⟨g',c',rfl,hown,((Below.refl _ _).alloc (Nat.le_refl _) _).grown hgrow (by simp) (fun k hk=>by simp [Value.ownBlock] at hk; omega)⟩
theorem med_copy {w w2:World} {m bs g' c':Nat} {g:Geo} {L:List Sec} {base:Nat} (V:List (Int × Value)) (hV:V.length=L.length) (hs:∀ (i:Nat) (s:Sec),L[i]?=some s→∃ v,V[i]?=some (s.st,v)∧Bys 5 w v s.by_) (hb:Below w.heap.size w w2)
  (ho:w2.ownsRow base 196 2 (.slice (some ⟨g',0,none⟩) L.length c') L.length (V.flatMap secV)):Med (w2.alloc (.cells (medObj g g' L.length c') 162)) w2.heap.size g' g L:=by
 refine ⟨c',V,heap_alloc_new _ _,own_mono (ho.alloc _) (Nat.zero_le _),hV,fun i s h=>?_⟩
 obtain ⟨v,hv,hB⟩:=hs i s h
 exact ⟨v,hv,(hB.kept (belKept0 (S:=fun _=>False) hb) (Free.none _ _)).kept (belKept0 (S:=fun _=>False) ((Below.refl _ _).alloc (Nat.le_refl _) _)) (Free.none _ _)⟩
theorem secs_one {w:World} {L:List Sec} {V:List (Int × Value)} (hV:V.length=L.length) (hs:∀ (i:Nat) (s:Sec),L[i]?=some s→∃ v,V[i]?=some (s.st,v)∧Bys 5 w v s.by_):∀ u∈V.flatMap secV,u.oneCell'=true:=by
 intro u hu
 obtain ⟨p,hp,hu⟩:=List.mem_flatMap.1 hu
 obtain ⟨i,hi⟩:=List.mem_iff_getElem?.1 hp
 have hlt:=(List.getElem?_eq_some_iff.1 hi).1
 obtain ⟨v,hv,A,c,hB,_⟩:=hs i L[i] (List.getElem?_eq_getElem (by omega))
 rw [hi] at hv
 injection hv with hv
 subst hv; subst hB
 simp [secV] at hu
 rcases hu with rfl | rfl <;> rfl
set_option maxRecDepth 100000 in
set_option maxHeartbeats 1000000 in
theorem clone_any {m bs:Nat} {g:Geo} {L:List Sec} {w:World} (hm:Med w m bs g L) (hf:Fit g L):Calls Tryz.prog 117 #[.pointer (some ⟨m,0,none⟩)] w (ClonePost w g L):=by
 obtain ⟨cc,p0,p1,p2,p3,p4,p5,hcc,_⟩:=hm.cells
 obtain ⟨hlm,hlb,hmb⟩:=hm.lt
 have hle:=hf.le
 obtain ⟨c,V,h1,h2,h3,h4⟩:=hm
 have hcc2:c=cc:=by
  have e:=(cell_of_row w m 5 _ _ _ h1).symm.trans p5
  injection e with e; injection e
 subst hcc2
 have HC:Hid (∀ W,Below w.heap.size w W→Calls Tryz.prog 151 #[.slice (some ⟨bs,0,none⟩) L.length c] W fun e w'=>∃ g' c',e= .returned (.slice (some ⟨g',0,none⟩) L.length c')∧w'.ownsRow W.heap.size 196 2 (.slice (some ⟨g',0,none⟩) L.length c') L.length (V.flatMap secV)∧Below W.heap.size W w'):=by
  unfold Hid; intro W hW
  exact clones_any (V.flatMap secV) L.length bs c W (((rd_own h2).below hW (Nat.le_refl _)).more hW.size) (by rw [flat_len secV 2 secV_len,h3]) (secs_one h3 h4) (by omega) (by omega)
 have HK:Hid (∀ w2 g' c',Below w.heap.size w w2→w2.ownsRow w.heap.size 196 2 (.slice (some ⟨g',0,none⟩) L.length c') L.length (V.flatMap secV)→Med (w2.alloc (.cells (medObj g g' L.length c') 162)) w2.heap.size g' g L):=by
  unfold Hid; intro w2 g' c' hb ho; exact med_copy (m:=m) (bs:=bs) V h3 h4 hb ho
 clear h1 h2 h3 h4 hf
 go_enter Tryz.func117,Tryz.ntmps117
 go_wp2
 go_region_held3 (fun W=>W.cell? ⟨m,0,none⟩=some (.int .i64 g.random)∧W.cell? ⟨m,1,none⟩=some (.int .i64 g.bands)∧W.cell? ⟨m,2,none⟩=some (.int .i64 g.tracks)∧W.cell? ⟨m,3,none⟩=some (.int .i64 g.sectors)∧W.cell? ⟨m,4,none⟩=some (.int .i64 g.overlap)∧W.cell? ⟨m,5,none⟩=some (.slice (some ⟨bs,0,none⟩) L.length c))
  (first | (refine ⟨?_,?_,?_,?_,?_,?_⟩ <;> assumption) | (simp (maxDischargeDepth:=20) [World.cell?_alloc_some, *]; done))
  ((go_at_call 151
    refine (HC.out _ ((Below.refl w.heap.size w).drew)).mono ?_
    rintro e w2 ⟨g2,c2,rfl,hown2,hb2⟩
    have hw2:Below w.heap.size w w2:=((Below.refl w.heap.size w).drew).trans hb2
    have hm2:=HK.out w2 g2 c2 hw2 hown2
    have q0:=(hw2.cell (p:=⟨m,0,none⟩) hlm).trans p0
    have q1:=(hw2.cell (p:=⟨m,1,none⟩) hlm).trans p1
    have q2:=(hw2.cell (p:=⟨m,2,none⟩) hlm).trans p2
    have q3:=(hw2.cell (p:=⟨m,3,none⟩) hlm).trans p3
    have q4:=(hw2.cell (p:=⟨m,4,none⟩) hlm).trans p4
    have q5:=(hw2.cell (p:=⟨m,5,none⟩) hlm).trans p5))
 have hg2:w.heap.size≤g2:=(hown2.lt g2 rfl).1
 have HM2:=Lib.hid hm2
 have hbs:=hw2.size
 clear q0 q1 q2 q3 q4 q5 p0 p1 p2 p3 p4 p5 hm2 hown2
 go_wp2
 go_ret
 exact ⟨w2.heap.size,g2,rfl,HM2.out,hbs,hg2,hw2.alloc hbs _⟩
end Go.Proofs.YtggkengmlkhdiaaGreat
namespace Go.Proofs.YtggkengmlkhdiaaGreat
set_option linter.unusedVariables false
open Go.RowKit
structure OpV where
 er:Bool
 at_:Int
 xs:List Int
 A:Option Addr
 c:Nat
def OpV.cells (o:OpV):List Value:=[.bool o.er,.int .i64 o.at_,.slice o.A o.xs.length o.c]
def flatOps (l:List OpV):List Value:=l.flatMap OpV.cells
structure OpOk (w:World) (B:Nat) (o:OpV):Prop where
 at_:I64 o.at_
 rd:Rd w B o.A (o.xs.map (Value.int .u8))
 n:o.xs.length≤100000
def doE (g:Geo) (L:List Sec) (o:OpV):Int:=if o.er then eraseE g o.at_ else writeE L o.at_ o.xs
def doL (g:Geo) (L:List Sec) (o:OpV):List Sec:=if o.er then eraseL g L o.at_ else writeL g L o.at_ o.xs
def playL (g:Geo) (L:List Sec) (l:List OpV):List Sec:=l.foldl (doL g) L
theorem doL_len (g:Geo) (L:List Sec) (o:OpV):(doL g L o).length=L.length:=by
 unfold doL; split
 ·exact eraseL_len _ _ _
 ·exact writeL_len _ _ _ _
theorem playL_len (g:Geo):∀ (l:List OpV) (L:List Sec),(playL g L l).length=L.length
 | [],L=>rfl
 | o::l,L=>by unfold playL; rw [List.foldl_cons]; exact (playL_len g l (doL g L o)).trans (doL_len g L o)
theorem playL_take (g:Geo) (L:List Sec) (l:List OpV) (k:Nat) (h:k < l.length):playL g L (l.take (k+1))=doL g (playL g L (l.take k)) l[k]:=by
 unfold playL; rw [List.take_succ_eq_append_getElem h,List.foldl_append]; rfl
theorem short_set {L:List Sec} (h:ShortB L) (i:Nat) (s:Sec) (hs:s.by_.length≤64):ShortB (L.set i s):=by
 intro t ht
 rcases List.mem_or_eq_of_mem_set ht with h1 | h1
 ·exact h t h1
 ·subst h1; exact hs
theorem short_destroy:∀ (ss:List Int) {L:List Sec},ShortB L→ShortB (destroy ss L)
 | [],L,h=>h
 | s::ss,L,h=>by unfold destroy; rw [List.foldl_cons]; exact short_destroy ss (short_set h _ goneS (by simp [goneS]))
theorem short_erase (L:List Sec) (f:Nat) (h:ShortB L):∀ k,ShortB (eraseTo L f k)
 | 0=>h
 | k+1=>by rw [eraseTo_succ]; exact short_set (short_erase L f h k) _ blankS (by simp [blankS])
theorem short_do {g:Geo} {L:List Sec} (h:ShortB L) (o:OpV):ShortB (doL g L o):=by
 unfold doL; split
 ·unfold eraseL; split
  ·exact short_erase _ _ h _
  ·exact h
 ·unfold writeL; split
  ·rename_i hc
   simp at hc
   exact short_destroy _ (short_set h _ _ hc.2)
  ·exact h
theorem short_play {g:Geo}:∀ (l:List OpV) {L:List Sec},ShortB L→ShortB (playL g L l)
 | [],L,h=>h
 | o::l,L,h=>by unfold playL; rw [List.foldl_cons]; exact short_play l (short_do h o)
theorem short_blank (n:Nat):ShortB (List.replicate n blankS):=by
 intro s hs; rw [(List.mem_replicate.1 hs).2]; simp [blankS]
section
variable {m bs:Nat} {g:Geo} {L:List Sec} {w:World} {B:Nat}
end
end Go.Proofs.YtggkengmlkhdiaaGreat

/-
  WHAT IS SHOWN: what wear.Least and open of drive return. what AppendUint of codec and of tegularef09 return: the bytes, and those of the number behind them. what put and get of entry return: the bytes of a number, and the number of bytes. what get of entry returns: the number of bytes. Conditions: as each theorem names them.
-/
import Derived.Test.YtggkengmlkhdiaaGreatM19
import Derived.Test.YtggkengmlkhdiaaGreatM20
import Derived.Test.YtggkengmlkhdiaaGreatM10
import Derived.Lib.VarintBits
namespace Go.Proofs.YtggkengmlkhdiaaGreat
set_option linter.unusedVariables false
open Go.RowKit
set_option maxHeartbeats 2000000 in
theorem least_any (l:List V.BI) (A:Option Addr) (c:Nat) (w:World) (hl:Rd w w.heap.size A (V.flat l)) (hn:l.length≤100000):
  Calls Tryz.prog 146 #[.slice A l.length c] w fun e w'=>e= .returned (.tuple #[.int .i64 (leastN l).1,.int .i64 (leastN l).2])∧Below w.heap.size w w':=by
 have HR:Hid (∀ s,leastFrom none 0 l=s→leastN l=V.chRes s):=by unfold Hid; intro s hs; unfold leastN; rw [hs]
 go_enter Tryz.func146,Tryz.ntmps146
 go_wp2
 go_loopw [4,9] (fun b i wr=>∃ k:Nat,k≤l.length∧i= .int .i64 k∧b= .int .i64 (V.bestI (leastFrom none 0 (l.take k)))∧Below w.heap.size w wr) (fun _ i _=>l.length - (intOf i).toNat)
 case atStart=>exact ⟨0,Nat.zero_le _,rfl,rfl,Below.refl _ _⟩
 case round=>
  obtain ⟨k,hk,rfl,rfl,hbl⟩:=hrel
  by_cases hlt:k < l.length
  ·have HS:=Lib.hid (leastFrom_take l k hlt)
   have HI:=Lib.hid (least_inv l k hk)
   have hz:=hbl.size
   obtain ⟨g,o,rfl,hg,h0,h1,h2,h3⟩:=hl.band (V.get_some hlt)
   have j0:=(hbl.cell (p:=⟨g,_,none⟩) hg).trans h0
   have j1:=(hbl.cell (p:=⟨g,_,none⟩) hg).trans h1
   have j2:=(hbl.cell (p:=⟨g,_,none⟩) hg).trans h2
   have j3:=(hbl.cell (p:=⟨g,_,none⟩) hg).trans h3
   clear h0 h1 h2 h3
   have hal:Below w.heap.size w (wr.alloc (.cells #[.int .i64 l[k].used,.int .i64 l[k].live,.int .u64 l[k].age,.int .u64 l[k].wear] 76)):=hbl.alloc hz _
   have hk1:(k:Int) < l.length:=by omega
   by_cases hu:l[k].used=0
   ·have d1:(l[k].used==0)=true:=by simpa using hu
    have HX:Hid (∀ s,leastFrom none 0 (l.take k)=s→leastFrom none 0 (l.take (k+1))=(match s with | none=>some (k,l[k]) | some (j,c)=>if l[k].wear < c.wear then some (k,l[k]) else some (j,c))):=by
     unfold Hid; intro s hs; rw [HS.out,hs]; unfold leastStep; rw [if_pos hu]; cases s <;> rfl
    clear HS hu
    rcases HI.out with ⟨hm,_⟩ | ⟨j,hj,hjk,hm,_⟩
    ·have HN:=Lib.hid (HX.out none hm)
     rw [hm]
     clear hm HX HI
     simp only [V.bestI] at *
     go_wp2
     clear j0 j1 j2 j3
     go_quiet (fail)
     go_wp2
     go_roundw
     case rel=>exact ⟨k+1,by omega,by go_num,by rw [HN.out],below_drewN' hal _⟩
     case measure=>simp [intOf]; omega
    ·have HN:=Lib.hid (HX.out _ hm)
     rw [hm]
     clear hm HX HI
     obtain ⟨g',o',e,_,i0,i1,i2,i3⟩:=hl.band (V.get_some hj)
     simp only [Option.some.injEq,Addr.mk.injEq,and_true] at e
     obtain ⟨rfl,rfl⟩:=e
     have i3':=(hal.cell (p:=⟨g,_,none⟩) hg).trans i3
     clear i0 i1 i2 i3
     have q1:(0:Int)≤j:=by omega
     have q2:(j:Int) < l.length:=by omega
     have q3:decide ((j:Int) < 0)=false:=decide_eq_false (by omega)
     simp only [V.bestI] at *
     by_cases hwr:l[k].wear < l[j].wear
     ·have d2:decide (l[k].wear < l[j].wear)=true:=decide_eq_true hwr
      have HN2:Hid (leastFrom none 0 (l.take (k+1))=some (k,l[k])):=by unfold Hid; rw [HN.out,if_pos hwr]
      clear hwr HN
      generalize l[j]=y at *
      go_wp2
      clear j0 j1 j2 j3
      go_quiet (fail)
      go_wp2
      go_roundw
      case rel=>exact ⟨k+1,by omega,by go_num,by rw [HN2.out],below_drewN' hal _⟩
      case measure=>simp [intOf]; omega
     ·have d2:decide (l[k].wear < l[j].wear)=false:=decide_eq_false hwr
      have HN2:Hid (leastFrom none 0 (l.take (k+1))=some (j,l[j])):=by unfold Hid; rw [HN.out,if_neg hwr]
      clear hwr HN
      generalize l[j]=y at *
      go_wp2
      clear j0 j1 j2 j3
      go_quiet (fail)
      go_wp2
      go_roundw
      case rel=>exact ⟨k+1,by omega,by go_num,by rw [HN2.out],below_drewN' hal _⟩
      case measure=>simp [intOf]; omega
   ·have d1:(l[k].used==0)=false:=by simpa using hu
    have HN:Hid (leastFrom none 0 (l.take (k+1))=leastFrom none 0 (l.take k)):=by
     unfold Hid; rw [HS.out]; unfold leastStep; rw [if_neg hu]
    clear HS HI hu
    generalize leastFrom none 0 (l.take k)=s at *
    go_wp2
    clear j0 j1 j2 j3
    go_quiet (fail)
    go_wp2
    go_roundw
    case rel=>exact ⟨k+1,by omega,by go_num,by rw [HN.out],below_drewN' hal _⟩
    case measure=>simp [intOf]; omega
  ·obtain rfl:k=l.length:=by omega
   rw [List.take_of_length_le (Nat.le_refl _)]
   have HN:Hid (leastN l=V.chRes (leastFrom none 0 l)):=HR.out _ rfl
   generalize leastFrom none 0 l=s at *
   cases s with
   | none=>
     simp only [V.bestI] at *
     go_wp2
     go_ret2
     exact ⟨by rw [HN.out]; rfl,hbl⟩
   | some x=>
     obtain ⟨j,y⟩:=x
     have q1:decide ((j:Int) < 0)=false:=decide_eq_false (by omega)
     simp only [V.bestI] at *
     go_wp2
     go_ret2
     exact ⟨by rw [HN.out]; rfl,hbl⟩
theorem flat_used:∀ (l:List V.BI) (k:Nat) (hk:k < l.length) (u:Int),(V.flat l).set (k * 4) (.int .i64 u)=V.flat (l.set k { l[k] with used:=u })
 | b::l,0,_,u=>by simp [V.flat,V.BI.cells]
 | b::l,k+1,hk,u=>by
   have ih:=flat_used l k (by simpa using hk) u
   unfold V.flat at ih ⊢
   rw [List.flatMap_cons,List.set_cons_succ,List.flatMap_cons,List.getElem_cons_succ,← ih]
   rw [show (k+1) * 4=k * 4+1+1+1+1 by omega]
   simp only [V.BI.cells,List.cons_append,List.nil_append,List.set_cons_succ]
section
variable {w w':World} {B:Bd} {p q pw:Nat} {g:Geo} {F:List Flt} {key:Int} {S:ST} {ea ec:Nat} {BA:Option Addr} {bc:Nat}
set_option maxRecDepth 100000 in
set_option maxHeartbeats 4000000 in
theorem open20_any (except:Int) (hx:except < S.v.bs.length) (hv:VOk g S.v) (h:Drv w B p q pw g F key S ea ec BA bc):Calls Tryz.prog 109 #[.pointer (some ⟨p,0,none⟩),.int .i64 except] w fun e w'=>e= .returned (.tuple #[.int .i64 (openN g S.v.bs except).1,.int .i64 (openN g S.v.bs except).2])∧Below w.heap.size w w':=by
 have hl:=hv.len64
 have c3:=h.cells.2.2.2.1
 have HCL:=Lib.hid (V.clone_any S.v.bs BA bc w h.bs.rd (by omega))
 have HSZ:=Lib.hid (fun W (hW:Below w.heap.size w W)=>size20_any hv.gv (h.below0 hW))
 have HLN:Hid ((fullL g S.v.bs except).length=S.v.bs.length):=fullL_len g S.v.bs except
 have HGO:Hid (∀ z er,openN g S.v.bs except=(z,er)→∀ o,V.openB (fullL g S.v.bs except) (bz g)=o→∀ a b,leastN (fullL g S.v.bs except)=(a,b)→(z,er)=(if 0≤o then (o,0) else if b=0 then (a,0) else (0,11))):=by
  intro z er h1 o h2 a b h3
  rw [← h1]; unfold openN; rw [h2,h3]
 have HOB:=Lib.hid (fun W A c (hr:Rd W W.heap.size A (V.flat (fullL g S.v.bs except)))=>V.open_any (bz g) (fullL g S.v.bs except) A c W hr (by rw [HLN.out]; omega))
 have HLE:=Lib.hid (fun W A c (hr:Rd W W.heap.size A (V.flat (fullL g S.v.bs except)))=>least_any (fullL g S.v.bs except) A c W hr (by rw [HLN.out]; omega))
 have HST:Hid (∀ (W:World) (A:Option Addr) (c:Nat),W.ownsRow w.heap.size 76 4 (.slice A S.v.bs.length c) S.v.bs.length (V.flat S.v.bs)→Below w.heap.size w W→∀ k:Nat,except=k→∃ gA,A=some ⟨gA,0,none⟩∧(∃ u,W.cell? ⟨gA,k * 4,none⟩=some u)∧W.frozen? ⟨gA,k * 4,none⟩=false∧
   (W.setCell ⟨gA,k * 4,none⟩ (.int .i64 (bz g))).ownsRow w.heap.size 76 4 (.slice A (fullL g S.v.bs except).length c) (fullL g S.v.bs except).length (V.flat (fullL g S.v.bs except))∧Below w.heap.size w (W.setCell ⟨gA,k * 4,none⟩ (.int .i64 (bz g)))):=by
  intro W A c ho hb k hk
  have hk':k < S.v.bs.length:=by omega
  obtain ⟨gA,rfl,hg1,hg2⟩:=own_at ho (by omega)
  have hs:=(World.ownsRow.stored ho (k * 4) (.int .i64 (bz g))).1
  rw [flat_used _ _ hk'] at hs
  have e:fullL g S.v.bs except=S.v.bs.set k { S.v.bs[k] with used:=bz g }:=by
   subst hk
   unfold fullL; rw [if_pos (by omega),V.at_eq hk']; rfl
  have hle:(V.flat S.v.bs)[k * 4]?=some (.int .i64 S.v.bs[k].used):=by
   have:=flat_get V.BI.cells 4 V.cells_len S.v.bs k 0 (by omega)
   rw [Nat.add_zero] at this
   unfold V.flat; rw [this,List.getElem?_eq_getElem hk']; rfl
  refine ⟨gA,rfl,⟨_,(World.ownsRow.cellAt ho (k * 4) (by omega)).trans hle⟩,ho.frozenAt _,?_,hb.setCell hg1 _⟩
  rw [e]; simpa using hs
 have HNE:Hid (∀ (W:World) (A:Option Addr) (c:Nat),W.ownsRow w.heap.size 76 4 (.slice A S.v.bs.length c) S.v.bs.length (V.flat S.v.bs)→except < 0→W.ownsRow w.heap.size 76 4 (.slice A (fullL g S.v.bs except).length c) (fullL g S.v.bs except).length (V.flat (fullL g S.v.bs except))):=by
  intro W A c ho hneg
  have e:fullL g S.v.bs except=S.v.bs:=by unfold fullL; rw [if_neg (by omega)]
  rw [e]; exact ho
 rcases hopn:openN g S.v.bs except with ⟨z,er⟩
 rcases hlst:leastN (fullL g S.v.bs except) with ⟨la,lb⟩
 have HR:=Lib.hid (HGO.out z er hopn _ rfl la lb hlst)
 rw [hlst] at HLE
 clear hopn hlst HGO h hv
 generalize V.openB (fullL g S.v.bs except) (bz g)=o at *
 have HREST:Hid (∀ (W:World) (A:Option Addr) (c:Nat),Below w.heap.size w W→W.ownsRow w.heap.size 76 4 (.slice A S.v.bs.length c) S.v.bs.length (V.flat (fullL g S.v.bs except))→Rd W W.heap.size A (V.flat (fullL g S.v.bs except))):=fun W A c _ ho=>Rd.of_own ho
 rw [HLN.out] at *
 generalize fullL g S.v.bs except=fl at *
 have hz:=c3
 by_cases h0:except < 0
 ·have d0:decide (0≤except)=false:=decide_eq_false (by omega)
  go_enter Tryz.func109,Tryz.ntmps109
  go_wp2_with fail
  refine HCL.out.mono ?_
  rintro e w1 ⟨A1,c1,rfl,ho1,hb1⟩
  have ho2:=HNE.out _ _ _ ho1 h0
  have HRD:=Lib.hid (HREST.out w1 A1 c1 hb1 ho2)
  have HB1:=Lib.hid hb1
  clear ho1 ho2 hb1 HNE HST
  go_wp2_with fail
  refine (HSZ.out _ HB1.out).mono ?_
  rintro e w5 ⟨rfl,hb5⟩
  have HB5:=Lib.hid (HB1.out.trans (hb5.mono HB1.out.size))
  have HRD5:=Lib.hid ((HRD.out.below hb5 (Nat.le_refl _)).more hb5.size)
  clear hb5
  go_wp2_with fail
  refine (HOB.out w5 A1 c1 HRD5.out).mono ?_
  rintro e w6 ⟨rfl,hb6⟩
  have HB6:=Lib.hid (HB5.out.trans (hb6.mono HB5.out.size))
  have HRD6:=Lib.hid ((HRD5.out.below hb6 (Nat.le_refl _)).more hb6.size)
  clear hb6
  by_cases ho:0≤o
  ·have dO:decide (0≤o)=true:=decide_eq_true ho
   have HR2:Hid ((z,er)=(o,0)):=by unfold Hid; rw [HR.out,if_pos ho]
   go_wp2
   go_ret2
   exact ⟨by have e:=HR2.out; injection e with e1 e2; subst e1; subst e2; rfl,HB6.out⟩
  ·have dO:decide (0≤o)=false:=decide_eq_false ho
   go_wp2_with fail
   refine (HLE.out w6 A1 c1 HRD6.out).mono ?_
   rintro e w7 ⟨rfl,hb7⟩
   have HB7:=Lib.hid (HB6.out.trans (hb7.mono HB6.out.size))
   clear hb7
   by_cases hlb:lb=0
   ·have HR2:Hid ((z,er)=(la,0)):=by unfold Hid; rw [HR.out,if_neg (show ¬ 0≤o by omega),if_pos hlb]
    subst hlb
    go_wp2
    go_ret2
    exact ⟨by have e:=HR2.out; injection e with e1 e2; subst e1; subst e2; rfl,HB7.out⟩
   ·have HR2:Hid ((z,er)=(0,11)):=by unfold Hid; rw [HR.out,if_neg (show ¬ 0≤o by omega),if_neg hlb]
    have dL:(lb !=0)=true:=by simpa using hlb
    go_wp2
    go_ret2
    exact ⟨by have e:=HR2.out; injection e with e1 e2; subst e1; subst e2; rfl,HB7.out⟩
 ·obtain ⟨k,rfl⟩:=Int.eq_ofNat_of_zero_le (show 0≤except by omega)
  have d0:decide ((0:Int)≤(k:Int))=true:=decide_eq_true (by omega)
  have hk1:(k:Int) < S.v.bs.length:=hx
  go_enter Tryz.func109,Tryz.ntmps109
  go_wp2_with fail
  refine HCL.out.mono ?_
  rintro e w1 ⟨A1,c1,rfl,ho1,hb1⟩
  go_wp2_with fail
  refine (HSZ.out _ hb1).mono ?_
  rintro e w2 ⟨rfl,hb2⟩
  obtain ⟨gA,rfl,⟨u,hcu⟩,hfz,ho3,hb3⟩:=HST.out w2 A1 c1 (own_kept ho1 (belKept0 (S:=fun _=>False) hb2) (fun _ _ h=>h)) (hb1.trans (hb2.mono hb1.size)) k rfl
  have HRD:=Lib.hid (HREST.out _ _ c1 hb3 ho3)
  have HB1:=Lib.hid hb3
  clear ho1 hb1 hb2 ho3 hb3 HNE HST
  go_upto_region 4 with fail
  generalize w2.setCell ⟨gA,k * 4,none⟩ (.int .i64 (bz g))=w3 at *
  go_wp2_with fail
  refine (HSZ.out _ HB1.out).mono ?_
  rintro e w5 ⟨rfl,hb5⟩
  have HB5:=Lib.hid (HB1.out.trans (hb5.mono HB1.out.size))
  have HRD5:=Lib.hid ((HRD.out.below hb5 (Nat.le_refl _)).more hb5.size)
  clear hb5
  go_wp2_with fail
  refine (HOB.out w5 (some ⟨gA,0,none⟩) c1 HRD5.out).mono ?_
  rintro e w6 ⟨rfl,hb6⟩
  have HB6:=Lib.hid (HB5.out.trans (hb6.mono HB5.out.size))
  have HRD6:=Lib.hid ((HRD5.out.below hb6 (Nat.le_refl _)).more hb6.size)
  clear hb6
  by_cases ho:0≤o
  ·have dO:decide (0≤o)=true:=decide_eq_true ho
   have HR2:Hid ((z,er)=(o,0)):=by unfold Hid; rw [HR.out,if_pos ho]
   go_wp2
   go_ret2
   exact ⟨by have e:=HR2.out; injection e with e1 e2; subst e1; subst e2; rfl,HB6.out⟩
  ·have dO:decide (0≤o)=false:=decide_eq_false ho
   go_wp2_with fail
   refine (HLE.out w6 (some ⟨gA,0,none⟩) c1 HRD6.out).mono ?_
   rintro e w7 ⟨rfl,hb7⟩
   have HB7:=Lib.hid (HB6.out.trans (hb7.mono HB6.out.size))
   clear hb7
   by_cases hlb:lb=0
   ·have HR2:Hid ((z,er)=(la,0)):=by unfold Hid; rw [HR.out,if_neg (show ¬ 0≤o by omega),if_pos hlb]
    subst hlb
    go_wp2
    go_ret2
    exact ⟨by have e:=HR2.out; injection e with e1 e2; subst e1; subst e2; rfl,HB7.out⟩
   ·have HR2:Hid ((z,er)=(0,11)):=by unfold Hid; rw [HR.out,if_neg (show ¬ 0≤o by omega),if_neg hlb]
    have dL:(lb !=0)=true:=by simpa using hlb
    go_wp2
    go_ret2
    exact ⟨by have e:=HR2.out; injection e with e1 e2; subst e1; subst e2; rfl,HB7.out⟩
end
end Go.Proofs.YtggkengmlkhdiaaGreat
namespace Go.Proofs.YtggkengmlkhdiaaGreat
set_option linter.unusedVariables false
open Go.RowKit
theorem own_low {w:World} {base:Nat} {e:TypeId} {size n k:Nat} {v:Value} {xs:List Value} (h:w.ownsRow base e size v n xs) (hk:v.ownBlock=some k):base≤k:=by
 rcases h.2 with ⟨h2,_⟩ | ⟨g,cap,cur,h2,h3,_⟩
 ·rw [h2] at hk; cases hk
 ·rw [h2] at hk; injection hk with hk; subst hk; exact h3
end Go.Proofs.YtggkengmlkhdiaaGreat
namespace Go.Proofs.YtggkengmlkhdiaaGreat
set_option linter.unusedVariables false
open Go.RowKit
set_option maxRecDepth 100000 in
set_option maxHeartbeats 4000000 in
theorem put_any (n:Int) (h0:0≤n) (k:Nat) (hk:k≤8) (xs:List Int) (A:Option Addr) (c base:Nat) (w:World) (HO:w.ownsRow base 5 1 (.slice A xs.length c) xs.length (xs.map (Value.int .u8))) (hl:xs.length≤100) (hb:base≤w.heap.size):
  Calls Tryz.prog 147 #[.slice A xs.length c,.int .u64 n,.int .i64 k] w fun e w'=>∃ A' c',e= .returned (.slice A' (xs++leB n k).length c')∧w'.ownsRow base 5 1 (.slice A' (xs++leB n k).length c') (xs++leB n k).length ((xs++leB n k).map (Value.int .u8))∧Below base w w':=by
 obtain ⟨i0,hi,hz0,hz1,hz2⟩:=info_parts qinfo_u8
 have HO1:=Lib.hid HO
 clear HO
 go_enter Tryz.func147,Tryz.ntmps147
 go_wp2
 go_loopw [0,9] (fun b v wr=>∃ (j:Nat) (ys:List Int) (DA:Option Addr) (dc:Nat),j≤k∧v= .int .i64 j∧b= .slice DA ys.length dc∧Hid (ys=xs++leB n j)∧Hid (wr.ownsRow base 5 1 (.slice DA ys.length dc) ys.length (ys.map (Value.int .u8)))∧Below base w wr) (fun _ v _=>k - (intOf v).toNat)
 case atStart=>exact ⟨0,xs,A,c,by omega,rfl,rfl,by unfold Hid; simp [leB],HO1,Below.refl _ _⟩
 case round=>
  obtain ⟨j,ys,DA,dc,hj,rfl,rfl,HY,HO2,hbr⟩:=hrel
  have hyl:ys.length≤108:=by rw [HY.out,List.length_append,leB_len]; omega
  have hbs:base≤wr.heap.size:=Nat.le_trans hb hbr.size
  by_cases hjk:j=k
  ·subst hjk
   have HE:Hid (ys=xs++leB n j):=HY
   go_wp2
   go_ret
   exact ⟨DA,dc,by rw [← HE.out]; rfl,by rw [← HE.out]; exact HO2.out,hbr⟩
  ·have d1:(j:Int) < (k:Int):=by omega
   rcases (by omega:j=0∨j=1∨j=2∨j=3∨j=4∨j=5∨j=6∨j=7) with rfl | rfl | rfl | rfl | rfl | rfl | rfl | rfl
   ·have HE2:Hid (ys++[IntKind.u8.wrap (n)]=xs++leB n (0+1)):=by unfold Hid; rw [HY.out,List.append_assoc,show leB n (0+1)=leB n 0++[IntKind.u8.wrap (n)] from by rw [leB_push n 0]; simp]
    go_wp2_with (at_builtin; refine wpList_append_own _ rfl _ _ 65 rfl base 5 i0 _ 1 1 Tryz.underlying65 hi hz0 hz1 hz2 rfl (by decide) _ ys.length (ys.map (Value.int .u8)) rfl (HO2.out.alloc _) ⟨wr.heap.size,0,none⟩ 1 1 [.int .u8 ((IntKind.u8.wrap (n)))] rfl rfl (World.news_of_block (heap_alloc_new _ _)) (by intro u hu; simp at hu; subst hu; rfl) ?c1 ?c2 ?c3 ?_)
    case c1=>unfold maxLen; omega
    case c2=>omega
    case c3=>first | omega | (simp; omega)
    intro v' w' hown hgrow hiff
    obtain ⟨DA',dc',hv⟩:=own_form hown
    subst hv
    have hbl:Below base w w':=(hbr.alloc hbs _).grown hgrow (by simp; omega) (fun k hk=>own_low HO2.out hk)
    have HOW:Hid (w'.ownsRow base 5 1 (.slice DA' (ys++[IntKind.u8.wrap (n)]).length dc') (ys++[IntKind.u8.wrap (n)]).length ((ys++[IntKind.u8.wrap (n)]).map (Value.int .u8))):=by
     unfold Hid; rw [List.length_append,List.map_append]; exact hown
    have HLN:Hid (ys.length+1=(ys++[IntKind.u8.wrap (n)]).length):=by unfold Hid; simp
    clear hown hgrow hiff
    go_wp2
    go_roundw
    case rel=>exact ⟨0+1,ys++[IntKind.u8.wrap (n)],DA',dc',by omega,by simp,by rw [← HLN.out],HE2,HOW,hbl⟩
    case measure=>simp [intOf]; omega
   ·have HE2:Hid (ys++[IntKind.u8.wrap (n / 256)]=xs++leB n (1+1)):=by unfold Hid; rw [HY.out,List.append_assoc,show leB n (1+1)=leB n 1++[IntKind.u8.wrap (n / 256)] from by rw [leB_push n 1]; simp]
    go_wp2_with (at_builtin; refine wpList_append_own _ rfl _ _ 65 rfl base 5 i0 _ 1 1 Tryz.underlying65 hi hz0 hz1 hz2 rfl (by decide) _ ys.length (ys.map (Value.int .u8)) rfl (HO2.out.alloc _) ⟨wr.heap.size,0,none⟩ 1 1 [.int .u8 ((IntKind.u8.wrap (n / 256)))] rfl rfl (World.news_of_block (heap_alloc_new _ _)) (by intro u hu; simp at hu; subst hu; rfl) ?c1 ?c2 ?c3 ?_)
    case c1=>unfold maxLen; omega
    case c2=>omega
    case c3=>first | omega | (simp; omega)
    intro v' w' hown hgrow hiff
    obtain ⟨DA',dc',hv⟩:=own_form hown
    subst hv
    have hbl:Below base w w':=(hbr.alloc hbs _).grown hgrow (by simp; omega) (fun k hk=>own_low HO2.out hk)
    have HOW:Hid (w'.ownsRow base 5 1 (.slice DA' (ys++[IntKind.u8.wrap (n / 256)]).length dc') (ys++[IntKind.u8.wrap (n / 256)]).length ((ys++[IntKind.u8.wrap (n / 256)]).map (Value.int .u8))):=by
     unfold Hid; rw [List.length_append,List.map_append]; exact hown
    have HLN:Hid (ys.length+1=(ys++[IntKind.u8.wrap (n / 256)]).length):=by unfold Hid; simp
    clear hown hgrow hiff
    go_wp2
    go_roundw
    case rel=>exact ⟨1+1,ys++[IntKind.u8.wrap (n / 256)],DA',dc',by omega,by simp,by rw [← HLN.out],HE2,HOW,hbl⟩
    case measure=>simp [intOf]; omega
   ·have HE2:Hid (ys++[IntKind.u8.wrap (n / 65536)]=xs++leB n (2+1)):=by unfold Hid; rw [HY.out,List.append_assoc,show leB n (2+1)=leB n 2++[IntKind.u8.wrap (n / 65536)] from by rw [leB_push n 2]; simp]
    go_wp2_with (at_builtin; refine wpList_append_own _ rfl _ _ 65 rfl base 5 i0 _ 1 1 Tryz.underlying65 hi hz0 hz1 hz2 rfl (by decide) _ ys.length (ys.map (Value.int .u8)) rfl (HO2.out.alloc _) ⟨wr.heap.size,0,none⟩ 1 1 [.int .u8 ((IntKind.u8.wrap (n / 65536)))] rfl rfl (World.news_of_block (heap_alloc_new _ _)) (by intro u hu; simp at hu; subst hu; rfl) ?c1 ?c2 ?c3 ?_)
    case c1=>unfold maxLen; omega
    case c2=>omega
    case c3=>first | omega | (simp; omega)
    intro v' w' hown hgrow hiff
    obtain ⟨DA',dc',hv⟩:=own_form hown
    subst hv
    have hbl:Below base w w':=(hbr.alloc hbs _).grown hgrow (by simp; omega) (fun k hk=>own_low HO2.out hk)
    have HOW:Hid (w'.ownsRow base 5 1 (.slice DA' (ys++[IntKind.u8.wrap (n / 65536)]).length dc') (ys++[IntKind.u8.wrap (n / 65536)]).length ((ys++[IntKind.u8.wrap (n / 65536)]).map (Value.int .u8))):=by
     unfold Hid; rw [List.length_append,List.map_append]; exact hown
    have HLN:Hid (ys.length+1=(ys++[IntKind.u8.wrap (n / 65536)]).length):=by unfold Hid; simp
    clear hown hgrow hiff
    go_wp2
    go_roundw
    case rel=>exact ⟨2+1,ys++[IntKind.u8.wrap (n / 65536)],DA',dc',by omega,by simp,by rw [← HLN.out],HE2,HOW,hbl⟩
    case measure=>simp [intOf]; omega
   ·have HE2:Hid (ys++[IntKind.u8.wrap (n / 16777216)]=xs++leB n (3+1)):=by unfold Hid; rw [HY.out,List.append_assoc,show leB n (3+1)=leB n 3++[IntKind.u8.wrap (n / 16777216)] from by rw [leB_push n 3]; simp]
    go_wp2_with (at_builtin; refine wpList_append_own _ rfl _ _ 65 rfl base 5 i0 _ 1 1 Tryz.underlying65 hi hz0 hz1 hz2 rfl (by decide) _ ys.length (ys.map (Value.int .u8)) rfl (HO2.out.alloc _) ⟨wr.heap.size,0,none⟩ 1 1 [.int .u8 ((IntKind.u8.wrap (n / 16777216)))] rfl rfl (World.news_of_block (heap_alloc_new _ _)) (by intro u hu; simp at hu; subst hu; rfl) ?c1 ?c2 ?c3 ?_)
    case c1=>unfold maxLen; omega
    case c2=>omega
    case c3=>first | omega | (simp; omega)
    intro v' w' hown hgrow hiff
    obtain ⟨DA',dc',hv⟩:=own_form hown
    subst hv
    have hbl:Below base w w':=(hbr.alloc hbs _).grown hgrow (by simp; omega) (fun k hk=>own_low HO2.out hk)
    have HOW:Hid (w'.ownsRow base 5 1 (.slice DA' (ys++[IntKind.u8.wrap (n / 16777216)]).length dc') (ys++[IntKind.u8.wrap (n / 16777216)]).length ((ys++[IntKind.u8.wrap (n / 16777216)]).map (Value.int .u8))):=by
     unfold Hid; rw [List.length_append,List.map_append]; exact hown
    have HLN:Hid (ys.length+1=(ys++[IntKind.u8.wrap (n / 16777216)]).length):=by unfold Hid; simp
    clear hown hgrow hiff
    go_wp2
    go_roundw
    case rel=>exact ⟨3+1,ys++[IntKind.u8.wrap (n / 16777216)],DA',dc',by omega,by simp,by rw [← HLN.out],HE2,HOW,hbl⟩
    case measure=>simp [intOf]; omega
   ·have HE2:Hid (ys++[IntKind.u8.wrap (n / 4294967296)]=xs++leB n (4+1)):=by unfold Hid; rw [HY.out,List.append_assoc,show leB n (4+1)=leB n 4++[IntKind.u8.wrap (n / 4294967296)] from by rw [leB_push n 4]; simp]
    go_wp2_with (at_builtin; refine wpList_append_own _ rfl _ _ 65 rfl base 5 i0 _ 1 1 Tryz.underlying65 hi hz0 hz1 hz2 rfl (by decide) _ ys.length (ys.map (Value.int .u8)) rfl (HO2.out.alloc _) ⟨wr.heap.size,0,none⟩ 1 1 [.int .u8 ((IntKind.u8.wrap (n / 4294967296)))] rfl rfl (World.news_of_block (heap_alloc_new _ _)) (by intro u hu; simp at hu; subst hu; rfl) ?c1 ?c2 ?c3 ?_)
    case c1=>unfold maxLen; omega
    case c2=>omega
    case c3=>first | omega | (simp; omega)
    intro v' w' hown hgrow hiff
    obtain ⟨DA',dc',hv⟩:=own_form hown
    subst hv
    have hbl:Below base w w':=(hbr.alloc hbs _).grown hgrow (by simp; omega) (fun k hk=>own_low HO2.out hk)
    have HOW:Hid (w'.ownsRow base 5 1 (.slice DA' (ys++[IntKind.u8.wrap (n / 4294967296)]).length dc') (ys++[IntKind.u8.wrap (n / 4294967296)]).length ((ys++[IntKind.u8.wrap (n / 4294967296)]).map (Value.int .u8))):=by
     unfold Hid; rw [List.length_append,List.map_append]; exact hown
    have HLN:Hid (ys.length+1=(ys++[IntKind.u8.wrap (n / 4294967296)]).length):=by unfold Hid; simp
    clear hown hgrow hiff
    go_wp2
    go_roundw
    case rel=>exact ⟨4+1,ys++[IntKind.u8.wrap (n / 4294967296)],DA',dc',by omega,by simp,by rw [← HLN.out],HE2,HOW,hbl⟩
    case measure=>simp [intOf]; omega
   ·have HE2:Hid (ys++[IntKind.u8.wrap (n / 1099511627776)]=xs++leB n (5+1)):=by unfold Hid; rw [HY.out,List.append_assoc,show leB n (5+1)=leB n 5++[IntKind.u8.wrap (n / 1099511627776)] from by rw [leB_push n 5]; simp]
    go_wp2_with (at_builtin; refine wpList_append_own _ rfl _ _ 65 rfl base 5 i0 _ 1 1 Tryz.underlying65 hi hz0 hz1 hz2 rfl (by decide) _ ys.length (ys.map (Value.int .u8)) rfl (HO2.out.alloc _) ⟨wr.heap.size,0,none⟩ 1 1 [.int .u8 ((IntKind.u8.wrap (n / 1099511627776)))] rfl rfl (World.news_of_block (heap_alloc_new _ _)) (by intro u hu; simp at hu; subst hu; rfl) ?c1 ?c2 ?c3 ?_)
    case c1=>unfold maxLen; omega
    case c2=>omega
    case c3=>first | omega | (simp; omega)
    intro v' w' hown hgrow hiff
    obtain ⟨DA',dc',hv⟩:=own_form hown
    subst hv
    have hbl:Below base w w':=(hbr.alloc hbs _).grown hgrow (by simp; omega) (fun k hk=>own_low HO2.out hk)
    have HOW:Hid (w'.ownsRow base 5 1 (.slice DA' (ys++[IntKind.u8.wrap (n / 1099511627776)]).length dc') (ys++[IntKind.u8.wrap (n / 1099511627776)]).length ((ys++[IntKind.u8.wrap (n / 1099511627776)]).map (Value.int .u8))):=by
     unfold Hid; rw [List.length_append,List.map_append]; exact hown
    have HLN:Hid (ys.length+1=(ys++[IntKind.u8.wrap (n / 1099511627776)]).length):=by unfold Hid; simp
    clear hown hgrow hiff
    go_wp2
    go_roundw
    case rel=>exact ⟨5+1,ys++[IntKind.u8.wrap (n / 1099511627776)],DA',dc',by omega,by simp,by rw [← HLN.out],HE2,HOW,hbl⟩
    case measure=>simp [intOf]; omega
   ·have HE2:Hid (ys++[IntKind.u8.wrap (n / 281474976710656)]=xs++leB n (6+1)):=by unfold Hid; rw [HY.out,List.append_assoc,show leB n (6+1)=leB n 6++[IntKind.u8.wrap (n / 281474976710656)] from by rw [leB_push n 6]; simp]
    go_wp2_with (at_builtin; refine wpList_append_own _ rfl _ _ 65 rfl base 5 i0 _ 1 1 Tryz.underlying65 hi hz0 hz1 hz2 rfl (by decide) _ ys.length (ys.map (Value.int .u8)) rfl (HO2.out.alloc _) ⟨wr.heap.size,0,none⟩ 1 1 [.int .u8 ((IntKind.u8.wrap (n / 281474976710656)))] rfl rfl (World.news_of_block (heap_alloc_new _ _)) (by intro u hu; simp at hu; subst hu; rfl) ?c1 ?c2 ?c3 ?_)
    case c1=>unfold maxLen; omega
    case c2=>omega
    case c3=>first | omega | (simp; omega)
    intro v' w' hown hgrow hiff
    obtain ⟨DA',dc',hv⟩:=own_form hown
    subst hv
    have hbl:Below base w w':=(hbr.alloc hbs _).grown hgrow (by simp; omega) (fun k hk=>own_low HO2.out hk)
    have HOW:Hid (w'.ownsRow base 5 1 (.slice DA' (ys++[IntKind.u8.wrap (n / 281474976710656)]).length dc') (ys++[IntKind.u8.wrap (n / 281474976710656)]).length ((ys++[IntKind.u8.wrap (n / 281474976710656)]).map (Value.int .u8))):=by
     unfold Hid; rw [List.length_append,List.map_append]; exact hown
    have HLN:Hid (ys.length+1=(ys++[IntKind.u8.wrap (n / 281474976710656)]).length):=by unfold Hid; simp
    clear hown hgrow hiff
    go_wp2
    go_roundw
    case rel=>exact ⟨6+1,ys++[IntKind.u8.wrap (n / 281474976710656)],DA',dc',by omega,by simp,by rw [← HLN.out],HE2,HOW,hbl⟩
    case measure=>simp [intOf]; omega
   ·have HE2:Hid (ys++[IntKind.u8.wrap (n / 72057594037927936)]=xs++leB n (7+1)):=by unfold Hid; rw [HY.out,List.append_assoc,show leB n (7+1)=leB n 7++[IntKind.u8.wrap (n / 72057594037927936)] from by rw [leB_push n 7]; simp]
    go_wp2_with (at_builtin; refine wpList_append_own _ rfl _ _ 65 rfl base 5 i0 _ 1 1 Tryz.underlying65 hi hz0 hz1 hz2 rfl (by decide) _ ys.length (ys.map (Value.int .u8)) rfl (HO2.out.alloc _) ⟨wr.heap.size,0,none⟩ 1 1 [.int .u8 ((IntKind.u8.wrap (n / 72057594037927936)))] rfl rfl (World.news_of_block (heap_alloc_new _ _)) (by intro u hu; simp at hu; subst hu; rfl) ?c1 ?c2 ?c3 ?_)
    case c1=>unfold maxLen; omega
    case c2=>omega
    case c3=>first | omega | (simp; omega)
    intro v' w' hown hgrow hiff
    obtain ⟨DA',dc',hv⟩:=own_form hown
    subst hv
    have hbl:Below base w w':=(hbr.alloc hbs _).grown hgrow (by simp; omega) (fun k hk=>own_low HO2.out hk)
    have HOW:Hid (w'.ownsRow base 5 1 (.slice DA' (ys++[IntKind.u8.wrap (n / 72057594037927936)]).length dc') (ys++[IntKind.u8.wrap (n / 72057594037927936)]).length ((ys++[IntKind.u8.wrap (n / 72057594037927936)]).map (Value.int .u8))):=by
     unfold Hid; rw [List.length_append,List.map_append]; exact hown
    have HLN:Hid (ys.length+1=(ys++[IntKind.u8.wrap (n / 72057594037927936)]).length):=by unfold Hid; simp
    clear hown hgrow hiff
    go_wp2
    go_roundw
    case rel=>exact ⟨7+1,ys++[IntKind.u8.wrap (n / 72057594037927936)],DA',dc',by omega,by simp,by rw [← HLN.out],HE2,HOW,hbl⟩
    case measure=>simp [intOf]; omega
end Go.Proofs.YtggkengmlkhdiaaGreat
namespace Go.Proofs.YtggkengmlkhdiaaGreat
set_option linter.unusedVariables false
open Go.RowKit
theorem or_byte (j:Nat) (hj:j≤7) (a x:Int) (ha:0≤a) (ha2:a < 256 ^ j) (hx:0≤x) (hx2:x≤255):
  bits BinOp.or IntKind.u64 a (x * 256 ^ j)=a+x * 256 ^ j:=by
 obtain ⟨n,rfl⟩:=Int.eq_ofNat_of_zero_le ha
 obtain ⟨m,rfl⟩:=Int.eq_ofNat_of_zero_le hx
 have hp:(256:Int) ^ j=((2 ^ (8 * j):Nat):Int):=by
  rw [show (256:Int)=2 ^ 8 from rfl,← Int.pow_mul]; push_cast; rfl
 rw [hp] at ha2 ⊢
 have h56:2 ^ (8 * j)≤2 ^ 56:=Nat.pow_le_pow_right (by decide) (by omega)
 have hm:m * 2 ^ (8 * j)≤255 * 2 ^ (8 * j):=Nat.mul_le_mul_right _ (by omega)
 have hn:n < 2 ^ (8 * j):=by exact_mod_cast ha2
 have e1:(m:Int) * ((2 ^ (8 * j):Nat):Int)=((m * 2 ^ (8 * j):Nat):Int):=by push_cast; rfl
 rw [e1]
 rw [bits_or_u64_nat _ _ (by omega) (by omega),Nat.or_comm,Nat.mul_comm,← Nat.two_pow_add_eq_or_of_lt hn]
 omega
theorem getN_take (xs:List Int) (j:Nat) (h:j < xs.length):getN (xs.take (j+1))=getN (xs.take j)+xs[j] * 256 ^ j:=by
 rw [List.take_succ_eq_append_getElem h,getN_push,List.length_take,Nat.min_eq_left (by omega)]
 rw [show (256:Int)=2 ^ 8 from rfl,← Int.pow_mul]
set_option maxRecDepth 100000 in
set_option maxHeartbeats 4000000 in
theorem get_any (xs:List Int) (hu:U8s xs) (hl:xs.length≤8) (A:Option Addr) (c:Nat) (w:World) (hr:Rd w w.heap.size A (xs.map (Value.int .u8))):
  Calls Tryz.prog 100 #[.slice A xs.length c] w fun e w'=>e= .returned (.int .u64 (getN xs))∧w'=w:=by
 have HR:=Lib.hid hr
 clear hr
 go_enter Tryz.func100,Tryz.ntmps100
 go_wp2
 go_loopw [3,7] (fun a v wr=>∃ j:Nat,j≤xs.length∧v= .int .i64 j∧a= .int .u64 (getN (xs.take j))∧wr=w) (fun _ v _=>xs.length - (intOf v).toNat)
 case atStart=>exact ⟨0,by omega,rfl,rfl,rfl⟩
 case round=>
  obtain ⟨j,hj,rfl,rfl,rfl⟩:=hrel
  by_cases hlt:j < xs.length
  ·obtain ⟨g,o,rfl,hg,hc⟩:=byte_at HR.out hlt
   have hut:U8s (xs.take j):=hu.qtake j
   have ha:=getN_nn hut
   have ha2:=getN_lt hut
   rw [List.length_take,Nat.min_eq_left (by omega)] at ha2
   have hx:=hu xs[j] (List.getElem_mem hlt)
   have HT:=Lib.hid ((or_byte j (by omega) _ _ ha ha2 hx.1 hx.2).trans (getN_take xs j hlt).symm)
   have k1:(j:Int) < xs.length:=by omega
   have hw:IntKind.i64.wrap (8 * (j:Int))=8 * (j:Int):=by rw [IntKind.wrap_i64]; omega
   generalize getN (xs.take j)=y at *
   generalize xs[j]=b at *
   clear ha ha2 hut
   rcases (by omega:j=0∨j=1∨j=2∨j=3∨j=4∨j=5∨j=6∨j=7) with rfl | rfl | rfl | rfl | rfl | rfl | rfl | rfl
   ·simp only [Nat.add_zero] at hc
    have HT2:Hid (bits BinOp.or IntKind.u64 y (b)=getN (xs.take (0+1))):=by have h:=HT.out; unfold Hid; simpa using h
    go_wp2
    go_roundw
    case rel=>exact ⟨0+1,by omega,by go_num,by rw [HT2.out],trivial⟩
    case measure=>simp [intOf]; omega
   ·have HT2:Hid (bits BinOp.or IntKind.u64 y (b * 256)=getN (xs.take (1+1))):=by have h:=HT.out; unfold Hid; simpa using h
    go_wp2
    go_roundw
    case rel=>exact ⟨1+1,by omega,by go_num,by rw [HT2.out],trivial⟩
    case measure=>simp [intOf]; omega
   ·have HT2:Hid (bits BinOp.or IntKind.u64 y (b * 65536)=getN (xs.take (2+1))):=by have h:=HT.out; unfold Hid; simpa using h
    go_wp2
    go_roundw
    case rel=>exact ⟨2+1,by omega,by go_num,by rw [HT2.out],trivial⟩
    case measure=>simp [intOf]; omega
   ·have HT2:Hid (bits BinOp.or IntKind.u64 y (b * 16777216)=getN (xs.take (3+1))):=by have h:=HT.out; unfold Hid; simpa using h
    go_wp2
    go_roundw
    case rel=>exact ⟨3+1,by omega,by go_num,by rw [HT2.out],trivial⟩
    case measure=>simp [intOf]; omega
   ·have HT2:Hid (bits BinOp.or IntKind.u64 y (b * 4294967296)=getN (xs.take (4+1))):=by have h:=HT.out; unfold Hid; simpa using h
    go_wp2
    go_roundw
    case rel=>exact ⟨4+1,by omega,by go_num,by rw [HT2.out],trivial⟩
    case measure=>simp [intOf]; omega
   ·have HT2:Hid (bits BinOp.or IntKind.u64 y (b * 1099511627776)=getN (xs.take (5+1))):=by have h:=HT.out; unfold Hid; simpa using h
    go_wp2
    go_roundw
    case rel=>exact ⟨5+1,by omega,by go_num,by rw [HT2.out],trivial⟩
    case measure=>simp [intOf]; omega
   ·have HT2:Hid (bits BinOp.or IntKind.u64 y (b * 281474976710656)=getN (xs.take (6+1))):=by have h:=HT.out; unfold Hid; simpa using h
    go_wp2
    go_roundw
    case rel=>exact ⟨6+1,by omega,by go_num,by rw [HT2.out],trivial⟩
    case measure=>simp [intOf]; omega
   ·have HT2:Hid (bits BinOp.or IntKind.u64 y (b * 72057594037927936)=getN (xs.take (7+1))):=by have h:=HT.out; unfold Hid; simpa using h
    go_wp2
    go_roundw
    case rel=>exact ⟨7+1,by omega,by go_num,by rw [HT2.out],trivial⟩
    case measure=>simp [intOf]; omega
  ·obtain rfl:j=xs.length:=by omega
   rw [List.take_of_length_le (Nat.le_refl _)]
   generalize hy:getN xs=y at *
   have HY:=Lib.hid hy
   clear hy
   go_wp2
   go_ret
   exact ⟨by rw [HY.out]; rfl,rfl⟩
end Go.Proofs.YtggkengmlkhdiaaGreat

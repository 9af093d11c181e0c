/-
  WHAT IS SHOWN: awake of the laws of the drive returns true. what Blocks, Version, Info and Flush of drive return and leave. what room and victim of drive return. Conditions: as each theorem names them.
-/
import Derived.Test.YtggkengmlkhdiaaGreatM27
import Derived.Test.YtggkengmlkhdiaaGreatM13
namespace Go.Proofs.YtggkengmlkhdiaaGreat
set_option linter.unusedVariables false
open Go.RowKit
set_option maxRecDepth 100000 in
set_option maxHeartbeats 8000000 in
theorem awake20_any (w:World):Calls Tryz.prog 16 #[] w fun e w'=>e= .returned (.bool true)∧Below w.heap.size w w':=by
 have hbe:=fun W:World=>blk_eql W 7 0 0 0 0 0 0 0 7 0 0 0 0 0 0 0
 go_enter Tryz.func16,Tryz.ntmps16
 go_wp2_with fail
 refine (newpower_any _).mono ?_
 rintro e w1 ⟨pw,rfl,hp1,hb1⟩
 have HB1:=Lib.hid hb1
 have HN:=Lib.hid (dnew_yes (B:=Bd.of w.heap.size) (g:=exG) [] none 0 (by decide) (by decide) (by intro i v hi; simp [flatF] at hi) (by decide) hp1 hb1.size)
 clear hp1 hb1
 go_wp2_with fail
 refine HN.out.mono ?_
 rintro e w2 ⟨q,rfl,hd2,hb2⟩
 have HB2:Hid (Below w.heap.size w w2):=HB1.out.trans (hb2.mono HB1.out.size)
 have HC:=Lib.hid (exnew hd2)
 clear hd2 hb2 HN
 go_wp2_with fail
 refine HC.out.mono ?_
 rintro e w3 ⟨p,ea,ec,BA,bc,rfl,hd3,hk3⟩
 have HB3:Hid (Below w.heap.size w w3):=HB2.out.trans (hk3.below HB2.out.size)
 have HW1:=Lib.hid (exw1 hd3)
 clear hd3 hk3 HC
 go_wp2_with fail
 refine HW1.out.mono ?_
 rintro e w4 ⟨rfl,BA4,bc4,hd4,hk4⟩
 have HB4:Hid (Below w.heap.size w w4):=HB3.out.trans (hk4.below HB3.out.size)
 have HR:=Lib.hid (exr1 hd4)
 clear hd4 hk4 HW1
 go_wp2_with fail
 refine HR.out.mono ?_
 rintro e w5 ⟨rfl,BA5,bc5,hd5,hk5⟩
 have HB5:Hid (Below w.heap.size w w5):=HB4.out.trans (hk5.below HB4.out.size)
 have hbl6:Below w5.heap.size w5 (w5.alloc (.cells #[.int .u8 7,.int .u8 0,.int .u8 0,.int .u8 0,.int .u8 0,.int .u8 0,.int .u8 0,.int .u8 0] 27)):=(Below.refl _ _).alloc (Nat.le_refl _) _
 have HB6:Hid (Below w.heap.size w (w5.alloc (.cells #[.int .u8 7,.int .u8 0,.int .u8 0,.int .u8 0,.int .u8 0,.int .u8 0,.int .u8 0,.int .u8 0] 27))):=HB5.out.alloc HB5.out.size _
 have HX6:Hid ((w5.alloc (.cells #[.int .u8 7,.int .u8 0,.int .u8 0,.int .u8 0,.int .u8 0,.int .u8 0,.int .u8 0,.int .u8 0] 27)).heap[w5.heap.size]?=some (.cells #[.int .u8 7,.int .u8 0,.int .u8 0,.int .u8 0,.int .u8 0,.int .u8 0,.int .u8 0,.int .u8 0] 27 (0,0))):=heap_alloc_new _ _
 have HW2:=Lib.hid (exw2 (hd5.below0 hbl6))
 clear hd5 hk5 HR hbl6
 go_upto_region 10 with fail
 generalize (w5.alloc (.cells #[.int .u8 7,.int .u8 0,.int .u8 0,.int .u8 0,.int .u8 0,.int .u8 0,.int .u8 0,.int .u8 0] 27))=w6 at *
 go_wp2_with fail
 refine HW2.out.mono ?_
 rintro e w7 ⟨rfl,BA7,bc7,hd7,hk7⟩
 have HB7:Hid (Below w.heap.size w w7):=HB6.out.trans (hk7.below HB6.out.size)
 have HX7:=Lib.hid (Kept.obj hk7 HX6.out (KeptT.no (IsT.of HX6.out) (by unfold DRT; decide)))
 have HT:=Lib.hid (ext4 hd7)
 clear hd7 hk7 HW2 HX6
 go_wp2_with fail
 refine HT.out.mono ?_
 rintro e w8 ⟨rfl,BA8,bc8,hd8,hk8⟩
 have HB8:Hid (Below w.heap.size w w8):=HB7.out.trans (hk8.below HB7.out.size)
 have HX8:=Lib.hid (Kept.obj hk8 HX7.out (KeptT.no (IsT.of HX7.out) (by unfold DRT; decide)))
 have HR5:=Lib.hid (exr5 hd8)
 clear hd8 hk8 HT HX7
 go_wp2_with fail
 refine HR5.out.mono ?_
 rintro e w9 ⟨rfl,BA9,bc9,hd9,hk9⟩
 have HB9:Hid (Below w.heap.size w w9):=HB8.out.trans (hk9.below HB8.out.size)
 have HX9:=Lib.hid (Kept.obj hk9 HX8.out (KeptT.no (IsT.of HX8.out) (by unfold DRT; decide)))
 clear hd9 hk9 HR5 HX8
 have hbl10:Below w9.heap.size w9 (w9.alloc (.cells #[.int .u8 0,.int .u8 0,.int .u8 0,.int .u8 0,.int .u8 0,.int .u8 0,.int .u8 0,.int .u8 0] 27)):=(Below.refl _ _).alloc (Nat.le_refl _) _
 have HB10:Hid (Below w.heap.size w (w9.alloc (.cells #[.int .u8 0,.int .u8 0,.int .u8 0,.int .u8 0,.int .u8 0,.int .u8 0,.int .u8 0,.int .u8 0] 27))):=HB9.out.alloc HB9.out.size _
 have HX10:=Lib.hid (belObj hbl10 HX9.out (lt_of_block HX9.out))
 clear HX9 hbl10
 go_upto_region 13 with fail
 generalize (w9.alloc (.cells #[.int .u8 0,.int .u8 0,.int .u8 0,.int .u8 0,.int .u8 0,.int .u8 0,.int .u8 0,.int .u8 0] 27))=w10 at *
 obtain ⟨⟨p0,p1,p2,p3,p4,p5,p6,p7⟩,_⟩:=cells8q HX10.out
 go_wp2
 go_ret
 exact ⟨rfl,HB10.out⟩
end Go.Proofs.YtggkengmlkhdiaaGreat
namespace Go.Proofs.YtggkengmlkhdiaaGreat
set_option linter.unusedVariables false
open Go.RowKit
section
variable {w w':World} {B:Bd} {p q pw:Nat} {g:Geo} {F:List Flt} {key:Int} {S:ST} {ea ec:Nat} {BA:Option Addr} {bc:Nat}
set_option maxRecDepth 100000
set_option maxHeartbeats 4000000
def verX (v:DV) (b:Int):Int × Bool:=if (0≤b∧b < v.es.length)∧0≤(v.es.getD b.toNat noNE).adr then ((v.es.getD b.toNat noNE).ver,true) else (0,false)
theorem verX_no {v:DV} {b:Int} (h:¬ (0≤b∧b < v.es.length)):verX v b=(0,false):=by unfold verX; rw [if_neg (fun h'=>h h'.1)]
theorem verX_at {v:DV} {b:Nat} {n:NE} (h:v.es[b]?=some n):verX v (b:Int)=if 0≤n.adr then (n.ver,true) else (0,false):=by
 have hb:b < v.es.length:=(List.getElem?_eq_some_iff.1 h).1
 unfold verX
 rw [Int.toNat_natCast,getD_of h]
 by_cases h0:0≤n.adr
 ·rw [if_pos ⟨⟨by omega,by omega⟩,h0⟩,if_pos h0]
 ·rw [if_neg (fun h'=>h0 h'.2),if_neg h0]
theorem version20_any (b:Int) (h:Drv w B p q pw g F key S ea ec BA bc):Calls Tryz.prog 13 #[.pointer (some ⟨p,0,none⟩),.int .i64 b] w fun e w'=>e= .returned (.tuple #[.int .u64 (verX S.v b).1,.bool (verX S.v b).2])∧Below w.heap.size w w':=by
 have c2:=h.cells.2.2.1
 have HHA:=Lib.hid (fun W (hW:Below w.heap.size w W)=>has20_any b (h.below0 hW))
 have hlt:=block_lt_of_cell c2
 by_cases hb:0≤b∧b < S.v.es.length
 ·obtain ⟨k,rfl⟩:=Int.eq_ofNat_of_zero_le hb.1
  have hk:k < S.v.es.length:=by omega
  have hn:=List.getElem?_eq_getElem hk
  generalize S.v.es[k]=n at hn
  obtain ⟨e0,e1,e2⟩:=h.entry hn
  have hle:=block_lt_of_cell e2
  have HX:=Lib.hid (verX_at hn)
  have hd:(decide (0≤(k:Int)) && decide ((k:Int) < S.v.es.length))=true:=by simp; omega
  rw [hd] at HHA
  have hk1:(k:Int) < S.v.es.length:=hb.2
  clear hn hd hb h
  by_cases h0:0≤n.adr
  ·have d1:decide (n.adr < 0)=false:=decide_eq_false (by omega)
   have HY:Hid (verX S.v (k:Int)=(n.ver,true)):=by unfold Hid; rw [HX.out,if_pos h0]
   clear h0 HX
   generalize verX S.v (k:Int)=V at *
   go_enter Tryz.func13,Tryz.ntmps13
   go_wp2_with fail
   refine (HHA.out _ (Below.refl _ _)).mono ?_
   rintro e w1 ⟨rfl,rfl⟩
   go_wp2
   go_ret2
   exact ⟨by rw [HY.out]; rfl,Below.refl _ _⟩
  ·have d1:decide (n.adr < 0)=true:=decide_eq_true (by omega)
   have HY:Hid (verX S.v (k:Int)=(0,false)):=by unfold Hid; rw [HX.out,if_neg h0]
   clear h0 HX
   generalize verX S.v (k:Int)=V at *
   go_enter Tryz.func13,Tryz.ntmps13
   go_wp2_with fail
   refine (HHA.out _ (Below.refl _ _)).mono ?_
   rintro e w1 ⟨rfl,rfl⟩
   go_wp2
   go_ret2
   exact ⟨by rw [HY.out]; rfl,Below.refl _ _⟩
 ·have HY:Hid (verX S.v b=(0,false)):=verX_no hb
  have hd:(decide (0≤b) && decide (b < S.v.es.length))=false:=by
   cases h1:(decide (0≤b) && decide (b < S.v.es.length)) with
   | false=>rfl
   | true=>simp only [Bool.and_eq_true,decide_eq_true_eq] at h1; exact absurd h1 hb
  rw [hd] at HHA
  clear hb hd h
  generalize verX S.v b=V at *
  go_enter Tryz.func13,Tryz.ntmps13
  go_wp2_with fail
  refine (HHA.out _ (Below.refl _ _)).mono ?_
  rintro e w1 ⟨rfl,rfl⟩
  go_wp2
  go_ret2
  exact ⟨by rw [HY.out]; rfl,Below.refl _ _⟩
theorem flush20_any (hn:F.length≤9223372036854775807) (hon:S.d.O.length+9≤99000) (h:Drv w B p q pw g F key S ea ec BA bc):
  Calls Tryz.prog 21 #[.pointer (some ⟨p,0,none⟩)] w fun e w'=>e= .returned (.int .i64 (flushR g F key S).2)∧Drv w' B p q pw g F key (flushR g F key S).1 ea ec BA bc∧KeptT DRT B w w':=by
 have hb0:Below w.heap.size w (w.alloc (.cells #[.pointer (some ⟨p,0,none⟩)] 22)):=(Below.refl _ _).alloc (Nat.le_refl _) _
 have HX:Hid ((w.alloc (.cells #[.pointer (some ⟨p,0,none⟩)] 22)).heap[w.heap.size]?=some (.cells #[.pointer (some ⟨p,0,none⟩)] 22 (0,0))):=heap_alloc_new _ _
 have h0:=h.below0 hb0
 have HST:=Lib.hid (state20_any h0)
 have HB0:Hid (KeptT DRT B w (w.alloc (.cells #[.pointer (some ⟨p,0,none⟩)] 22))):=KeptT.bel hb0
 have H0:=Lib.hid h0
 have HFR:Hid (∀ f,S.v.failed=f→flushR g F key S=if f=0 then flushS g F key S else (S,f)):=by intro f hf; unfold flushR; rw [hf]
 clear h h0 hb0
 generalize hfl:S.v.failed=fl at *
 go_enter Tryz.func21,Tryz.ntmps21
 go_wp2_with fail
 generalize (w.alloc (.cells #[.pointer (some ⟨p,0,none⟩)] 22))=w1 at *
 have a0:=dcell_one HX.out
 refine HST.out.mono ?_
 rintro e w2 ⟨rfl,rfl⟩
 by_cases hz:fl=0
 ·subst hz
  have HF0:Hid (flushR g F key S=flushS g F key S):=by unfold Hid; rw [HFR.out 0 rfl,if_pos rfl]
  have hbd:Below w2.heap.size w2 w2.drew:=(Below.refl _ _).drew
  have HXD:=Lib.hid (belObj hbd HX.out (lt_of_block HX.out))
  have HDD:=Lib.hid (H0.out.below0 hbd)
  have HTR:=Lib.hid (trydfl_any HDD.out.dsk hn hon HXD.out HDD.out.dkey)
  have HFS:Hid (flushS g F key S=(⟨S.v.fail (tryD (fOne g F key) S.d).2.er,(tryD (fOne g F key) S.d).1⟩,(tryD (fOne g F key) S.d).2.er)):=rfl
  unfold Hid at HTR HFS
  generalize tryD (fOne g F key) S.d=T at *
  obtain ⟨d',⟨er,ys⟩⟩:=T
  have HFS2:Hid (flushS g F key S=(⟨S.v.fail er,d'⟩,er)):=HFS
  have HTR2:Hid (Calls Tryz.prog 47 #[.func (.func 48) #[] #[.pointer (some ⟨w.heap.size,0,none⟩)]] w2.drew fun e w'=>e= .returned (.int .i64 er)∧DM w' B q pw g F d'∧KeptT DAT B w2.drew w'):=HTR
  clear HTR HFS
  obtain ⟨C,hC⟩:∃ C:List Value→World→Prop,C=fun h W=>match h with
   | []=>W=w2.drew
   | [v]=>v= .int .i64 er∧Drv W B p q pw g F key ⟨S.v,d'⟩ ea ec BA bc∧KeptT DRT B w2.drew W
   | [v,u]=>v= .int .i64 er∧u= .int .i64 er∧Drv W B p q pw g F key ⟨S.v.fail er,d'⟩ ea ec BA bc∧KeptT DRT B w2.drew W
   | _=>False:=⟨_,rfl⟩
  have hall:∀ t:HeldC C,KeptT DRT B w2.drew t.w:=fun t=>by
   obtain ⟨s,W,h⟩:=t
   simp only
   subst hC
   match s,h with
   | [],h=>have h':W=w2.drew:=h; rw [h']; exact KeptT.refl _ _ _
   | [v],h=>exact h.2.2
   | [_,_],h=>exact h.2.2.2
  have HC0:Hid (C [] w2.drew):=by subst hC; exact rfl
  have HK1:Hid (∀ W,C [] W→Calls Tryz.prog 47 #[.func (.func 48) #[] #[.pointer (some ⟨w.heap.size,0,none⟩)]] W fun e w'=>∃ x,e= .returned x∧C ([]++[x]) w'):=by
   subst hC
   intro W hW
   have hW':W=w2.drew:=hW
   subst hW'
   exact HTR2.out.mono fun e w' h=>⟨_,h.1,rfl,HDD.out.disk h.2.1 h.2.2,h.2.2.sub dat_drt⟩
  have HV1:Hid (∀ v W,C [v] W→v= .int .i64 er):=by subst hC; exact fun _ _ h=>h.1
  have HK2:Hid (∀ W,C [.int .i64 er] W→Calls Tryz.prog 40 #[.pointer (some ⟨p,0,none⟩),.int .i64 er] W fun e w'=>∃ x,e= .returned x∧C ([.int .i64 er]++[x]) w'):=by
   subst hC
   intro W hW
   obtain ⟨_,hd,hk⟩:=hW
   exact (fail_any er hd).mono fun e w' h=>⟨_,h.1,rfl,rfl,h.2.1,hk.trans h.2.2⟩
  have HV2:Hid (∀ v u W,C [v,u] W→u= .int .i64 er):=by subst hC; exact fun _ _ _ h=>h.2.1
  have HF:Hid (∀ v u W,C [v,u] W→Drv W B p q pw g F key ⟨S.v.fail er,d'⟩ ea ec BA bc∧KeptT DRT B w2.drew W):=by subst hC; exact fun _ _ _ h=>h.2.2
  have hne:Nonempty (HeldC C):=⟨⟨[],_,HC0.out⟩⟩
  have f0:∀ t:HeldC C,t.w.cell? ⟨w.heap.size,0,none⟩=some (.pointer (some ⟨p,0,none⟩)):=fun t=>Kept.cell (hall t) (dcell_one HXD.out) (KeptT.no (IsT.of HXD.out) (by unfold DRT; decide))
  have HKD:Hid (KeptT DRT B w w2.drew):=HB0.out.trans (KeptT.bel hbd)
  clear hC hall hbd HTR2 HDD HXD a0
  go_wp2_with fail
  refine wp_region_chain C [2,3] [3,2] (by kernel_rfl) (by kernel_rfl) (by kernel_rfl) (by kernel_rfl) HC0.out ?_
  repeat (refine wpCh_n (by rfl) (by rfl) ?_; go_big_quiet_step (fail); refine wpQuiet_nil ?_)
  refine wpCh_l (f:=47) (args:=#[.func (.func 48) #[] #[.pointer (some ⟨w.heap.size,0,none⟩)]]) (by rfl) (by rfl) (fun W=>by simp [go_sem]) (fun W hW=>HK1.out W hW) (fun v W hW=>?_)
  obtain rfl:=HV1.out v W hW
  go_big_quiet_step (fail)
  refine wpQuiet_nil ?_
  refine wpCh_l (f:=40) (args:=#[.pointer (some ⟨p,0,none⟩),.int .i64 er]) (by rfl) (by rfl) (fun W=>by simp [go_sem]) (fun W hW=>HK2.out W hW) (fun v W hW=>?_)
  obtain rfl:=HV2.out _ v W hW
  go_big_quiet_step (fail)
  refine wpQuiet_nil ?_
  repeat (refine wpCh_n (by rfl) (by rfl) ?_; go_big_quiet_step (fail); refine wpQuiet_nil ?_)
  refine wpCh_nil ?_
  intro wc hcw
  have HD:=Lib.hid (HF.out _ _ wc hcw)
  clear hcw HK1 HK2 HV1 HV2 HF HC0 f0 hne
  go_wp2
  go_ret
  rw [HF0.out,HFS2.out]
  exact ⟨rfl,HD.out.1,HKD.out.trans HD.out.2⟩
 ·have hne:(fl !=0)=true:=by simpa using hz
  have HF0:Hid (flushR g F key S=(S,fl)):=by unfold Hid; rw [HFR.out fl rfl,if_neg hz]
  clear hz
  go_wp2
  go_ret
  rw [HF0.out]
  exact ⟨rfl,H0.out,HB0.out⟩
end
end Go.Proofs.YtggkengmlkhdiaaGreat
namespace Go.Proofs.YtggkengmlkhdiaaGreat
set_option linter.unusedVariables false
open Go.RowKit
theorem roomFrom_snoc (sz except:Int):∀ (l:List V.BI) (i:Nat) (b:V.BI),roomFrom sz except i (l++[b])=roomFrom sz except i l+(if ((i+l.length:Nat):Int)=except then 0 else sz - b.used)
 | [],i,b=>by simp [roomFrom]
 | a::l,i,b=>by
   rw [List.cons_append,roomFrom,roomFrom,roomFrom_snoc sz except l,List.length_cons,show i+1+l.length=i+(l.length+1) by omega]
   omega
theorem roomFrom_take (sz except:Int) (l:List V.BI) (k:Nat) (h:k < l.length):roomFrom sz except 0 (l.take (k+1))=roomFrom sz except 0 (l.take k)+(if (k:Int)=except then 0 else sz - l[k].used):=by
 rw [List.take_succ_eq_append_getElem h,roomFrom_snoc,List.length_take,Nat.min_eq_left (by omega),Nat.zero_add]
theorem roomFrom_bd {sz:Int} (except:Int):∀ (l:List V.BI) (i:Nat),(∀ b∈l,0≤b.used∧b.used≤sz)→0≤roomFrom sz except i l∧roomFrom sz except i l≤l.length * sz
 | [],i,_=>by simp [roomFrom]
 | b::l,i,h=>by
   have h1:=h b (by simp)
   have h2:=roomFrom_bd except l (i+1) (fun x hx=>h x (by simp [hx]))
   rw [roomFrom,List.length_cons,show ((l.length+1:Nat):Int)=(l.length:Int)+1 by omega,Int.add_mul]
   split <;> omega
section
variable {w w':World} {B:Bd} {p q pw:Nat} {g:Geo} {F:List Flt} {key:Int} {S:ST} {ea ec:Nat} {BA:Option Addr} {bc:Nat}
set_option maxRecDepth 100000
set_option maxHeartbeats 4000000
theorem room20_any (except:Int) (hv:VOk g S.v) (h:Drv w B p q pw g F key S ea ec BA bc):Calls Tryz.prog 74 #[.pointer (some ⟨p,0,none⟩),.int .i64 except] w fun e w'=>e= .returned (.int .i64 (roomN (bz g) S.v.bs except))∧Below w.heap.size w w':=by
 have hl:=hv.len64
 have hz:=hv.bz1
 have c3:=h.cells.2.2.2.1
 have hrd:=h.bs.rd
 have HSZ:=Lib.hid (fun W (hW:Below w.heap.size w W)=>size20_any hv.gv (h.below0 hW))
 have HBD:Hid (∀ k,0≤roomFrom (bz g) except 0 (S.v.bs.take k)∧roomFrom (bz g) except 0 (S.v.bs.take k)≤65536):=by
  intro k
  have h1:=roomFrom_bd (sz:=bz g) except (S.v.bs.take k) 0 (fun b hb=>by have:=hv.mem (List.mem_of_mem_take hb); omega)
  have h2:=Int.mul_le_mul (a:=((S.v.bs.take k).length:Int)) (b:=bz g) (c:=64) (d:=1024) (by rw [List.length_take]; omega) (by omega) (by omega) (by omega)
  omega
 have HU:Hid (∀ (k:Nat) (hk:k < S.v.bs.length),0≤S.v.bs[k].used∧S.v.bs[k].used≤bz g):=fun k hk=>by have:=hv.each hk; omega
 have HR:Hid (∀ n,roomFrom (bz g) except 0 S.v.bs=n→roomN (bz g) S.v.bs except=n):=by
  intro n hn; unfold roomN; exact hn
 clear h hv
 generalize S.v.bs=l at *
 generalize bz g=sz at *
 go_enter Tryz.func74,Tryz.ntmps74
 go_wp2
 go_loopw [5,13] (fun n i wr=>∃ k:Nat,k≤l.length∧i= .int .i64 k∧n= .int .i64 (roomFrom sz except 0 (l.take k))∧Below w.heap.size w wr) (fun _ i _=>l.length - (intOf i).toNat)
 case atStart=>exact ⟨0,Nat.zero_le _,rfl,rfl,Below.refl _ _⟩
 case round=>
  obtain ⟨k,hk,rfl,rfl,hbl⟩:=hrel
  by_cases hlt:k < l.length
  ·have HS:=Lib.hid (roomFrom_take sz except l k hlt)
   have hb0:=HBD.out k
   have hu0:=HU.out k hlt
   have hzz:=hbl.size
   obtain ⟨gb,o,rfl,hg,h0,h1,h2,h3⟩:=hrd.band (V.get_some hlt)
   have j0:=(hbl.cell (p:=⟨gb,_,none⟩) hg).trans h0
   have j1:=(hbl.cell (p:=⟨gb,_,none⟩) hg).trans h1
   have j2:=(hbl.cell (p:=⟨gb,_,none⟩) hg).trans h2
   have j3:=(hbl.cell (p:=⟨gb,_,none⟩) hg).trans h3
   clear h0 h1 h2 h3
   have hk1:(k:Int) < l.length:=by omega
   have HAL:Hid (Below w.heap.size w (wr.alloc (.cells #[.int .i64 l[k].used,.int .i64 l[k].live,.int .u64 l[k].age,.int .u64 l[k].wear] 76))):=hbl.alloc hzz _
   generalize hrf:roomFrom sz except 0 (l.take k)=n at *
   clear hrf
   by_cases he:(k:Int)=except
   ·have d1:((k:Int) !=except)=false:=by simpa using he
    have HN:Hid (roomFrom sz except 0 (l.take (k+1))=n):=by unfold Hid; rw [HS.out,if_pos he]; omega
    clear HS he
    go_wp2
    go_roundw
    case rel=>exact ⟨k+1,by omega,by go_num,by rw [HN.out],HAL.out⟩
    case measure=>simp [intOf]; omega
   ·have d1:((k:Int) !=except)=true:=by simpa using he
    have HN:Hid (roomFrom sz except 0 (l.take (k+1))=n+(sz - l[k].used)):=by unfold Hid; rw [HS.out,if_neg he]
    generalize l[k]=b at *
    have PB:=Cells4.new wr 76 (.int .i64 b.used) (.int .i64 b.live) (.int .u64 b.age) (.int .u64 b.wear)
    have HLT:Hid (wr.heap.size < (wr.alloc (.cells #[.int .i64 b.used,.int .i64 b.live,.int .u64 b.age,.int .u64 b.wear] 76)).heap.size):=by unfold Hid; simp
    have w1:IntKind.i64.wrap (sz - b.used)=sz - b.used:=by rw [IntKind.wrap_i64]; omega
    have w2:IntKind.i64.wrap (n+(sz - b.used))=n+(sz - b.used):=by rw [IntKind.wrap_i64]; omega
    clear HS he
    go_upto_region 6 with fail
    generalize (wr.alloc (.cells #[.int .i64 b.used,.int .i64 b.live,.int .u64 b.age,.int .u64 b.wear] 76))=w3 at *
    have p0:=PB.c0
    clear PB j0 j1 j2 j3
    have s0:=Held.cell p0 HLT.out
    have HWX:Hid (∀ W,Below w3.heap.size w3 W→Below w.heap.size w W):=fun W hW=>HAL.out.trans (hW.mono HAL.out.size)
    have hne:Nonempty (Held (Below w3.heap.size w3)):=⟨⟨_,(Held.drew_below (Nat.le_refl _))⟩⟩
    refine wp_region_heldq (S:=(Below w3.heap.size w3)) (by kernel_rfl) (by kernel_rfl) (Held.drew_below (Nat.le_refl _)) ?_
    repeat (go_big_quiet_step ((go_at_call 72; exact Calls.held_below (Nat.le_refl _) (HSZ.out _ (HWX.out _ (Held.h _))))))
    refine wpQuiet_nil ?_
    intro _ hw'
    obtain ⟨sq,hw''⟩:=hw'
    subst hw''
    clear hne
    have HB3:Hid (Below w.heap.size w sq.w):=HAL.out.trans (sq.h.mono HAL.out.size)
    go_wp2
    go_roundw
    case rel=>exact ⟨k+1,by omega,by go_num,by first | (rw [HN.out]; done) | (rw [HN.out]; rfl),HB3.out⟩
    case measure=>simp [intOf]; omega
  ·obtain rfl:k=l.length:=by omega
   rw [List.take_of_length_le (Nat.le_refl _)]
   have HN:=Lib.hid (HR.out _ rfl)
   generalize roomFrom sz except 0 l=n at *
   go_wp2
   go_ret
   exact ⟨by rw [HN.out]; rfl,hbl⟩
theorem best_step {sz:Int} {bs:List V.BI} {k:Nat} (hk:k < bs.length):bestFrom sz bs none 0 (bs.take (k+1))=bestStep sz bs (bestFrom sz bs none 0 (bs.take k)) k bs[k]:=bestFrom_take sz bs bs k hk
theorem victim20_any (hv:VOk g S.v) (h:Drv w B p q pw g F key S ea ec BA bc):Calls Tryz.prog 41 #[.pointer (some ⟨p,0,none⟩)] w fun e w'=>e= .returned (.tuple #[.int .i64 (victimN g S.v).1,.int .i64 (victimN g S.v).2])∧Below w.heap.size w w':=by
 have hl:=hv.len64
 have hz:=hv.bz1
 have HH:=Lib.hid h
 have c3:=h.cells.2.2.2.1
 have c4:=h.cells.2.2.2.2.1
 have hrd:=h.bs.rd
 have HSZ:=Lib.hid (fun W (hW:Below w.heap.size w W)=>size20_any hv.gv (h.below0 hW))
 have HRM:=Lib.hid (fun W (hW:Below w.heap.size w W) (k:Int)=>room20_any k hv (h.below0 hW))
 have HFR:=Lib.hid (V.free_any S.v.bs BA bc w hrd (by omega))
 have HOP:=Lib.hid (fun W (hW:Below w.heap.size w W)=>V.open_any (bz g) S.v.bs BA bc W ((h.below0 hW).bs.rd) (by omega))
 have HCH:=Lib.hid (fun W (hW:Below w.heap.size w W) (opn:Int)=>V.choose_any S.v.bs hv.oks (bz g) S.v.time opn hv.time BA bc W ((h.below0 hW).bs.rd) (by omega))
 have HVI:Hid (∀ f,V.freeN S.v.bs=f→∀ o,V.openB S.v.bs (bz g)=o→victimN g S.v=if 0 < f then V.chooseN S.v.bs (bz g) S.v.time o else V.chRes (bestFrom (bz g) S.v.bs none 0 S.v.bs)):=by
  intro f hf o ho; unfold victimN; rw [hf,ho]
 have HBS:=Lib.hid (fun k (hk:k < S.v.bs.length)=>best_step (sz:=bz g) hk)
 have HBI:=Lib.hid (best_inv (bz g) S.v.bs S.v.bs)
 clear h hv
 generalize S.v.bs=l at *
 generalize bz g=sz at *
 generalize S.v.time=tm at *
 generalize hfn:V.freeN l=fn at *
 generalize hop:V.openB l sz=op at *
 have HV1:=Lib.hid (HVI.out fn rfl op rfl)
 generalize victimN g S.v=VV at *
 clear HVI
 by_cases hf:0 < fn
 ·have d0:decide (0 < fn)=true:=decide_eq_true hf
  have HV2:Hid (VV=V.chooseN l sz tm op):=by unfold Hid; rw [HV1.out,if_pos hf]
  have HCO:=Lib.hid (fun W hW=>HCH.out W hW op)
  clear hf HV1 HRM HBS HBI HCH
  generalize V.chooseN l sz tm op=r at *
  obtain ⟨r1,r2⟩:=r
  go_enter Tryz.func41,Tryz.ntmps41
  go_wp2_with fail
  refine HFR.out.mono ?_
  rintro e w1 ⟨rfl,hb1⟩
  have HB1:=Lib.hid hb1
  have hlt:=Nat.lt_of_lt_of_le (block_lt_of_cell c3) hb1.size
  have e3:=(hb1.cell (p:=⟨p,3,none⟩) (block_lt_of_cell c3)).trans c3
  have e4:=(hb1.cell (p:=⟨p,4,none⟩) (block_lt_of_cell c4)).trans c4
  clear hb1 c3 c4
  go_upto_region 2 with fail
  have HWY:Hid (∀ W,Below w1.heap.size w1 W→Below w.heap.size w W):=fun W hW=>HB1.out.trans (hW.mono HB1.out.size)
  have s3:=Held.cell e3 hlt
  have s4:=Held.cell e4 hlt
  have hne:Nonempty (Held (Below w1.heap.size w1)):=⟨⟨_,(Held.drew_below (Nat.le_refl _))⟩⟩
  refine wp_region_heldq (S:=(Below w1.heap.size w1)) (by kernel_rfl) (by kernel_rfl) (Held.drew_below (Nat.le_refl _)) ?_
  repeat (go_big_quiet_step ((first | (go_at_call 72; exact Calls.held_below (Nat.le_refl _) (HSZ.out _ (HWY.out _ (Held.h _)))) | (go_at_call 73; exact Calls.held_below (Nat.le_refl _) (HOP.out _ (HWY.out _ (Held.h _)))) | (go_at_call 71; exact Calls.held_below (Nat.le_refl _) (HCO.out _ (HWY.out _ (Held.h _)))))))
  refine wpQuiet_nil ?_
  intro _ hw'
  obtain ⟨sq,hw''⟩:=hw'
  subst hw''
  clear hne
  have HB3:Hid (Below w.heap.size w sq.w):=HB1.out.trans (sq.h.mono HB1.out.size)
  go_wp2
  go_ret2
  rw [HV2.out]
  exact ⟨rfl,HB3.out⟩
 ·have d0:decide (0 < fn)=false:=decide_eq_false hf
  have HV2:Hid (∀ s,bestFrom sz l none 0 l=s→VV=V.chRes s):=by intro s hs; rw [HV1.out,if_neg hf,hs]
  clear hf HV1 HCH HOP
  go_enter Tryz.func41,Tryz.ntmps41
  go_wp2_with fail
  refine HFR.out.mono ?_
  rintro e w1 ⟨rfl,hb1⟩
  have e3:=(hb1.cell (p:=⟨p,3,none⟩) (block_lt_of_cell c3)).trans c3
  have hlp:=block_lt_of_cell c3
  have HC3:=Lib.hid c3
  clear c4
  go_wp2
  go_loopw [4,38] (fun b i wr=>∃ k:Nat,k≤l.length∧i= .int .i64 k∧b= .int .i64 (V.bestI (bestFrom sz l none 0 (l.take k)))∧Below w.heap.size w wr) (fun _ i _=>l.length - (intOf i).toNat)
  case atStart=>exact ⟨0,Nat.zero_le _,rfl,rfl,hb1⟩
  case round=>
   obtain ⟨k,hk,rfl,rfl,hbl⟩:=hrel
   clear e3 c3
   by_cases hlt:k < l.length
   ·have HS:=Lib.hid (HBS.out k hlt)
    have HI:=Lib.hid (HBI.out k hk)
    have hzz:=hbl.size
    obtain ⟨gb,o,rfl,hg,h0,h1,h2,h3⟩:=hrd.band (V.get_some hlt)
    have j0:=(hbl.cell (p:=⟨gb,_,none⟩) hg).trans h0
    have j1:=(hbl.cell (p:=⟨gb,_,none⟩) hg).trans h1
    have j2:=(hbl.cell (p:=⟨gb,_,none⟩) hg).trans h2
    have j3:=(hbl.cell (p:=⟨gb,_,none⟩) hg).trans h3
    clear h0 h1 h2 h3
    have hk1:(k:Int) < l.length:=by omega
    have HAL:Hid (Below w.heap.size w (wr.alloc (.cells #[.int .i64 l[k].used,.int .i64 l[k].live,.int .u64 l[k].age,.int .u64 l[k].wear] 76))):=hbl.alloc hzz _
    have HRK:Hid (∀ W,Below w.heap.size w W→Calls Tryz.prog 74 #[.pointer (some ⟨p,0,none⟩),.int .i64 (k:Int)] W fun e w'=>e= .returned (.int .i64 (roomN sz l k))∧Below W.heap.size W w'):=fun W hW=>HRM.out W hW k
    have PB:=Cells4.new wr 76 (.int .i64 l[k].used) (.int .i64 l[k].live) (.int .u64 l[k].age) (.int .u64 l[k].wear)
    have HLT:Hid (wr.heap.size < (wr.alloc (.cells #[.int .i64 l[k].used,.int .i64 l[k].live,.int .u64 l[k].age,.int .u64 l[k].wear] 76)).heap.size):=by unfold Hid; simp
    obtain ⟨rm,hrm⟩:∃ rm,roomN sz l k=rm:=⟨_,rfl⟩
    have HIB:Hid (∀ j (hj:j < l.length),(Option.some (⟨gb,o,none⟩:Addr))=some ⟨gb,o,none⟩∧∀ W,Below w.heap.size w W→W.cell? ⟨gb,o+j * 4+1,none⟩=some (.int .i64 l[j].live)):=fun j hj=>⟨rfl,fun W hW=>by
     obtain ⟨gb',o',e,hg',_,i1,_,_⟩:=hrd.band (V.get_some hj)
     simp only [Option.some.injEq,Addr.mk.injEq,and_true] at e
     obtain ⟨rfl,rfl⟩:=e
     exact (hW.cell (p:=⟨gb,_,none⟩) hg').trans i1⟩
    have HSS:Hid (∀ s,bestFrom sz l none 0 (l.take k)=s→bestFrom sz l none 0 (l.take (k+1))=if l[k].live < sz∧l[k].live≤rm then (match s with | none=>some (k,l[k]) | some (j,c)=>if l[k].live < c.live then some (k,l[k]) else some (j,c)) else s):=by
     intro s hs; rw [HS.out,hs]; unfold bestStep; rw [hrm]; rfl
    rw [hrm] at HRK
    clear hrm HS HBS HBI HRM
    go_upto_region 7 with fail
    have HWX:Hid (∀ W,Below (wr.alloc (.cells #[.int .i64 l[k].used,.int .i64 l[k].live,.int .u64 l[k].age,.int .u64 l[k].wear] 76)).heap.size (wr.alloc (.cells #[.int .i64 l[k].used,.int .i64 l[k].live,.int .u64 l[k].age,.int .u64 l[k].wear] 76)) W→Below w.heap.size w W):=fun W hW=>HAL.out.trans (hW.mono HAL.out.size)
    have p1:=PB.c1
    have hp3:(wr.alloc (.cells #[.int .i64 l[k].used,.int .i64 l[k].live,.int .u64 l[k].age,.int .u64 l[k].wear] 76)).cell? ⟨p,3,none⟩=some (.slice (some ⟨gb,o,none⟩) l.length bc):=(HAL.out.cell (p:=⟨p,3,none⟩) hlp).trans HC3.out
    have hlp3:=Nat.lt_of_lt_of_le hlp HAL.out.size
    clear PB j0 j1 j2 j3 hbl
    generalize (wr.alloc (.cells #[.int .i64 l[k].used,.int .i64 l[k].live,.int .u64 l[k].age,.int .u64 l[k].wear] 76))=w3 at *
    have s1:=Held.cell p1 HLT.out
    have s3:=Held.cell hp3 hlp3
    by_cases hls:l[k].live < sz
    ·have d1:decide (l[k].live < sz)=true:=decide_eq_true hls
     by_cases hlr:l[k].live≤rm
     ·have d2:decide (l[k].live≤rm)=true:=decide_eq_true hlr
      have HNX:Hid (∀ s,bestFrom sz l none 0 (l.take k)=s→bestFrom sz l none 0 (l.take (k+1))=(match s with | none=>some (k,l[k]) | some (j,c)=>if l[k].live < c.live then some (k,l[k]) else some (j,c))):=by
       intro s hs; rw [HSS.out s hs,if_pos ⟨hls,hlr⟩]
      rcases HI.out with hm | ⟨j,hj,hjk,hm,_⟩
      ·have HN:=Lib.hid (HNX.out none hm)
       rw [hm]
       clear hm HNX HI HSS hls hlr
       simp only [V.bestI] at *
       generalize l[k]=b at *
       have hne:Nonempty (Held (Below w3.heap.size w3)):=⟨⟨_,(Held.drew_below (Nat.le_refl _))⟩⟩
       refine wp_region_heldq (S:=(Below w3.heap.size w3)) (by kernel_rfl) (by kernel_rfl) (Held.drew_below (Nat.le_refl _)) ?_
       repeat (go_big_quiet_step ((first | (go_at_call 72; exact Calls.held_below (Nat.le_refl _) (HSZ.out _ (HWX.out _ (Held.h _)))) | (go_at_call 74; exact Calls.held_below (Nat.le_refl _) (HRK.out _ (HWX.out _ (Held.h _)))))))
       refine wpQuiet_nil ?_
       intro _ hw'
       obtain ⟨sq,hw''⟩:=hw'
       subst hw''
       clear hne
       have HB3:=Lib.hid (HWX.out _ sq.h)
       go_wp2
       go_roundw
       case rel=>exact ⟨k+1,by omega,by go_num,by first | (rw [HN.out]; done) | (rw [HN.out]; rfl),HB3.out⟩
       case measure=>simp [intOf]; omega
      ·have HN:=Lib.hid (HNX.out _ hm)
       rw [hm]
       have HJ:=HIB.out j hj
       have s5:∀ s:Held (Below w3.heap.size w3),s.w.cell? ⟨gb,o+j * 4+1,none⟩=some (.int .i64 l[j].live):=fun s=>HJ.2 _ (HWX.out _ s.h)
       have q1:(0:Int)≤j:=by omega
       have q2:(j:Int) < l.length:=by omega
       have q3:decide ((j:Int) < 0)=false:=decide_eq_false (by omega)
       clear hm HNX HI HSS hls hlr HJ HIB
       simp only [V.bestI] at *
       by_cases hlb:l[k].live < l[j].live
       ·have d3:decide (l[k].live < l[j].live)=true:=decide_eq_true hlb
        have HN2:Hid (bestFrom sz l none 0 (l.take (k+1))=some (k,l[k])):=by unfold Hid; rw [HN.out,if_pos hlb]
        clear hlb HN
        generalize l[k]=b at *
        generalize l[j]=y at *
        have hne:Nonempty (Held (Below w3.heap.size w3)):=⟨⟨_,(Held.drew_below (Nat.le_refl _))⟩⟩
        refine wp_region_heldq (S:=(Below w3.heap.size w3)) (by kernel_rfl) (by kernel_rfl) (Held.drew_below (Nat.le_refl _)) ?_
        repeat (go_big_quiet_step ((first | (go_at_call 72; exact Calls.held_below (Nat.le_refl _) (HSZ.out _ (HWX.out _ (Held.h _)))) | (go_at_call 74; exact Calls.held_below (Nat.le_refl _) (HRK.out _ (HWX.out _ (Held.h _)))))))
        refine wpQuiet_nil ?_
        intro _ hw'
        obtain ⟨sq,hw''⟩:=hw'
        subst hw''
        clear hne
        have HB3:=Lib.hid (HWX.out _ sq.h)
        go_wp2
        go_roundw
        case rel=>exact ⟨k+1,by omega,by go_num,by first | (rw [HN2.out]; done) | (rw [HN2.out]; rfl),HB3.out⟩
        case measure=>simp [intOf]; omega
       ·have d3:decide (l[k].live < l[j].live)=false:=decide_eq_false hlb
        have HN2:Hid (bestFrom sz l none 0 (l.take (k+1))=some (j,l[j])):=by unfold Hid; rw [HN.out,if_neg hlb]
        clear hlb HN
        generalize l[k]=b at *
        generalize l[j]=y at *
        have hne:Nonempty (Held (Below w3.heap.size w3)):=⟨⟨_,(Held.drew_below (Nat.le_refl _))⟩⟩
        refine wp_region_heldq (S:=(Below w3.heap.size w3)) (by kernel_rfl) (by kernel_rfl) (Held.drew_below (Nat.le_refl _)) ?_
        repeat (go_big_quiet_step ((first | (go_at_call 72; exact Calls.held_below (Nat.le_refl _) (HSZ.out _ (HWX.out _ (Held.h _)))) | (go_at_call 74; exact Calls.held_below (Nat.le_refl _) (HRK.out _ (HWX.out _ (Held.h _)))))))
        refine wpQuiet_nil ?_
        intro _ hw'
        obtain ⟨sq,hw''⟩:=hw'
        subst hw''
        clear hne
        have HB3:=Lib.hid (HWX.out _ sq.h)
        go_wp2
        go_roundw
        case rel=>exact ⟨k+1,by omega,by go_num,by first | (rw [HN2.out]; done) | (rw [HN2.out]; rfl),HB3.out⟩
        case measure=>simp [intOf]; omega
     ·have d2:decide (l[k].live≤rm)=false:=decide_eq_false hlr
      have HN:Hid (bestFrom sz l none 0 (l.take (k+1))=bestFrom sz l none 0 (l.take k)):=by unfold Hid; rw [HSS.out _ rfl,if_neg (fun h=>hlr h.2)]
      clear HSS HI hls hlr HIB
      generalize bestFrom sz l none 0 (l.take k)=s at *
      generalize l[k]=b at *
      have hne:Nonempty (Held (Below w3.heap.size w3)):=⟨⟨_,(Held.drew_below (Nat.le_refl _))⟩⟩
      refine wp_region_heldq (S:=(Below w3.heap.size w3)) (by kernel_rfl) (by kernel_rfl) (Held.drew_below (Nat.le_refl _)) ?_
      repeat (go_big_quiet_step ((first | (go_at_call 72; exact Calls.held_below (Nat.le_refl _) (HSZ.out _ (HWX.out _ (Held.h _)))) | (go_at_call 74; exact Calls.held_below (Nat.le_refl _) (HRK.out _ (HWX.out _ (Held.h _)))))))
      refine wpQuiet_nil ?_
      intro _ hw'
      obtain ⟨sq,hw''⟩:=hw'
      subst hw''
      clear hne
      have HB3:=Lib.hid (HWX.out _ sq.h)
      go_wp2
      go_roundw
      case rel=>exact ⟨k+1,by omega,by go_num,by first | (rw [HN.out]; done) | (rw [HN.out]; rfl),HB3.out⟩
      case measure=>simp [intOf]; omega
    ·have d1:decide (l[k].live < sz)=false:=decide_eq_false hls
     have HN:Hid (bestFrom sz l none 0 (l.take (k+1))=bestFrom sz l none 0 (l.take k)):=by unfold Hid; rw [HSS.out _ rfl,if_neg (fun h=>hls h.1)]
     clear HSS HI hls HIB
     generalize bestFrom sz l none 0 (l.take k)=s at *
     generalize l[k]=b at *
     have hne:Nonempty (Held (Below w3.heap.size w3)):=⟨⟨_,(Held.drew_below (Nat.le_refl _))⟩⟩
     refine wp_region_heldq (S:=(Below w3.heap.size w3)) (by kernel_rfl) (by kernel_rfl) (Held.drew_below (Nat.le_refl _)) ?_
     repeat (go_big_quiet_step ((first | (go_at_call 72; exact Calls.held_below (Nat.le_refl _) (HSZ.out _ (HWX.out _ (Held.h _)))) | (go_at_call 74; exact Calls.held_below (Nat.le_refl _) (HRK.out _ (HWX.out _ (Held.h _)))))))
     refine wpQuiet_nil ?_
     intro _ hw'
     obtain ⟨sq,hw''⟩:=hw'
     subst hw''
     clear hne
     have HB3:=Lib.hid (HWX.out _ sq.h)
     go_wp2
     go_roundw
     case rel=>exact ⟨k+1,by omega,by go_num,by first | (rw [HN.out]; done) | (rw [HN.out]; rfl),HB3.out⟩
     case measure=>simp [intOf]; omega
   ·obtain rfl:k=l.length:=by omega
    rw [List.take_of_length_le (Nat.le_refl _)]
    have HN:=Lib.hid (HV2.out _ rfl)
    clear HBS HBI HV2
    generalize bestFrom sz l none 0 l=s at *
    cases s with
    | none=>
      simp only [V.bestI] at *
      go_wp2
      go_ret2
      exact ⟨by rw [HN.out]; rfl,hbl⟩
    | some x=>
      obtain ⟨j,y⟩:=x
      have q1:decide ((j:Int) < 0)=false:=decide_eq_false (by omega)
      simp only [V.bestI] at *
      go_wp2
      go_ret2
      exact ⟨by rw [HN.out]; rfl,hbl⟩
end
end Go.Proofs.YtggkengmlkhdiaaGreat

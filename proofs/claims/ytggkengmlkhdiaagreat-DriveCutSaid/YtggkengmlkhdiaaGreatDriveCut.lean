/-
  WHAT IS SHOWN: behind a power failure during any acts, a restart and Open, every block shows an entry that is permitted, and the drive can be written again (DriveCut), for any case. Conditions: none.
-/
import Derived.Test.YtggkengmlkhdiaaGreatM49
namespace Go.Proofs.YtggkengmlkhdiaaGreat
set_option linter.unusedVariables false
open Go.ChangeShapes Go.WideShapes Go.ChangeAt Go.RowKit
set_option maxRecDepth 100000 in
set_option maxHeartbeats 16000000 in
theorem driveCut_walk (g:Geo) (nb:Int) (A0 A1:Option Addr) (F:List Flt) (acts:List Act20) (m keep:Int) (c0 c1:Nat) (w:World) (hc:Case20In w g nb A0 A1 F acts):
  Calls Tryz.prog 11 #[.agg #[.int .i64 g.random,.int .i64 g.bands,.int .i64 g.tracks,.int .i64 g.sectors,.int .i64 g.overlap,.int .i64 nb,.slice A0 F.length c0,.slice A1 acts.length c1],.int .i64 m,.int .i64 keep] w fun e w'=>e= .returned (.bool true)∧Below w.heap.size w w':=by
 have hO0:(w.alloc (.cells #[.int .i64 g.random,.int .i64 g.bands,.int .i64 g.tracks,.int .i64 g.sectors,.int .i64 g.overlap,.int .i64 nb,.slice A0 F.length c0,.slice A1 acts.length c1] 46)).heap[w.heap.size]?=some (.cells #[.int .i64 g.random,.int .i64 g.bands,.int .i64 g.tracks,.int .i64 g.sectors,.int .i64 g.overlap,.int .i64 nb,.slice A0 F.length c0,.slice A1 acts.length c1] 46 (0,0)):=heap_alloc_new _ _
 obtain ⟨⟨x0,x1,x2,x3,x4,x5,x6,x7⟩,⟨_,_,_,_,_,_,y6,_⟩⟩:=cells8q hO0
 have HB1:Hid (Below w.heap.size w (w.alloc (.cells #[.int .i64 g.random,.int .i64 g.bands,.int .i64 g.tracks,.int .i64 g.sectors,.int .i64 g.overlap,.int .i64 nb,.slice none 0 0,.slice A1 acts.length c1] 46))):=(Below.refl _ _).alloc (Nat.le_refl _) _
 have HO1:Hid ((w.alloc (.cells #[.int .i64 g.random,.int .i64 g.bands,.int .i64 g.tracks,.int .i64 g.sectors,.int .i64 g.overlap,.int .i64 nb,.slice none 0 0,.slice A1 acts.length c1] 46)).heap[w.heap.size]?=some (.cells #[.int .i64 g.random,.int .i64 g.bands,.int .i64 g.tracks,.int .i64 g.sectors,.int .i64 g.overlap,.int .i64 nb,.slice none 0 0,.slice A1 acts.length c1] 46 (0,0))):=heap_alloc_new _ _
 have HFAW:Hid (∀ W,Calls Tryz.prog 22 #[.agg #[.int .i64 g.random,.int .i64 g.bands,.int .i64 g.tracks,.int .i64 g.sectors,.int .i64 g.overlap,.int .i64 nb,.slice none 0 0,.slice A1 acts.length c1]] W fun e w'=>e= .returned (.bool (fairB g nb [] acts.length))∧Below W.heap.size W w'):=fun W=>fair_any g nb [] none A1 0 c1 acts.length W hc.a.n (Rd.nil_ _ _ _) (by simp)
 have HC:=Lib.hid hc
 have HC:=Lib.hid hc
 clear hc hO0
 go_enter Tryz.func11,Tryz.ntmps11
 go_upto_region 2 with fail
 generalize (w.alloc (.cells #[.int .i64 g.random,.int .i64 g.bands,.int .i64 g.tracks,.int .i64 g.sectors,.int .i64 g.overlap,.int .i64 nb,.slice none 0 0,.slice A1 acts.length c1] 46))=w0 at *
 clear x0 x1 x2 x3 x4 x5 x6 x7 y6
 obtain ⟨⟨x0,x1,x2,x3,x4,x5,x6,x7⟩,_⟩:=cells8q HO1.out
 go_wp2_with fail
 refine (awake20_any _).mono ?_
 rintro e w2 ⟨rfl,hb2⟩
 have HB2:Hid (Below w.heap.size w w2):=HB1.out.trans (hb2.mono HB1.out.size)
 have HO2:=Lib.hid (belObj hb2 HO1.out (lt_of_block HO1.out))
 clear hb2 x0 x1 x2 x3 x4 x5 x6 x7
 obtain ⟨⟨x0,x1,x2,x3,x4,x5,x6,x7⟩,_⟩:=cells8q HO2.out
 have HF2:=Lib.hid (HFAW.out w2)
 go_wp2_with fail
 refine HF2.out.mono ?_
 rintro e w3 ⟨rfl,hb3⟩
 have HB3:Hid (Below w.heap.size w w3):=HB2.out.trans (hb3.mono HB2.out.size)
 have HO3:=Lib.hid (belObj hb3 HO2.out (lt_of_block HO2.out))
 clear hb3 x0 x1 x2 x3 x4 x5 x6 x7 HF2 HFAW
 obtain ⟨⟨x0,x1,x2,x3,x4,x5,x6,x7⟩,_⟩:=cells8q HO3.out
 cases hfr:fairB g nb [] acts.length
 ·clear hfr
  go_wp2_with fail
  refine (awake20_any _).mono ?_
  rintro e w4 ⟨rfl,hb4⟩
  have HB4:Hid (Below w.heap.size w w4):=HB3.out.trans (hb4.mono HB3.out.size)
  clear hb4
  go_wp2
  go_ret
  exact ⟨rfl,HB4.out⟩
 ·by_cases hm:m < 0
  ·have dm:decide (m < 0)=true:=decide_eq_true hm
   clear hfr
   go_wp2_with fail
   refine (awake20_any _).mono ?_
   rintro e w4 ⟨rfl,hb4⟩
   have HB4:Hid (Below w.heap.size w w4):=HB3.out.trans (hb4.mono HB3.out.size)
   clear hb4
   go_wp2
   go_ret
   exact ⟨rfl,HB4.out⟩
  ·have dm:decide (m < 0)=false:=decide_eq_false hm
   clear hm
   have hfr2:=hfr
   unfold fairB at hfr2
   simp only [Bool.and_eq_true,decide_eq_true_eq] at hfr2
   obtain ⟨f1,f2,f3,f4,f5,f6⟩:=hfr2
   have hnb:∃ n:Nat,nb=n:=by
    unfold possB at f3
    simp only [Bool.and_eq_true,decide_eq_true_eq] at f3
    exact ⟨nb.toNat,by omega⟩
   obtain ⟨n,rfl⟩:=hnb
   have HS:Hid (Small g n []):=⟨(validG_iff g).1 f1,f3,by simp,fun f hf=>absurd hf (by simp),rfl⟩
   have HAL:Hid (acts.length≤80):=f4
   have HSZ120:Hid (szN g≤120):=f2
   clear hfr f1 f2 f3 f4 f5 f6
   have HS0:Hid (Calls Tryz.prog 23 #[.agg #[.int .i64 g.random,.int .i64 g.bands,.int .i64 g.tracks,.int .i64 g.sectors,.int .i64 g.overlap,.int .i64 (n:Int),.slice none 0 0,.slice A1 acts.length c1]] w3 fun e w'=>(∃ r q pw,e= .returned (.tuple #[.pointer (some ⟨r,0,none⟩),.int .i64 0])∧RigM w' w3.heap.size r q pw g [] n (R0 g [] n))∧Below w3.heap.size w3 w'):=fine_start HS.out RunF.nil none A1 0 c1 acts.length w3 (Rd.nil_ _ _ _)
   have HLN:Hid (w.heap.size < w3.heap.size):=lt_of_block HO3.out
   go_wp2_with fail
   refine HS0.out.mono ?_
   rintro e w4 ⟨⟨r,q,pw,rfl,p,hha,hc4,fa,fc,hs,hr0⟩,hb4⟩
   have HB4:Hid (Below w.heap.size w w4):=HB3.out.trans (hb4.mono (Nat.le_of_lt HLN.out))
   have HO4:=Lib.hid (belObj hb4 HO3.out HLN.out)
   have HSZ:Hid (w3.heap.size≤w4.heap.size):=hb4.size
   have HR0:Hid (RigM w4 w3.heap.size r q pw g [] n (R0 g [] n)):=⟨p,hha,hc4,fa,fc,hs,hr0⟩
   have HI0:Hid (Fine g n 0 (R0 g [] n)∧1≤V.freeN (R0 g [] n).S.v.bs):=(fine0 HS.out RunF.nil).2
   obtain ⟨z0,z1,z2,z3,z4,z5,z6⟩:=hr0.cells
   clear hr0 hb4 HS0 x0 x1 x2 x3 x4 x5 x6 x7
   have HRI0:Hid (Rise (R0 g [] n).hist (R0 g [] n).next):=rise0 g [] n
   generalize R0 g [] n=RI at *
   have HCT:=Lib.hid (cut_any (c1:=c1) HS.out RunF.nil HSZ120.out m keep (by have:=HAL.out; omega) HI0.out.1 HRI0.out ((HC.out.a.rd.below HB4.out (Nat.le_refl _)).more (Nat.le_of_lt HLN.out)) HC.out.a.ok HR0.out)
   obtain ⟨⟨x0,x1,x2,x3,x4,x5,x6,x7⟩,_⟩:=cells8q HO4.out
   go_wp2_with fail
   refine HCT.out.mono ?_
   rintro e w5 ⟨rfl,⟨R5,hr5,hf5,_,_⟩,hk5⟩
   generalize w3.heap.size=N at *
   have HR5:=Lib.hid hr5
   have HF5:=Lib.hid hf5
   have HB5:Hid (Below N w4 w5):=hk5.below HSZ.out
   clear hr5 hf5 hk5 HCT x0 x1 x2 x3 x4 x5 x6 x7 z0 z1 z2 z3 z4 z5 z6 HR0 HI0 HRI0
   go_wp2
   obtain ⟨KA,hKA⟩:∃ KA,0+acts.length=KA:=⟨_,rfl⟩
   have HKA0:Hid (KA≤320):=by unfold Hid; have:=HAL.out; omega
   rw [hKA] at HF5
   clear hKA
   go_loopw [9] (fun s9 wr=>∃ (j:Nat) (R:RG),j≤n∧s9= .int .i64 j∧Hid (RigM wr N r q pw g [] n R)∧Hid (Fine g n (KA+j) R)∧Hid (Below N w4 wr)) (fun s9 _=>n - (intOf s9).toNat)
   case atStart=>exact ⟨0,_,Nat.zero_le _,rfl,HR5.out,HF5.out,HB5.out⟩
   case round=>
    obtain ⟨j,R,hj,rfl,HRX,HIX,HBX⟩:=hrel
    obtain ⟨p,hq⟩:=HRX.out
    obtain ⟨z0,z1,z2,z3,_⟩:=RigQ.c hq
    have hn120:=small_n HS.out HSZ120.out
    have HN120:=Lib.hid hn120
    have HZX:Hid (N≤wr.heap.size):=Nat.le_trans HSZ.out HBX.out.size
    clear hq
    by_cases hlt:j < n
    ·have d1:decide ((j:Int) < (n:Int))=true:=decide_eq_true (by omega)
     have d2:decide (j < n)=true:=decide_eq_true hlt
     have HDO:=Lib.hid (do_any (kind:=0) (blk:=(j:Int)) (data:=9) (by decide) (by decide) (HIX.out.inS HS.out (by have:=HKA0.out; omega) HSZ120.out) HRX.out)
     go_wp2_with fail
     refine HDO.out.mono ?_
     rintro e w6 ⟨R6,er6,hact,rfl,hr6,hk6⟩
     obtain ⟨he0,hf6,_⟩:=HIX.out.act HS.out RunF.nil (by have:=HKA0.out; have:=HN120.out; omega) (by simp) hact
     subst he0
     have HR6:=Lib.hid hr6
     have HF6:Hid (Fine g n (KA+(j+1)) R6):=hf6
     have HB6:Hid (Below N w4 w6):=HBX.out.trans (hk6.below HZX.out)
     clear hact hr6 hk6 hf6 HDO HRX HIX HBX z0 z1 z2 z3
     go_wp2
     go_roundw
     case rel=>exact ⟨j+1,R6,hlt,by go_num,HR6,HF6,HB6⟩
     case measure=>simp [intOf]; omega
    ·obtain rfl:j=n:=by omega
     have d1:decide ((j:Int) < (j:Int))=false:=decide_eq_false (by omega)
     have d2:decide (j < j)=false:=decide_eq_false (by omega)
     have HAA:=Lib.hid (fine_all HS.out RunF.nil HIX.out (by have:=HKA0.out; have:=HN120.out; omega) HRX.out)
     go_wp2_with fail
     refine HAA.out.mono ?_
     rintro e w6 ⟨rfl,_,hk6⟩
     have HB6:Hid (Below w.heap.size w w6):=HB4.out.trans ((HBX.out.trans (hk6.below HZX.out)).mono (Nat.le_of_lt HLN.out))
     clear hk6
     go_wp2
     go_ret
     exact ⟨rfl,HB6.out⟩
set_option maxRecDepth 100000 in
theorem driveCut_lifted (os:Os) (started:os.Started) (H:Type) (enc:TypeId × Value→H):
  ReturnsInHanded {} Tryz.checked os 11 .any (Rows.driveCutSpec.pre6 enc Tryz.prog Tryz.f11 Rows.driveCutRow.domain false) (Rows.driveCutSpec.post enc Tryz.prog Tryz.f11 false true false false):=by
 refine returnsInHanded_of_change (C:=Tryz.checked) own started (by kernel_rfl) Tryz.func11
  (ChangeSpec.witness6 (enc:=enc) (C:=Tryz.checked) false ⟨#[],#[.agg #[.int .i64 0,.int .i64 0,.int .i64 0,.int .i64 0,.int .i64 0,.int .i64 0,.slice none 0 0,.slice none 0 0],.int .i64 0,.int .i64 0],[]⟩ 8 (by kernel_rfl) (by kernel_rfl) (by kernel_rfl) (by kernel_rfl)) ?_
 intro W base args ds gs before hval0 hW hcnd _
 have hval:∀ (j:Nat) t v,Tryz.f11.params[j]?=some t→args[j]?=some v→Value.okWide Tryz.prog W .any base t v:=hval0
 have hW':=hW
 obtain ⟨p,q,hA0,hV,rfl,hfz,hnd⟩:=hW
 have hA:DataW.TrodAll enc Tryz.prog W 0 (fun _=>true) true Tryz.f11.params.toList args.toList ds p:=hA0
 rw [Tryz.params11] at hA hval
 obtain ⟨v0,vs0,d0,ds0,p0,q0,hargs,rfl,rfl,h0,r0⟩:=trodAll_cons hA
 obtain ⟨v1,vs1,d1,ds1,p1,q1,rfl,rfl,rfl,h1,r1⟩:=trodAll_cons r0
 obtain ⟨v2,vs2,d2,ds2,p2,q2,rfl,rfl,rfl,h2,r2⟩:=trodAll_cons r1
 obtain ⟨rfl,rfl,rfl⟩:=trodAll_nil r2
 obtain rfl:args=#[v0,v1,v2]:=by cases args; simp_all
 obtain ⟨rfl,rfl⟩:=trodVars_none hV
 have k0:=h0
 have lt0:∀ x∈p0,x.block < W.heap.size:=by obtain ⟨m,hm⟩:=k0; exact DataW.trod_lt m _ _ _ hm
 have k1:=h1
 have lt1:∀ x∈p1,x.block < W.heap.size:=by obtain ⟨m,hm⟩:=k1; exact DataW.trod_lt m _ _ _ hm
 have k2:=h2
 have lt2:∀ x∈p2,x.block < W.heap.size:=by obtain ⟨m,hm⟩:=k2; exact DataW.trod_lt m _ _ _ hm
 obtain ⟨g,nb,A0,A1,F,acts,c0,c1,rfl,hc⟩:=open_case20 (hval 0 _ _ rfl rfl) h0
 obtain ⟨m,rfl,_,_,_⟩:=open_int Tryz.underlying3 (hval 1 _ _ rfl rfl) h1
 obtain ⟨keep,rfl,_,_,_⟩:=open_int Tryz.underlying3 (hval 2 _ _ rfl rfl) h2
 clear hA0 hval0
 refine (driveCut_walk g nb A0 A1 F acts m keep c0 c1 W hc).mono fun e W' ⟨he,bel⟩=>?_
 subst he
 exact ⟨_,rfl,_,_,_,[],_,[],hW',trodAll_mk1 (shut_bool Tryz.underlying4 _),(trodAll_cons_mk (Below.trod laidOut (by kernel_rfl) (of_decide_eq_true (by kernel_rfl)) k0 bel lt0) (trodAll_cons_mk (Below.trod laidOut (by kernel_rfl) (of_decide_eq_true (by kernel_rfl)) k1 bel lt1) (trodAll_cons_mk (Below.trod laidOut (by kernel_rfl) (of_decide_eq_true (by kernel_rfl)) k2 bel lt2) trodAll_mk0))),rfl,bel.frame _,fun h=>by cases h⟩
theorem driveCut_holds:Rows.DriveCutSaid:=
 OpenClaim.holds_of_wide 11 Tryz.f11 rfl rfl rfl rfl rfl rfl rfl ⟨rfl,rfl,rfl,rfl,rfl⟩ rfl rfl rfl rfl rfl (by kernel_rfl) Tryz.func11 (by kernel_rfl)
  (of_decide_eq_true (by kernel_rfl)) (by unfold Func.isWrapper; first | (rw [if_pos (by decide+kernel)]; kernel_rfl) | (rw [if_neg (by decide+kernel)]; exact ⟨rfl,rfl⟩))
  (fun os started H enc _=>driveCut_lifted os started H enc)
#print axioms driveCut_holds
end Go.Proofs.YtggkengmlkhdiaaGreat

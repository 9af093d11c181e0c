/-
  WHAT IS SHOWN: two blocks are compared; what valid of entry returns. what Encode of entry returns. Conditions: as each theorem names them.
-/
import Derived.ChangeKeysEq
import Derived.Test.YtggkengmlkhdiaaGreatM21
namespace Go.Proofs.YtggkengmlkhdiaaGreat
set_option linter.unusedVariables false
open Go.RowKit
set_option maxHeartbeats 2000000 in
theorem blk_eql (W:World) (a0 a1 a2 a3 a4 a5 a6 a7 b0 b1 b2 b3 b4 b5 b6 b7:Int):(Op.equalIn 10000 27 (.agg #[.int .u8 a0,.int .u8 a1,.int .u8 a2,.int .u8 a3,.int .u8 a4,.int .u8 a5,.int .u8 a6,.int .u8 a7]) (.agg #[.int .u8 b0,.int .u8 b1,.int .u8 b2,.int .u8 b3,.int .u8 b4,.int .u8 b5,.int .u8 b6,.int .u8 b7])).run Tryz.prog W= .ok (decide ([a0,a1,a2,a3,a4,a5,a6,a7]=[b0,b1,b2,b3,b4,b5,b6,b7])) W:=by
 obtain ⟨i0,hi,hz0,hz1,hz2⟩:=info_parts qinfo_u8
 have hc:Tryz.prog.cellsOf 5=1:=by kernel_rfl
 have hr:List.range 8=[0,1,2,3,4,5,6,7]:=rfl
 rw [show (10000:Nat)=9999+1 from rfl,run_equalIn_array W 9999 _ _ Tryz.underlying27 hi,hc,hr]
 by_cases h0:a0=b0
 ·by_cases h1:a1=b1
  ·by_cases h2:a2=b2
   ·by_cases h3:a3=b3
    ·by_cases h4:a4=b4
     ·by_cases h5:a5=b5
      ·by_cases h6:a6=b6
       ·by_cases h7:a7=b7
        ·subst h0 h1 h2 h3 h4 h5 h6 h7; simp [Op.eqItems,part,go_sem,Tryz.underlying5]
        ·simp [Op.eqItems,part,go_sem,Tryz.underlying5,h0,h1,h2,h3,h4,h5,h6,h7]
       ·simp [Op.eqItems,part,go_sem,Tryz.underlying5,h0,h1,h2,h3,h4,h5,h6]
      ·simp [Op.eqItems,part,go_sem,Tryz.underlying5,h0,h1,h2,h3,h4,h5]
     ·simp [Op.eqItems,part,go_sem,Tryz.underlying5,h0,h1,h2,h3,h4]
    ·simp [Op.eqItems,part,go_sem,Tryz.underlying5,h0,h1,h2,h3]
   ·simp [Op.eqItems,part,go_sem,Tryz.underlying5,h0,h1,h2]
  ·simp [Op.eqItems,part,go_sem,Tryz.underlying5,h0,h1]
 ·simp [Op.eqItems,part,go_sem,Tryz.underlying5,h0]
def Ent.cells (e:Ent):List Value:=.int .i64 e.kind:: .int .i64 e.blk:: .int .u64 e.ver::e.dt.map (Value.int .u8)
def entV (e:Ent):Value:=.agg e.cells.toArray
theorem len8 {l:List Int} (h:l.length=8):∃ d0 d1 d2 d3 d4 d5 d6 d7,l=[d0,d1,d2,d3,d4,d5,d6,d7]:=by
 match l,h with
 | [d0,d1,d2,d3,d4,d5,d6,d7],_=>exact ⟨d0,d1,d2,d3,d4,d5,d6,d7,rfl⟩
set_option maxRecDepth 100000 in
set_option maxHeartbeats 4000000 in
theorem evalid_any (x:Ent) (h8:x.dt.length=8) (w:World):Calls Tryz.prog 102 #[entV x] w fun e w'=>e= .returned (.bool (validE x))∧Below w.heap.size w w':=by
 obtain ⟨kind,blk,ver,dt⟩:=x
 obtain ⟨d0,d1,d2,d3,d4,d5,d6,d7,rfl⟩:=len8 h8
 show Calls Tryz.prog 102 #[.agg #[.int .i64 kind,.int .i64 blk,.int .u64 ver,.int .u8 d0,.int .u8 d1,.int .u8 d2,.int .u8 d3,.int .u8 d4,.int .u8 d5,.int .u8 d6,.int .u8 d7]] w _
 clear h8
 by_cases b0:0≤blk
 ·by_cases b1:blk < 65536
  ·by_cases v1:1≤ver
   ·by_cases k2:kind=2
    ·have HV:Hid (validE ⟨kind,blk,ver,[d0,d1,d2,d3,d4,d5,d6,d7]⟩=decide ([d0,d1,d2,d3,d4,d5,d6,d7]=[0,0,0,0,0,0,0,0])):=by
      unfold Hid validE; simp only [decide_eq_true b0,decide_eq_true b1,decide_eq_true v1,if_pos k2,Bool.true_and]; rfl
     have hbe:=fun W:World=>blk_eql W d0 d1 d2 d3 d4 d5 d6 d7 0 0 0 0 0 0 0 0
     generalize decide ([d0,d1,d2,d3,d4,d5,d6,d7]=[0,0,0,0,0,0,0,0])=z at *
     subst k2
     go_enter Tryz.func102,Tryz.ntmps102
     go_wp2
     go_ret
     exact ⟨by rw [HV.out]; rfl,((Below.refl _ _).alloc (Nat.le_refl _) _)⟩
    ·have HV:Hid (validE ⟨kind,blk,ver,[d0,d1,d2,d3,d4,d5,d6,d7]⟩=decide (kind=1)):=by
      unfold Hid validE; simp only [decide_eq_true b0,decide_eq_true b1,decide_eq_true v1,if_neg k2,Bool.true_and]
     by_cases k1:kind=1
     ·subst k1
      go_enter Tryz.func102,Tryz.ntmps102
      go_wp2
      go_ret
      exact ⟨by rw [HV.out]; rfl,((Below.refl _ _).alloc (Nat.le_refl _) _)⟩
     ·have e1:(kind==1)=false:=by simpa using k1
      have e2:(kind==2)=false:=by simpa using k2
      go_enter Tryz.func102,Tryz.ntmps102
      go_wp2
      go_ret
      exact ⟨by rw [HV.out,decide_eq_false k1]; rfl,((Below.refl _ _).alloc (Nat.le_refl _) _)⟩
   ·have HV:Hid (validE ⟨kind,blk,ver,[d0,d1,d2,d3,d4,d5,d6,d7]⟩=false):=by
     unfold Hid validE; simp only [decide_eq_true b0,decide_eq_true b1,decide_eq_false v1,Bool.true_and,Bool.false_and]
    go_enter Tryz.func102,Tryz.ntmps102
    go_wp2
    go_ret
    exact ⟨by rw [HV.out]; rfl,((Below.refl _ _).alloc (Nat.le_refl _) _)⟩
  ·have HV:Hid (validE ⟨kind,blk,ver,[d0,d1,d2,d3,d4,d5,d6,d7]⟩=false):=by
    unfold Hid validE; simp only [decide_eq_true b0,decide_eq_false b1,Bool.true_and,Bool.false_and]
   go_enter Tryz.func102,Tryz.ntmps102
   go_wp2
   go_ret
   exact ⟨by rw [HV.out]; rfl,((Below.refl _ _).alloc (Nat.le_refl _) _)⟩
 ·have HV:Hid (validE ⟨kind,blk,ver,[d0,d1,d2,d3,d4,d5,d6,d7]⟩=false):=by
   unfold Hid validE; simp only [decide_eq_false b0,Bool.false_and]
  go_enter Tryz.func102,Tryz.ntmps102
  go_wp2
  go_ret
  exact ⟨by rw [HV.out]; rfl,((Below.refl _ _).alloc (Nat.le_refl _) _)⟩
end Go.Proofs.YtggkengmlkhdiaaGreat
namespace Go.Proofs.YtggkengmlkhdiaaGreat
set_option linter.unusedVariables false
open Go.RowKit
def OwnOE (base:Nat) (w:World) (xs:List Int) (e:Ending) (w':World):Prop:=∃ A c,e= .returned (.tuple #[.slice A xs.length c,.int .i64 0])∧w'.ownsRow base 5 1 (.slice A xs.length c) xs.length (xs.map (Value.int .u8))∧Below base w w'
set_option maxRecDepth 100000 in
set_option maxHeartbeats 8000000 in
theorem encode_yes (x:Ent) (ho:x.Ok) (hv:validE x=true) (t:Int) (h0:0≤t) (w:World):Calls Tryz.prog 110 #[entV x,.int .u64 t] w (OwnOE w.heap.size w (encB x t)):=by
 have HV:=Lib.hid (fun W:World=>evalid_any x ho.len W)
 rw [hv] at HV
 obtain ⟨x0,x1,x2,x3⟩:=validE_told hv
 have HE:Hid (encB x t=plainB x t++leB (sumC (plainB x t)) 8):=rfl
 have hs0:=(sumC_u64 (plainB x t)).1
 obtain ⟨kind,blk,ver,dt⟩:=x
 have h8:=ho.len
 obtain ⟨d0,d1,d2,d3,d4,d5,d6,d7,rfl⟩:=len8 h8
 clear hv h8 ho
 have HPL:Hid (plainB ⟨kind,blk,ver,[d0,d1,d2,d3,d4,d5,d6,d7]⟩ t=(((([]++leB kind 1)++leB blk 4)++leB ver 8)++[d0,d1,d2,d3,d4,d5,d6,d7])++leB t 8):=rfl
 have HV':Hid (∀ W,Calls Tryz.prog 102 #[.agg #[.int .i64 kind,.int .i64 blk,.int .u64 ver,.int .u8 d0,.int .u8 d1,.int .u8 d2,.int .u8 d3,.int .u8 d4,.int .u8 d5,.int .u8 d6,.int .u8 d7]] W fun e w'=>e= .returned (.bool true)∧Below W.heap.size W w'):=HV
 clear HV
 show Calls Tryz.prog 110 #[.agg #[.int .i64 kind,.int .i64 blk,.int .u64 ver,.int .u8 d0,.int .u8 d1,.int .u8 d2,.int .u8 d3,.int .u8 d4,.int .u8 d5,.int .u8 d6,.int .u8 d7],.int .u64 t] w _
 simp only at x0 x1 x2 x3
 have k0:0≤kind:=by omega
 have k1:kind≤2:=by omega
 clear x3
 generalize hpb:plainB ⟨kind,blk,ver,[d0,d1,d2,d3,d4,d5,d6,d7]⟩ t=pb at *
 clear hpb
 obtain ⟨i0,hi,hz0,hz1,hz2⟩:=info_parts qinfo_u8
 have hO:(w.alloc (.cells #[.int .i64 kind,.int .i64 blk,.int .u64 ver,.int .u8 d0,.int .u8 d1,.int .u8 d2,.int .u8 d3,.int .u8 d4,.int .u8 d5,.int .u8 d6,.int .u8 d7] 89)).heap[w.heap.size]?=some (.cells #[.int .i64 kind,.int .i64 blk,.int .u64 ver,.int .u8 d0,.int .u8 d1,.int .u8 d2,.int .u8 d3,.int .u8 d4,.int .u8 d5,.int .u8 d6,.int .u8 d7] 89 (0,0)):=heap_alloc_new _ _
 have hbx:Below w.heap.size w (w.alloc (.cells #[.int .i64 kind,.int .i64 blk,.int .u64 ver,.int .u8 d0,.int .u8 d1,.int .u8 d2,.int .u8 d3,.int .u8 d4,.int .u8 d5,.int .u8 d6,.int .u8 d7] 89)):=((Below.refl _ _).alloc (Nat.le_refl _) _)
 have hsz:(w.alloc (.cells #[.int .i64 kind,.int .i64 blk,.int .u64 ver,.int .u8 d0,.int .u8 d1,.int .u8 d2,.int .u8 d3,.int .u8 d4,.int .u8 d5,.int .u8 d6,.int .u8 d7] 89)).heap.size=w.heap.size+1:=by simp
 go_enter Tryz.func110,Tryz.ntmps110
 go_wp2_with fail
 refine (HV'.out _).mono ?_
 rintro e w1 ⟨rfl,hb1⟩
 clear HV'
 have hO1:=belObj hb1 hO (by omega)
 have hbl1:Below w.heap.size w w1:=hbx.trans (hb1.mono (by omega))
 have hz1':w.heap.size+1≤w1.heap.size:=by have:=hb1.size; omega
 clear hb1 hO hbx hsz
 have q0:=(cell_of_row _ _ 0 _ _ _ hO1).trans (show _=some (Value.int .i64 kind) from rfl)
 go_wp2_with fail
 refine (put_any kind k0 1 (by decide) [] none 0 (w.heap.size+1) w1 (World.ownsRow_nil _ _ _ _) (by decide) hz1').mono ?_
 rintro e w2 ⟨A2,c2,rfl,ho2,hb2⟩
 have hO2:=belObj hb2 hO1 (by omega)
 have HB2:=Lib.hid (hbl1.trans (hb2.mono (by omega)))
 have hz2':w.heap.size+1≤w2.heap.size:=Nat.le_trans hz1' hb2.size
 clear hb2 hbl1 hO1 q0
 have HO2:=Lib.hid ho2
 clear ho2
 have l2:([]++leB kind 1).length≤1:=by simp [leB_len]
 generalize []++leB kind 1=y2 at *
 have q1:=(cell_of_row _ _ 1 _ _ _ hO2).trans (show _=some (Value.int .i64 blk) from rfl)
 go_wp2_with fail
 refine (put_any blk x0 4 (by decide) y2 A2 c2 (w.heap.size+1) w2 HO2.out (by omega) hz2').mono ?_
 rintro e w3 ⟨A3,c3,rfl,ho3,hb3⟩
 have hO3:=belObj hb3 hO2 (by omega)
 have HB3:=Lib.hid (HB2.out.trans (hb3.mono (by omega)))
 have hz3':w.heap.size+1≤w3.heap.size:=Nat.le_trans hz2' hb3.size
 have l3:(y2++leB blk 4).length≤5:=by rw [List.length_append,leB_len]; omega
 clear hb3 hO2 q1 HO2 HB2
 have HO3:=Lib.hid ho3
 clear ho3
 generalize y2++leB blk 4=y3 at *
 have q2:=(cell_of_row _ _ 2 _ _ _ hO3).trans (show _=some (Value.int .u64 ver) from rfl)
 go_wp2_with fail
 refine (put_any ver (by omega) 8 (by decide) y3 A3 c3 (w.heap.size+1) w3 HO3.out (by omega) hz3').mono ?_
 rintro e w4 ⟨A4,c4,rfl,ho4,hb4⟩
 have hO4:=belObj hb4 hO3 (by omega)
 have HB4:=Lib.hid (HB3.out.trans (hb4.mono (by omega)))
 have hz4':w.heap.size+1≤w4.heap.size:=Nat.le_trans hz3' hb4.size
 have l4:(y3++leB ver 8).length≤13:=by rw [List.length_append,leB_len]; omega
 clear hb4 hO3 q2 HO3 HB3
 have HO4:=Lib.hid ho4
 clear ho4
 generalize y3++leB ver 8=y4 at *
 have hat:∀ (j:Nat) (u:Value),([d0,d1,d2,d3,d4,d5,d6,d7].map (Value.int .u8))[j]?=some u→w4.cell? ((⟨w.heap.size,3,none⟩:Addr).add j)=some u:=fun j u hu=>by
  have hj:j < 8:=by have:=(List.getElem?_eq_some_iff.1 hu).1; simpa using this
  rw [add_off,cell_of_row _ _ _ _ _ _ hO4,← hu]
  rcases (by omega:j=0∨j=1∨j=2∨j=3∨j=4∨j=5∨j=6∨j=7) with rfl | rfl | rfl | rfl | rfl | rfl | rfl | rfl <;> rfl
 go_wp2_with (at_builtin; refine wpList_append_own _ rfl _ _ 65 rfl (w.heap.size+1) 5 i0 _ 1 1 Tryz.underlying65 hi hz0 hz1 hz2 rfl (by decide) _ y4.length (y4.map (Value.int .u8)) rfl HO4.out ⟨w.heap.size,3,none⟩ 8 8 ([d0,d1,d2,d3,d4,d5,d6,d7].map (Value.int .u8)) rfl rfl hat (qbytes_one _) ?c1 ?c2 ?c3 ?_)
 case c1=>unfold maxLen; omega
 case c2=>omega
 case c3=>omega
 intro v5 w5 hown hgrow hiff
 obtain ⟨A5,c5,hv5⟩:=own_form hown
 subst hv5
 have hb5:Below (w.heap.size+1) w4 w5:=(Below.refl _ _).grown hgrow hz4' (fun k hk=>own_low HO4.out hk)
 have hO5:=belObj hb5 hO4 (by omega)
 have HB5:=Lib.hid (HB4.out.trans (hb5.mono (by omega)))
 have hz5':w.heap.size+1≤w5.heap.size:=Nat.le_trans hz4' hb5.size
 have l5:(y4++[d0,d1,d2,d3,d4,d5,d6,d7]).length≤21:=by rw [List.length_append]; simp only [List.length_cons,List.length_nil]; omega
 have HO5:Hid (w5.ownsRow (w.heap.size+1) 5 1 (.slice A5 (y4++[d0,d1,d2,d3,d4,d5,d6,d7]).length c5) (y4++[d0,d1,d2,d3,d4,d5,d6,d7]).length ((y4++[d0,d1,d2,d3,d4,d5,d6,d7]).map (Value.int .u8))):=by
  unfold Hid; rw [List.length_append,List.map_append]; exact hown
 have HLN:Hid (y4.length+8=(y4++[d0,d1,d2,d3,d4,d5,d6,d7]).length):=by unfold Hid; rw [List.length_append]; rfl
 rw [HLN.out]
 clear hown hgrow hiff hb5 hO4 HO4 HB4 hat
 generalize y4++[d0,d1,d2,d3,d4,d5,d6,d7]=y5 at *
 go_wp2_with fail
 refine (put_any t h0 8 (by decide) y5 A5 c5 (w.heap.size+1) w5 HO5.out (by omega) hz5').mono ?_
 rintro e w6 ⟨A6,c6,rfl,ho6,hb6⟩
 have HB6:=Lib.hid (HB5.out.trans (hb6.mono (by omega)))
 have hz6':w.heap.size+1≤w6.heap.size:=Nat.le_trans hz5' hb6.size
 have l6:(y5++leB t 8).length≤29:=by rw [List.length_append,leB_len]; omega
 clear hb6 hO5 HO5 HB5 HLN
 have HO6:=Lib.hid ho6
 clear ho6
 generalize y5++leB t 8=y6 at *
 obtain rfl:pb=y6:=HPL.out
 clear HPL
 have hr6:=Rd.of_own HO6.out
 go_wp2_with fail
 refine (sum_any pb A6 c6 w6 hr6 (by omega)).mono ?_
 rintro e w7 ⟨rfl,hb7⟩
 have HB7:=Lib.hid (HB6.out.trans (hb7.mono (by omega)))
 have hz7':w.heap.size+1≤w7.heap.size:=Nat.le_trans hz6' hb7.size
 have HO7:=Lib.hid (own_kept HO6.out (belKept0 (S:=fun _=>False) hb7) (fun _ _ h=>h))
 clear hb7 HO6 HB6 hr6
 go_wp2_with fail
 refine (put_any (sumC pb) hs0 8 (by decide) pb A6 c6 (w.heap.size+1) w7 HO7.out (by omega) hz7').mono ?_
 rintro e w8 ⟨A8,c8,rfl,ho8,hb8⟩
 have HB8:=Lib.hid (HB7.out.trans (hb8.mono (by omega)))
 have HO8:=Lib.hid (own_mono ho8 (Nat.le_succ w.heap.size))
 clear hb8 ho8 HO7 HB7
 rw [← HE.out] at HO8
 rw [← HE.out]
 generalize encB ⟨kind,blk,ver,[d0,d1,d2,d3,d4,d5,d6,d7]⟩ t=z at *
 go_wp2
 go_ret2
 exact ⟨A8,c8,rfl,HO8.out,HB8.out⟩
end Go.Proofs.YtggkengmlkhdiaaGreat

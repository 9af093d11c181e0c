/-
  WHAT IS SHOWN: without faults and power failures a drive shows the last entry of each block, whatever is cleaned, flushed and opened again (DriveMap), for any case. Conditions: none.
-/
import Derived.Test.YtggkengmlkhdiaaGreatM47
namespace Go.Proofs.YtggkengmlkhdiaaGreat
set_option linter.unusedVariables false
open Go.ChangeShapes Go.WideShapes Go.ChangeAt Go.RowKit
set_option maxRecDepth 100000 in
set_option maxHeartbeats 16000000 in
theorem driveMap_walk (g : Geo) (nb : Int) (A0 A1 : Option Addr) (F : List Flt) (acts : List Act20) (c0 c1 : Nat) (w : World) (hc : Case20In w g nb A0 A1 F acts) :
  Calls Tryz.prog 5 #[.agg #[.int .i64 g.random,.int .i64 g.bands,.int .i64 g.tracks,.int .i64 g.sectors,.int .i64 g.overlap,.int .i64 nb,.slice A0 F.length c0,.slice A1 acts.length c1]] w fun e w'=>e = .returned (.bool true) ∧ Below w.heap.size w w':=by
 have hO0 : (w.alloc (.cells #[.int .i64 g.random,.int .i64 g.bands,.int .i64 g.tracks,.int .i64 g.sectors,.int .i64 g.overlap,.int .i64 nb,.slice A0 F.length c0,.slice A1 acts.length c1] 46)).heap[w.heap.size]? = some (.cells #[.int .i64 g.random,.int .i64 g.bands,.int .i64 g.tracks,.int .i64 g.sectors,.int .i64 g.overlap,.int .i64 nb,.slice A0 F.length c0,.slice A1 acts.length c1] 46 (0,0)):=heap_alloc_new _ _
 obtain ⟨⟨x0,x1,x2,x3,x4,x5,x6,x7⟩,⟨_,_,_,_,_,_,y6,_⟩⟩:=cells8q hO0
 have HB1 : Hid (Below w.heap.size w (w.alloc (.cells #[.int .i64 g.random,.int .i64 g.bands,.int .i64 g.tracks,.int .i64 g.sectors,.int .i64 g.overlap,.int .i64 nb,.slice none 0 0,.slice A1 acts.length c1] 46))):=(Below.refl _ _).alloc (Nat.le_refl _) _
 have HO1 : Hid ((w.alloc (.cells #[.int .i64 g.random,.int .i64 g.bands,.int .i64 g.tracks,.int .i64 g.sectors,.int .i64 g.overlap,.int .i64 nb,.slice none 0 0,.slice A1 acts.length c1] 46)).heap[w.heap.size]? = some (.cells #[.int .i64 g.random,.int .i64 g.bands,.int .i64 g.tracks,.int .i64 g.sectors,.int .i64 g.overlap,.int .i64 nb,.slice none 0 0,.slice A1 acts.length c1] 46 (0,0))):=heap_alloc_new _ _
 have HFAW : Hid (∀ W,Calls Tryz.prog 22 #[.agg #[.int .i64 g.random,.int .i64 g.bands,.int .i64 g.tracks,.int .i64 g.sectors,.int .i64 g.overlap,.int .i64 nb,.slice none 0 0,.slice A1 acts.length c1]] W fun e w'=>e = .returned (.bool (fairB g nb [] acts.length)) ∧ Below W.heap.size W w'):=fun W=>fair_any g nb [] none A1 0 c1 acts.length W hc.a.n (Rd.nil_ _ _ _) (by simp)
 have HC:=Lib.hid hc
 have HC:=Lib.hid hc
 clear hc hO0
 go_enter Tryz.func5,Tryz.ntmps5
 go_upto_region 2 with fail
 generalize (w.alloc (.cells #[.int .i64 g.random,.int .i64 g.bands,.int .i64 g.tracks,.int .i64 g.sectors,.int .i64 g.overlap,.int .i64 nb,.slice none 0 0,.slice A1 acts.length c1] 46)) = w0 at *
 clear x0 x1 x2 x3 x4 x5 x6 x7 y6
 obtain ⟨⟨x0,x1,x2,x3,x4,x5,x6,x7⟩,_⟩:=cells8q HO1.out
 go_wp2_with fail
 refine (awake20_any _).mono ?_
 rintro e w2 ⟨rfl,hb2⟩
 have HB2 : Hid (Below w.heap.size w w2):=HB1.out.trans (hb2.mono HB1.out.size)
 have HO2:=Lib.hid (belObj hb2 HO1.out (lt_of_block HO1.out))
 clear hb2 x0 x1 x2 x3 x4 x5 x6 x7
 obtain ⟨⟨x0,x1,x2,x3,x4,x5,x6,x7⟩,_⟩:=cells8q HO2.out
 have HF2:=Lib.hid (HFAW.out w2)
 go_wp2_with fail
 refine HF2.out.mono ?_
 rintro e w3 ⟨rfl,hb3⟩
 have HB3 : Hid (Below w.heap.size w w3):=HB2.out.trans (hb3.mono HB2.out.size)
 have HO3:=Lib.hid (belObj hb3 HO2.out (lt_of_block HO2.out))
 clear hb3 x0 x1 x2 x3 x4 x5 x6 x7 HF2 HFAW
 obtain ⟨⟨x0,x1,x2,x3,x4,x5,x6,x7⟩,_⟩:=cells8q HO3.out
 cases hfr : fairB g nb [] acts.length
 ·clear hfr
  go_wp2
  go_ret
  exact ⟨rfl,HB3.out⟩
 ·have hfr2:=hfr
  unfold fairB at hfr2
  simp only [Bool.and_eq_true,decide_eq_true_eq] at hfr2
  obtain ⟨f1,f2,f3,f4,f5,f6⟩:=hfr2
  have hnb : ∃ n : Nat,nb = n:=by
   unfold possB at f3
   simp only [Bool.and_eq_true,decide_eq_true_eq] at f3
   exact ⟨nb.toNat,by omega⟩
  obtain ⟨n,rfl⟩:=hnb
  have HS : Hid (Small g n []):=⟨(validG_iff g).1 f1,f3,by simp,fun f hf=>absurd hf (by simp),rfl⟩
  have HAL : Hid (acts.length ≤ 80):=f4
  have HSZ120 : Hid (szN g ≤ 120):=f2
  clear hfr f1 f2 f3 f4 f5 f6
  have HA3 : Hid (Acts20In w3 A1 acts):=⟨(HC.out.a.rd.below HB3.out (Nat.le_refl _)).more HB3.out.size,HC.out.a.ok,HC.out.a.n⟩
  have HP : Hid (Calls Tryz.prog 25 #[.agg #[.int .i64 g.random,.int .i64 g.bands,.int .i64 g.tracks,.int .i64 g.sectors,.int .i64 g.overlap,.int .i64 (n : Int),.slice none 0 0,.slice A1 acts.length c1]] w3 fun e w'=>e = .returned (.bool true) ∧ Below w3.heap.size w3 w'):=plays_any HS.out RunF.nil none A1 0 c1 w3 (Rd.nil_ _ _ _) HA3.out HAL.out
  go_wp2_with fail
  refine HP.out.mono ?_
  rintro e w4 ⟨rfl,hb4⟩
  have HB4 : Hid (Below w.heap.size w w4):=HB3.out.trans (hb4.mono HB3.out.size)
  clear hb4
  go_wp2
  go_ret
  exact ⟨rfl,HB4.out⟩
set_option maxRecDepth 100000 in
theorem driveMap_lifted (os : Os) (started : os.Started) (H : Type) (enc : TypeId × Value → H) :
  ReturnsInHanded {} Tryz.checked os 5 .any (Rows.driveMapSpec.pre6 enc Tryz.prog Tryz.f5 Rows.driveMapRow.domain false) (Rows.driveMapSpec.post enc Tryz.prog Tryz.f5 false true false false):=by
 refine returnsInHanded_of_change (C:=Tryz.checked) own started (by kernel_rfl) Tryz.func5
  (ChangeSpec.witness6 (enc:=enc) (C:=Tryz.checked) false ⟨#[],#[.agg #[.int .i64 0,.int .i64 0,.int .i64 0,.int .i64 0,.int .i64 0,.int .i64 0,.slice none 0 0,.slice none 0 0]],[]⟩ 8 (by kernel_rfl) (by kernel_rfl) (by kernel_rfl) (by kernel_rfl)) ?_
 intro W base args ds gs before hval0 hW hcnd _
 have hval : ∀ (j : Nat) t v,Tryz.f5.params[j]? = some t → args[j]? = some v → Value.okWide Tryz.prog W .any base t v:=hval0
 have hW':=hW
 obtain ⟨p,q,hA0,hV,rfl,hfz,hnd⟩:=hW
 have hA : DataW.TrodAll enc Tryz.prog W 0 (fun _=>true) true Tryz.f5.params.toList args.toList ds p:=hA0
 rw [Tryz.params5] at hA hval
 obtain ⟨v0,vs0,d0,ds0,p0,q0,hargs,rfl,rfl,h0,r0⟩:=trodAll_cons hA
 obtain ⟨rfl,rfl,rfl⟩:=trodAll_nil r0
 obtain rfl : args = #[v0]:=by cases args; simp_all
 obtain ⟨rfl,rfl⟩:=trodVars_none hV
 have k0:=h0
 have lt0 : ∀ x ∈ p0,x.block < W.heap.size:=by obtain ⟨m,hm⟩:=k0; exact DataW.trod_lt m _ _ _ hm
 obtain ⟨g,nb,A0,A1,F,acts,c0,c1,rfl,hc⟩:=open_case20 (hval 0 _ _ rfl rfl) h0
 clear hA0 hval0
 refine (driveMap_walk g nb A0 A1 F acts c0 c1 W hc).mono fun e W' ⟨he,bel⟩=>?_
 subst he
 exact ⟨_,rfl,_,_,_,[],_,[],hW',trodAll_mk1 (shut_bool Tryz.underlying4 _),(trodAll_cons_mk (Below.trod laidOut (by kernel_rfl) (of_decide_eq_true (by kernel_rfl)) k0 bel lt0) trodAll_mk0),rfl,bel.frame _,fun h=>by cases h⟩
theorem driveMap_holds : Rows.DriveMapSaid:=
 OpenClaim.holds_of_wide 5 Tryz.f5 rfl rfl rfl rfl rfl rfl rfl ⟨rfl,rfl,rfl,rfl,rfl⟩ rfl rfl rfl rfl rfl (by kernel_rfl) Tryz.func5 (by kernel_rfl)
  (of_decide_eq_true (by kernel_rfl)) (by unfold Func.isWrapper; first | (rw [if_pos (by decide +kernel)]; kernel_rfl) | (rw [if_neg (by decide +kernel)]; exact ⟨rfl,rfl⟩))
  (fun os started H enc _=>driveMap_lifted os started H enc)
#print axioms driveMap_holds
end Go.Proofs.YtggkengmlkhdiaaGreat

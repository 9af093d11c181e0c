/-
  WHAT IS SHOWN: without power failures a drive on a disk whose operations are slow, but never more than eight in a row, shows the last entry of each block (DriveBusy), for any case. Conditions: none.
-/
import Derived.Test.YtggkengmlkhdiaaGreatM47
import Derived.Test.YtggkengmlkhdiaaGreatEB00
import Derived.Test.YtggkengmlkhdiaaGreatRows
namespace Go.Proofs.YtggkengmlkhdiaaGreat
set_option linter.unusedVariables false
open Go.ChangeShapes Go.WideShapes Go.ChangeAt Go.RowKit Go.Deep
structure U8In (w : World) (A : Option Addr) (xs : List Int) : Prop where
 rd : Rd w w.heap.size A (xs.map (Value.int .u8))
 ok : ∀ x ∈ xs,0 ≤ x ∧ x ≤ 255
 big : xs.length ≤ 9223372036854775807
section
variable {H : Type} {enc : TypeId × Value → H} {w : World} {base : Nat} {spare : Nat → Bool} {held : Bool}
theorem open_u8s {fuel : Nat} {v : Value} {y : DataW H × List MemPlace} (h : DataW.trod enc Tryz.prog w base spare held fuel 65 [v] = some y) : ∃ A xs c,v = .slice A xs.length c ∧ U8In w A xs:=by
 rcases open_slice Tryz.underlying65 h with ⟨hcs,_⟩ | ⟨a,len,cap,m,n,D,Pl,hcs,_,hl,hm,hmm,_,hel⟩
 ·simp at hcs
  subst hcs
  exact ⟨none,[],0,rfl,Rd.nil_ _ _ _,by simp,by simp⟩
 ·simp at hcs
  subst hcs
  have hlm : len ≤ m:=by rw [hmm]; split <;> omega
  obtain ⟨l,hll,hq⟩:=list_of (Q:=fun i (b : Int)=>(0 ≤ b ∧ b ≤ 255) ∧ w.cell? (a.add i) = some (.int .u8 b)) len (fun i hi=>by
   obtain ⟨cs',hc,ht⟩:=hel i (by omega)
   rw [cellsU8] at hc
   obtain ⟨_,hcl,hat⟩:=World.cells?_some hc
   match cs',hcl with
   | [c0],_=>
     obtain ⟨n0,e0,_,w0⟩:=DataW.trod_int Tryz.underlying5 ht
     simp at e0
     subst e0
     refine ⟨n0,u8_of w0,?_⟩
     have:=hat 0 (by omega)
     simpa [Go.Deep.add_add] using this)
  refine ⟨some a,l,cap,by rw [hll],rd_of_add fun j u hu=>?_,fun b hb=>?_,by unfold maxLen at hm; omega⟩
  ·rw [List.getElem?_map] at hu
   obtain ⟨x,hx,rfl⟩:=Option.map_eq_some_iff.1 hu
   exact (hq j x hx).2
  ·obtain ⟨i,hi⟩:=List.mem_iff_getElem?.1 hb
   exact (hq i b hi).1
end
set_option maxRecDepth 100000 in
set_option maxHeartbeats 16000000 in
theorem driveBusy_walk (g : Geo) (nb : Int) (A0 A1 A2 : Option Addr) (F0 : List Flt) (acts : List Act20) (xs : List Int) (c0 c1 c2 : Nat) (w : World) (hc : Case20In w g nb A0 A1 F0 acts) (hx : U8In w A2 xs) :
  Calls Tryz.prog 6 #[.agg #[.int .i64 g.random,.int .i64 g.bands,.int .i64 g.tracks,.int .i64 g.sectors,.int .i64 g.overlap,.int .i64 nb,.slice A0 F0.length c0,.slice A1 acts.length c1],.slice A2 xs.length c2] w fun e w'=>e = .returned (.bool true) ∧ Below w.heap.size w w':=by
 have hO0 : (w.alloc (.cells #[.int .i64 g.random,.int .i64 g.bands,.int .i64 g.tracks,.int .i64 g.sectors,.int .i64 g.overlap,.int .i64 nb,.slice A0 F0.length c0,.slice A1 acts.length c1] 46)).heap[w.heap.size]? = some (.cells #[.int .i64 g.random,.int .i64 g.bands,.int .i64 g.tracks,.int .i64 g.sectors,.int .i64 g.overlap,.int .i64 nb,.slice A0 F0.length c0,.slice A1 acts.length c1] 46 (0,0)):=heap_alloc_new _ _
 obtain ⟨⟨x0,x1,x2,x3,x4,x5,x6,x7⟩,⟨_,_,_,_,_,_,y6,_⟩⟩:=cells8q hO0
 have HB1 : Hid (Below w.heap.size w (w.alloc (.cells #[.int .i64 g.random,.int .i64 g.bands,.int .i64 g.tracks,.int .i64 g.sectors,.int .i64 g.overlap,.int .i64 nb,.slice none 0 0,.slice A1 acts.length c1] 46))):=(Below.refl _ _).alloc (Nat.le_refl _) _
 have HO1 : Hid ((w.alloc (.cells #[.int .i64 g.random,.int .i64 g.bands,.int .i64 g.tracks,.int .i64 g.sectors,.int .i64 g.overlap,.int .i64 nb,.slice none 0 0,.slice A1 acts.length c1] 46)).heap[w.heap.size]? = some (.cells #[.int .i64 g.random,.int .i64 g.bands,.int .i64 g.tracks,.int .i64 g.sectors,.int .i64 g.overlap,.int .i64 nb,.slice none 0 0,.slice A1 acts.length c1] 46 (0,0))):=heap_alloc_new _ _
 have HC:=Lib.hid hc
 have HX:=Lib.hid hx
 clear hc hx hO0
 obtain ⟨i0,hi,hz0,hz1,hz2⟩:=info_parts info_flt
 go_enter Tryz.func6,Tryz.ntmps6
 go_upto_region 2 with fail
 generalize (w.alloc (.cells #[.int .i64 g.random,.int .i64 g.bands,.int .i64 g.tracks,.int .i64 g.sectors,.int .i64 g.overlap,.int .i64 nb,.slice none 0 0,.slice A1 acts.length c1] 46)) = w0 at *
 clear x0 x1 x2 x3 x4 x5 x6 x7 y6
 have HLT:=Lib.hid (lt_of_block HO1.out)
 go_wp2
 go_loopw [5,6,7] (fun s5 s6 s7 wr=>∃ (k : Nat) (row at_ : Int) (F : List Flt) (A : Option Addr) (c : Nat),k ≤ xs.length ∧ k ≤ 60 ∧ s5 = .int .i64 row ∧ s6 = .int .i64 at_ ∧ s7 = .int .i64 k ∧ Hid (BusyI F row at_ k) ∧ Hid (wr.ownsRow (w.heap.size + 1) 49 3 (.slice A F.length c) F.length (flatF F)) ∧ Hid (wr.heap[w.heap.size]? = some (.cells #[.int .i64 g.random,.int .i64 g.bands,.int .i64 g.tracks,.int .i64 g.sectors,.int .i64 g.overlap,.int .i64 nb,.slice A F.length c,.slice A1 acts.length c1] 46 (0,0))) ∧ Hid (Below w.heap.size w wr)) (fun _ _ s7 _=>xs.length - (intOf s7).toNat)
 case atStart=>exact ⟨0,0,0,[],none,0,Nat.zero_le _,Nat.zero_le _,rfl,rfl,rfl,BusyI.nil,World.ownsRow_nil _ _ _ _,HO1.out,HB1.out⟩
 case round=>
  obtain ⟨k,row,at_,F,A,c,hk,hk60,rfl,rfl,rfl,HI,HW,HO,HB⟩:=hrel
  obtain ⟨⟨x0,x1,x2,x3,x4,x5,x6,x7⟩,⟨_,_,_,_,_,_,y6,_⟩⟩:=cells8q HO.out
  have HLR:=Lib.hid (lt_of_block HO.out)
  by_cases hlt2 : k < xs.length ∧ k < 60
  ·obtain ⟨hlt,h60⟩:=hlt2
   have hu:=List.getElem?_eq_getElem hlt
   have huk:=HX.out.ok xs[k] (List.getElem_mem hlt)
   generalize xs[k] = u at hu huk
   obtain ⟨ga,oa,hA,hga,hcu⟩:=HX.out.rd k _ (by rw [List.getElem?_map,hu]; rfl)
   subst hA
   have c2':=(HB.out.cell (p:=⟨ga,oa + k,none⟩) hga).trans hcu
   have hki : (k : Int) < (xs.length : Int):=by omega
   have hki2 : (k : Int) < 60:=by omega
   have hrow:=HI.out.r8
   have hat:=HI.out.at0
   have hq0 : 0 ≤ u / 4:=by omega
   have hq1 : u / 4 ≤ 63:=by omega
   clear hu hcu
   by_cases hz : 0 < u % 4
   ·have dz : decide (0 < u % 4) = true:=decide_eq_true hz
    have HI2:=Lib.hid (HI.out.skip hq0 hq1)
    go_wp2
    go_roundw
    case rel=>exact ⟨k + 1,0,at_ + (1 + u / 4),F,A,c,by omega,by omega,rfl,rfl,by go_num,HI2,HW,HO,HB⟩
    case measure=>simp [intOf]; omega
   ·have dz : decide (0 < u % 4) = false:=decide_eq_false hz
    clear hz
    by_cases hr8 : row = 8
    ·have dr : (row == 8) = true:=by simpa using hr8
     have HI2:=Lib.hid (HI.out.skip hq0 hq1)
     go_wp2
     go_roundw
     case rel=>exact ⟨k + 1,0,at_ + (1 + u / 4),F,A,c,by omega,by omega,rfl,rfl,by go_num,HI2,HW,HO,HB⟩
     case measure=>simp [intOf]; omega
    ·have dr : (row == 8) = false:=by simpa using hr8
     have HI2:=Lib.hid (HI.out.push hr8)
     have hfl:=HI.out.len
     have hlo:=HB.out.size
     clear hr8
     go_wp2_with (at_builtin; refine wpList_append_own _ rfl _ _ 43 rfl (w.heap.size + 1) 49 i0 _ 3 24 Tryz.underlying43 hi hz0 hz1 hz2 rfl (by decide) _ F.length (flatF F) rfl (HW.out.alloc _) ⟨wr.heap.size,0,none⟩ 1 1 [.int .i64 at_,.int .i64 6,.int .i64 0] rfl rfl (World.news_of_block (heap_alloc_new _ _)) (by intro u hu; simp at hu; rcases hu with rfl | rfl | rfl <;> rfl) ?c1 ?c2 ?c3 ?_)
     case c1=>unfold maxLen; omega
     case c2=>omega
     case c3=>first | omega | (have:=HLR.out; simp; omega)
     intro v' w5 hown hgrow hiff
     obtain ⟨DA',dc',hv⟩:=own_form hown
     subst hv
     have hq : Below (w.heap.size + 1) wr w5:=((Below.refl _ _).alloc (Nat.succ_le_of_lt HLR.out) _).grown hgrow (by have:=HLR.out; simp; omega) (fun k hk=>own_low HW.out hk)
     have hO5 : w5.heap[w.heap.size]? = some (.cells #[.int .i64 g.random,.int .i64 g.bands,.int .i64 g.tracks,.int .i64 g.sectors,.int .i64 g.overlap,.int .i64 nb,.slice A F.length c,.slice A1 acts.length c1] 46 (0,0)):=belObj hq HO.out (Nat.lt_succ_self _)
     have HB5 : Hid (Below w.heap.size w w5):=HB.out.trans ⟨hq.os,hq.tape,hq.output,hq.size,fun i hi=>hq.block i (by omega)⟩
     have HW5 : Hid (w5.ownsRow (w.heap.size + 1) 49 3 (.slice DA' (F.length + 1) dc') (F.length + 1) (flatF F ++ [.int .i64 at_,.int .i64 6,.int .i64 0])):=hown
     have HO6 : Hid ((w5.setCell ⟨w.heap.size,6,none⟩ (.slice DA' (F.length + 1) dc')).heap[w.heap.size]? = some (.cells #[.int .i64 g.random,.int .i64 g.bands,.int .i64 g.tracks,.int .i64 g.sectors,.int .i64 g.overlap,.int .i64 nb,.slice DA' (F.length + 1) dc',.slice A1 acts.length c1] 46 (0,0))):=heap_setQ (l:=[.int .i64 g.random,.int .i64 g.bands,.int .i64 g.tracks,.int .i64 g.sectors,.int .i64 g.overlap,.int .i64 nb,.slice A F.length c,.slice A1 acts.length c1]) hO5 6 (.slice DA' (F.length + 1) dc')
     have hks : Kept (fun k=>k = w.heap.size) w5 (w5.setCell ⟨w.heap.size,6,none⟩ (.slice DA' (F.length + 1) dc')):=(Kept.refl (fun k=>k = w.heap.size) _).setCell (p:=⟨w.heap.size,6,none⟩) (fun _=>rfl) _
     have HW6 : Hid ((w5.setCell ⟨w.heap.size,6,none⟩ (.slice DA' (F.length + 1) dc')).ownsRow (w.heap.size + 1) 49 3 (.slice DA' (F.length + 1) dc') (F.length + 1) (flatF F ++ [.int .i64 at_,.int .i64 6,.int .i64 0])):=own_kept hown hks (fun k hk e=>by have:=own_low hown hk; omega)
     have HB6 : Hid (Below w.heap.size w (w5.setCell ⟨w.heap.size,6,none⟩ (.slice DA' (F.length + 1) dc'))):=HB5.out.trans (hks.below (fun i hi=>Nat.le_of_eq hi.symm) HB5.out.size)
     clear x0 x1 x2 x3 x4 x5 x6 x7 y6 hown hgrow hiff hq hks
     obtain ⟨⟨x0,x1,x2,x3,x4,x5,x6,x7⟩,⟨_,_,_,_,_,_,y6,_⟩⟩:=cells8q hO5
     clear hO5
     go_wp2
     go_roundw
     case rel=>exact ⟨k + 1,row + 1,at_ + 1,F ++ [⟨at_,6,0⟩],DA',dc',by omega,by omega,by go_num,by go_num,by go_num,HI2,by rw [List.length_append,← flatF_push]; exact HW6,by rw [List.length_append]; exact HO6,HB6⟩
     case measure=>simp [intOf]; omega
  ·have hki : (¬ (k : Int) < (xs.length : Int) ∧ decide (k < xs.length) = false) ∨ ((k : Int) < (xs.length : Int) ∧ ¬ (k : Int) < 60 ∧ decide ((k : Int) < 60) = false ∧ decide (k < 60) = false):=by
    by_cases h1 : k < xs.length
    ·exact .inr ⟨by omega,by omega,decide_eq_false (by omega),decide_eq_false (by omega)⟩
    ·exact .inl ⟨by omega,decide_eq_false (by omega)⟩
   have HFAW : Hid (∀ W,Below wr.heap.size wr W → Calls Tryz.prog 22 #[.agg #[.int .i64 g.random,.int .i64 g.bands,.int .i64 g.tracks,.int .i64 g.sectors,.int .i64 g.overlap,.int .i64 nb,.slice A F.length c,.slice A1 acts.length c1]] W fun e w'=>e = .returned (.bool (fairB g nb F acts.length)) ∧ Below W.heap.size W w'):=fun W hW=>fair_any g nb F A A1 c c1 acts.length W HC.out.a.n (((Rd.of_own HW.out).below hW (Nat.le_refl _)).more hW.size) (by have:=HI.out.len; omega)
   have HRD : Hid (∀ W,Below wr.heap.size wr W → Rd W W.heap.size A (flatF F)):=fun W hW=>((Rd.of_own HW.out).below hW (Nat.le_refl _)).more hW.size
   have HK60 : Hid (k ≤ 60):=hk60
   clear HW y6 hlt2 hk60 hk hi hz0 hz1 hz2 HX
   rcases hki with ⟨d1,d2⟩ | ⟨d1,d2,d3,d4⟩
   all_goals
    go_wp2_with fail
    refine (awake20_any _).mono ?_
    rintro e w1 ⟨rfl,hb1⟩
    have HB1:=Lib.hid (HB.out.trans (hb1.mono HB.out.size))
    have HW1:=Lib.hid hb1
    have HO1:=Lib.hid (belObj hb1 HO.out HLR.out)
    have HF1:=Lib.hid (HFAW.out w1 hb1)
    clear hb1 x0 x1 x2 x3 x4 x5 x6 x7
    obtain ⟨⟨x0,x1,x2,x3,x4,x5,x6,x7⟩,_⟩:=cells8q HO1.out
    go_wp2_with fail
    refine HF1.out.mono ?_
    rintro e w2 ⟨rfl,hb2⟩
    have HB2:=Lib.hid (HB1.out.trans (hb2.mono HB1.out.size))
    have HW2 : Hid (Below wr.heap.size wr w2):=HW1.out.trans (hb2.mono HW1.out.size)
    have HO2:=Lib.hid (belObj hb2 HO1.out (lt_of_block HO1.out))
    clear hb2 x0 x1 x2 x3 x4 x5 x6 x7 HF1 HFAW
    obtain ⟨⟨x0,x1,x2,x3,x4,x5,x6,x7⟩,_⟩:=cells8q HO2.out
    cases hfr : fairB g nb F acts.length
    ·clear hfr
     go_wp2
     go_ret
     exact ⟨rfl,HB2.out⟩
    ·have hfr2:=hfr
     unfold fairB at hfr2
     simp only [Bool.and_eq_true,decide_eq_true_eq] at hfr2
     obtain ⟨f1,f2,f3,f4,f5,f6⟩:=hfr2
     have hnb : ∃ n : Nat,nb = n:=by
      unfold possB at f3
      simp only [Bool.and_eq_true,decide_eq_true_eq] at f3
      exact ⟨nb.toNat,by omega⟩
     obtain ⟨n,rfl⟩:=hnb
     have HS : Small g n F:=⟨(validG_iff g).1 f1,f3,f5,HI.out.i64,f6⟩
     have HA3 : Acts20In w2 A1 acts:=⟨(HC.out.a.rd.below HB2.out (Nat.le_refl _)).more HB2.out.size,HC.out.a.ok,HC.out.a.n⟩
     have HP:=Lib.hid (plays_any HS (HI.out.run HK60.out) A A1 c c1 w2 (HRD.out w2 HW2.out) HA3 f4)
     clear hfr f1 f2 f3 f4 f5 f6 HS HA3
     go_wp2_with fail
     refine HP.out.mono ?_
     rintro e w4 ⟨rfl,hb4⟩
     have HB4:=Lib.hid (HB2.out.trans (hb4.mono HB2.out.size))
     clear hb4
     go_wp2
     go_ret
     exact ⟨rfl,HB4.out⟩
set_option maxRecDepth 100000 in
theorem driveBusy_lifted (os : Os) (started : os.Started) (H : Type) (enc : TypeId × Value → H) :
  ReturnsInHanded {} Tryz.checked os 6 .any (Rows.driveBusySpec.pre6 enc Tryz.prog Tryz.f6 Rows.driveBusyRow.domain false) (Rows.driveBusySpec.post enc Tryz.prog Tryz.f6 false true false false):=by
 refine returnsInHanded_of_change (C:=Tryz.checked) own started (by kernel_rfl) Tryz.func6
  (ChangeSpec.witness6 (enc:=enc) (C:=Tryz.checked) false ⟨#[],#[.agg #[.int .i64 0,.int .i64 0,.int .i64 0,.int .i64 0,.int .i64 0,.int .i64 0,.slice none 0 0,.slice none 0 0],.slice none 0 0],[]⟩ 8 (by kernel_rfl) (by kernel_rfl) (by kernel_rfl) (by kernel_rfl)) ?_
 intro W base args ds gs before hval0 hW hcnd _
 have hval : ∀ (j : Nat) t v,Tryz.f6.params[j]? = some t → args[j]? = some v → Value.okWide Tryz.prog W .any base t v:=hval0
 have hW':=hW
 obtain ⟨p,q,hA0,hV,rfl,hfz,hnd⟩:=hW
 have hA : DataW.TrodAll enc Tryz.prog W 0 (fun _=>true) true Tryz.f6.params.toList args.toList ds p:=hA0
 rw [Tryz.params6] at hA hval
 obtain ⟨v0,vs0,d0,ds0,p0,q0,hargs,rfl,rfl,h0,r0⟩:=trodAll_cons hA
 obtain ⟨v1,vs1,d1,ds1,p1,q1,rfl,rfl,rfl,h1,r1⟩:=trodAll_cons r0
 obtain ⟨rfl,rfl,rfl⟩:=trodAll_nil r1
 obtain rfl : args = #[v0,v1]:=by cases args; simp_all
 obtain ⟨rfl,rfl⟩:=trodVars_none hV
 have k0:=h0
 have lt0 : ∀ x ∈ p0,x.block < W.heap.size:=by obtain ⟨m,hm⟩:=k0; exact DataW.trod_lt m _ _ _ hm
 have k1:=h1
 have lt1 : ∀ x ∈ p1,x.block < W.heap.size:=by obtain ⟨m,hm⟩:=k1; exact DataW.trod_lt m _ _ _ hm
 obtain ⟨g,nb,A0,A1,F,acts,c0,c1,rfl,hc⟩:=open_case20 (hval 0 _ _ rfl rfl) h0
 obtain ⟨a2,n2,k2,rfl⟩:=Go.WideShapes.okWide_slice Tryz.underlying65 (hval 1 _ _ rfl rfl)
 obtain ⟨A2,xs,c2,hv2,hx⟩ : ∃ A xs c,Value.slice a2 n2 k2 = .slice A xs.length c ∧ U8In W A xs:=by obtain ⟨fuel,hf⟩:=h1; exact open_u8s hf
 injection hv2 with e1 e2 e3
 subst e1 e2 e3
 clear hA0 hval0
 refine (driveBusy_walk g nb A0 A1 _ F acts xs c0 c1 _ W hc hx).mono fun e W' ⟨he,bel⟩=>?_
 subst he
 exact ⟨_,rfl,_,_,_,[],_,[],hW',trodAll_mk1 (shut_bool Tryz.underlying4 _),(trodAll_cons_mk (Below.trod laidOut (by kernel_rfl) (of_decide_eq_true (by kernel_rfl)) k0 bel lt0) (trodAll_cons_mk (Below.trod laidOut (by kernel_rfl) (of_decide_eq_true (by kernel_rfl)) k1 bel lt1) trodAll_mk0)),rfl,bel.frame _,fun h=>by cases h⟩
theorem driveBusy_holds : Rows.DriveBusySaid:=
 OpenClaim.holds_of_wide 6 Tryz.f6 rfl rfl rfl rfl rfl rfl rfl ⟨rfl,rfl,rfl,rfl,rfl⟩ rfl rfl rfl rfl rfl (by kernel_rfl) Tryz.func6 (by kernel_rfl)
  (of_decide_eq_true (by kernel_rfl)) (by unfold Func.isWrapper; first | (rw [if_pos (by decide +kernel)]; kernel_rfl) | (rw [if_neg (by decide +kernel)]; exact ⟨rfl,rfl⟩))
  (fun os started H enc _=>driveBusy_lifted os started H enc)
#print axioms driveBusy_holds
end Go.Proofs.YtggkengmlkhdiaaGreat

/-
  WHAT IS SHOWN: whatever faults other than FaultTear the disk has, Read returns only versions and data that were written for the block (DriveHonest), for any case. Conditions: none.
-/
import Derived.Test.YtggkengmlkhdiaaGreatH42
namespace Go.Proofs.YtggkengmlkhdiaaGreat
set_option linter.unusedVariables false
open Go.ChangeShapes Go.WideShapes Go.ChangeAt Go.RowKit
theorem tear_no {F : List Flt} (h : ∀ k,k < F.length → ∀ f,F[k]? = some f → f.kind ≠ 2) : NoTear F:=fun f hf=>by
 obtain ⟨k,hk⟩:=List.mem_iff_getElem?.1 hf
 exact h k (List.getElem?_eq_some_iff.1 hk).1 f hk
set_option maxRecDepth 100000 in
set_option maxHeartbeats 16000000 in
theorem driveHonest_walk (g : Geo) (nb : Int) (A0 A1 : Option Addr) (F : List Flt) (acts : List Act20) (c0 c1 : Nat) (w : World) (hc : Case20In w g nb A0 A1 F acts) :
  Calls Tryz.prog 4 #[.agg #[.int .i64 g.random,.int .i64 g.bands,.int .i64 g.tracks,.int .i64 g.sectors,.int .i64 g.overlap,.int .i64 nb,.slice A0 F.length c0,.slice A1 acts.length c1]] w fun e w'=>e = .returned (.bool true) ∧ Below w.heap.size w w':=by
 have HB0 : Hid (Below w.heap.size w (w.alloc (.cells #[.int .i64 g.random,.int .i64 g.bands,.int .i64 g.tracks,.int .i64 g.sectors,.int .i64 g.overlap,.int .i64 nb,.slice A0 F.length c0,.slice A1 acts.length c1] 46))):=(Below.refl _ _).alloc (Nat.le_refl _) _
 have HO0 : Hid ((w.alloc (.cells #[.int .i64 g.random,.int .i64 g.bands,.int .i64 g.tracks,.int .i64 g.sectors,.int .i64 g.overlap,.int .i64 nb,.slice A0 F.length c0,.slice A1 acts.length c1] 46)).heap[w.heap.size]? = some (.cells #[.int .i64 g.random,.int .i64 g.bands,.int .i64 g.tracks,.int .i64 g.sectors,.int .i64 g.overlap,.int .i64 nb,.slice A0 F.length c0,.slice A1 acts.length c1] 46 (0,0))):=heap_alloc_new _ _
 obtain ⟨⟨x0,x1,x2,x3,x4,x5,x6,x7⟩,_⟩:=cells8q HO0.out
 have HC:=Lib.hid hc
 have HFA : Hid (∀ W,Below w.heap.size w W → Calls Tryz.prog 22 #[.agg #[.int .i64 g.random,.int .i64 g.bands,.int .i64 g.tracks,.int .i64 g.sectors,.int .i64 g.overlap,.int .i64 nb,.slice A0 F.length c0,.slice A1 acts.length c1]] W fun e w'=>e = .returned (.bool (fairB g nb F acts.length)) ∧ Below W.heap.size W w'):=fun W hW=>fair_any g nb F A0 A1 c0 c1 acts.length W HC.out.a.n ((HC.out.f.rd.below hW (Nat.le_refl _)).more hW.size) HC.out.f.n
 have HFR : Hid (∀ k f,F[k]? = some f → ∃ ga oa,A0 = some ⟨ga,oa,none⟩ ∧ ga < w.heap.size ∧ w.cell? ⟨ga,oa + k * 3 + 1,none⟩ = some (.int .i64 f.kind)):=fun k f hk=>by
  have e : (flatF F)[k * 3 + 1]? = f.cells[1]?:=by unfold flatF; rw [flat_get _ 3 fltcells_len F k 1 (by decide),hk]; rfl
  obtain ⟨ga,oa,e0,hg,h0⟩:=HC.out.f.rd (k * 3 + 1) _ e
  exact ⟨ga,oa,e0,hg,by rw [Nat.add_assoc]; exact h0⟩
 clear hc
 go_enter Tryz.func4,Tryz.ntmps4
 go_upto_region 1 with fail
 generalize (w.alloc (.cells #[.int .i64 g.random,.int .i64 g.bands,.int .i64 g.tracks,.int .i64 g.sectors,.int .i64 g.overlap,.int .i64 nb,.slice A0 F.length c0,.slice A1 acts.length c1] 46)) = w0 at *
 go_wp2_with fail
 refine (awake20_any _).mono ?_
 rintro e w1 ⟨rfl,hb1⟩
 have HB1 : Hid (Below w.heap.size w w1):=HB0.out.trans (hb1.mono HB0.out.size)
 have HO1:=Lib.hid (belObj hb1 HO0.out (lt_of_block HO0.out))
 clear hb1 x0 x1 x2 x3 x4 x5 x6 x7
 obtain ⟨⟨x0,x1,x2,x3,x4,x5,x6,x7⟩,_⟩:=cells8q HO1.out
 have HF1:=Lib.hid (HFA.out _ HB1.out)
 go_wp2_with fail
 refine HF1.out.mono ?_
 rintro e w2 ⟨rfl,hb2⟩
 have HB2 : Hid (Below w.heap.size w w2):=HB1.out.trans (hb2.mono HB1.out.size)
 have HO2:=Lib.hid (belObj hb2 HO1.out (lt_of_block HO1.out))
 clear hb2 x0 x1 x2 x3 x4 x5 x6 x7 HF1 HFA
 cases hfr : fairB g nb F acts.length
 ·go_wp2_with fail
  refine (awake20_any _).mono ?_
  rintro e w3 ⟨rfl,hb3⟩
  have HB3 : Hid (Below w.heap.size w w3):=HB2.out.trans (hb3.mono HB2.out.size)
  clear hb3
  go_wp2
  go_ret
  exact ⟨rfl,HB3.out⟩
 ·have hfr2:=hfr
  unfold fairB at hfr2
  simp only [Bool.and_eq_true,decide_eq_true_eq] at hfr2
  obtain ⟨f1,f2,f3,f4,f5,f6⟩:=hfr2
  have HFA : Hid (Vg g ∧ szN g ≤ 120 ∧ possB g nb = true ∧ acts.length ≤ 80 ∧ F.length ≤ 40 ∧ validF F = true):=⟨(validG_iff g).1 f1,f2,f3,f4,f5,f6⟩
  have hnb : ∃ n : Nat,nb = n:=by
   unfold possB at f3
   simp only [Bool.and_eq_true,decide_eq_true_eq] at f3
   exact ⟨nb.toNat,by omega⟩
  obtain ⟨n,rfl⟩:=hnb
  have hfl40 : F.length ≤ 40:=f5
  clear hfr f1 f2 f3 f4 f5 f6
  obtain ⟨⟨x0,x1,x2,x3,x4,x5,x6,x7⟩,_⟩:=cells8q HO2.out
  go_wp2
  go_loopw [3] (fun i wr=>∃ k : Nat,k ≤ F.length ∧ i = .int .i64 k ∧ wr = w2 ∧ Hid (∀ j,j < k → ∀ f,F[j]? = some f → f.kind ≠ 2)) (fun i _=>F.length - (intOf i).toNat)
  case atStart=>exact ⟨0,Nat.zero_le _,rfl,rfl,fun j hj=>absurd hj (by omega)⟩
  case round=>
   obtain ⟨k,hk,rfl,rfl,HNT⟩:=hrel
   by_cases hlt : k < F.length
   ·have hf:=List.getElem?_eq_getElem hlt
    generalize F[k] = f at hf
    obtain ⟨ga,oa,hA,hga,hcf⟩:=HFR.out k f hf
    subst hA
    have d1 : decide ((k : Int) < (F.length : Int)) = true:=decide_eq_true (by omega)
    have c2:=(HB2.out.cell (p:=⟨ga,oa + k * 3 + 1,none⟩) hga).trans hcf
    have hki : (k : Int) < (F.length : Int):=by omega
    have HF:=Lib.hid hf
    clear hf hcf
    by_cases hk2 : f.kind = 2
    ·have e2 : (f.kind == 2) = true:=by simpa using hk2
     clear hk2
     go_wp2
     go_ret
     exact ⟨rfl,HB2.out⟩
    ·have e2 : (f.kind == 2) = false:=by simpa using hk2
     have HN : Hid (∀ j,j < k + 1 → ∀ f,F[j]? = some f → f.kind ≠ 2):=by
      intro j hj f' hf'
      by_cases e : j = k
      ·subst e; rw [HF.out] at hf'; injection hf' with hf'; subst hf'; exact hk2
      ·exact HNT.out j (by omega) f' hf'
     clear hk2
     go_wp2
     go_roundw
     case rel=>exact ⟨k + 1,hlt,by go_num,trivial,HN⟩
     case measure=>simp [intOf]; omega
   ·obtain rfl : k = F.length:=by omega
    have d1 : decide ((F.length : Int) < (F.length : Int)) = false:=decide_eq_false (by omega)
    have HTF : Hid (NoTear F):=tear_no HNT.out
    have HS:=Lib.hid (start_any g n F A0 A1 c0 c1 acts.length wr HFA.out.1 HFA.out.2.2.1 ((HC.out.f.rd.below HB2.out (Nat.le_refl _)).more HB2.out.size) HFA.out.2.2.2.2.2 (by omega))
    have HNN : Hid (1 ≤ n ∧ n ≤ 65536):=by
     have:=HFA.out.2.2.1
     unfold possB at this
     simp only [Bool.and_eq_true,decide_eq_true_eq] at this
     exact ⟨by omega,by omega⟩
    clear HNT HFR
    go_wp2_with fail
    refine HS.out.mono ?_
    rintro e w3 ⟨hb3,hpo⟩
    have HB3 : Hid (Below w.heap.size w w3):=HB2.out.trans (hb3.mono HB2.out.size)
    have HO3:=Lib.hid (belObj hb3 HO2.out (lt_of_block HO2.out))
    have HLN : Hid (w.heap.size < wr.heap.size):=lt_of_block HO2.out
    have HSZ : Hid (wr.heap.size ≤ w3.heap.size):=hb3.size
    clear hb3 HS d1 x0 x1 x2 x3 x4 x5 x6 x7
    obtain ⟨⟨x0,x1,x2,x3,x4,x5,x6,x7⟩,_⟩:=cells8q HO3.out
    have HON : Hid ((newDD g F 0 (d0N g)).2 = 0 → HonI g n 0 (R0 g F n)):=fun h0=>hon0 HFA.out.1 HNN.out h0
    generalize hRI : R0 g F n = RI at *
    generalize hND : (newDD g F 0 (d0N g)).2 = er at *
    clear hRI hND
    by_cases h0 : er = 0
    ·subst h0
     rw [if_pos rfl] at hpo
     obtain ⟨r,q,pw,rfl,p,ha,hc,fa,fc,hs,hr0⟩:=hpo
     have HI0:=Lib.hid (HON.out rfl)
     have HR0 : Hid (RigM w3 wr.heap.size r q pw g F n RI):=⟨p,ha,hc,fa,fc,hs,hr0⟩
     obtain ⟨z0,z1,z2,z3,z4,z5,z6⟩:=hr0.cells
     clear hr0 HON
     go_wp2
     clear z0 z1 z2 z3 z4 z5 z6 x0 x1 x2 x3 x4 x5 x6 x7
     generalize wr.heap.size = N at *
     have hal : acts.length ≤ 80:=HFA.out.2.2.2.1
     go_loopw [6,7,8,9,10,11,12,13] (fun s6 s7 s8 s9 s10 s11 s12 s13 wx=>∃ (j : Nat) (R : RG),j ≤ acts.length ∧ s6 = .int .i64 j ∧ Hid (RigM wx N r q pw g F n R) ∧ Hid (HonI g n j R) ∧ Hid (Below N w3 wx)) (fun s6 _ _ _ _ _ _ _ _=>acts.length - (intOf s6).toNat)
     case atStart=>exact ⟨0,RI,Nat.zero_le _,rfl,HR0,HI0,Below.refl _ _⟩
     case round=>
      obtain ⟨j,R,hj,rfl,HRX,HIX,HBX⟩:=hrel
      have HOX:=Lib.hid (belObj HBX.out HO3.out HLN.out)
      obtain ⟨⟨x0,x1,x2,x3,x4,x5,x6,x7⟩,_⟩:=cells8q HOX.out
      have HBW : Hid (Below w.heap.size w wr):=HB3.out.trans (HBX.out.mono (Nat.le_of_lt HLN.out))
      by_cases hlt : j < acts.length
      ·have ha0:=List.getElem?_eq_getElem hlt
       have hai:=HC.out.a.ok acts[j] (List.getElem_mem hlt)
       generalize acts[j] = a at ha0 hai
       have HAI:=Lib.hid hai
       have HCA : Hid (∀ W,Below w.heap.size w W → ∃ ga oa,A1 = some ⟨ga,oa,none⟩ ∧ ga < w.heap.size ∧ W.cell? ⟨ga,oa + j * 3,none⟩ = some (.int .u8 a.kind) ∧ W.cell? ⟨ga,oa + j * 3 + 1,none⟩ = some (.int .i64 a.blk) ∧ W.cell? ⟨ga,oa + j * 3 + 2,none⟩ = some (.int .u8 a.data)):=fun W hW=>acts20_at (HC.out.a.rd.below hW (Nat.le_refl _)) ha0
       obtain ⟨ga,oa,hA,_,a0,a1,a2⟩:=HCA.out wr HBW.out
       subst hA
       have HCB : Hid (∀ W,Below w.heap.size w W → W.cell? ⟨ga,oa + j * 3 + 1,none⟩ = some (.int .i64 a.blk)):=fun W hW=>by
        obtain ⟨g2,o2,e2,_,_,h1,_⟩:=HCA.out W hW
        injection e2 with e2; injection e2 with e2 e3; subst e2; subst e3; exact h1
       have d1 : decide ((j : Int) < (acts.length : Int)) = true:=decide_eq_true (by omega)
       have d2 : decide (j < acts.length) = true:=decide_eq_true hlt
       have hji : (j : Int) < (acts.length : Int):=by omega
       have HDO:=Lib.hid (do_any (kind:=a.kind) (blk:=a.blk) (data:=a.data) hai.kd.1 (by have:=hai.data; omega) (hon_in HIX.out (by omega) HC.out.f.to_ HFA.out.2.2.2.2.1 HFA.out.2.2.1) HRX.out)
       clear ha0 hai HCA
       go_wp2_with fail
       refine HDO.out.mono ?_
       rintro e w5 ⟨R5,er5,hact,rfl,hr5,hk5⟩
       have HI5 : Hid (HonI g n (j + 1) R5):=act_hon HTF.out HNN.out (by have:=HAI.out.data; simp only; omega) (by omega) HIX.out hact
       have HZX : Hid (N ≤ wr.heap.size):=Nat.le_trans HSZ.out HBX.out.size
       have HB5 : Hid (Below N w3 w5):=HBX.out.trans (hk5.below HZX.out)
       have HR5:=Lib.hid hr5
       have HZ5 : Hid (N ≤ w5.heap.size):=Nat.le_trans HSZ.out HB5.out.size
       have HO5:=Lib.hid (belObj HB5.out HO3.out HLN.out)
       have HW5 : Hid (Below w.heap.size w w5):=HB3.out.trans (HB5.out.mono (Nat.le_of_lt HLN.out))
       clear hact hr5 hk5 HDO HRX HIX HBX HOX HBW HZX x0 x1 x2 x3 x4 x5 x6 x7 a0 a1 a2
       obtain ⟨⟨x0,x1,x2,x3,x4,x5,x6,x7⟩,_⟩:=cells8q HO5.out
       have a1:=HCB.out w5 HW5.out
       by_cases hb0 : a.blk < 0
       ·have e0 : decide (a.blk < 0) = true:=decide_eq_true hb0
        go_wp2
        go_roundw
        case rel=>exact ⟨j + 1,R5,hlt,by go_num,HR5,HI5,HB5⟩
        case measure=>simp [intOf]; omega
       ·have e0 : decide (a.blk < 0) = false:=decide_eq_false hb0
        by_cases hbn : (n : Int) ≤ a.blk
        ·have e3 : decide ((n : Int) ≤ a.blk) = true:=decide_eq_true hbn
         go_wp2
         go_roundw
         case rel=>exact ⟨j + 1,R5,hlt,by go_num,HR5,HI5,HB5⟩
         case measure=>simp [intOf]; omega
        ·have e3 : decide ((n : Int) ≤ a.blk) = false:=decide_eq_false hbn
         obtain ⟨p,ha,hc,fa,fc,hs,h5⟩:=HR5.out
         obtain ⟨ea,ec,BA,bc,hd⟩:=h5.drv
         obtain ⟨b,hab⟩ : ∃ b : Nat,a.blk = (b : Int):=⟨a.blk.toNat,by omega⟩
         rw [hab] at hb0 hbn e0 e3 a1 HCB
         have HBN : Hid (b < n):=by unfold Hid; omega
         have e4 : decide (n ≤ b) = false:=decide_eq_false (by omega)
         have HRD:=Lib.hid (read20_any (key:=0) (b : Int) HI5.out.u8 HC.out.f.n hd)
         have HOK:=Lib.hid (okK_all (F:=F) (b:=b) HI5.out)
         have HIR:=Lib.hid (hon_rd (F:=F) (b:=(b : Int)) HI5.out)
         have hl8:=readX_len (g:=g) (F:=F) (key:=0) (b:=(b : Int)) (S:=R5.S)
         have hbl : b < hs.length:=by rw [h5.hl,HI5.out.hl]; exact HBN.out
         have HKK:=Lib.hid (List.getElem?_eq_getElem hbl)
         generalize hs[b] = k at HKK
         have HXS : Hid (R5.hist.getD b [] = k.xs):=by
          unfold Hid
          rw [← h5.hh,List.getD,List.getElem?_map,HKK.out]; rfl
         unfold Hid at HOK
         rw [HXS.out] at HOK
         have HOK:=Lib.hid HOK
         unfold ReadTo20 at HRD
         obtain ⟨dd0,dd1,dd2,dd3,dd4,dd5,dd6,dd7,hdt⟩:=len8 hl8
         have H5:=Lib.hid h5
         rw [hdt] at HOK HRD
         clear hl8 hdt hb0 hbn hbl hab
         generalize readE20 g F 0 R5.S (b : Int) = rer at *
         generalize (readX20 g F 0 R5.S (b : Int)).ver = rv at *
         generalize hS6 : readS20 g F 0 R5.S (b : Int) = S6 at *
         clear hS6 hd
         obtain ⟨z0,z1,z2,z3,z4,z5,z6⟩:=h5.cells
         clear h5
         simp only [List.map_cons,List.map_nil] at HRD
         go_wp2_with fail
         refine HRD.out.mono ?_
         rintro e w6 ⟨rfl,BA6,bc6,hd6,hk6⟩
         have HR6:=Lib.hid (H5.out.drive ⟨ea,ec,BA6,bc6,hd6⟩ hk6)
         have HB6 : Hid (Below N w3 w6):=HB5.out.trans (hk6.below HZ5.out)
         have HZ6 : Hid (N ≤ w6.heap.size):=Nat.le_trans HSZ.out HB6.out.size
         clear hd6 hk6 HRD H5 HR5 HI5 HB5 HZ5 HO5 HW5 x0 x1 x2 x3 x4 x5 x6 x7 z0 z1 z2 z3 z4 z5 z6 a1
         have hX7 : (w6.alloc (.cells #[.int .u8 dd0,.int .u8 dd1,.int .u8 dd2,.int .u8 dd3,.int .u8 dd4,.int .u8 dd5,.int .u8 dd6,.int .u8 dd7] 27)).heap[w6.heap.size]? = some (.cells #[.int .u8 dd0,.int .u8 dd1,.int .u8 dd2,.int .u8 dd3,.int .u8 dd4,.int .u8 dd5,.int .u8 dd6,.int .u8 dd7] 27 (0,0)):=heap_alloc_new _ _
         have hB7 : Below w6.heap.size w6 (w6.alloc (.cells #[.int .u8 dd0,.int .u8 dd1,.int .u8 dd2,.int .u8 dd3,.int .u8 dd4,.int .u8 dd5,.int .u8 dd6,.int .u8 dd7] 27)):=(Below.refl _ _).alloc (Nat.le_refl _) _
         have HR7:=Lib.hid (HR6.out.below0 hB7)
         have HX7:=Lib.hid hX7
         have HB7 : Hid (Below N w3 (w6.alloc (.cells #[.int .u8 dd0,.int .u8 dd1,.int .u8 dd2,.int .u8 dd3,.int .u8 dd4,.int .u8 dd5,.int .u8 dd6,.int .u8 dd7] 27))):=HB6.out.trans (hB7.mono HZ6.out)
         have HZ7 : Hid (N ≤ (w6.alloc (.cells #[.int .u8 dd0,.int .u8 dd1,.int .u8 dd2,.int .u8 dd3,.int .u8 dd4,.int .u8 dd5,.int .u8 dd6,.int .u8 dd7] 27)).heap.size):=Nat.le_trans HZ6.out hB7.size
         clear hX7 hB7 HR6 HB6 HZ6
         go_upto_region 18 with fail
         generalize (w6.alloc (.cells #[.int .u8 dd0,.int .u8 dd1,.int .u8 dd2,.int .u8 dd3,.int .u8 dd4,.int .u8 dd5,.int .u8 dd6,.int .u8 dd7] 27)) = w7 at *
         generalize w6.heap.size = b7 at *
         have HE0 : Hid (okK rer rv [dd0,dd1,dd2,dd3,dd4,dd5,dd6,dd7] k.xs 0 = (rer != 0)):=by
          unfold Hid; rw [okK_zero]; by_cases h : rer = 0 <;> simp [h]
         have HBE:=Lib.hid (fun (W : World) q0 q1 q2 q3 q4 q5 q6 q7=>blk_eql W q0 q1 q2 q3 q4 q5 q6 q7 dd0 dd1 dd2 dd3 dd4 dd5 dd6 dd7)
         have HKS : Hid (∀ (i : Nat) (x : Wr),k.xs[i]? = some x → okK rer rv [dd0,dd1,dd2,dd3,dd4,dd5,dd6,dd7] k.xs (i + 1) = (okK rer rv [dd0,dd1,dd2,dd3,dd4,dd5,dd6,dd7] k.xs i || matchW rv [dd0,dd1,dd2,dd3,dd4,dd5,dd6,dd7] x)):=fun i x hx=>okK_succ hx
         have HKL : Hid (k.xs.length ≤ 100):=by
          have h1:=HIR.out.hn k.xs (by
           show k.xs ∈ R5.hist
           have : R5.hist[b]? = some k.xs:=by
            have h2:=HR7.out.hh
            rw [show ({ R5 with S:=S6 } : RG).hist = R5.hist from rfl] at h2
            rw [← h2,List.getElem?_map,HKK.out]; rfl
           exact List.mem_of_getElem? this)
          unfold Hid; omega
         obtain ⟨OK,hOKf⟩ : ∃ OK : Nat → Bool,OK = okK rer rv [dd0,dd1,dd2,dd3,dd4,dd5,dd6,dd7] k.xs:=⟨_,rfl⟩
         rw [← hOKf] at HOK HE0 HKS
         clear hOKf
         go_wp2
         go_loopw [11,12,13] (fun s11 s12 s13 wx=>∃ kk : Nat,kk ≤ k.xs.length ∧ s12 = .int .i64 kk ∧ s11 = .bool (OK kk) ∧ Hid (Below w7.heap.size w7 wx)) (fun _ s12 _ _=>k.xs.length - (intOf s12).toNat)
         case atStart=>exact ⟨0,Nat.zero_le _,rfl,by rw [HE0.out],Below.refl _ _⟩
         case round=>
          obtain ⟨kk,hkk,rfl,rfl,HBI⟩:=hrel
          have hri:=HR7.out.below0 HBI.out
          obtain ⟨z0,z1,z2,z3,z4,z5,z6⟩:=hri.cells
          have hcb:=hri.hist.cell HKK.out
          unfold Hs.v at hcb
          have hbl : b < hs.length:=(List.getElem?_eq_some_iff.1 HKK.out).1
          have hk100:=HKL.out
          by_cases hlk : kk < k.xs.length
          ·have hx0:=List.getElem?_eq_getElem hlk
           generalize k.xs[kk] = x at hx0
           obtain ⟨gk,q0,q1,q2,q3,q4,q5,q6,q7,hA,hw⟩:=hri.hist.wr HKK.out hx0
           obtain ⟨hdt,m0,m1,m2,m3,m4,m5,m6,m7,m8,m9⟩:=hw
           rw [hA] at hcb
           have HSU : Hid (OK (kk + 1) = (OK kk || (!x.trim && (decide (x.ver = rv) && decide ([q0,q1,q2,q3,q4,q5,q6,q7] = [dd0,dd1,dd2,dd3,dd4,dd5,dd6,dd7]))))):=by
            unfold Hid; rw [HKS.out kk x hx0]; unfold matchW; rw [hdt]
           have f1 : decide ((kk : Int) < (k.xs.length : Int)) = true:=decide_eq_true (by omega)
           have f2 : decide (kk < k.xs.length) = true:=decide_eq_true hlk
           have hki : (kk : Int) < (k.xs.length : Int):=by omega
           have hX8 : (wr.alloc (.cells #[.int .u64 x.ver,.int .u8 q0,.int .u8 q1,.int .u8 q2,.int .u8 q3,.int .u8 q4,.int .u8 q5,.int .u8 q6,.int .u8 q7,.bool x.trim] 64)).heap[wr.heap.size]? = some (.cells #[.int .u64 x.ver,.int .u8 q0,.int .u8 q1,.int .u8 q2,.int .u8 q3,.int .u8 q4,.int .u8 q5,.int .u8 q6,.int .u8 q7,.bool x.trim] 64 (0,0)):=heap_alloc_new _ _
           have hB8 : Below wr.heap.size wr (wr.alloc (.cells #[.int .u64 x.ver,.int .u8 q0,.int .u8 q1,.int .u8 q2,.int .u8 q3,.int .u8 q4,.int .u8 q5,.int .u8 q6,.int .u8 q7,.bool x.trim] 64)):=(Below.refl _ _).alloc (Nat.le_refl _) _
           have HX8:=Lib.hid hX8
           have HB8 : Hid (Below w7.heap.size w7 (wr.alloc (.cells #[.int .u64 x.ver,.int .u8 q0,.int .u8 q1,.int .u8 q2,.int .u8 q3,.int .u8 q4,.int .u8 q5,.int .u8 q6,.int .u8 q7,.bool x.trim] 64))):=HBI.out.trans (hB8.mono HBI.out.size)
           have HY8:=Lib.hid (belObj HB8.out HX7.out (lt_of_block HX7.out))
           clear hX8 hB8 hx0 hdt hri hA
           go_upto_region 23 with fail
           generalize (wr.alloc (.cells #[.int .u64 x.ver,.int .u8 q0,.int .u8 q1,.int .u8 q2,.int .u8 q3,.int .u8 q4,.int .u8 q5,.int .u8 q6,.int .u8 q7,.bool x.trim] 64)) = w8 at *
           generalize wr.heap.size = b8 at *
           obtain ⟨⟨p0,p1,p2,p3,p4,p5,p6,p7,p8,p9⟩,_⟩:=cells10w HX8.out
           obtain ⟨⟨y0,y1,y2,y3,y4,y5,y6,y7⟩,_⟩:=cells8q HY8.out
           have hbe:=fun W : World=>HBE.out W q0 q1 q2 q3 q4 q5 q6 q7
           generalize hDE : decide ([q0,q1,q2,q3,q4,q5,q6,q7] = [dd0,dd1,dd2,dd3,dd4,dd5,dd6,dd7]) = de at *
           clear hDE m0 m1 m2 m3 m4 m5 m6 m7 m8 m9 z0 z1 z2 z3 z4 z5 z6 hcb
           obtain ⟨tr,htr⟩ : ∃ tr,x.trim = tr:=⟨_,rfl⟩
           obtain ⟨vr,hvr⟩ : ∃ vr,x.ver = vr:=⟨_,rfl⟩
           rw [htr] at p9 HSU
           rw [hvr] at p0 HSU
           obtain ⟨ok0,hok0⟩ : ∃ ok0,OK kk = ok0:=⟨_,rfl⟩
           rw [hok0] at HSU ⊢
           clear htr hvr hok0
           cases ok0
           ·cases tr
            ·by_cases hv : vr = rv
             ·have ev : (vr == rv) = true:=by simpa using hv
              have HSV : Hid (OK (kk + 1) = de):=by unfold Hid; rw [HSU.out,decide_eq_true hv]; simp
              clear hv
              go_wp2
              go_roundw
              case rel=>exact ⟨kk + 1,hlk,by go_num,by rw [HSV.out],HB8.out⟩
              case measure=>simp [intOf]; omega
             ·have ev : (vr == rv) = false:=by simpa using hv
              have HSV : Hid (OK (kk + 1) = false):=by unfold Hid; rw [HSU.out,decide_eq_false hv]; simp
              clear hv
              go_wp2
              go_roundw
              case rel=>exact ⟨kk + 1,hlk,by go_num,by rw [HSV.out],HB8.out⟩
              case measure=>simp [intOf]; omega
            ·have HSV : Hid (OK (kk + 1) = false):=by unfold Hid; rw [HSU.out]; simp
             go_wp2
             go_roundw
             case rel=>exact ⟨kk + 1,hlk,by go_num,by rw [HSV.out],HB8.out⟩
             case measure=>simp [intOf]; omega
           ·have HSV : Hid (OK (kk + 1) = true):=by unfold Hid; rw [HSU.out]; simp
            go_wp2
            go_roundw
            case rel=>exact ⟨kk + 1,hlk,by go_num,by rw [HSV.out],HB8.out⟩
            case measure=>simp [intOf]; omega
          ·obtain rfl : kk = k.xs.length:=by omega
           have f1 : decide ((k.xs.length : Int) < (k.xs.length : Int)) = false:=decide_eq_false (by omega)
           have f2 : decide (k.xs.length < k.xs.length) = false:=decide_eq_false (by omega)
           rw [HOK.out]
           have HRZ : Hid (RigM wr N r q pw g F n { R5 with S:=S6 }):=⟨p,ha,hc,fa,fc,hs,hri⟩
           have HBZ : Hid (Below N w3 wr):=HB7.out.trans (HBI.out.mono HZ7.out)
           clear hri
           go_wp2
           go_roundw
           case rel=>exact ⟨j + 1,{ R5 with S:=S6 },hlt,by go_num,HRZ,HIR,HBZ⟩
           case measure=>simp [intOf]; omega
      ·obtain rfl : j = acts.length:=by omega
       have d1 : decide ((acts.length : Int) < (acts.length : Int)) = false:=decide_eq_false (by omega)
       have d2 : decide (acts.length < acts.length) = false:=decide_eq_false (by omega)
       go_wp2
       go_ret
       exact ⟨rfl,HBW.out⟩
    ·rw [if_neg h0] at hpo
     obtain ⟨r,rfl,hnil⟩:=hpo
     have e1 : (er != 0) = true:=by simpa using h0
     clear h0 HON
     go_wp2
     go_ret
     exact ⟨rfl,HB3.out⟩
set_option maxRecDepth 100000 in
theorem driveHonest_lifted (os : Os) (started : os.Started) (H : Type) (enc : TypeId × Value → H) :
  ReturnsInHanded {} Tryz.checked os 4 .any (Rows.driveHonestSpec.pre6 enc Tryz.prog Tryz.f4 Rows.driveHonestRow.domain false) (Rows.driveHonestSpec.post enc Tryz.prog Tryz.f4 false true false false):=by
 refine returnsInHanded_of_change (C:=Tryz.checked) own started (by kernel_rfl) Tryz.func4
  (ChangeSpec.witness6 (enc:=enc) (C:=Tryz.checked) false ⟨#[],#[.agg #[.int .i64 0,.int .i64 0,.int .i64 0,.int .i64 0,.int .i64 0,.int .i64 0,.slice none 0 0,.slice none 0 0]],[]⟩ 8 (by kernel_rfl) (by kernel_rfl) (by kernel_rfl) (by kernel_rfl)) ?_
 intro W base args ds gs before hval0 hW hcnd _
 have hval : ∀ (j : Nat) t v,Tryz.f4.params[j]? = some t → args[j]? = some v → Value.okWide Tryz.prog W .any base t v:=hval0
 have hW':=hW
 obtain ⟨p,q,hA0,hV,rfl,hfz,hnd⟩:=hW
 have hA : DataW.TrodAll enc Tryz.prog W 0 (fun _=>true) true Tryz.f4.params.toList args.toList ds p:=hA0
 rw [Tryz.params4] at hA hval
 obtain ⟨v0,vs0,d0,ds0,p0,q0,hargs,rfl,rfl,h0,r0⟩:=trodAll_cons hA
 obtain ⟨rfl,rfl,rfl⟩:=trodAll_nil r0
 obtain rfl : args = #[v0]:=by cases args; simp_all
 obtain ⟨rfl,rfl⟩:=trodVars_none hV
 have k0:=h0
 have lt0 : ∀ x ∈ p0,x.block < W.heap.size:=by obtain ⟨m,hm⟩:=k0; exact DataW.trod_lt m _ _ _ hm
 obtain ⟨g,nb,A0,A1,F,acts,c0,c1,rfl,hc⟩:=open_case20 (hval 0 _ _ rfl rfl) h0
 clear hA0 hval0
 refine (driveHonest_walk g nb A0 A1 F acts c0 c1 W hc).mono fun e W' ⟨he,bel⟩=>?_
 subst he
 exact ⟨_,rfl,_,_,_,[],_,[],hW',trodAll_mk1 (shut_bool Tryz.underlying4 _),(trodAll_cons_mk (Below.trod laidOut (by kernel_rfl) (of_decide_eq_true (by kernel_rfl)) k0 bel lt0) trodAll_mk0),rfl,bel.frame _,fun h=>by cases h⟩
theorem driveHonest_holds : Rows.DriveHonestSaid:=
 OpenClaim.holds_of_wide 4 Tryz.f4 rfl rfl rfl rfl rfl rfl rfl ⟨rfl,rfl,rfl,rfl,rfl⟩ rfl rfl rfl rfl rfl (by kernel_rfl) Tryz.func4 (by kernel_rfl)
  (of_decide_eq_true (by kernel_rfl)) (by unfold Func.isWrapper; first | (rw [if_pos (by decide +kernel)]; kernel_rfl) | (rw [if_neg (by decide +kernel)]; exact ⟨rfl,rfl⟩))
  (fun os started H enc _=>driveHonest_lifted os started H enc)
#print axioms driveHonest_holds
end Go.Proofs.YtggkengmlkhdiaaGreat

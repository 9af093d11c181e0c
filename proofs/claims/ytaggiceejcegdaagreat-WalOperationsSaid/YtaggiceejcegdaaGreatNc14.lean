/-
  WHAT IS SHOWN: what Decode of tegularef27 returns. Conditions: the sectors can be read.
-/
import Derived.Test.YtaggiceejcegdaaGreatNc06
import Derived.Test.YtaggiceejcegdaaGreatNc10
import Derived.Test.YtaggiceejcegdaaGreatNc12
import Derived.Test.YtaggiceejcegdaaGreatNc13
namespace Go.Proofs.YtaggiceejcegdaaGreat
set_option linter.unusedVariables false
open Go.RowKit
theorem be8_u8 (s : Int) : U8s (be8 s):=fun x hx=>by
 unfold be8 at hx
 simp only [List.mem_cons,List.not_mem_nil,or_false] at hx
 have hw : ∀ y : Int,0 ≤ IntKind.u8.wrap y ∧ IntKind.u8.wrap y ≤ 255:=fun y=>by rw [IntKind.wrap_u8]; omega
 rcases hx with rfl | rfl | rfl | rfl | rfl | rfl | rfl | rfl <;> exact hw _
theorem secB_u8 {gen seq k m : Nat} {ch : List Int} (h : U8s ch) : U8s (secB gen seq k m ch):=by
 unfold secB sealB hdS
 refine u8_append (u8_append (u8_append (u8_append (u8_append (u8_append (u8_append ?_ (u8_uintB _)) (u8_uintB _)) (u8_uintB _)) (u8_uintB _)) (u8_uintB _)) h) (be8_u8 _)
 intro x hx
 simp at hx; subst hx; omega
theorem encR_u8 {r : Rec} (h : r.Ok) : ∀ b ∈ encR r,U8s b:=fun b hb=>by
 unfold encR at hb
 obtain ⟨k,_,rfl⟩:=List.mem_map.1 hb
 exact secB_u8 (((payR_u8 h).drop _).take _)
set_option maxRecDepth 100000 in
set_option maxHeartbeats 8000000 in
theorem rdecode_any (ss : List Sl) (hss : ∀ s ∈ ss,SlOk s) (A : Option Addr) (c : Nat) (hc : ss.length ≤ c) (hcm : c ≤ 9223372036854775807) (hl : ss.length ≤ 100000) (w : World) (h : SlsR w w.heap.size A ss) :
  Calls Tryz.prog 72 #[.slice A ss.length c] w (DecPost w (ss.map Sl.xs)):=by
 obtain ⟨i0,hi,hz0,hz1,hz2⟩:=info_parts qinfo_u8
 have HH:=Lib.hid h
 have HSS:=Lib.hid hss
 clear h hss
 have HPB : Hid (∀ W,Below (w.heap.size + 1) (w.alloc (.cells #[.int .u64 0,.int .u64 0,.slice none 0 0,.slice none 0 0,.slice none 0 0] 28)) W → W.heap[w.heap.size]? = some (.cells #[.int .u64 0,.int .u64 0,.slice none 0 0,.slice none 0 0,.slice none 0 0] 28 (0,0))):=fun W hW=>belObj hW (World.alloc_heap_new w _) (by omega)
 have HBW : Hid (∀ W,Below (w.heap.size + 1) (w.alloc (.cells #[.int .u64 0,.int .u64 0,.slice none 0 0,.slice none 0 0,.slice none 0 0] 28)) W → Below w.heap.size w W):=fun W hW=>((Below.refl _ _).alloc (Nat.le_refl _) _).trans (hW.mono (by omega))
 have hls : (ss.map Sl.xs).length = ss.length:=List.length_map _
 have HLS:=Lib.hid hls
 generalize hlsd : ss.map Sl.xs = ls at *
 have HLD:=Lib.hid hlsd
 clear hls hlsd
 go_enter Tryz.func72,Tryz.ntmps72
 go_wp2
 have hbel0 : Below (w.heap.size + 1) (w.alloc (.cells #[.int .u64 0,.int .u64 0,.slice none 0 0,.slice none 0 0,.slice none 0 0] 28)) (((w.alloc (.cells #[.int .u64 0,.int .u64 0,.slice none 0 0,.slice none 0 0,.slice none 0 0] 28))).alloc (.cells #[.int .u64 0,.int .u64 0,.int .i64 0,.int .i64 0] 118)):=(Below.refl _ _).alloc (by simp) _
 have hhd0 : (((w.alloc (.cells #[.int .u64 0,.int .u64 0,.slice none 0 0,.slice none 0 0,.slice none 0 0] 28))).alloc (.cells #[.int .u64 0,.int .u64 0,.int .i64 0,.int .i64 0] 118)).heap[w.heap.size + 1]? = some (.cells #[.int .u64 0,.int .u64 0,.int .i64 0,.int .i64 0] 118 (0,0)):=by
  have:=World.alloc_heap_new (w.alloc (.cells #[.int .u64 0,.int .u64 0,.slice none 0 0,.slice none 0 0,.slice none 0 0] 28)) (.cells #[.int .u64 0,.int .u64 0,.int .i64 0,.int .i64 0] 118)
  rw [World.size_alloc] at this; exact this
 have hWz : ((w.alloc (.cells #[.int .u64 0,.int .u64 0,.slice none 0 0,.slice none 0 0,.slice none 0 0] 28))).heap.size = w.heap.size + 1:=by simp
 generalize (((w.alloc (.cells #[.int .u64 0,.int .u64 0,.slice none 0 0,.slice none 0 0,.slice none 0 0] 28))).alloc (.cells #[.int .u64 0,.int .u64 0,.int .i64 0,.int .i64 0] 118)) = W1 at *
 go_loopw [5,7,8] (fun all parts i wr=>∃ (k m : Nat) (DA : Option Addr) (dc : Nat) (g s p : Nat) (pp : Int),k ≤ m ∧ i = .int .i64 k ∧ parts = .int .i64 m ∧ all = .slice DA (allB ls k).length dc ∧ Hid (wr.ownsRow (w.heap.size + 1) 5 1 (.slice DA (allB ls k).length dc) (allB ls k).length ((allB ls k).map (Value.int .u8))) ∧ Hid (∀ j,j < k → partE ls j = 0) ∧ Hid ((k = 0 ∧ m = 1) ∨ (0 < k ∧ m = (hdD ls).parts ∧ g = (hdD ls).gen ∧ s = (hdD ls).seq ∧ p = (hdD ls).parts)) ∧ Hid (wr.heap[w.heap.size + 1]? = some (.cells #[.int .u64 g,.int .u64 s,.int .i64 pp,.int .i64 p] 118 (0,0))) ∧ Hid (Below (w.heap.size + 1) (w.alloc (.cells #[.int .u64 0,.int .u64 0,.slice none 0 0,.slice none 0 0,.slice none 0 0] 28)) wr) ∧ Hid (m ≤ 4096)) (fun _ parts i _=>8192 - (intOf i).toNat)
 case atStart=>exact ⟨0,1,none,0,0,0,0,0,by omega,rfl,rfl,rfl,World.ownsRow_nil _ _ _ _,fun j hj=>by omega,.inl ⟨rfl,rfl⟩,hhd0,hbel0,by unfold Hid; omega⟩
 case round=>
  obtain ⟨k,m,DA,dc,g,s,p,pp,hk,rfl,rfl,rfl,HO,HE,HM,HHD,HBR,HM4⟩:=hrel
  have hm4:=HM4.out
  by_cases hlt : k < m
  ·have HK0 : Hid (k = 0 ∨ k < (hdD ls).parts):=by
    unfold Hid
    rcases HM.out with ⟨h1,_⟩ | ⟨h1,h2,_⟩
    ·exact .inl h1
    ·right; omega
   by_cases hkl : k < ss.length
   ·have hkl2 : k < ls.length:=by rw [HLS.out]; exact hkl
    obtain ⟨ga,oa,rfl,hga,j0,hrb⟩:=sl_at ((HH.out.below (HBW.out _ HBR.out) (Nat.le_refl _)).more (HBW.out _ HBR.out).size) hkl
    have hso:=HSS.out _ (List.getElem_mem hkl)
    have hxk : ls[k] = ss[k].xs:=by
     have h1:=HLD.out
     subst h1
     simp
    have HIN:=Lib.hid (rinspect_any ss[k].xs hso.u ss[k].A ss[k].c wr hrb (by have:=hso.n; omega) hso.c hso.m)
    rw [← hxk] at HIN
    have HPE : Hid (partE ls k = if ¬ (insD ls[k]).er = 0 then (insD ls[k]).er else if (insD ls[k]).gen = (hdD ls).gen ∧ (insD ls[k]).seq = (hdD ls).seq ∧ (insD ls[k]).part = k ∧ (insD ls[k]).parts = (hdD ls).parts then 0 else 5):=by
     unfold Hid partE; rw [dif_pos hkl2]
    have HH0 : Hid (k = 0 → hdD ls = insD ls[k]):=fun h=>by
     subst h
     unfold hdD
     congr 1
     cases ls with
     | nil=>simp at hkl2
     | cons a l=>rfl
    have HAB : Hid (allB ls (k + 1) = allB ls k ++ (insD ls[k]).ch):=by
     show allB ls k ++ (insD (ls.getD k [])).ch = _
     rw [show ls.getD k [] = ls[k] by simp [hkl2]]
    have HIP : Hid ((insD ls[k]).er = 0 → (insD ls[k]).part < (insD ls[k]).parts ∧ (insD ls[k]).parts ≤ 4096 ∧ 1 ≤ (insD ls[k]).ch.length ∧ (insD ls[k]).ch.length ≤ 28 ∧ 1 ≤ (insD ls[k]).seq):=fun h=>insD_parts h
    rw [← hxk] at j0
    generalize ss[k].A = As at *
    generalize ss[k].c = cs at *
    generalize hX : insD ls[k] = X at *
    unfold InsPost at HIN
    rw [hX] at HIN
    clear hX
    generalize ls[k].length = nb at *
    obtain ⟨xg,xs',xp,xq,xc,xe⟩:=X
    simp only at HIN HPE HAB HIP
    clear hso hrb hxk hkl2
    go_wp2_with fail
    refine HIN.out.mono ?_
    rintro e w2 ⟨D2,c2,rfl,hr2,hb2⟩
    have hB2 : Below (w.heap.size + 1) (w.alloc (.cells #[.int .u64 0,.int .u64 0,.slice none 0 0,.slice none 0 0,.slice none 0 0] 28)) w2:=HBR.out.trans (hb2.mono (by have:=lt_of_block HHD.out; omega))
    have hrz:=HBR.out.size
    have hlr:=lt_of_block HHD.out
    have hHD2 : w2.heap[w.heap.size + 1]? = some (.cells #[.int .u64 g,.int .u64 s,.int .i64 pp,.int .i64 p] 118 (0,0)):=belObj hb2 HHD.out (by omega)
    have hO2:=own_kept HO.out (belKept0 (S:=fun _=>False) hb2) (fun _ _ h=>h)
    have hr2z:=hb2.size
    have hbel3 : Below w2.heap.size w2 (w2.alloc (.cells #[.int .u64 xg,.int .u64 xs',.int .i64 xp,.int .i64 xq] 118)):=(Below.refl _ _).alloc (Nat.le_refl _) _
    have hHD3:=belObj hbel3 hHD2 (by omega)
    have HO3 : Hid ((w2.alloc (.cells #[.int .u64 xg,.int .u64 xs',.int .i64 xp,.int .i64 xq] 118)).ownsRow (w.heap.size + 1) 5 1 (.slice DA (allB ls k).length dc) (allB ls k).length ((allB ls k).map (Value.int .u8))):=own_kept hO2 (belKept0 (S:=fun _=>False) hbel3) (fun _ _ h=>h)
    have HR3 : Hid (RdT (w2.alloc (.cells #[.int .u64 xg,.int .u64 xs',.int .i64 xp,.int .i64 xq] 118)) 5 D2 (xc.map (Value.int .u8))):=hr2.below0 hbel3
    have hH3:=World.alloc_heap_new w2 (.cells #[.int .u64 xg,.int .u64 xs',.int .i64 xp,.int .i64 xq] 118)
    have hB3 : Below (w.heap.size + 1) (w.alloc (.cells #[.int .u64 0,.int .u64 0,.slice none 0 0,.slice none 0 0,.slice none 0 0] 28)) (w2.alloc (.cells #[.int .u64 xg,.int .u64 xs',.int .i64 xp,.int .i64 xq] 118)):=hB2.trans (hbel3.mono (by omega))
    have HB3:=Lib.hid hB3
    have hz3 : w2.heap.size + 1 = (w2.alloc (.cells #[.int .u64 xg,.int .u64 xs',.int .i64 xp,.int .i64 xq] 118)).heap.size:=by simp
    have PB:=HPB.out _ hB3
    go_upto_region 10 with fail
    generalize (w2.alloc (.cells #[.int .u64 xg,.int .u64 xs',.int .i64 xp,.int .i64 xq] 118)) = w3 at *
    obtain ⟨rr0,rr1,rr2,rr3,rr4,sr0,sr1,sr2,sr3,sr4⟩:=cells5 (PB)
    have hkh : w.heap.size + 1 < w2.heap.size:=by omega
    generalize hkq : w2.heap.size = kq at *
    obtain ⟨u0,u1,u2,u3',v0,v1,v2,v3⟩:=cells4 hHD3
    obtain ⟨y0,y1,y2,y3,_,_,_,_⟩:=cells4 hH3
    clear PB hB2 hb2 hbel3 hHD2 hO2 hr2 hB3
    by_cases hxe : xe = 0
    ·subst hxe
     by_cases hk0 : k = 0
     ·subst hk0
      have hn1 : ¬ kq = w.heap.size + 1:=by omega
      go_upto_region 13 with fail
      go_cut [7] (fun pv wx=>pv = .int .i64 xq ∧ wx = ((((w3.setCell ⟨w.heap.size + 1,0,none⟩ (.int .u64 xg)).setCell ⟨w.heap.size + 1,1,none⟩ (.int .u64 xs')).setCell ⟨w.heap.size + 1,2,none⟩ (.int .i64 xp)).setCell ⟨w.heap.size + 1,3,none⟩ (.int .i64 xq)).drew)
      case first=>
       go_region_law (fail)
       all_goals
        go_wp2_with fail
        go_meet
        exact ⟨rfl,rfl⟩
      case rest=>
       obtain ⟨rfl,rfl⟩:=hcut
       have hHD5 : (((((w3.setCell ⟨w.heap.size + 1,0,none⟩ (.int .u64 xg)).setCell ⟨w.heap.size + 1,1,none⟩ (.int .u64 xs')).setCell ⟨w.heap.size + 1,2,none⟩ (.int .i64 xp)).setCell ⟨w.heap.size + 1,3,none⟩ (.int .i64 xq)).drew).heap[w.heap.size + 1]? = some (.cells #[.int .u64 xg,.int .u64 xs',.int .i64 xp,.int .i64 xq] 118 (0,0)):=heap_setL (heap_setL (heap_setL (heap_setL hHD3 0 _) 1 _) 2 _) 3 _
       have hk5 : Kept (fun k=>k = w.heap.size + 1) w3 (((((w3.setCell ⟨w.heap.size + 1,0,none⟩ (.int .u64 xg)).setCell ⟨w.heap.size + 1,1,none⟩ (.int .u64 xs')).setCell ⟨w.heap.size + 1,2,none⟩ (.int .i64 xp)).setCell ⟨w.heap.size + 1,3,none⟩ (.int .i64 xq)).drew):=(kept4 w3 (w.heap.size + 1) (.int .u64 xg) (.int .u64 xs') (.int .i64 xp) (.int .i64 xq)).drewR
       go_upto_region 14 with fail
       generalize (((((w3.setCell ⟨w.heap.size + 1,0,none⟩ (.int .u64 xg)).setCell ⟨w.heap.size + 1,1,none⟩ (.int .u64 xs')).setCell ⟨w.heap.size + 1,2,none⟩ (.int .i64 xp)).setCell ⟨w.heap.size + 1,3,none⟩ (.int .i64 xq)).drew) = w5 at *
       have hH5:=hk5.obj hH3 hn1
       have hB5 : Below (w.heap.size + 1) (w.alloc (.cells #[.int .u64 0,.int .u64 0,.slice none 0 0,.slice none 0 0,.slice none 0 0] 28)) w5:=HB3.out.trans (hk5.below (fun i hi=>by have hi' : i = w.heap.size + 1:=hi; omega) (by omega))
       have HO5:=Lib.hid (own_kept HO3.out hk5 (own_ne HO3.out hHD3 (by decide)))
       have HR5:=Lib.hid (HR3.out.kept hk5 (free4 hHD3 (by decide)))
       have PB5:=HPB.out w5 hB5
       have HB5:=Lib.hid hB5
       have h5z:=hk5.size
       clear rr0 rr1 rr2 rr3 rr4 sr0 sr1 sr2 sr3 sr4 u0 u1 u2 u3' v0 v1 v2 v3 y0 y1 y2 y3
       obtain ⟨rr0,rr1,rr2,rr3,rr4,sr0,sr1,sr2,sr3,sr4⟩:=cells5 (PB5)
       obtain ⟨u0,u1,u2,u3',v0,v1,v2,v3⟩:=cells4 hHD5
       obtain ⟨y0,y1,y2,y3,_,_,_,_⟩:=cells4 hH5
       clear PB5 hB5 hk5
       have HHX:=Lib.hid (HH0.out rfl)
       by_cases hxp : xp = 0
       ·subst hxp
        obtain ⟨hq1,hq2,hq3,hq4,hq5⟩:=HIP.out rfl
        have hE1 : partE ls 0 = 0:=by
         rw [HPE.out,if_neg (by simp),if_pos]
         rw [HHX.out]; exact ⟨rfl,rfl,rfl,rfl⟩
        have HE2 : Hid (∀ j,j < 0 + 1 → partE ls j = 0):=fun j hj=>by
         obtain rfl : j = 0:=by omega
         exact hE1
        have HM2 : Hid ((0 + 1 = 0 ∧ xq = 1) ∨ (0 < 0 + 1 ∧ xq = (hdD ls).parts ∧ xg = (hdD ls).gen ∧ xs' = (hdD ls).seq ∧ xq = (hdD ls).parts)):=by
         rw [HHX.out]; exact .inr ⟨by omega,rfl,rfl,rfl,rfl⟩
        cases D2 with
        | none=>
          have hx0:=HR5.out.rd.qat_none
          obtain rfl : xc = []:=by cases xc; rfl; simp at hx0
          simp at hq3
        | some d0=>
          have hal:=allB_len HE.out
          go_upto_region 16 with fail
          go_wp2_with (at_builtin; refine wpList_append_own _ rfl _ _ 26 rfl (w.heap.size + 1) 5 i0 _ 1 1 Tryz.underlying26 hi hz0 hz1 hz2 rfl (by decide) _ _ _ rfl HO5.out d0 xc.length c2 (xc.map (Value.int .u8)) rfl (by simp) HR5.out.rd.qat_add (qbytes_one xc) ?a1 ?a2 ?a3 ?_)
          case a1=>unfold maxLen; omega
          case a2=>omega
          case a3=>omega
          intro v' w4 hown hgrow hiff
          obtain ⟨A',c',hv⟩:=own_form hown
          subst hv
          have hbl : Below (w.heap.size + 1) (w.alloc (.cells #[.int .u64 0,.int .u64 0,.slice none 0 0,.slice none 0 0,.slice none 0 0] 28)) w4:=HB5.out.grown hgrow (by omega) (fun k hk=>own_low HO5.out hk)
          have hkg : Kept (fun k=>(Value.slice DA (allB ls 0).length dc).ownBlock = some k) w5 w4:=⟨hgrow.os,hgrow.tape,hgrow.output,hgrow.size,fun k hk hS=>hgrow.block k hk (fun e=>hS e.symm)⟩
          have hHD4:=Lib.hid (hkg.obj hHD5 (fun e=>own_ne HO5.out hHD5 (by decide) _ e rfl))
          have HO4 : Hid (w4.ownsRow (w.heap.size + 1) 5 1 (.slice A' (allB ls (0 + 1)).length c') (allB ls (0 + 1)).length ((allB ls (0 + 1)).map (Value.int .u8))):=by
           unfold Hid; rw [HAB.out,List.length_append,List.map_append]; exact hown
          have HLN : Hid ((allB ls 0).length + xc.length = (allB ls (0 + 1)).length):=by unfold Hid; rw [HAB.out,List.length_append]
          have HBL:=Lib.hid hbl
          have HQ4:=Lib.hid hq2
          clear hown hgrow hiff hbl hkg
          go_wp2
          go_roundw
          case rel=>exact ⟨0 + 1,xq,A',c',xg,xs',xq,0,by omega,by first | go_num | rfl | simp,rfl,by rw [← HLN.out],HO4,HE2,HM2,hHD4,HBL,HQ4⟩
          case measure=>simp [intOf]
       ·have HDE : Hid (decD ls = .bad 5):=by
         have h1 : partE ls 0 = 5:=by
          rw [HPE.out,if_neg (by simp),if_neg]
          rintro ⟨_,_,h5,_⟩
          exact hxp h5
         have:=decD_err HE.out (by rw [h1]; decide) HK0.out
         rw [h1] at this; exact this
        go_upto_region 16 with fail
        all_goals first
         | exact bodyPost_ret (by first | (simp [results,Tryz.results72,go_sem, *]; done) | (simp [results,Tryz.results72,go_sem, *]; rfl)) rfl (DecPost.bad HDE.out rfl (below5 (HBW.out _ HB5.out) (Nat.le_refl _) _ _ _ _ _))
         | (exfalso; apply hxp; first | assumption | omega)
     ·have hk1 : ((k : Int) == 0) = false:=by simp; omega
      by_cases hsm : xg = g ∧ xs' = s ∧ xp = k ∧ xq = p
      ·obtain ⟨rfl,rfl,rfl,rfl⟩:=hsm
       obtain ⟨hq1,hq2,hq3,hq4,hq5⟩:=HIP.out rfl
       have hE1 : partE ls xp = 0:=by
        rw [HPE.out,if_neg (by simp),if_pos]
        rcases HM.out with ⟨h1,_⟩ | ⟨_,_,h3,h4,h5⟩
        ·exact absurd h1 hk0
        ·exact ⟨h3,h4,rfl,h5⟩
       have HE2 : Hid (∀ j,j < xp + 1 → partE ls j = 0):=fun j hj=>by
        by_cases h : j < xp
        ·exact HE.out j h
        ·obtain rfl : j = xp:=by omega
         exact hE1
       have HM2 : Hid ((xp + 1 = 0 ∧ m = 1) ∨ (0 < xp + 1 ∧ m = (hdD ls).parts ∧ xg = (hdD ls).gen ∧ xs' = (hdD ls).seq ∧ xq = (hdD ls).parts)):=by
        rcases HM.out with ⟨h1,_⟩ | ⟨_,h2,h3,h4,h5⟩
        ·exact absurd h1 hk0
        ·exact .inr ⟨by omega,h2,h3,h4,h5⟩
       cases D2 with
       | none=>
         have hx0:=HR3.out.rd.qat_none
         obtain rfl : xc = []:=by cases xc; rfl; simp at hx0
         simp at hq3
       | some d0=>
         have hal:=allB_len HE.out
         go_upto_region 16 with fail
         go_wp2_with (at_builtin; refine wpList_append_own _ rfl _ _ 26 rfl (w.heap.size + 1) 5 i0 _ 1 1 Tryz.underlying26 hi hz0 hz1 hz2 rfl (by decide) _ _ _ rfl HO3.out d0 xc.length c2 (xc.map (Value.int .u8)) rfl (by simp) HR3.out.rd.qat_add (qbytes_one xc) ?a1 ?a2 ?a3 ?_)
         case a1=>unfold maxLen; omega
         case a2=>omega
         case a3=>omega
         intro v' w4 hown hgrow hiff
         obtain ⟨A',c',hv⟩:=own_form hown
         subst hv
         have hbl : Below (w.heap.size + 1) (w.alloc (.cells #[.int .u64 0,.int .u64 0,.slice none 0 0,.slice none 0 0,.slice none 0 0] 28)) w4:=HB3.out.grown hgrow (by omega) (fun k hk=>own_low HO3.out hk)
         have hkg : Kept (fun k=>(Value.slice DA (allB ls xp).length dc).ownBlock = some k) w3 w4:=⟨hgrow.os,hgrow.tape,hgrow.output,hgrow.size,fun k hk hS=>hgrow.block k hk (fun e=>hS e.symm)⟩
         have hHD4:=Lib.hid (hkg.obj hHD3 (fun e=>own_ne HO3.out hHD3 (by decide) _ e rfl))
         have HO4 : Hid (w4.ownsRow (w.heap.size + 1) 5 1 (.slice A' (allB ls (xp + 1)).length c') (allB ls (xp + 1)).length ((allB ls (xp + 1)).map (Value.int .u8))):=by
          unfold Hid; rw [HAB.out,List.length_append,List.map_append]; exact hown
         have HLN : Hid ((allB ls xp).length + xc.length = (allB ls (xp + 1)).length):=by unfold Hid; rw [HAB.out,List.length_append]
         have HBL:=Lib.hid hbl
         clear hown hgrow hiff hbl hkg
         go_wp2
         go_roundw
         case rel=>exact ⟨xp + 1,m,A',c',xg,xs',xq,pp,hlt,by go_num,rfl,by rw [← HLN.out],HO4,HE2,HM2,hHD4,HBL,HM4⟩
         case measure=>simp [intOf]; omega
      ·have HDE : Hid (decD ls = .bad 5):=by
        have h1 : partE ls k = 5:=by
         rw [HPE.out,if_neg (by simp),if_neg]
         rintro ⟨h3,h4,h5,h6⟩
         rcases HM.out with ⟨h1,_⟩ | ⟨_,_,g3,g4,g5⟩
         ·exact hk0 h1
         ·exact hsm ⟨by omega,by omega,h5,by omega⟩
        have:=decD_err HE.out (by rw [h1]; decide) HK0.out
        rw [h1] at this; exact this
       go_upto_region 16 with fail
       all_goals first
        | exact bodyPost_ret (by first | (simp [results,Tryz.results72,go_sem, *]; done) | (simp [results,Tryz.results72,go_sem, *]; rfl)) rfl (DecPost.bad HDE.out rfl (below5 (HBW.out _ HB3.out) (Nat.le_refl _) _ _ _ _ _))
        | (exfalso; apply hsm; refine ⟨?_,?_,?_,?_⟩ <;> first | assumption | omega)
    ·have hxe2 : (xe != 0) = true:=by simpa using hxe
     have HDE : Hid (decD ls = .bad xe):=by
      have h1 : partE ls k = xe:=by rw [HPE.out,if_pos hxe]
      have:=decD_err HE.out (by rw [h1]; exact hxe) HK0.out
      rw [h1] at this; exact this
     go_wp2
     exact bodyPost_ret (by first | (simp [results,Tryz.results72,go_sem, *]; done) | (simp [results,Tryz.results72,go_sem, *]; rfl)) rfl (DecPost.bad HDE.out rfl (below5 (HBW.out _ HB3.out) (Nat.le_refl _) _ _ _ _ _))
   ·have HDE : Hid (decD ls = .bad 5):=by
     have h1 : partE ls k = 5:=by unfold partE; rw [dif_neg (by rw [HLS.out]; exact hkl)]
     have:=decD_err HE.out (by rw [h1]; decide) HK0.out
     rw [h1] at this; exact this
    have PB:=HPB.out wr HBR.out
    obtain ⟨rr0,rr1,rr2,rr3,rr4,sr0,sr1,sr2,sr3,sr4⟩:=cells5 (PB)
    clear PB
    go_wp2
    exact bodyPost_ret (by first | (simp [results,Tryz.results72,go_sem, *]; done) | (simp [results,Tryz.results72,go_sem, *]; rfl)) rfl (DecPost.bad HDE.out rfl (below5 (HBW.out _ HBR.out) (Nat.le_refl _) _ _ _ _ _))
  ·obtain rfl : k = m:=by omega
   have hkm : 0 < k ∧ k = (hdD ls).parts:=by
    rcases HM.out with ⟨h1,h2⟩ | ⟨h1,h2,_⟩
    ·omega
    ·exact ⟨h1,h2⟩
   have HD : Hid (decD ls = decEnd ls k):=by
    have:=decD_end (ls:=ls) (by omega) (fun i hi=>HE.out i (by omega))
    rw [← hkm.2] at this; exact this
   have hkl : k ≤ ss.length:=by
    have h1:=HE.out (k - 1) (by omega)
    unfold partE at h1
    split at h1
    ·rename_i h2; rw [HLS.out] at h2; omega
    ·cases h1
   have hal:=allB_len HE.out
   have hub : U8s (allB ls k):=allB_u8 (fun b hb=>by
    rw [← HLD.out] at hb
    obtain ⟨s,hs,rfl⟩:=List.mem_map.1 hb
    exact (HSS.out s hs).u) k
   have HPA:=Lib.hid (rpay_any (allB ls k) hub DA dc wr (Rd.of_own HO.out) (by omega))
   have hlr:=lt_of_block HHD.out
   have HUB:=Lib.hid hub
   clear hub hkm
   go_wp2_with fail
   refine HPA.out.mono ?_
   rintro e w2 ⟨r,A2,c2,D2,d2,N2,n2,rfl,hrec,hR,hb2⟩
   have hB2 : Below (w.heap.size + 1) (w.alloc (.cells #[.int .u64 0,.int .u64 0,.slice none 0 0,.slice none 0 0,.slice none 0 0] 28)) w2:=HBR.out.trans (hb2.mono (by omega))
   have hbel3 : Below w2.heap.size w2 (w2.alloc (.cells #[.int .u64 r.gen,.int .u64 r.seq,.slice A2 r.ws.length c2,.slice D2 r.ms.length d2,.slice N2 r.note.length n2] 28)):=(Below.refl _ _).alloc (Nat.le_refl _) _
   have hb2z:=hb2.size
   have hB3 : Below (w.heap.size + 1) (w.alloc (.cells #[.int .u64 0,.int .u64 0,.slice none 0 0,.slice none 0 0,.slice none 0 0] 28)) (w2.alloc (.cells #[.int .u64 r.gen,.int .u64 r.seq,.slice A2 r.ws.length c2,.slice D2 r.ms.length d2,.slice N2 r.note.length n2] 28)):=hB2.trans (hbel3.mono (by omega))
   have HB3:=Lib.hid hB3
   have PB:=HPB.out _ hB3
   have hr3:=World.alloc_heap_new w2 (.cells #[.int .u64 r.gen,.int .u64 r.seq,.slice A2 r.ws.length c2,.slice D2 r.ms.length d2,.slice N2 r.note.length n2] 28)
   have HO3:=Lib.hid (hR.below0 hbel3)
   have hz3 : w2.heap.size + 1 = (w2.alloc (.cells #[.int .u64 r.gen,.int .u64 r.seq,.slice A2 r.ws.length c2,.slice D2 r.ms.length d2,.slice N2 r.note.length n2] 28)).heap.size:=by simp
   clear HPA
   go_upto_region 18 with fail
   generalize (w2.alloc (.cells #[.int .u64 r.gen,.int .u64 r.seq,.slice A2 r.ws.length c2,.slice D2 r.ms.length d2,.slice N2 r.note.length n2] 28)) = w3 at *
   generalize hkq : w2.heap.size = kq at *
   obtain ⟨rr0,rr1,rr2,rr3,rr4,sr0,sr1,sr2,sr3,sr4⟩:=cells5 (PB)
   obtain ⟨q0,q1,q2,q3,q4,f0,f1,f2,f3,f4⟩:=cells5 hr3
   clear PB hB2 hB3 hbel3 hb2
   obtain hrd | ⟨r0,hrd⟩ : recD (allB ls k) = none ∨ ∃ r0,recD (allB ls k) = some r0:=by
    cases recD (allB ls k) with
    | none=>exact .inl rfl
    | some r0=>exact .inr ⟨r0,rfl⟩
   ·have HDE : Hid (decD ls = .bad 5):=by unfold Hid; rw [HD.out]; unfold decEnd; rw [hrd]
    rw [hrd]
    simp only [Option.isSome_none]
    clear hrd hrec
    go_wp2
    exact bodyPost_ret (by first | (simp [results,Tryz.results72,go_sem, *]; done) | (simp [results,Tryz.results72,go_sem, *]; rfl)) rfl (DecPost.bad HDE.out rfl (below5 (HBW.out _ HB3.out) (Nat.le_refl _) _ _ _ _ _))
   ·obtain rfl:=hrec r0 hrd
    obtain ⟨hok,hv⟩:=recD_ok HUB.out hrd
    have hvl:=validR_vld hv
    have HDE : Hid (decD ls = if encR r = ls.take k then ⟨r,k,0⟩ else .bad 5):=by unfold Hid; rw [HD.out]; unfold decEnd; rw [hrd]
    rw [hrd]
    simp only [Option.isSome_some]
    clear hrd hrec
    have hEN:=rencode_any r hok A2 D2 N2 c2 d2 n2 w3 HO3.out.rec_ (by have:=hvl.nw; omega) (by have:=hvl.nm; omega) (by have:=hvl.nn; omega)
    have HEN:=Lib.hid hEN
    have HEL : Hid (encL r = encR r):=by unfold Hid encL; rw [if_pos hv]
    have HEU : Hid (∀ b ∈ encR r,U8s b):=encR_u8 hok
    have HNC : Hid ((encR r).length ≤ 100000):=by
     have h1:=payR_len hvl
     unfold Hid encR; rw [List.length_map,List.length_range]; unfold nCh; omega
    clear hEN hvl hok hv
    go_wp2_with fail
    refine HEN.out.mono ?_
    rintro e w4 ⟨A5,c5,ss5,rfl,hss5,ho5,hb4⟩
    rw [HEL.out] at hss5
    have hB4 : Below (w.heap.size + 1) (w.alloc (.cells #[.int .u64 0,.int .u64 0,.slice none 0 0,.slice none 0 0,.slice none 0 0] 28)) w4:=HB3.out.trans (hb4.mono (by have:=HB3.out.size; omega))
    have hb4z:=hb4.size
    have hss5l : ss5.length ≤ 100000:=by have:=HNC.out; rw [← hss5,List.length_map] at this; exact this
    have htk : (ss.take k).length = k:=by rw [List.length_take]; omega
    have hRT : SlsR w4 w4.heap.size A (ss.take k):=by
     have h1:=(HH.out.below (HBW.out _ hB4) (Nat.le_refl _)).more (HBW.out _ hB4).size
     exact ⟨by rw [List.map_take]; exact h1.rd.take k,fun s hs=>h1.each s (List.mem_of_mem_take hs)⟩
    have hEQ:=qsame_any ss5 (ss.take k) A5 A c5 c w4 ho5.rd hRT hss5l (fun s hs=>HEU.out _ (by rw [← hss5]; exact List.mem_map.2 ⟨s,hs,rfl⟩)) (fun s hs=>(HSS.out s (List.mem_of_mem_take hs)).u)
    rw [htk,hss5,List.map_take,HLD.out] at hEQ
    have HEQ:=Lib.hid hEQ
    have HO4:=Lib.hid (HO3.out.below0 hb4)
    have hr4:=belObj hb4 hr3 (by omega)
    have HB4:=Lib.hid hB4
    clear hEQ htk hRT hss5 ho5 hB4
    have hkc : (k : Int) ≤ (c : Int):=by omega
    by_cases hse : encR r = ls.take k
    ·have HDF : Hid (decD ls = ⟨r,k,0⟩):=by unfold Hid; rw [HDE.out,if_pos hse]
     rw [decide_eq_true hse] at HEQ
     clear hse
     go_wp2_with fail
     refine HEQ.out.mono ?_
     rintro e w5 ⟨rfl,hb5⟩
     have hB5 : Below (w.heap.size + 1) (w.alloc (.cells #[.int .u64 0,.int .u64 0,.slice none 0 0,.slice none 0 0,.slice none 0 0] 28)) w5:=HB4.out.trans (hb5.mono (by have:=HB4.out.size; omega))
     have hr5:=belObj hb5 hr4 (by omega)
     have PB5:=HPB.out w5 hB5
     have HO5:=Lib.hid (HO4.out.below0 hb5)
     have HB5:=Lib.hid hB5
     have HFI:=Lib.hid (HO5.out.kept (kept5 w5 w.heap.size (.int .u64 r.gen) (.int .u64 r.seq) (.slice A2 r.ws.length c2) (.slice D2 r.ms.length d2) (.slice N2 r.note.length n2)) PB5)
     clear rr0 rr1 rr2 rr3 rr4 sr0 sr1 sr2 sr3 sr4
     clear q0 q1 q2 q3 q4 f0 f1 f2 f3 f4
     obtain ⟨rr0,rr1,rr2,rr3,rr4,sr0,sr1,sr2,sr3,sr4⟩:=cells5 (PB5)
     obtain ⟨q0,q1,q2,q3,q4,f0,f1,f2,f3,f4⟩:=cells5 hr5
     clear PB5 hB5 hb5
     go_wp2
     exact bodyPost_ret (by first | (simp [results,Tryz.results72,go_sem, *]; done) | (simp [results,Tryz.results72,go_sem, *]; rfl)) rfl ⟨A2,c2,D2,d2,N2,n2,by rw [HDF.out],by rw [HDF.out]; exact HFI.out,below5 (HBW.out _ HB5.out) (Nat.le_refl _) _ _ _ _ _⟩
    ·have HDF : Hid (decD ls = .bad 5):=by unfold Hid; rw [HDE.out,if_neg hse]
     rw [decide_eq_false hse] at HEQ
     clear hse
     go_wp2_with fail
     refine HEQ.out.mono ?_
     rintro e w5 ⟨rfl,hb5⟩
     have hB5 : Below (w.heap.size + 1) (w.alloc (.cells #[.int .u64 0,.int .u64 0,.slice none 0 0,.slice none 0 0,.slice none 0 0] 28)) w5:=HB4.out.trans (hb5.mono (by have:=HB4.out.size; omega))
     have PB5:=HPB.out w5 hB5
     have HB5:=Lib.hid hB5
     clear rr0 rr1 rr2 rr3 rr4 sr0 sr1 sr2 sr3 sr4
     clear q0 q1 q2 q3 q4 f0 f1 f2 f3 f4
     obtain ⟨rr0,rr1,rr2,rr3,rr4,sr0,sr1,sr2,sr3,sr4⟩:=cells5 (PB5)
     clear PB5 hB5 hb5
     go_wp2
     exact bodyPost_ret (by first | (simp [results,Tryz.results72,go_sem, *]; done) | (simp [results,Tryz.results72,go_sem, *]; rfl)) rfl (DecPost.bad HDF.out rfl (below5 (HBW.out _ HB5.out) (Nat.le_refl _) _ _ _ _ _))
end Go.Proofs.YtaggiceejcegdaaGreat

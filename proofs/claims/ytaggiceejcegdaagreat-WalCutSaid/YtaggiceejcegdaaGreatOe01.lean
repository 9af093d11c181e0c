/-
  WHAT IS SHOWN: more: what the closures of Write and Flush of wal return and leave. what the methods of the readers of codec and of tegularef09 return. what Uint of the readers of codec and of tegularef09 returns. what New, Int, Bytes, Done and Left of the readers of codec and of tegularef09 return. what Count and Block of the reader of codec and Block of the reader of tegularef09 return. what slices.Equal returns for bytes; the plain answer of Inspect. what slices.EqualFunc of record and SameSectors of tegularef27 return. what Write of wal returns and leaves. plain facts, of no program, on reading records from bytes. Conditions: as each theorem names them.
-/
import Derived.Test.YtaggiceejcegdaaGreatNc35
import Derived.BigQuiet
import Derived.ChangeKeysEq
import Derived.ChangeOld
import Derived.Deep.AppendLies
import Derived.Deep.DeepCutAuto
import Derived.Deep.Draws
import Derived.Deep.Fields
import Derived.Deep.QuietTactic
import Derived.Deep.RegionHeld3
import Derived.Deep.RegionLaw
import Derived.Deep.Slices
import Derived.Handy
import Derived.Laws.AppendOwnNone
import Derived.Laws.BytesArg
import Derived.Laws.Cover3
import Derived.Laws.MakeOwn
import Derived.Laws.OwnMore
import Derived.Laws.Rows
import Derived.Lib.ConvBytes
import Derived.Lib.Hide
import Derived.Lib.SmallJoins
import Derived.Lib.VarintBits
import Derived.Lib.Zigzag
import Derived.LoopIn
import Derived.LoopNIn
import Derived.Maps.AppendAt
import Derived.OpenShut
import Derived.OwnWalkIn
import Derived.ProofKit
import Derived.RangeFuncBox
import Derived.RangeFuncLeaves
import Derived.Shelf.Abstract
import Derived.Sort.QuietIn
import Derived.TacticsInMore
import Derived.WalkKit
import Derived.WalkLawsBesides
import Derived.WalkMore
import Derived.WalkSpells
import Derived.Test.YtaggiceejcegdaaGreatOe00
namespace Go.Proofs.YtaggiceejcegdaaGreat
set_option linter.unusedVariables false
open Go.RowKit
section
variable {w w' : World} {B : Bd} {q pw : Nat} {g : Geo} {F : List Flt} {d : DC}
set_option maxRecDepth 100000 in
set_option maxHeartbeats 2000000 in
theorem flcl_any {key : Int} {bd bk : Nat} {fd fk : Nat × Nat} (h : DM w B q pw g F d) (hn : F.length ≤ 9223372036854775807) (hon : d.O.length ≤ 99000)
  (hd : w.heap[bd]? = some (.cells #[.pointer (some ⟨q,0,none⟩)] 52 fd)) (hk : w.heap[bk]? = some (.cells #[.int .u64 key] 23 fk)) :
  Calls Tryz.prog 58 #[.pointer (some ⟨bd,0,none⟩),.pointer (some ⟨bk,0,none⟩)] w fun e w'=>e = .returned (.int .i64 (fOne g F key d).2.er) ∧ DM w' B q pw g F (fOne g F key d).1 ∧ KeptT DAT B w w':=by
 have c0:=cell_one hd
 have c1:=cell_one hk
 have HC:=Lib.hid (dflush_any key h hn hon)
 clear hd hk h
 go_enter Tryz.func58,Tryz.ntmps58
 go_wp2_with fail
 refine HC.out.mono ?_
 rintro e w1 ⟨rfl,hd1,hk1⟩
 have HD:=Lib.hid (And.intro hd1 hk1)
 clear hd1 hk1 HC
 go_wp2
 go_ret
 exact ⟨rfl,HD.out⟩
theorem tryfl_any {key : Int} {bd bk : Nat} {fd fk : Nat × Nat} (h : DM w B q pw g F d) (hn : F.length ≤ 9223372036854775807) (hon : d.O.length + 9 ≤ 99000)
  (hd : w.heap[bd]? = some (.cells #[.pointer (some ⟨q,0,none⟩)] 52 fd)) (hk : w.heap[bk]? = some (.cells #[.int .u64 key] 23 fk)) :
  Calls Tryz.prog 54 #[.func (.func 58) #[] #[.pointer (some ⟨bd,0,none⟩),.pointer (some ⟨bk,0,none⟩)]] w fun e w'=>e = .returned (.int .i64 (tryD (fOne g F key) d).2.er) ∧ DM w' B q pw g F (tryD (fOne g F key) d).1 ∧ KeptT DAT B w w':=by
 refine (tryflush_any bd bk (fun n W=>DM W B q pw g F (callN (fOne g F key) d n) ∧ KeptT DAT B w W) (fun n=>(ansN (fOne g F key) d n).er) ⟨h,KeptT.refl _ _ w⟩ ?_).mono ?_
 ·intro n W hn8 ⟨hW,hkW⟩
  have hl:=callN_len (fOne_len g F key) d n
  refine (flcl_any hW hn (by omega) (Kept.obj hkW hd (KeptT.no (IsT.of hd) (by unfold DAT; decide))) (Kept.obj hkW hk (KeptT.no (IsT.of hk) (by unfold DAT; decide)))).mono ?_
  rintro e w' ⟨rfl,hd',hk'⟩
  exact ⟨rfl,hd',hkW.trans hk'⟩
 ·rintro e w' ⟨k,rfl,⟨hd',hk'⟩,hb,hlast⟩
  rw [try_stop hb hlast]
  exact ⟨rfl,hd',hk'⟩
end
end Go.Proofs.YtaggiceejcegdaaGreat
namespace Go.Proofs.YtaggiceejcegdaaGreat
set_option linter.unusedVariables false
open Go.RowKit
theorem fail_any {w : World} {q : Nat} {r : Rdr} (h : RdrM 236 w q r) : Calls Tryz.prog 173 #[.pointer (some ⟨q,0,none⟩)] w (fun e w'=>e = .returned (.int .i64 5) ∧ RdrPost 236 w q Rdr.fail w'):=by
 have HF:=Lib.hid h.failed
 obtain ⟨A,c,hq,hr,hu,hok,hc,hcm,hn⟩:=h
 obtain ⟨c0,c1,f0,f1⟩:=heap_cells hq
 clear hq hr hu hok hc hn
 go_enter Tryz.func173,Tryz.ntmps173
 go_wp2
 go_ret
 exact ⟨rfl,HF.out⟩
set_option maxRecDepth 100000 in
set_option maxHeartbeats 1000000 in
theorem take_any {w : World} {q : Nat} {r : Rdr} (n : Nat) (hn : n < 2 ^ 64) (h : RdrM 236 w q r) : Calls Tryz.prog 172 #[.pointer (some ⟨q,0,none⟩),.int .u64 n] w (TakePost 236 w q (r.take n)):=by
 have HF:=Lib.hid (fail_any h)
 obtain ⟨A,c,hq,hr,hu,hok,hc,hcm,hnn⟩:=h
 obtain ⟨c0,c1,f0,f1⟩:=heap_cells hq
 by_cases hb : r.bad = true ∨ r.rest.length < n
 ·have HT : Hid (r.take n = ([],5,Rdr.fail)):=by unfold Hid Rdr.take; rw [if_pos hb]
  by_cases hbb : r.bad = true
  ·rw [hbb] at c1
   clear hq hr hu hok hb
   go_enter Tryz.func172,Tryz.ntmps172
   go_wp2_with fail
   refine HF.out.mono ?_
   rintro e w1 ⟨rfl,hp⟩
   have HP:=Lib.hid hp
   clear hp
   go_wp2
   go_ret2
   refine ⟨none,0,by rw [HT.out]; rfl,?_,?_,fun _=>rfl,?_,?_⟩ <;> rw [HT.out]
   ·exact RdT.nil _ _ _
   ·intro x hx; cases hx
   ·exact Nat.le_refl _
   ·exact HP.out
  ·have hbf : r.bad = false:=by simpa using hbb
   have hlt : r.rest.length < n:=by rcases hb with h | h; exact absurd h hbb; exact h
   rw [hbf] at c1
   clear hq hr hu hok hb hbb
   go_enter Tryz.func172,Tryz.ntmps172
   go_wp2_with fail
   refine HF.out.mono ?_
   rintro e w1 ⟨rfl,hp⟩
   have HP:=Lib.hid hp
   clear hp
   go_wp2
   go_ret2
   refine ⟨none,0,by rw [HT.out]; rfl,?_,?_,fun _=>rfl,?_,?_⟩ <;> rw [HT.out]
   ·exact RdT.nil _ _ _
   ·intro x hx; cases hx
   ·exact Nat.le_refl _
   ·exact HP.out
 ·have HT : Hid (r.take n = (r.rest.take n,0,⟨r.rest.drop n,r.bad⟩)):=by unfold Hid Rdr.take; rw [if_neg hb]
  have hbf : r.bad = false:=by cases hx : r.bad with
   | true=>exact absurd (Or.inl hx) hb
   | false=>rfl
  have hle : n ≤ r.rest.length:=by omega
  have HW:=Lib.hid (fun D d hD=>RdrM.went (D:=D) (d:=d) (by decide) hq hr hu hok hc hcm hnn n hle hD)
  have HTK:=Lib.hid (fun W (hk : Kept (fun k=>k = q) w W)=>(take_mem hr n).kept hk (Free.one hq (by decide)))
  have HUT:=Lib.hid (hu.take n)
  have HLT : Hid ((r.rest.take n).length = n):=by unfold Hid; simp; omega
  have HNN:=Lib.hid hnn
  rw [hbf] at c1
  clear hq hr hu hok hb hnn
  have hx1 : ¬ (r.rest.length < n):=by omega
  by_cases hcn : c = n
  ·have hww:=HW.out A 0 (.inl ⟨hcn,rfl,rfl⟩)
   rw [show r.rest.length - n = 0 by omega] at hww
   have HWW:=Lib.hid hww
   subst hcn
   clear HW hww
   go_enter Tryz.func172,Tryz.ntmps172
   go_wp2
   go_ret2
   refine ⟨A,c,?_,?_,?_,?_,?_,?_⟩ <;> try rw [HT.out]
   ·show _ = Ending.returned (.tuple #[.slice A (r.rest.take c).length c,.int .i64 0]); rw [HLT.out]; rfl
   ·simp only [List.map_take]; exact HTK.out _ HWW.out.2
   ·exact HUT.out
   ·intro h; have:=HNN.out h; omega
   ·simp only; rw [HLT.out]; exact Nat.le_refl _
   ·exact HWW.out
  ·have HWW:=Lib.hid (HW.out (A.map (fun x=>x.add n)) (c - n) (.inr ⟨hcn,rfl,rfl⟩))
   clear HW
   go_enter Tryz.func172,Tryz.ntmps172
   go_wp2
   go_ret2
   refine ⟨A,n,?_,?_,?_,?_,?_,?_⟩ <;> try rw [HT.out]
   ·show _ = Ending.returned (.tuple #[.slice A (r.rest.take n).length n,.int .i64 0]); rw [HLT.out]; rfl
   ·simp only [List.map_take]; exact HTK.out _ HWW.out.2
   ·exact HUT.out
   ·intro h; have:=HNN.out h; omega
   ·simp only; rw [HLT.out]; exact Nat.le_refl _
   ·exact HWW.out
end Go.Proofs.YtaggiceejcegdaaGreat
namespace Go.Proofs.YtaggiceejcegdaaGreat
set_option linter.unusedVariables false
open Go.RowKit
theorem take1_nil (b : Bool) : (⟨[],b⟩ : Rdr).take 1 = ([],5,Rdr.fail):=by unfold Rdr.take; simp
theorem take1_cons (c : Int) (l : List Int) : (⟨c :: l,false⟩ : Rdr).take 1 = ([c],0,⟨l,false⟩):=by unfold Rdr.take; simp
theorem u64_and127 {c : Int} (h0 : 0 ≤ c) (h1 : c ≤ 255) : bits BinOp.and IntKind.u64 c 127 = c % 128:=by
 have h:=bits_mask .u64 64 (by decide) wraps_u64 7 (by decide) c h0 (by omega)
 simpa using h
theorem u64_or7 {i n : Nat} {k : Nat} (hn : n < 2 ^ (7 * i)) (hk : k * 2 ^ (7 * i) + n < 2 ^ 64) : bits BinOp.or IntKind.u64 (n : Int) ((k * 2 ^ (7 * i) : Nat) : Int) = ((n + k * 2 ^ (7 * i) : Nat) : Int):=by
 rw [bits_or_u64_nat _ _ (by omega) (by omega),Nat.or_comm,Nat.mul_comm,← Nat.two_pow_add_eq_or_of_lt hn]
 rw [Nat.add_comm]
theorem uint_val {i n : Nat} {c : Int} (h0 : 0 ≤ c) (h1 : c ≤ 255) (hn : n < 2 ^ (7 * i)) (hb : n + (c % 128).toNat * 2 ^ (7 * i) < 2 ^ 64) :
  bits BinOp.or IntKind.u64 (n : Int) (IntKind.u64.wrap (bits BinOp.and IntKind.u64 c 127 * 2 ^ (7 * i))) = ((n + (c % 128).toNat * 2 ^ (7 * i) : Nat) : Int):=by
 have e : c % 128 = (((c % 128).toNat : Nat) : Int):=by omega
 have e2 : (((c % 128).toNat : Nat) : Int) * 2 ^ (7 * i) = (((c % 128).toNat * 2 ^ (7 * i) : Nat) : Int):=by push_cast; rfl
 rw [u64_and127 h0 h1,e,e2]
 have e3 : IntKind.u64.wrap (((c % 128).toNat * 2 ^ (7 * i) : Nat) : Int) = (((c % 128).toNat * 2 ^ (7 * i) : Nat) : Int):=by rw [IntKind.wrap_u64]; omega
 have e4 : (((c % 128).toNat : Nat) : Int).toNat = (c % 128).toNat:=by omega
 rw [e3,u64_or7 hn (by omega),e4]
set_option maxRecDepth 100000 in
set_option maxHeartbeats 1000000 in
theorem uint_any {w : World} {q : Nat} {r : Rdr} (h : RdrM 236 w q r) : Calls Tryz.prog 149 #[.pointer (some ⟨q,0,none⟩)] w (UintPost 236 w q r):=by
 have h0 : RdrPost 236 w q ⟨r.rest,r.bad⟩ w:=⟨h,Kept.refl _ _⟩
 have H0:=Lib.hid h0
 clear h h0
 go_enter Tryz.func149,Tryz.ntmps149
 go_wp2
 go_loopw [4,9] (fun s4 s9 wr=>∃ (i n : Nat) (l : List Int),i ≤ 10 ∧ s9 = .int .i64 i ∧ s4 = .int .u64 n ∧ n < 2 ^ (7 * i) ∧ n < 2 ^ 64 ∧ Hid (RdrPost 236 w q ⟨l,r.bad⟩ wr) ∧ Hid (uintGo i n l = uintD r.rest)) (fun _ v _=>10 - (intOf v).toNat)
 case atStart=>exact ⟨0,0,r.rest,by omega,rfl,rfl,by decide,by decide,H0,rfl⟩
 case round=>
  obtain ⟨i,n,l,hi,rfl,rfl,hn,hn64,HP,HE⟩:=hrel
  by_cases hi10 : i < 10
  ·cases l with
   | nil=>
     have HT:=Lib.hid (take_any 1 (by decide) HP.out.1)
     have HN : Hid (r.uint = (0,5,Rdr.fail)):=by unfold Hid Rdr.uint; rw [← HE.out,uintGo_nil]
     unfold Hid at HT
     rw [take1_nil] at HT
     go_wp2_with fail
     refine HT.mono ?_
     rintro e w1 ⟨D,d,rfl,_,_,_,_,hp⟩
     have HP1:=Lib.hid (HP.out.trans hp)
     clear hp HT
     go_wp2
     go_ret2
     exact ⟨by rw [HN.out]; rfl,by rw [HN.out]; exact HP1.out⟩
   | cons c l=>
     have hbf : r.bad = false:=by
      have:=HP.out.1
      obtain ⟨_,_,_,_,_,hok,_⟩:=this
      cases hb : r.bad with
      | false=>rfl
      | true=>have:=hok hb; simp at this
     have hu : 0 ≤ c ∧ c ≤ 255:=by
      obtain ⟨_,_,_,_,hu,_⟩:=HP.out.1
      exact hu c (by simp)
     obtain ⟨hc0,hc1⟩:=hu
     have HT:=Lib.hid (take_any 1 (by decide) HP.out.1)
     unfold Hid at HT
     rw [hbf,take1_cons] at HT
     have HBF:=Lib.hid hbf
     clear hbf
     have HA:=Lib.hid (u64_and127 hc0 hc1)
     go_wp2_with fail
     refine HT.mono ?_
     rintro e w1 ⟨D,d,rfl,hd,_,_,hdd,hp⟩
     obtain ⟨g,o,rfl,_,hcell⟩:=byte_at hd.rd (k:=0) (by simp)
     simp only [Nat.add_zero,List.getElem_cons_zero] at hcell
     have hp1:=HP.out.trans hp
     simp only at hp1
     rw [← HBF.out] at hp1
     have HP1:=Lib.hid hp1
     clear hp1
     clear hp HT hd
     by_cases hA : i = 9 ∧ 1 < c
     ·have HN : Hid (r.uint = (0,5,Rdr.fail)):=by unfold Hid Rdr.uint; rw [← HE.out,uintGo_bad (.inr (.inl hA))]
      obtain ⟨rfl,hA2⟩:=hA
      go_wp2_with fail
      refine (fail_any HP1.out.1).mono ?_
      rintro e w2 ⟨rfl,hp⟩
      have HP2:=Lib.hid (HP1.out.trans hp)
      clear hp
      go_wp2
      go_ret2
      exact ⟨by rw [HN.out]; rfl,by rw [HN.out]; exact HP2.out⟩
     ·by_cases h128 : c < 128
      ·by_cases hB : c = 0 ∧ 0 < i
       ·have HN : Hid (r.uint = (0,5,Rdr.fail)):=by unfold Hid Rdr.uint; rw [← HE.out,uintGo_bad (.inr (.inr ⟨h128,hB⟩))]
        obtain ⟨rfl,hB2⟩:=hB
        by_cases h9 : i = 9
        ·subst h9
         go_wp2_with fail
         refine (fail_any HP1.out.1).mono ?_
         rintro e w2 ⟨rfl,hp⟩
         have HP2:=Lib.hid (HP1.out.trans hp)
         clear hp
         go_wp2
         go_ret2
         exact ⟨by rw [HN.out]; rfl,by rw [HN.out]; exact HP2.out⟩
        ·have h9' : (↑i == (9 : Int)) = false:=by simp; omega
         go_wp2_with fail
         refine (fail_any HP1.out.1).mono ?_
         rintro e w2 ⟨rfl,hp⟩
         have HP2:=Lib.hid (HP1.out.trans hp)
         clear hp
         go_wp2
         go_ret2
         exact ⟨by rw [HN.out]; rfl,by rw [HN.out]; exact HP2.out⟩
       ·have hb:=(uint_bnd (by omega) hn hc0 hA).2
        have HN : Hid (r.uint = (n + (c % 128).toNat * 2 ^ (7 * i),0,⟨l,r.bad⟩)):=by unfold Hid Rdr.uint; rw [← HE.out,uintGo_end (by omega) hA h128 hB]
        have HV:=Lib.hid (uint_val hc0 hc1 hn hb)
        by_cases h9 : i = 9
        ·subst h9
         have hc1 : ¬ (1 < c):=fun h=>hA ⟨rfl,h⟩
         have hc2 : c ≠ 0:=fun h=>hB ⟨h,by decide⟩
         obtain rfl : c = 1:=by omega
         go_wp2
         go_ret2
         exact ⟨by rw [HN.out]; simp only; rw [← HV.out]; rfl,by rw [HN.out]; exact HP1.out⟩
        ·have h9' : (↑i == (9 : Int)) = false:=by simp; omega
         by_cases hc : c = 0
         ·subst hc
          have h0 : ¬ 0 < i:=fun h=>hB ⟨rfl,h⟩
          obtain rfl : i = 0:=by omega
          go_wp2
          go_ret2
          exact ⟨by rw [HN.out]; simp only; rw [← HV.out]; rfl,by rw [HN.out]; exact HP1.out⟩
         ·have hc' : (c == (0 : Int)) = false:=by simp; omega
          go_wp2
          go_ret2
          exact ⟨by rw [HN.out]; simp only; rw [← HV.out]; rfl,by rw [HN.out]; exact HP1.out⟩
      ·have hb:=uint_bnd (by omega) hn hc0 hA
       have HE2:=Lib.hid ((uintGo_on (l:=l) (n:=n) (show ¬ 9 < i by omega) hA h128).symm.trans HE.out)
       have HV:=Lib.hid (uint_val hc0 hc1 hn hb.2)
       have h9 : i ≠ 9:=fun h=>hA ⟨h,by omega⟩
       have h9' : (↑i == (9 : Int)) = false:=by simp; omega
       go_wp2
       rw [HV.out]
       go_roundw
       case rel=>exact ⟨i + 1,_,l,by omega,by go_num,rfl,hb.1,hb.2,HP1.out,HE2⟩
       case measure=>simp [intOf]; omega
  ·obtain rfl : i = 10:=by omega
   have HN : Hid (r.uint = (0,5,Rdr.fail)):=by unfold Hid Rdr.uint; rw [← HE.out,uintGo_ten]
   have HP1:=HP
   go_wp2_with fail
   refine (fail_any HP1.out.1).mono ?_
   rintro e w2 ⟨rfl,hp⟩
   have HP2:=Lib.hid (HP1.out.trans hp)
   clear hp
   go_wp2
   go_ret2
   exact ⟨by rw [HN.out]; rfl,by rw [HN.out]; exact HP2.out⟩
end Go.Proofs.YtaggiceejcegdaaGreat
namespace Go.Proofs.YtaggiceejcegdaaGreat
set_option linter.unusedVariables false
open Go.RowKit
set_option maxRecDepth 100000 in
set_option maxHeartbeats 1000000 in
theorem new_any (xs : List Int) (hu : U8s xs) (A : Option Addr) (c : Nat) (w : World) (hr : Rd w w.heap.size A (xs.map (Value.int .u8))) (hx : xs.length ≤ 900000) :
  Calls Tryz.prog 148 #[.slice A xs.length c] w (qRNewPost 236 w xs):=by
 have HC:=Lib.hid (cloneo_any xs A c w hr (by omega))
 clear hr
 go_enter Tryz.func148,Tryz.ntmps148
 go_wp2_with fail
 refine HC.out.mono ?_
 rintro e w1 ⟨A1,c1,rfl,ho1,hb1⟩
 have HN:=Lib.hid (rdr_new (ty:=236) hu ho1 hb1)
 clear ho1
 go_wp2
 go_ret
 exact HN.out
theorem done_any {w : World} {q : Nat} {r : Rdr} (hlen : r.rest.length ≤ 1000000) (h : RdrM 236 w q r) : Calls Tryz.prog 151 #[.pointer (some ⟨q,0,none⟩)] w (fun e w'=>e = .returned (.int .i64 r.done) ∧ w' = w):=by
 obtain ⟨A,c,hq,hr,hu,hok,hc,hcm,hnn⟩:=h
 obtain ⟨c0,c1,f0,f1⟩:=heap_cells hq
 clear hq hr hu
 by_cases hb : r.bad = true
 ·have HD : Hid (r.done = 5):=by unfold Hid Rdr.done; rw [if_pos (.inl hb)]
  rw [hb] at c1
  clear hok hb
  go_enter Tryz.func151,Tryz.ntmps151
  go_wp2
  go_ret
  exact ⟨by rw [HD.out]; rfl,rfl⟩
 ·have hbf : r.bad = false:=by simpa using hb
  rw [hbf] at c1
  by_cases hl : 0 < r.rest.length
  ·have HD : Hid (r.done = 5):=by unfold Hid Rdr.done; rw [if_pos (.inr hl)]
   clear hok hb hbf
   go_enter Tryz.func151,Tryz.ntmps151
   go_wp2
   go_ret
   exact ⟨by rw [HD.out]; rfl,rfl⟩
  ·have HD : Hid (r.done = 0):=by unfold Hid Rdr.done; rw [if_neg (by rintro (h | h); exact hb h; exact hl h)]
   have hl0 : r.rest.length = 0:=by omega
   clear hok hb hbf
   go_enter Tryz.func151,Tryz.ntmps151
   go_wp2
   go_ret
   exact ⟨by rw [HD.out]; rfl,rfl⟩
set_option maxRecDepth 100000 in
set_option maxHeartbeats 1000000 in
theorem int_any {w : World} {q : Nat} {r : Rdr} (h : RdrM 236 w q r) : Calls Tryz.prog 154 #[.pointer (some ⟨q,0,none⟩)] w (fun e w'=>e = .returned (.tuple #[.int .i64 (zagN r.uint.1),.int .i64 r.uint.2.1]) ∧ RdrPost 236 w q r.uint.2.2 w'):=by
 have hc:=uint_any h
 unfold UintPost at hc
 obtain ⟨hn64,he⟩:=uint_fst h
 clear h
 generalize r.uint.2.2 = r2 at *
 generalize r.uint.1 = n at *
 generalize r.uint.2.1 = er at *
 have HC:=Lib.hid hc
 have HZ:=Lib.hid (zag_code hn64)
 have HG : Hid (zagN n = if n % 2 = 0 then ((n / 2 : Nat) : Int) else -((n / 2 : Nat) : Int) - 1):=rfl
 have hdv : (n : Int) / 2 = ((n / 2 : Nat) : Int):=by omega
 have HDV:=Lib.hid hdv
 clear hc hdv
 rcases he with rfl | ⟨rfl,rfl⟩
 ·by_cases hm : n % 2 = 0
  ·have HG2:=HG.out
   rw [if_pos hm,← HDV.out] at HG2
   have HG3:=Lib.hid HG2
   have hm' : (n : Int) % 2 = 0:=by omega
   clear HG2 hm
   go_enter Tryz.func154,Tryz.ntmps154
   go_wp2_with fail
   refine HC.out.mono ?_
   rintro e w1 ⟨rfl,hp⟩
   have HP:=Lib.hid hp
   clear hp
   go_wp2
   go_ret2
   exact ⟨by first | (rw [← HZ.out]; rfl) | (rw [HG3.out]; rfl),HP.out⟩
  ·have HG2:=HG.out
   rw [if_neg hm,← HDV.out] at HG2
   have HG3:=Lib.hid HG2
   have hm' : ¬ (n : Int) % 2 = 0:=by omega
   clear HG2 hm
   go_enter Tryz.func154,Tryz.ntmps154
   go_wp2_with fail
   refine HC.out.mono ?_
   rintro e w1 ⟨rfl,hp⟩
   have HP:=Lib.hid hp
   clear hp
   go_wp2
   go_ret2
   exact ⟨by first | (rw [← HZ.out]; rfl) | (rw [HG3.out]; rfl),HP.out⟩
 ·go_enter Tryz.func154,Tryz.ntmps154
  go_wp2_with fail
  refine HC.out.mono ?_
  rintro e w1 ⟨rfl,hp⟩
  have HP:=Lib.hid hp
  clear hp
  go_wp2
  go_ret2
  exact ⟨by first | (rw [← HZ.out]; rfl) | rfl,HP.out⟩
set_option maxRecDepth 100000 in
set_option maxHeartbeats 1000000 in
theorem bytes_any {w : World} {q : Nat} {r : Rdr} (h : RdrM 236 w q r) : Calls Tryz.prog 150 #[.pointer (some ⟨q,0,none⟩)] w (TakePost 236 w q r.bytes):=by
 have hc:=uint_any h
 unfold UintPost at hc
 obtain ⟨hn64,he⟩:=uint_fst h
 have HB : Hid (r.bytes = if r.uint.2.1 = 0 then r.uint.2.2.take r.uint.1 else ([],r.uint.2.1,r.uint.2.2)):=rfl
 clear h
 unfold Hid at HB
 generalize r.uint.2.2 = r2 at *
 generalize r.uint.1 = n at *
 generalize r.uint.2.1 = er at *
 have HC:=Lib.hid hc
 clear hc
 rcases he with rfl | ⟨rfl,rfl⟩
 ·rw [if_pos rfl] at HB
  have HBB:=Lib.hid HB
  clear HB
  go_enter Tryz.func150,Tryz.ntmps150
  go_wp2_with fail
  refine HC.out.mono ?_
  rintro e w1 ⟨rfl,hp⟩
  have HT:=Lib.hid (take_any n hn64 hp.1)
  have HP:=Lib.hid hp
  clear hp
  go_wp2_with fail
  refine HT.out.mono ?_
  rintro e w2 ⟨D,d,rfl,h1,h2,h3,h4,h5⟩
  have HTT : Hid (TakePost 236 w q r.bytes (.returned (.tuple #[.slice D (r2.take n).1.length d,.int .i64 (r2.take n).2.1])) w2):=by
   unfold Hid; rw [HBB.out]; exact ⟨D,d,rfl,h1,h2,h3,h4,h5.1,HP.out.2.trans h5.2 (fun _ _ h=>h)⟩
  clear h1 h2 h3 h4 h5
  go_wp2
  go_ret2
  exact HTT.out
 ·rw [if_neg (by decide)] at HB
  have HBB:=Lib.hid HB
  clear HB
  go_enter Tryz.func150,Tryz.ntmps150
  go_wp2_with fail
  refine HC.out.mono ?_
  rintro e w1 ⟨rfl,hp⟩
  have HP:=Lib.hid hp
  clear hp
  go_wp2
  go_ret2
  unfold TakePost
  rw [HBB.out]
  exact ⟨none,0,rfl,RdT.nil _ _ _,(by intro x hx; cases hx),fun _=>rfl,Nat.le_refl _,HP.out⟩
end Go.Proofs.YtaggiceejcegdaaGreat
namespace Go.Proofs.YtaggiceejcegdaaGreat
set_option linter.unusedVariables false
open Go.RowKit
set_option maxRecDepth 100000 in
set_option maxHeartbeats 1000000 in
theorem count_any {w : World} {q : Nat} {r : Rdr} (m : Nat) (hm : m ≤ 1000000) (h : RdrM 236 w q r) : Calls Tryz.prog 152 #[.pointer (some ⟨q,0,none⟩),.int .i64 m] w (fun e w'=>e = .returned (.tuple #[.int .i64 (r.count m).1,.int .i64 (r.count m).2.1]) ∧ RdrPost 236 w q (r.count m).2.2 w'):=by
 have hc:=uint_any h
 unfold UintPost at hc
 obtain ⟨hn64,he⟩:=uint_fst h
 have hcn : r.count m = if r.uint.2.1 = 0 ∧ m < r.uint.1 then (0,5,Rdr.fail) else (r.uint.1,r.uint.2.1,r.uint.2.2):=rfl
 clear h
 generalize r.uint.2.2 = r2 at *
 generalize r.uint.1 = n at *
 generalize r.uint.2.1 = er at *
 have HC:=Lib.hid hc
 clear hc
 rcases he with rfl | ⟨rfl,rfl⟩
 ·by_cases hmn : m < n
  ·rw [if_pos ⟨rfl,hmn⟩] at hcn
   have HN:=Lib.hid hcn
   clear hcn
   go_enter Tryz.func152,Tryz.ntmps152
   go_wp2_with fail
   refine HC.out.mono ?_
   rintro e w1 ⟨rfl,hp⟩
   have HP:=Lib.hid hp
   clear hp
   go_wp2_with fail
   refine (fail_any HP.out.1).mono ?_
   rintro e w2 ⟨rfl,hp2⟩
   have HP2:=Lib.hid (HP.out.trans hp2)
   clear hp2
   go_wp2
   go_ret2
   exact ⟨by rw [HN.out]; rfl,by rw [HN.out]; exact HP2.out⟩
  ·rw [if_neg (fun h=>hmn h.2)] at hcn
   have HN:=Lib.hid hcn
   clear hcn
   go_enter Tryz.func152,Tryz.ntmps152
   go_wp2_with fail
   refine HC.out.mono ?_
   rintro e w1 ⟨rfl,hp⟩
   have HP:=Lib.hid hp
   clear hp
   go_wp2
   go_ret2
   exact ⟨by rw [HN.out]; rfl,by rw [HN.out]; exact HP.out⟩
 ·rw [if_neg (fun h=>by cases h.1)] at hcn
  have HN:=Lib.hid hcn
  clear hcn
  go_enter Tryz.func152,Tryz.ntmps152
  go_wp2_with fail
  refine HC.out.mono ?_
  rintro e w1 ⟨rfl,hp⟩
  have HP:=Lib.hid hp
  clear hp
  go_wp2
  go_ret2
  exact ⟨by rw [HN.out]; rfl,by rw [HN.out]; exact HP.out⟩
set_option maxRecDepth 100000 in
set_option maxHeartbeats 1000000 in
theorem block_any {w : World} {q : Nat} {r : Rdr} (h : RdrM 236 w q r) : Calls Tryz.prog 153 #[.pointer (some ⟨q,0,none⟩)] w (BlkPost 236 w q r):=by
 have hb0 : Below w.heap.size w (w.alloc (.cells #[.int .u8 0,.int .u8 0,.int .u8 0,.int .u8 0,.int .u8 0,.int .u8 0,.int .u8 0,.int .u8 0] 149)):=(Below.refl _ _).alloc (Nat.le_refl _) _
 have hT:=take_any 8 (by decide) (h.below hb0)
 have hql:=h.lt
 have hbk : r.blk = (if (r.take 8).2.1 = 0 then (r.take 8).1 else [0,0,0,0,0,0,0,0],(r.take 8).2.1,(r.take 8).2.2):=rfl
 have hcase : ((r.take 8).2.1 = 0 ∧ (r.take 8).1.length = 8) ∨ (r.take 8).2.1 = 5:=by
  unfold Rdr.take; split
  ·exact .inr rfl
  ·exact .inl ⟨rfl,by simp; omega⟩
 generalize (r.take 8) = x at *
 obtain ⟨xl,xe,xr⟩:=x
 simp only at hbk hcase
 have HT:=Lib.hid hT
 have HB0:=Lib.hid hb0
 clear hT h hb0
 rcases hcase with ⟨rfl,h8⟩ | rfl
 ·rw [if_pos rfl] at hbk
  have HBK:=Lib.hid hbk
  clear hbk
  obtain ⟨b0,b1,b2,b3,b4,b5,b6,b7,rfl⟩:=list8 h8
  go_enter Tryz.func153,Tryz.ntmps153
  go_wp2_with fail
  refine HT.out.mono ?_
  rintro e w1 ⟨D,d,rfl,h1,h2,h3,h4,h5⟩
  obtain ⟨g,o,rfl,_,t0⟩:=byte_at h1.rd (k:=0) (by simp)
  obtain ⟨_,_,e1,_,t1⟩:=byte_at h1.rd (k:=1) (by simp); injection e1 with e1; injection e1 with e1a e1b; subst e1a; subst e1b
  obtain ⟨_,_,e2,_,t2⟩:=byte_at h1.rd (k:=2) (by simp); injection e2 with e2; injection e2 with e2a e2b; subst e2a; subst e2b
  obtain ⟨_,_,e3,_,t3⟩:=byte_at h1.rd (k:=3) (by simp); injection e3 with e3; injection e3 with e3a e3b; subst e3a; subst e3b
  obtain ⟨_,_,e4,_,t4⟩:=byte_at h1.rd (k:=4) (by simp); injection e4 with e4; injection e4 with e4a e4b; subst e4a; subst e4b
  obtain ⟨_,_,e5,_,t5⟩:=byte_at h1.rd (k:=5) (by simp); injection e5 with e5; injection e5 with e5a e5b; subst e5a; subst e5b
  obtain ⟨_,_,e6,_,t6⟩:=byte_at h1.rd (k:=6) (by simp); injection e6 with e6; injection e6 with e6a e6b; subst e6a; subst e6b
  obtain ⟨_,_,e7,_,t7⟩:=byte_at h1.rd (k:=7) (by simp); injection e7 with e7; injection e7 with e7a e7b; subst e7a; subst e7b
  simp only [Nat.add_zero,List.getElem_cons_zero,List.getElem_cons_succ] at t0 t1 t2 t3 t4 t5 t6 t7
  have hra:=fun W=>run_arrayAt (P:=Tryz.prog) (w:=W) 149 5 8 (some ⟨g,o,none⟩) 8 d Tryz.underlying149 (Nat.le_refl 8)
  have hgt : ¬ (w.heap.size = q):=by omega
  have hO : w1.heap[w.heap.size]? = some (.cells #[.int .u8 0,.int .u8 0,.int .u8 0,.int .u8 0,.int .u8 0,.int .u8 0,.int .u8 0,.int .u8 0] 149 (0,0)):=h5.2.obj (heap_alloc_new _ _) hgt
  obtain ⟨⟨x0,x1,x2,x3,x4,x5,x6,x7⟩,⟨y0,y1,y2,y3,y4,y5,y6,y7⟩⟩:=cells8 hO
  have HK8:=Lib.hid (kept8 w1 w.heap.size (.int .u8 b0) (.int .u8 b1) (.int .u8 b2) (.int .u8 b3) (.int .u8 b4) (.int .u8 b5) (.int .u8 b6) (.int .u8 b7))
  have HP:=Lib.hid h5
  have HFR : Hid (Free w1 5 (fun k=>k = w.heap.size)):=Free.one hO (by decide)
  clear h1 h2 h3 h4 h5 hO
  have HF : Hid (RdrPost 236 w q r.blk.2.2 ((((((((w1.setCell ⟨w.heap.size,0,none⟩ (.int .u8 b0)).setCell ⟨w.heap.size,1,none⟩ (.int .u8 b1)).setCell ⟨w.heap.size,2,none⟩ (.int .u8 b2)).setCell ⟨w.heap.size,3,none⟩ (.int .u8 b3)).setCell ⟨w.heap.size,4,none⟩ (.int .u8 b4)).setCell ⟨w.heap.size,5,none⟩ (.int .u8 b5)).setCell ⟨w.heap.size,6,none⟩ (.int .u8 b6)).setCell ⟨w.heap.size,7,none⟩ (.int .u8 b7))):=by
   unfold Hid; rw [HBK.out]
   exact ⟨HP.out.1.kept HK8.out (fun h=>hgt h.symm) HFR.out,((belKept0 (S:=fun k=>k = q) HB0.out).trans HP.out.2 (fun _ _ h=>h)).trans HK8.out (fun i hi h=>by have h' : i = w.heap.size:=h; omega)⟩
  clear HK8 HFR
  go_wp2
  exact bodyPost_ret (by simp [results,Tryz.results153,go_sem, *]; rfl) rfl ⟨by rw [HBK.out]; rfl,HF.out⟩
 ·rw [if_neg (by decide)] at hbk
  have HBK:=Lib.hid hbk
  clear hbk
  go_enter Tryz.func153,Tryz.ntmps153
  go_wp2_with fail
  refine HT.out.mono ?_
  rintro e w1 ⟨D,d,rfl,h1,h2,h3,h4,h5⟩
  have hgt : ¬ (w.heap.size = q):=by omega
  have hO : w1.heap[w.heap.size]? = some (.cells #[.int .u8 0,.int .u8 0,.int .u8 0,.int .u8 0,.int .u8 0,.int .u8 0,.int .u8 0,.int .u8 0] 149 (0,0)):=h5.2.obj (heap_alloc_new _ _) hgt
  obtain ⟨⟨x0,x1,x2,x3,x4,x5,x6,x7⟩,⟨y0,y1,y2,y3,y4,y5,y6,y7⟩⟩:=cells8 hO
  have HK8:=Lib.hid (kept8 w1 w.heap.size (.int .u8 0) (.int .u8 0) (.int .u8 0) (.int .u8 0) (.int .u8 0) (.int .u8 0) (.int .u8 0) (.int .u8 0))
  have HP:=Lib.hid h5
  have HFR : Hid (Free w1 5 (fun k=>k = w.heap.size)):=Free.one hO (by decide)
  clear h1 h2 h3 h4 h5 hO
  have HF : Hid (RdrPost 236 w q r.blk.2.2 ((((((((w1.setCell ⟨w.heap.size,0,none⟩ (.int .u8 0)).setCell ⟨w.heap.size,1,none⟩ (.int .u8 0)).setCell ⟨w.heap.size,2,none⟩ (.int .u8 0)).setCell ⟨w.heap.size,3,none⟩ (.int .u8 0)).setCell ⟨w.heap.size,4,none⟩ (.int .u8 0)).setCell ⟨w.heap.size,5,none⟩ (.int .u8 0)).setCell ⟨w.heap.size,6,none⟩ (.int .u8 0)).setCell ⟨w.heap.size,7,none⟩ (.int .u8 0))):=by
   unfold Hid; rw [HBK.out]
   exact ⟨HP.out.1.kept HK8.out (fun h=>hgt h.symm) HFR.out,((belKept0 (S:=fun k=>k = q) HB0.out).trans HP.out.2 (fun _ _ h=>h)).trans HK8.out (fun i hi h=>by have h' : i = w.heap.size:=h; omega)⟩
  clear HK8 HFR
  go_wp2
  exact bodyPost_ret (by simp [results,Tryz.results153,go_sem, *]; rfl) rfl ⟨by rw [HBK.out]; rfl,HF.out⟩
end Go.Proofs.YtaggiceejcegdaaGreat
namespace Go.Proofs.YtaggiceejcegdaaGreat
set_option linter.unusedVariables false
open Go.RowKit
theorem eq_by_take {xs ys : List Int} (hl : xs.length = ys.length) (h : xs.take xs.length = ys.take xs.length) : xs = ys:=by
 rw [List.take_length,hl,List.take_length] at h; exact h
theorem take_next {xs ys : List Int} {k : Nat} (hx : k < xs.length) (hy : k < ys.length) (h : xs.take k = ys.take k) (he : xs[k] = ys[k]) : xs.take (k + 1) = ys.take (k + 1):=by
 rw [List.take_succ_eq_append_getElem hx,List.take_succ_eq_append_getElem hy,h,he]
theorem ne_at {xs ys : List Int} {k : Nat} (hx : k < xs.length) (hy : k < ys.length) (he : ¬ xs[k] = ys[k]) : decide (xs = ys) = false:=by
 apply decide_eq_false
 rintro rfl
 exact he rfl
set_option maxRecDepth 100000 in
set_option maxHeartbeats 1000000 in
theorem equal_any (xs ys : List Int) (A D : Option Addr) (c d : Nat) (w : World) (hx : Rd w w.heap.size A (xs.map (Value.int .u8))) (hy : Rd w w.heap.size D (ys.map (Value.int .u8))) (hlx : xs.length ≤ 1000000) (hly : ys.length ≤ 1000000) :
  Calls Tryz.prog 115 #[.slice A xs.length c,.slice D ys.length d] w fun e w'=>e = .returned (.bool (decide (xs = ys))) ∧ Below w.heap.size w w':=by
 have HX:=Lib.hid hx
 have HY:=Lib.hid hy
 clear hx hy
 by_cases hl : xs.length = ys.length
 ·have HL:=Lib.hid hl
  rw [← hl]
  clear hly hl
  go_enter Tryz.func115,Tryz.ntmps115
  go_wp2
  go_loopw [13] (fun i wr=>∃ k : Nat,k ≤ xs.length ∧ i = .int .i64 k ∧ Hid (xs.take k = ys.take k) ∧ Hid (Below w.heap.size w wr)) (fun i _=>xs.length - (intOf i).toNat)
  case atStart=>exact ⟨0,Nat.zero_le _,rfl,rfl,Below.refl _ _⟩
  case round=>
   obtain ⟨k,hk,rfl,HT,HBR⟩:=hrel
   by_cases hlt : k < xs.length
   ·have hly : k < ys.length:=by have:=HL.out; omega
    obtain ⟨g1,o1,rfl,hg1,j1⟩:=byte_at (HX.out.below HBR.out (Nat.le_refl _)) hlt
    obtain ⟨g2,o2,rfl,hg2,j2⟩:=byte_at (HY.out.below HBR.out (Nat.le_refl _)) hly
    by_cases he : xs[k] = ys[k]
    ·have HT2:=Lib.hid (take_next hlt hly HT.out he)
     rw [← he] at j2
     generalize xs[k] = v at *
     clear he hly
     go_wp2
     go_quiet (fail)
     have HB2:=Lib.hid (below_drewN HBR.out nq)
     go_wp2
     go_roundw
     case rel=>exact ⟨k + 1,hlt,by go_num,HT2,HB2⟩
     case measure=>simp [intOf]; omega
    ·have HD:=Lib.hid (ne_at hlt hly he)
     generalize xs[k] = v at *
     generalize ys[k] = u at *
     have he' : (v == u) = false:=by simpa using he
     clear hly
     go_wp2
     go_quiet (fail)
     have HB2:=Lib.hid (below_drewN HBR.out nq)
     go_wp2
     go_ret
     exact ⟨by rw [HD.out]; rfl,HB2.out⟩
   ·obtain rfl : k = xs.length:=by omega
    have HD : Hid (decide (xs = ys) = true):=by unfold Hid; exact decide_eq_true (eq_by_take HL.out HT.out)
    go_wp2
    go_ret
    exact ⟨by rw [HD.out]; rfl,HBR.out⟩
 ·have HD : Hid (decide (xs = ys) = false):=by unfold Hid; apply decide_eq_false; rintro rfl; exact hl rfl
  have hl' : ¬ ((xs.length : Int) = (ys.length : Int)):=by omega
  go_enter Tryz.func115,Tryz.ntmps115
  go_wp2
  go_ret
  exact ⟨by rw [HD.out]; rfl,Below.refl _ _⟩
end Go.Proofs.YtaggiceejcegdaaGreat
namespace Go.Proofs.YtaggiceejcegdaaGreat
set_option linter.unusedVariables false
open Go.RowKit
theorem decode1_any (xs ys : List Int) (A D : Option Addr) (c d : Nat) (w : World) (hx : Rd w w.heap.size A (xs.map (Value.int .u8))) (hy : Rd w w.heap.size D (ys.map (Value.int .u8))) (hlx : xs.length ≤ 1000000) (hly : ys.length ≤ 1000000) :
  Calls Tryz.prog 114 #[.slice A xs.length c,.slice D ys.length d] w fun e w'=>e = .returned (.bool (decide (xs = ys))) ∧ Below w.heap.size w w':=by
 have HC:=Lib.hid (equal_any xs ys A D c d w hx hy hlx hly)
 generalize decide (xs = ys) = v at *
 clear hx hy
 go_enter Tryz.func114,Tryz.ntmps114
 go_wp2_with fail
 refine HC.out.mono ?_
 rintro e w1 ⟨rfl,hb⟩
 go_wp2
 go_ret
 exact ⟨rfl,hb⟩
set_option maxRecDepth 100000 in
set_option maxHeartbeats 1000000 in
theorem eqfunc_any (ss tt : List Sl) (A D : Option Addr) (c d : Nat) (w : World) (hx : SlsR w w.heap.size A ss) (hy : SlsR w w.heap.size D tt) (hls : ss.length ≤ 100000) (hlx : ∀ s ∈ ss,s.xs.length ≤ 1000000) (hly : ∀ s ∈ tt,s.xs.length ≤ 1000000) :
  Calls Tryz.prog 113 #[.slice A ss.length c,.slice D tt.length d,.func (.func 114) #[] #[]] w fun e w'=>e = .returned (.bool (decide (ss.map Sl.xs = tt.map Sl.xs))) ∧ Below w.heap.size w w':=by
 have HX:=Lib.hid hx
 have HY:=Lib.hid hy
 have HLX:=Lib.hid hlx
 have HLY:=Lib.hid hly
 clear hx hy hlx hly
 by_cases hl : ss.length = tt.length
 ·have HL:=Lib.hid hl
  rw [← hl]
  clear hl
  go_enter Tryz.func113,Tryz.ntmps113
  go_wp2
  go_loopw [17] (fun i wr=>∃ k : Nat,k ≤ ss.length ∧ i = .int .i64 k ∧ Hid ((ss.map Sl.xs).take k = (tt.map Sl.xs).take k) ∧ Hid (Below w.heap.size w wr)) (fun i _=>ss.length - (intOf i).toNat)
  case atStart=>exact ⟨0,Nat.zero_le _,rfl,rfl,Below.refl _ _⟩
  case round=>
   obtain ⟨k,hk,rfl,HT,HBR⟩:=hrel
   by_cases hlt : k < ss.length
   ·have hly : k < tt.length:=by have:=HL.out; omega
    have hX:=(HX.out.below HBR.out (Nat.le_refl _)).more HBR.out.size
    have hY:=(HY.out.below HBR.out (Nat.le_refl _)).more HBR.out.size
    obtain ⟨g1,o1,rfl,hg1,j1,hr1⟩:=sl_at hX hlt
    obtain ⟨g2,o2,rfl,hg2,j2,hr2⟩:=sl_at hY hly
    have HC:=Lib.hid (decode1_any ss[k].xs tt[k].xs ss[k].A tt[k].A ss[k].c tt[k].c wr hr1 hr2 (HLX.out _ (List.getElem_mem hlt)) (HLY.out _ (List.getElem_mem hly)))
    have hxl : k < (ss.map Sl.xs).length:=by simpa using hlt
    have hyl : k < (tt.map Sl.xs).length:=by simpa using hly
    have hxe : (ss.map Sl.xs)[k] = ss[k].xs:=by simp
    have hye : (tt.map Sl.xs)[k] = tt[k].xs:=by simp
    by_cases he : ss[k].xs = tt[k].xs
    ·have HT2:=Lib.hid (takel_next hxl hyl HT.out (by rw [hxe,hye]; exact he))
     rw [decide_eq_true he] at HC
     generalize ss[k] = s1 at *
     generalize tt[k] = s2 at *
     clear hX hY hr1 hr2 hxl hyl hxe hye hly
     have HEE:=Lib.hid he
     clear he
     go_wp2_with fail
     refine HC.out.mono ?_
     rintro e w1 ⟨rfl,hb1⟩
     have HB1:=Lib.hid (HBR.out.trans (hb1.mono HBR.out.size))
     clear hb1
     go_wp2
     go_roundw
     case rel=>exact ⟨k + 1,hlt,by go_num,HT2,HB1⟩
     case measure=>simp [intOf]; omega
    ·have HD:=Lib.hid (nel_at hxl hyl (by rw [hxe,hye]; exact he))
     rw [decide_eq_false he] at HC
     generalize ss[k] = s1 at *
     generalize tt[k] = s2 at *
     clear hX hY hr1 hr2 hxl hyl hxe hye hly he
     go_wp2_with fail
     refine HC.out.mono ?_
     rintro e w1 ⟨rfl,hb1⟩
     have HB1:=Lib.hid (HBR.out.trans (hb1.mono HBR.out.size))
     clear hb1
     go_wp2
     go_ret
     exact ⟨by rw [HD.out]; rfl,HB1.out⟩
   ·obtain rfl : k = ss.length:=by omega
    have HD : Hid (decide (ss.map Sl.xs = tt.map Sl.xs) = true):=by unfold Hid; exact decide_eq_true (eql_by_take (by simpa using HL.out) (by rw [List.length_map]; exact HT.out))
    go_wp2
    go_ret
    exact ⟨by rw [HD.out]; rfl,HBR.out⟩
 ·have HD : Hid (decide (ss.map Sl.xs = tt.map Sl.xs) = false):=by unfold Hid; apply decide_eq_false; intro h; have:=congrArg List.length h; simp at this; exact hl this
  have hl' : ¬ ((ss.length : Int) = (tt.length : Int)):=by omega
  go_enter Tryz.func113,Tryz.ntmps113
  go_wp2
  go_ret
  exact ⟨by rw [HD.out]; rfl,Below.refl _ _⟩
end Go.Proofs.YtaggiceejcegdaaGreat
namespace Go.Proofs.YtaggiceejcegdaaGreat
set_option linter.unusedVariables false
open Go.RowKit
section
variable {w w' : World} {B : Bd} {q pw : Nat} {g : Geo} {F : List Flt} {d : DC}
theorem box2_new (w : World) (q : Nat) (key : Int) : ((w.alloc (.cells #[.pointer (some ⟨q,0,none⟩)] 52)).alloc (.cells #[.int .u64 key] 23)).heap[w.heap.size]? = some (.cells #[.pointer (some ⟨q,0,none⟩)] 52 (0,0)) ∧
  ((w.alloc (.cells #[.pointer (some ⟨q,0,none⟩)] 52)).alloc (.cells #[.int .u64 key] 23)).heap[w.heap.size + 1]? = some (.cells #[.int .u64 key] 23 (0,0)):=by
 refine ⟨?_,?_⟩
 ·rw [belObj (B:=w.heap.size + 1) (w:=w.alloc (.cells #[.pointer (some ⟨q,0,none⟩)] 52)) ((Below.refl _ _).alloc (by simp) _) (heap_alloc_new w _) (by omega)]
 ·have:=heap_alloc_new (w.alloc (.cells #[.pointer (some ⟨q,0,none⟩)] 52)) (.cells #[.int .u64 key] 23)
  rw [World.size_alloc] at this
  exact this
set_option maxRecDepth 100000 in
set_option maxHeartbeats 2000000 in
theorem wflush_any {key : Int} (h : DM w B q pw g F d) (hn : F.length ≤ 9223372036854775807) (hon : d.O.length + 9 ≤ 99000) :
  Calls Tryz.prog 18 #[.pointer (some ⟨q,0,none⟩),.int .u64 key] w fun e w'=>e = .returned (.int .i64 (tryD (fOne g F key) d).2.er) ∧ DM w' B q pw g F (tryD (fOne g F key) d).1 ∧ KeptT DAT B w w':=by
 have hb0 : Below w.heap.size w ((w.alloc (.cells #[.pointer (some ⟨q,0,none⟩)] 52)).alloc (.cells #[.int .u64 key] 23)):=((Below.refl _ _).alloc (Nat.le_refl _) _).alloc (by simp) _
 have HC:=Lib.hid (tryfl_any (DPm.below0 h hb0) hn hon (box2_new w q key).1 (box2_new w q key).2)
 have HK : Hid (KeptT DAT B w ((w.alloc (.cells #[.pointer (some ⟨q,0,none⟩)] 52)).alloc (.cells #[.int .u64 key] 23))):=KeptT.bel hb0
 clear h hb0
 go_enter Tryz.func18,Tryz.ntmps18
 go_wp2_with fail
 refine HC.out.mono ?_
 rintro e w1 ⟨rfl,hd1,hk1⟩
 have HD:=Lib.hid (And.intro hd1 (HK.out.trans hk1))
 clear hd1 hk1 HC HK
 go_wp2
 go_ret
 exact ⟨rfl,HD.out⟩
end
end Go.Proofs.YtaggiceejcegdaaGreat
namespace Go.Proofs.YtaggiceejcegdaaGreat
set_option linter.unusedVariables false
theorem count_fail (m : Nat) : Rdr.fail.count m = (0,5,Rdr.fail):=by unfold Rdr.count; rw [uint_fail]; simp
theorem count_good {l l' : List Int} {n m : Nat} (h : uintD l = some (n,l')) (hm : n ≤ m) : (⟨l,false⟩ : Rdr).count m = (n,0,⟨l',false⟩):=by
 unfold Rdr.count; rw [uint_good h]; simp; omega
theorem count_high {l l' : List Int} {n m : Nat} (h : uintD l = some (n,l')) (hm : m < n) : (⟨l,false⟩ : Rdr).count m = (0,5,Rdr.fail):=by
 unfold Rdr.count; rw [uint_good h]; simp; omega
theorem count_none {l : List Int} {m : Nat} (h : uintD l = none) : (⟨l,false⟩ : Rdr).count m = (0,5,Rdr.fail):=by
 unfold Rdr.count; rw [uint_none h]; simp
theorem cW_fail : (cW Rdr.fail).2 = Rdr.fail:=by unfold cW; simp only [count_fail,uint_fail,blk_fail]
theorem cM_fail : (cM Rdr.fail).2 = Rdr.fail:=by unfold cM; simp only [count_fail,uint_fail]
theorem cW_step : Step cW sW limW:=by
 refine ⟨cW_fail,fun l=>?_⟩
 cases h1 : uintD l with
 | none=>right; unfold sW cW; rw [h1]; simp only [count_none h1,count_fail,uint_fail,blk_fail]; exact ⟨by simp,trivial⟩
 | some x1=>
   obtain ⟨g,l1⟩:=x1
   by_cases hg : g ≤ 4096
   ·cases h2 : uintD l1 with
    | none=>right; unfold sW cW; rw [h1]; simp only [h2,count_good h1 hg,count_none h2,uint_fail,blk_fail]; exact ⟨by simp,trivial⟩
    | some x2=>
      obtain ⟨p,l2⟩:=x2
      by_cases hp : p ≤ 16
      ·cases h3 : uintD l2 with
       | none=>right; unfold sW cW; rw [h1]; simp only [h2,h3,count_good h1 hg,count_good h2 hp,uint_none h3,blk_fail]; exact ⟨by simp,trivial⟩
       | some x3=>
         obtain ⟨v,l3⟩:=x3
         by_cases h8 : l3.length < 8
         ·right; unfold sW cW; rw [h1]; simp only [h2,h3,count_good h1 hg,count_good h2 hp,uint_good h3,blk_short h8,if_pos h8]; exact ⟨by simp,trivial⟩
         ·left
          unfold sW cW; rw [h1]; simp only [h2,h3,count_good h1 hg,count_good h2 hp,uint_good h3,blk_good (by omega : 8 ≤ l3.length),if_neg h8]
          exact ⟨_,_,rfl,⟨by show (g : Int) ≤ 4096; omega,by show (p : Int) ≤ 16; omega⟩,rfl⟩
      ·right
       refine ⟨fun x l' hx hl=>?_,?_⟩
       ·unfold sW at hx; rw [h1] at hx; simp only [h2] at hx
        split at hx
        ·cases hx
        ·split at hx
         ·cases hx
         ·injection hx with hx; injection hx with hx _; subst hx
          have:=hl.2; simp only at this; omega
       ·unfold cW; simp only [count_good h1 hg,count_high h2 (by omega : 16 < p),uint_fail,blk_fail]
   ·right
    refine ⟨fun x l' hx hl=>?_,?_⟩
    ·unfold sW at hx; rw [h1] at hx; simp only at hx
     split at hx
     ·cases hx
     ·split at hx
      ·cases hx
      ·split at hx
       ·cases hx
       ·injection hx with hx; injection hx with hx _; subst hx
        have:=hl.1; simp only at this; omega
    ·unfold cW; simp only [count_high h1 (by omega : 4096 < g),count_fail,uint_fail,blk_fail]
theorem cM_step : Step cM sM limM:=by
 refine ⟨cM_fail,fun l=>?_⟩
 cases h1 : uintD l with
 | none=>right; unfold sM cM; rw [h1]; simp only [count_none h1,count_fail,uint_fail]; exact ⟨by simp,trivial⟩
 | some x1=>
   obtain ⟨g,l1⟩:=x1
   cases h2 : uintD l1 with
   | none=>
     right; refine ⟨by unfold sM; rw [h1]; simp [h2],?_⟩
     unfold cM
     by_cases hg : g ≤ 4096
     ·simp only [count_good h1 hg,count_none h2,count_fail,uint_fail]
     ·simp only [count_high h1 (by omega : 4096 < g),count_fail,uint_fail]
   | some x2=>
     obtain ⟨p,l2⟩:=x2
     cases h3 : uintD l2 with
     | none=>
       right; refine ⟨by unfold sM; rw [h1]; simp [h2,h3],?_⟩
       unfold cM
       by_cases hg : g ≤ 4096
       ·by_cases hp : p ≤ 16
        ·simp only [count_good h1 hg,count_good h2 hp,uint_none h3,count_fail]
        ·simp only [count_good h1 hg,count_high h2 (by omega : 16 < p),count_fail,uint_fail]
       ·simp only [count_high h1 (by omega : 4096 < g),count_fail,uint_fail]
     | some x3=>
       obtain ⟨k,l3⟩:=x3
       cases h4 : uintD l3 with
       | none=>
         right; refine ⟨by unfold sM; rw [h1]; simp [h2,h3,h4],?_⟩
         unfold cM
         by_cases hg : g ≤ 4096
         ·by_cases hp : p ≤ 16
          ·simp only [count_good h1 hg,count_good h2 hp,uint_good h3,count_none h4]
          ·simp only [count_good h1 hg,count_high h2 (by omega : 16 < p),count_fail,uint_fail]
         ·simp only [count_high h1 (by omega : 4096 < g),count_fail,uint_fail]
       | some x4=>
         obtain ⟨b,l4⟩:=x4
         have hs : sM l = some (⟨g,p,zagN k,b⟩,l4):=by unfold sM; rw [h1]; simp only [h2,h3,h4]
         by_cases hl : g ≤ 4096 ∧ p ≤ 16 ∧ b ≤ 65536
         ·left
          refine ⟨_,_,hs,⟨by show (g : Int) ≤ 4096; omega,by show (p : Int) ≤ 16; omega,by show (b : Int) ≤ 65536; omega⟩,?_⟩
          unfold cM; simp only [count_good h1 hl.1,count_good h2 hl.2.1,uint_good h3,count_good h4 hl.2.2]
         ·right
          refine ⟨fun x l' hx hlim=>?_,?_⟩
          ·rw [hs] at hx; injection hx with hx; injection hx with hx _; subst hx
           obtain ⟨a1,a2,a3⟩:=hlim
           simp only at a1 a2 a3
           exact hl ⟨by omega,by omega,by omega⟩
          ·unfold cM
           by_cases hg : g ≤ 4096
           ·by_cases hp : p ≤ 16
            ·simp only [count_good h1 hg,count_good h2 hp,uint_good h3,count_high h4 (by omega : 65536 < b)]
            ·simp only [count_good h1 hg,count_high h2 (by omega : 16 < p),count_fail,uint_fail]
           ·simp only [count_high h1 (by omega : 4096 < g),count_fail,uint_fail]
end Go.Proofs.YtaggiceejcegdaaGreat

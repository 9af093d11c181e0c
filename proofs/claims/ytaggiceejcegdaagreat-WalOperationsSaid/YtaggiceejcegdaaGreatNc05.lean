/-
  WHAT IS SHOWN: what sealed of record and Sealed of tegularef27 return. what Sealed and Sector of tegularef27 return. what Sector of tegularef27 returns. what slices.Chunk and slices.Collect return for the bytes of a payload. Conditions: as each theorem names them.
-/
import Derived.Test.YtaggiceejcegdaaGreatNc04
import Derived.RangeFuncBox
import Derived.RangeFuncLeaves
import Derived.Shelf.Abstract
import Derived.WalkKit
import Derived.OwnWalkIn
import Derived.TacticsInMore
import Derived.LoopNIn
import Derived.LoopIn
import Derived.Maps.AppendAt
import Derived.Sort.QuietIn
namespace Go.Proofs.YtaggiceejcegdaaGreat
set_option linter.unusedVariables false
open Go.RowKit
def be8 (s : Int) : List Int:=[IntKind.u8.wrap (s / 72057594037927936),IntKind.u8.wrap (s / 281474976710656),IntKind.u8.wrap (s / 1099511627776),IntKind.u8.wrap (s / 4294967296),IntKind.u8.wrap (s / 16777216),IntKind.u8.wrap (s / 65536),IntKind.u8.wrap (s / 256),IntKind.u8.wrap s]
def sealB (xs : List Int) : List Int:=xs ++ be8 (sumC xs)
def OwnO (base : Nat) (w : World) (xs : List Int) (e : Ending) (w' : World) : Prop:=∃ A c,e = .returned (.slice A xs.length c) ∧ w'.ownsRow base 5 1 (.slice A xs.length c) xs.length (xs.map (Value.int .u8)) ∧ Below base w w'
set_option maxRecDepth 100000 in
set_option maxHeartbeats 1000000 in
theorem sealed_any (base : Nat) (xs : List Int) (A : Option Addr) (c : Nat) (w : World) (ho : w.ownsRow base 5 1 (.slice A xs.length c) xs.length (xs.map (Value.int .u8))) (hbase : base ≤ w.heap.size) (hx : xs.length ≤ 800000) :
  Calls Tryz.prog 88 #[.slice A xs.length c] w (OwnO base w (sealB xs)):=by
 obtain ⟨i0,hi,hz0,hz1,hz2⟩:=info_parts qinfo_u8
 have HC:=Lib.hid (sum_any xs A c w (Rd.of_own ho) (by omega))
 have HO:=Lib.hid ho
 have HE0 : Hid (sealB xs = xs ++ be8 (sumC xs)):=rfl
 clear ho
 go_enter Tryz.func88,Tryz.ntmps88
 go_wp2_with fail
 refine HC.out.mono ?_
 rintro e w1 ⟨rfl,hb1⟩
 have HO1 : Hid (w1.ownsRow base 5 1 (.slice A xs.length c) xs.length (xs.map (Value.int .u8))):=own_kept HO.out (belKept0 (S:=fun _=>False) hb1) (fun _ _ h=>h)
 have HB1:=Lib.hid (hb1.mono hbase)
 clear hb1
 generalize sumC xs = s at *
 go_wp2
 go_loopw [0,4] (fun b v wr=>∃ (k : Nat) (ys : List Int) (DA : Option Addr) (dc : Nat),k ≤ 8 ∧ v = .int .i64 (56 - 8 * (k : Int)) ∧ b = .slice DA ys.length dc ∧ Hid (ys = xs ++ (be8 s).take k) ∧ Hid (wr.ownsRow base 5 1 (.slice DA ys.length dc) ys.length (ys.map (Value.int .u8))) ∧ Below base w wr) (fun _ v _=>(intOf v + 8).toNat)
 case atStart=>exact ⟨0,xs,A,c,by omega,rfl,rfl,by unfold Hid; simp,HO1,HB1.out⟩
 case round=>
  obtain ⟨k,ys,DA,dc,hk,rfl,rfl,HY,HO2,hbr⟩:=hrel
  have hyl : ys.length ≤ 800008:=by
   have h8 : (be8 s).length = 8:=rfl
   rw [HY.out,List.length_append,List.length_take]; omega
  have hbs : base ≤ wr.heap.size:=Nat.le_trans hbase hbr.size
  by_cases h8 : k = 8
  ·subst h8
   have HE : Hid (ys = sealB xs):=by unfold Hid; rw [HE0.out,HY.out]; rfl
   go_wp2
   go_ret
   exact ⟨DA,dc,by rw [← HE.out]; rfl,by rw [← HE.out]; exact HO2.out,hbr⟩
  ·rcases (by omega : k = 0 ∨ k = 1 ∨ k = 2 ∨ k = 3 ∨ k = 4 ∨ k = 5 ∨ k = 6 ∨ k = 7) with rfl | rfl | rfl | rfl | rfl | rfl | rfl | rfl
   ·have HE2 : Hid (ys ++ [IntKind.u8.wrap (s / 72057594037927936)] = xs ++ (be8 s).take (0 + 1)):=by unfold Hid; rw [HY.out]; simp [be8]
    go_wp2_with (at_builtin; refine wpList_append_own _ rfl _ _ 26 rfl base 5 i0 _ 1 1 Tryz.underlying26 hi hz0 hz1 hz2 rfl (by decide) _ ys.length (ys.map (Value.int .u8)) rfl (HO2.out.alloc _) ⟨wr.heap.size,0,none⟩ 1 1 [.int .u8 ((IntKind.u8.wrap (s / 72057594037927936)))] rfl rfl (World.news_of_block (heap_alloc_new _ _)) (by intro u hu; simp at hu; subst hu; rfl) ?c1 ?c2 ?c3 ?_)
    case c1=>unfold maxLen; omega
    case c2=>omega
    case c3=>first | omega | (simp; omega)
    intro v' w' hown hgrow hiff
    obtain ⟨DA',dc',hv⟩:=own_form hown
    subst hv
    have hbl : Below base w w':=(hbr.alloc hbs _).grown hgrow (by simp; omega) (fun k hk=>own_low HO2.out hk)
    have HOW : Hid (w'.ownsRow base 5 1 (.slice DA' (ys ++ [IntKind.u8.wrap (s / 72057594037927936)]).length dc') (ys ++ [IntKind.u8.wrap (s / 72057594037927936)]).length ((ys ++ [IntKind.u8.wrap (s / 72057594037927936)]).map (Value.int .u8))):=by
     unfold Hid; rw [List.length_append,List.map_append]; exact hown
    have HLN : Hid (ys.length + 1 = (ys ++ [IntKind.u8.wrap (s / 72057594037927936)]).length):=by unfold Hid; simp
    clear hown hgrow hiff
    go_wp2
    go_roundw
    case rel=>exact ⟨0 + 1,ys ++ [IntKind.u8.wrap (s / 72057594037927936)],DA',dc',by omega,by simp,by rw [← HLN.out],HE2,HOW,hbl⟩
    case measure=>simp [intOf]
   ·have HE2 : Hid (ys ++ [IntKind.u8.wrap (s / 281474976710656)] = xs ++ (be8 s).take (1 + 1)):=by unfold Hid; rw [HY.out]; simp [be8]
    go_wp2_with (at_builtin; refine wpList_append_own _ rfl _ _ 26 rfl base 5 i0 _ 1 1 Tryz.underlying26 hi hz0 hz1 hz2 rfl (by decide) _ ys.length (ys.map (Value.int .u8)) rfl (HO2.out.alloc _) ⟨wr.heap.size,0,none⟩ 1 1 [.int .u8 ((IntKind.u8.wrap (s / 281474976710656)))] rfl rfl (World.news_of_block (heap_alloc_new _ _)) (by intro u hu; simp at hu; subst hu; rfl) ?c1 ?c2 ?c3 ?_)
    case c1=>unfold maxLen; omega
    case c2=>omega
    case c3=>first | omega | (simp; omega)
    intro v' w' hown hgrow hiff
    obtain ⟨DA',dc',hv⟩:=own_form hown
    subst hv
    have hbl : Below base w w':=(hbr.alloc hbs _).grown hgrow (by simp; omega) (fun k hk=>own_low HO2.out hk)
    have HOW : Hid (w'.ownsRow base 5 1 (.slice DA' (ys ++ [IntKind.u8.wrap (s / 281474976710656)]).length dc') (ys ++ [IntKind.u8.wrap (s / 281474976710656)]).length ((ys ++ [IntKind.u8.wrap (s / 281474976710656)]).map (Value.int .u8))):=by
     unfold Hid; rw [List.length_append,List.map_append]; exact hown
    have HLN : Hid (ys.length + 1 = (ys ++ [IntKind.u8.wrap (s / 281474976710656)]).length):=by unfold Hid; simp
    clear hown hgrow hiff
    go_wp2
    go_roundw
    case rel=>exact ⟨1 + 1,ys ++ [IntKind.u8.wrap (s / 281474976710656)],DA',dc',by omega,by simp,by rw [← HLN.out],HE2,HOW,hbl⟩
    case measure=>simp [intOf]
   ·have HE2 : Hid (ys ++ [IntKind.u8.wrap (s / 1099511627776)] = xs ++ (be8 s).take (2 + 1)):=by unfold Hid; rw [HY.out]; simp [be8]
    go_wp2_with (at_builtin; refine wpList_append_own _ rfl _ _ 26 rfl base 5 i0 _ 1 1 Tryz.underlying26 hi hz0 hz1 hz2 rfl (by decide) _ ys.length (ys.map (Value.int .u8)) rfl (HO2.out.alloc _) ⟨wr.heap.size,0,none⟩ 1 1 [.int .u8 ((IntKind.u8.wrap (s / 1099511627776)))] rfl rfl (World.news_of_block (heap_alloc_new _ _)) (by intro u hu; simp at hu; subst hu; rfl) ?c1 ?c2 ?c3 ?_)
    case c1=>unfold maxLen; omega
    case c2=>omega
    case c3=>first | omega | (simp; omega)
    intro v' w' hown hgrow hiff
    obtain ⟨DA',dc',hv⟩:=own_form hown
    subst hv
    have hbl : Below base w w':=(hbr.alloc hbs _).grown hgrow (by simp; omega) (fun k hk=>own_low HO2.out hk)
    have HOW : Hid (w'.ownsRow base 5 1 (.slice DA' (ys ++ [IntKind.u8.wrap (s / 1099511627776)]).length dc') (ys ++ [IntKind.u8.wrap (s / 1099511627776)]).length ((ys ++ [IntKind.u8.wrap (s / 1099511627776)]).map (Value.int .u8))):=by
     unfold Hid; rw [List.length_append,List.map_append]; exact hown
    have HLN : Hid (ys.length + 1 = (ys ++ [IntKind.u8.wrap (s / 1099511627776)]).length):=by unfold Hid; simp
    clear hown hgrow hiff
    go_wp2
    go_roundw
    case rel=>exact ⟨2 + 1,ys ++ [IntKind.u8.wrap (s / 1099511627776)],DA',dc',by omega,by simp,by rw [← HLN.out],HE2,HOW,hbl⟩
    case measure=>simp [intOf]
   ·have HE2 : Hid (ys ++ [IntKind.u8.wrap (s / 4294967296)] = xs ++ (be8 s).take (3 + 1)):=by unfold Hid; rw [HY.out]; simp [be8]
    go_wp2_with (at_builtin; refine wpList_append_own _ rfl _ _ 26 rfl base 5 i0 _ 1 1 Tryz.underlying26 hi hz0 hz1 hz2 rfl (by decide) _ ys.length (ys.map (Value.int .u8)) rfl (HO2.out.alloc _) ⟨wr.heap.size,0,none⟩ 1 1 [.int .u8 ((IntKind.u8.wrap (s / 4294967296)))] rfl rfl (World.news_of_block (heap_alloc_new _ _)) (by intro u hu; simp at hu; subst hu; rfl) ?c1 ?c2 ?c3 ?_)
    case c1=>unfold maxLen; omega
    case c2=>omega
    case c3=>first | omega | (simp; omega)
    intro v' w' hown hgrow hiff
    obtain ⟨DA',dc',hv⟩:=own_form hown
    subst hv
    have hbl : Below base w w':=(hbr.alloc hbs _).grown hgrow (by simp; omega) (fun k hk=>own_low HO2.out hk)
    have HOW : Hid (w'.ownsRow base 5 1 (.slice DA' (ys ++ [IntKind.u8.wrap (s / 4294967296)]).length dc') (ys ++ [IntKind.u8.wrap (s / 4294967296)]).length ((ys ++ [IntKind.u8.wrap (s / 4294967296)]).map (Value.int .u8))):=by
     unfold Hid; rw [List.length_append,List.map_append]; exact hown
    have HLN : Hid (ys.length + 1 = (ys ++ [IntKind.u8.wrap (s / 4294967296)]).length):=by unfold Hid; simp
    clear hown hgrow hiff
    go_wp2
    go_roundw
    case rel=>exact ⟨3 + 1,ys ++ [IntKind.u8.wrap (s / 4294967296)],DA',dc',by omega,by simp,by rw [← HLN.out],HE2,HOW,hbl⟩
    case measure=>simp [intOf]
   ·have HE2 : Hid (ys ++ [IntKind.u8.wrap (s / 16777216)] = xs ++ (be8 s).take (4 + 1)):=by unfold Hid; rw [HY.out]; simp [be8]
    go_wp2_with (at_builtin; refine wpList_append_own _ rfl _ _ 26 rfl base 5 i0 _ 1 1 Tryz.underlying26 hi hz0 hz1 hz2 rfl (by decide) _ ys.length (ys.map (Value.int .u8)) rfl (HO2.out.alloc _) ⟨wr.heap.size,0,none⟩ 1 1 [.int .u8 ((IntKind.u8.wrap (s / 16777216)))] rfl rfl (World.news_of_block (heap_alloc_new _ _)) (by intro u hu; simp at hu; subst hu; rfl) ?c1 ?c2 ?c3 ?_)
    case c1=>unfold maxLen; omega
    case c2=>omega
    case c3=>first | omega | (simp; omega)
    intro v' w' hown hgrow hiff
    obtain ⟨DA',dc',hv⟩:=own_form hown
    subst hv
    have hbl : Below base w w':=(hbr.alloc hbs _).grown hgrow (by simp; omega) (fun k hk=>own_low HO2.out hk)
    have HOW : Hid (w'.ownsRow base 5 1 (.slice DA' (ys ++ [IntKind.u8.wrap (s / 16777216)]).length dc') (ys ++ [IntKind.u8.wrap (s / 16777216)]).length ((ys ++ [IntKind.u8.wrap (s / 16777216)]).map (Value.int .u8))):=by
     unfold Hid; rw [List.length_append,List.map_append]; exact hown
    have HLN : Hid (ys.length + 1 = (ys ++ [IntKind.u8.wrap (s / 16777216)]).length):=by unfold Hid; simp
    clear hown hgrow hiff
    go_wp2
    go_roundw
    case rel=>exact ⟨4 + 1,ys ++ [IntKind.u8.wrap (s / 16777216)],DA',dc',by omega,by simp,by rw [← HLN.out],HE2,HOW,hbl⟩
    case measure=>simp [intOf]
   ·have HE2 : Hid (ys ++ [IntKind.u8.wrap (s / 65536)] = xs ++ (be8 s).take (5 + 1)):=by unfold Hid; rw [HY.out]; simp [be8]
    go_wp2_with (at_builtin; refine wpList_append_own _ rfl _ _ 26 rfl base 5 i0 _ 1 1 Tryz.underlying26 hi hz0 hz1 hz2 rfl (by decide) _ ys.length (ys.map (Value.int .u8)) rfl (HO2.out.alloc _) ⟨wr.heap.size,0,none⟩ 1 1 [.int .u8 ((IntKind.u8.wrap (s / 65536)))] rfl rfl (World.news_of_block (heap_alloc_new _ _)) (by intro u hu; simp at hu; subst hu; rfl) ?c1 ?c2 ?c3 ?_)
    case c1=>unfold maxLen; omega
    case c2=>omega
    case c3=>first | omega | (simp; omega)
    intro v' w' hown hgrow hiff
    obtain ⟨DA',dc',hv⟩:=own_form hown
    subst hv
    have hbl : Below base w w':=(hbr.alloc hbs _).grown hgrow (by simp; omega) (fun k hk=>own_low HO2.out hk)
    have HOW : Hid (w'.ownsRow base 5 1 (.slice DA' (ys ++ [IntKind.u8.wrap (s / 65536)]).length dc') (ys ++ [IntKind.u8.wrap (s / 65536)]).length ((ys ++ [IntKind.u8.wrap (s / 65536)]).map (Value.int .u8))):=by
     unfold Hid; rw [List.length_append,List.map_append]; exact hown
    have HLN : Hid (ys.length + 1 = (ys ++ [IntKind.u8.wrap (s / 65536)]).length):=by unfold Hid; simp
    clear hown hgrow hiff
    go_wp2
    go_roundw
    case rel=>exact ⟨5 + 1,ys ++ [IntKind.u8.wrap (s / 65536)],DA',dc',by omega,by simp,by rw [← HLN.out],HE2,HOW,hbl⟩
    case measure=>simp [intOf]
   ·have HE2 : Hid (ys ++ [IntKind.u8.wrap (s / 256)] = xs ++ (be8 s).take (6 + 1)):=by unfold Hid; rw [HY.out]; simp [be8]
    go_wp2_with (at_builtin; refine wpList_append_own _ rfl _ _ 26 rfl base 5 i0 _ 1 1 Tryz.underlying26 hi hz0 hz1 hz2 rfl (by decide) _ ys.length (ys.map (Value.int .u8)) rfl (HO2.out.alloc _) ⟨wr.heap.size,0,none⟩ 1 1 [.int .u8 ((IntKind.u8.wrap (s / 256)))] rfl rfl (World.news_of_block (heap_alloc_new _ _)) (by intro u hu; simp at hu; subst hu; rfl) ?c1 ?c2 ?c3 ?_)
    case c1=>unfold maxLen; omega
    case c2=>omega
    case c3=>first | omega | (simp; omega)
    intro v' w' hown hgrow hiff
    obtain ⟨DA',dc',hv⟩:=own_form hown
    subst hv
    have hbl : Below base w w':=(hbr.alloc hbs _).grown hgrow (by simp; omega) (fun k hk=>own_low HO2.out hk)
    have HOW : Hid (w'.ownsRow base 5 1 (.slice DA' (ys ++ [IntKind.u8.wrap (s / 256)]).length dc') (ys ++ [IntKind.u8.wrap (s / 256)]).length ((ys ++ [IntKind.u8.wrap (s / 256)]).map (Value.int .u8))):=by
     unfold Hid; rw [List.length_append,List.map_append]; exact hown
    have HLN : Hid (ys.length + 1 = (ys ++ [IntKind.u8.wrap (s / 256)]).length):=by unfold Hid; simp
    clear hown hgrow hiff
    go_wp2
    go_roundw
    case rel=>exact ⟨6 + 1,ys ++ [IntKind.u8.wrap (s / 256)],DA',dc',by omega,by simp,by rw [← HLN.out],HE2,HOW,hbl⟩
    case measure=>simp [intOf]
   ·have HE2 : Hid (ys ++ [IntKind.u8.wrap (s)] = xs ++ (be8 s).take (7 + 1)):=by unfold Hid; rw [HY.out]; simp [be8]
    go_wp2_with (at_builtin; refine wpList_append_own _ rfl _ _ 26 rfl base 5 i0 _ 1 1 Tryz.underlying26 hi hz0 hz1 hz2 rfl (by decide) _ ys.length (ys.map (Value.int .u8)) rfl (HO2.out.alloc _) ⟨wr.heap.size,0,none⟩ 1 1 [.int .u8 ((IntKind.u8.wrap (s)))] rfl rfl (World.news_of_block (heap_alloc_new _ _)) (by intro u hu; simp at hu; subst hu; rfl) ?c1 ?c2 ?c3 ?_)
    case c1=>unfold maxLen; omega
    case c2=>omega
    case c3=>first | omega | (simp; omega)
    intro v' w' hown hgrow hiff
    obtain ⟨DA',dc',hv⟩:=own_form hown
    subst hv
    have hbl : Below base w w':=(hbr.alloc hbs _).grown hgrow (by simp; omega) (fun k hk=>own_low HO2.out hk)
    have HOW : Hid (w'.ownsRow base 5 1 (.slice DA' (ys ++ [IntKind.u8.wrap (s)]).length dc') (ys ++ [IntKind.u8.wrap (s)]).length ((ys ++ [IntKind.u8.wrap (s)]).map (Value.int .u8))):=by
     unfold Hid; rw [List.length_append,List.map_append]; exact hown
    have HLN : Hid (ys.length + 1 = (ys ++ [IntKind.u8.wrap (s)]).length):=by unfold Hid; simp
    clear hown hgrow hiff
    go_wp2
    go_roundw
    case rel=>exact ⟨7 + 1,ys ++ [IntKind.u8.wrap (s)],DA',dc',by omega,by simp,by rw [← HLN.out],HE2,HOW,hbl⟩
    case measure=>simp [intOf]
end Go.Proofs.YtaggiceejcegdaaGreat
namespace Go.Proofs.YtaggiceejcegdaaGreat
set_option linter.unusedVariables false
open Go.RowKit
set_option maxRecDepth 100000 in
set_option maxHeartbeats 1000000 in
theorem rsealed_any (xs : List Int) (A : Option Addr) (c : Nat) (w : World) (hr : Rd w w.heap.size A (xs.map (Value.int .u8))) (hx : xs.length ≤ 800000) :
  Calls Tryz.prog 109 #[.slice A xs.length c] w (NewO w (sealB xs)):=by
 obtain ⟨i0,hi,hz0,hz1,hz2⟩:=info_parts qinfo_u8
 have HC:=Lib.hid (rsum_any xs A c w hr (by omega))
 have HE0 : Hid (sealB xs = xs ++ be8 (sumC xs)):=rfl
 cases A with
 | none=>
   have hx0:=hr.qat_none
   obtain rfl : xs = []:=by cases xs; rfl; simp at hx0
   clear hr hx0
   go_enter Tryz.func109,Tryz.ntmps109
   go_wp2_with fail
   refine HC.out.mono ?_
   rintro e w1 ⟨rfl,hb1⟩
   have hro:=World.ownsRow_lit (base:=w.heap.size) (e:=5) (size:=1) w1 #[] 0 hb1.size (by decide) rfl
   have HO1:=Lib.hid hro
   have HB1:=Lib.hid (hb1.alloc hb1.size (.cells #[] 5))
   clear hro hb1
   generalize sumC [] = s at *
   go_wp2
   go_loopw [4,5] (fun b v wr=>∃ (k : Nat) (ys : List Int) (DA : Option Addr) (dc : Nat),k ≤ 8 ∧ v = .int .i64 (7 - (k : Int)) ∧ b = .slice DA ys.length dc ∧ Hid (ys = ([] : List Int) ++ (be8 s).take k) ∧ Hid (wr.ownsRow w.heap.size 5 1 (.slice DA ys.length dc) ys.length (ys.map (Value.int .u8))) ∧ Below w.heap.size w wr) (fun _ v _=>(intOf v + 1).toNat)
   case atStart=>exact ⟨0,([] : List Int),(some ⟨w1.heap.size,0,none⟩),0,by omega,rfl,rfl,by unfold Hid; simp,HO1,HB1.out⟩
   case round=>
    obtain ⟨k,ys,DA,dc,hk,rfl,rfl,HY,HO2,hbr⟩:=hrel
    have hyl : ys.length ≤ 800008:=by
     have h8 : (be8 s).length = 8:=rfl
     rw [HY.out,List.length_append,List.length_take]; omega
    have hbs : w.heap.size ≤ wr.heap.size:=hbr.size
    by_cases h8 : k = 8
    ·subst h8
     have HE : Hid (ys = sealB ([] : List Int)):=by unfold Hid; rw [HE0.out,HY.out]; rfl
     go_wp2
     go_ret
     exact ⟨DA,dc,by rw [← HE.out]; rfl,by rw [← HE.out]; exact HO2.out,hbr⟩
    ·rcases (by omega : k = 0 ∨ k = 1 ∨ k = 2 ∨ k = 3 ∨ k = 4 ∨ k = 5 ∨ k = 6 ∨ k = 7) with rfl | rfl | rfl | rfl | rfl | rfl | rfl | rfl
     ·have HE2 : Hid (ys ++ [IntKind.u8.wrap (s / 72057594037927936)] = ([] : List Int) ++ (be8 s).take (0 + 1)):=by unfold Hid; rw [HY.out]; simp [be8]
      go_wp2_with (at_builtin; refine wpList_append_own _ rfl _ _ 26 rfl w.heap.size 5 i0 _ 1 1 Tryz.underlying26 hi hz0 hz1 hz2 rfl (by decide) _ ys.length (ys.map (Value.int .u8)) rfl (HO2.out.alloc _) ⟨wr.heap.size,0,none⟩ 1 1 [.int .u8 ((IntKind.u8.wrap (s / 72057594037927936)))] rfl rfl (World.news_of_block (heap_alloc_new _ _)) (by intro u hu; simp at hu; subst hu; rfl) ?c1 ?c2 ?c3 ?_)
      case c1=>unfold maxLen; omega
      case c2=>omega
      case c3=>first | omega | (simp; omega)
      intro v' w' hown hgrow hiff
      obtain ⟨DA',dc',hv⟩:=own_form hown
      subst hv
      have hbl : Below w.heap.size w w':=(hbr.alloc hbs _).grown hgrow (by simp; omega) (fun k hk=>own_low HO2.out hk)
      have HOW : Hid (w'.ownsRow w.heap.size 5 1 (.slice DA' (ys ++ [IntKind.u8.wrap (s / 72057594037927936)]).length dc') (ys ++ [IntKind.u8.wrap (s / 72057594037927936)]).length ((ys ++ [IntKind.u8.wrap (s / 72057594037927936)]).map (Value.int .u8))):=by
       unfold Hid; rw [List.length_append,List.map_append]; exact hown
      have HLN : Hid (ys.length + 1 = (ys ++ [IntKind.u8.wrap (s / 72057594037927936)]).length):=by unfold Hid; simp
      clear hown hgrow hiff
      go_wp2
      go_roundw
      case rel=>exact ⟨0 + 1,ys ++ [IntKind.u8.wrap (s / 72057594037927936)],DA',dc',by omega,by simp,by rw [← HLN.out],HE2,HOW,hbl⟩
      case measure=>simp [intOf]
     ·have HE2 : Hid (ys ++ [IntKind.u8.wrap (s / 281474976710656)] = ([] : List Int) ++ (be8 s).take (1 + 1)):=by unfold Hid; rw [HY.out]; simp [be8]
      go_wp2_with (at_builtin; refine wpList_append_own _ rfl _ _ 26 rfl w.heap.size 5 i0 _ 1 1 Tryz.underlying26 hi hz0 hz1 hz2 rfl (by decide) _ ys.length (ys.map (Value.int .u8)) rfl (HO2.out.alloc _) ⟨wr.heap.size,0,none⟩ 1 1 [.int .u8 ((IntKind.u8.wrap (s / 281474976710656)))] rfl rfl (World.news_of_block (heap_alloc_new _ _)) (by intro u hu; simp at hu; subst hu; rfl) ?c1 ?c2 ?c3 ?_)
      case c1=>unfold maxLen; omega
      case c2=>omega
      case c3=>first | omega | (simp; omega)
      intro v' w' hown hgrow hiff
      obtain ⟨DA',dc',hv⟩:=own_form hown
      subst hv
      have hbl : Below w.heap.size w w':=(hbr.alloc hbs _).grown hgrow (by simp; omega) (fun k hk=>own_low HO2.out hk)
      have HOW : Hid (w'.ownsRow w.heap.size 5 1 (.slice DA' (ys ++ [IntKind.u8.wrap (s / 281474976710656)]).length dc') (ys ++ [IntKind.u8.wrap (s / 281474976710656)]).length ((ys ++ [IntKind.u8.wrap (s / 281474976710656)]).map (Value.int .u8))):=by
       unfold Hid; rw [List.length_append,List.map_append]; exact hown
      have HLN : Hid (ys.length + 1 = (ys ++ [IntKind.u8.wrap (s / 281474976710656)]).length):=by unfold Hid; simp
      clear hown hgrow hiff
      go_wp2
      go_roundw
      case rel=>exact ⟨1 + 1,ys ++ [IntKind.u8.wrap (s / 281474976710656)],DA',dc',by omega,by simp,by rw [← HLN.out],HE2,HOW,hbl⟩
      case measure=>simp [intOf]
     ·have HE2 : Hid (ys ++ [IntKind.u8.wrap (s / 1099511627776)] = ([] : List Int) ++ (be8 s).take (2 + 1)):=by unfold Hid; rw [HY.out]; simp [be8]
      go_wp2_with (at_builtin; refine wpList_append_own _ rfl _ _ 26 rfl w.heap.size 5 i0 _ 1 1 Tryz.underlying26 hi hz0 hz1 hz2 rfl (by decide) _ ys.length (ys.map (Value.int .u8)) rfl (HO2.out.alloc _) ⟨wr.heap.size,0,none⟩ 1 1 [.int .u8 ((IntKind.u8.wrap (s / 1099511627776)))] rfl rfl (World.news_of_block (heap_alloc_new _ _)) (by intro u hu; simp at hu; subst hu; rfl) ?c1 ?c2 ?c3 ?_)
      case c1=>unfold maxLen; omega
      case c2=>omega
      case c3=>first | omega | (simp; omega)
      intro v' w' hown hgrow hiff
      obtain ⟨DA',dc',hv⟩:=own_form hown
      subst hv
      have hbl : Below w.heap.size w w':=(hbr.alloc hbs _).grown hgrow (by simp; omega) (fun k hk=>own_low HO2.out hk)
      have HOW : Hid (w'.ownsRow w.heap.size 5 1 (.slice DA' (ys ++ [IntKind.u8.wrap (s / 1099511627776)]).length dc') (ys ++ [IntKind.u8.wrap (s / 1099511627776)]).length ((ys ++ [IntKind.u8.wrap (s / 1099511627776)]).map (Value.int .u8))):=by
       unfold Hid; rw [List.length_append,List.map_append]; exact hown
      have HLN : Hid (ys.length + 1 = (ys ++ [IntKind.u8.wrap (s / 1099511627776)]).length):=by unfold Hid; simp
      clear hown hgrow hiff
      go_wp2
      go_roundw
      case rel=>exact ⟨2 + 1,ys ++ [IntKind.u8.wrap (s / 1099511627776)],DA',dc',by omega,by simp,by rw [← HLN.out],HE2,HOW,hbl⟩
      case measure=>simp [intOf]
     ·have HE2 : Hid (ys ++ [IntKind.u8.wrap (s / 4294967296)] = ([] : List Int) ++ (be8 s).take (3 + 1)):=by unfold Hid; rw [HY.out]; simp [be8]
      go_wp2_with (at_builtin; refine wpList_append_own _ rfl _ _ 26 rfl w.heap.size 5 i0 _ 1 1 Tryz.underlying26 hi hz0 hz1 hz2 rfl (by decide) _ ys.length (ys.map (Value.int .u8)) rfl (HO2.out.alloc _) ⟨wr.heap.size,0,none⟩ 1 1 [.int .u8 ((IntKind.u8.wrap (s / 4294967296)))] rfl rfl (World.news_of_block (heap_alloc_new _ _)) (by intro u hu; simp at hu; subst hu; rfl) ?c1 ?c2 ?c3 ?_)
      case c1=>unfold maxLen; omega
      case c2=>omega
      case c3=>first | omega | (simp; omega)
      intro v' w' hown hgrow hiff
      obtain ⟨DA',dc',hv⟩:=own_form hown
      subst hv
      have hbl : Below w.heap.size w w':=(hbr.alloc hbs _).grown hgrow (by simp; omega) (fun k hk=>own_low HO2.out hk)
      have HOW : Hid (w'.ownsRow w.heap.size 5 1 (.slice DA' (ys ++ [IntKind.u8.wrap (s / 4294967296)]).length dc') (ys ++ [IntKind.u8.wrap (s / 4294967296)]).length ((ys ++ [IntKind.u8.wrap (s / 4294967296)]).map (Value.int .u8))):=by
       unfold Hid; rw [List.length_append,List.map_append]; exact hown
      have HLN : Hid (ys.length + 1 = (ys ++ [IntKind.u8.wrap (s / 4294967296)]).length):=by unfold Hid; simp
      clear hown hgrow hiff
      go_wp2
      go_roundw
      case rel=>exact ⟨3 + 1,ys ++ [IntKind.u8.wrap (s / 4294967296)],DA',dc',by omega,by simp,by rw [← HLN.out],HE2,HOW,hbl⟩
      case measure=>simp [intOf]
     ·have HE2 : Hid (ys ++ [IntKind.u8.wrap (s / 16777216)] = ([] : List Int) ++ (be8 s).take (4 + 1)):=by unfold Hid; rw [HY.out]; simp [be8]
      go_wp2_with (at_builtin; refine wpList_append_own _ rfl _ _ 26 rfl w.heap.size 5 i0 _ 1 1 Tryz.underlying26 hi hz0 hz1 hz2 rfl (by decide) _ ys.length (ys.map (Value.int .u8)) rfl (HO2.out.alloc _) ⟨wr.heap.size,0,none⟩ 1 1 [.int .u8 ((IntKind.u8.wrap (s / 16777216)))] rfl rfl (World.news_of_block (heap_alloc_new _ _)) (by intro u hu; simp at hu; subst hu; rfl) ?c1 ?c2 ?c3 ?_)
      case c1=>unfold maxLen; omega
      case c2=>omega
      case c3=>first | omega | (simp; omega)
      intro v' w' hown hgrow hiff
      obtain ⟨DA',dc',hv⟩:=own_form hown
      subst hv
      have hbl : Below w.heap.size w w':=(hbr.alloc hbs _).grown hgrow (by simp; omega) (fun k hk=>own_low HO2.out hk)
      have HOW : Hid (w'.ownsRow w.heap.size 5 1 (.slice DA' (ys ++ [IntKind.u8.wrap (s / 16777216)]).length dc') (ys ++ [IntKind.u8.wrap (s / 16777216)]).length ((ys ++ [IntKind.u8.wrap (s / 16777216)]).map (Value.int .u8))):=by
       unfold Hid; rw [List.length_append,List.map_append]; exact hown
      have HLN : Hid (ys.length + 1 = (ys ++ [IntKind.u8.wrap (s / 16777216)]).length):=by unfold Hid; simp
      clear hown hgrow hiff
      go_wp2
      go_roundw
      case rel=>exact ⟨4 + 1,ys ++ [IntKind.u8.wrap (s / 16777216)],DA',dc',by omega,by simp,by rw [← HLN.out],HE2,HOW,hbl⟩
      case measure=>simp [intOf]
     ·have HE2 : Hid (ys ++ [IntKind.u8.wrap (s / 65536)] = ([] : List Int) ++ (be8 s).take (5 + 1)):=by unfold Hid; rw [HY.out]; simp [be8]
      go_wp2_with (at_builtin; refine wpList_append_own _ rfl _ _ 26 rfl w.heap.size 5 i0 _ 1 1 Tryz.underlying26 hi hz0 hz1 hz2 rfl (by decide) _ ys.length (ys.map (Value.int .u8)) rfl (HO2.out.alloc _) ⟨wr.heap.size,0,none⟩ 1 1 [.int .u8 ((IntKind.u8.wrap (s / 65536)))] rfl rfl (World.news_of_block (heap_alloc_new _ _)) (by intro u hu; simp at hu; subst hu; rfl) ?c1 ?c2 ?c3 ?_)
      case c1=>unfold maxLen; omega
      case c2=>omega
      case c3=>first | omega | (simp; omega)
      intro v' w' hown hgrow hiff
      obtain ⟨DA',dc',hv⟩:=own_form hown
      subst hv
      have hbl : Below w.heap.size w w':=(hbr.alloc hbs _).grown hgrow (by simp; omega) (fun k hk=>own_low HO2.out hk)
      have HOW : Hid (w'.ownsRow w.heap.size 5 1 (.slice DA' (ys ++ [IntKind.u8.wrap (s / 65536)]).length dc') (ys ++ [IntKind.u8.wrap (s / 65536)]).length ((ys ++ [IntKind.u8.wrap (s / 65536)]).map (Value.int .u8))):=by
       unfold Hid; rw [List.length_append,List.map_append]; exact hown
      have HLN : Hid (ys.length + 1 = (ys ++ [IntKind.u8.wrap (s / 65536)]).length):=by unfold Hid; simp
      clear hown hgrow hiff
      go_wp2
      go_roundw
      case rel=>exact ⟨5 + 1,ys ++ [IntKind.u8.wrap (s / 65536)],DA',dc',by omega,by simp,by rw [← HLN.out],HE2,HOW,hbl⟩
      case measure=>simp [intOf]
     ·have HE2 : Hid (ys ++ [IntKind.u8.wrap (s / 256)] = ([] : List Int) ++ (be8 s).take (6 + 1)):=by unfold Hid; rw [HY.out]; simp [be8]
      go_wp2_with (at_builtin; refine wpList_append_own _ rfl _ _ 26 rfl w.heap.size 5 i0 _ 1 1 Tryz.underlying26 hi hz0 hz1 hz2 rfl (by decide) _ ys.length (ys.map (Value.int .u8)) rfl (HO2.out.alloc _) ⟨wr.heap.size,0,none⟩ 1 1 [.int .u8 ((IntKind.u8.wrap (s / 256)))] rfl rfl (World.news_of_block (heap_alloc_new _ _)) (by intro u hu; simp at hu; subst hu; rfl) ?c1 ?c2 ?c3 ?_)
      case c1=>unfold maxLen; omega
      case c2=>omega
      case c3=>first | omega | (simp; omega)
      intro v' w' hown hgrow hiff
      obtain ⟨DA',dc',hv⟩:=own_form hown
      subst hv
      have hbl : Below w.heap.size w w':=(hbr.alloc hbs _).grown hgrow (by simp; omega) (fun k hk=>own_low HO2.out hk)
      have HOW : Hid (w'.ownsRow w.heap.size 5 1 (.slice DA' (ys ++ [IntKind.u8.wrap (s / 256)]).length dc') (ys ++ [IntKind.u8.wrap (s / 256)]).length ((ys ++ [IntKind.u8.wrap (s / 256)]).map (Value.int .u8))):=by
       unfold Hid; rw [List.length_append,List.map_append]; exact hown
      have HLN : Hid (ys.length + 1 = (ys ++ [IntKind.u8.wrap (s / 256)]).length):=by unfold Hid; simp
      clear hown hgrow hiff
      go_wp2
      go_roundw
      case rel=>exact ⟨6 + 1,ys ++ [IntKind.u8.wrap (s / 256)],DA',dc',by omega,by simp,by rw [← HLN.out],HE2,HOW,hbl⟩
      case measure=>simp [intOf]
     ·have HE2 : Hid (ys ++ [IntKind.u8.wrap (s)] = ([] : List Int) ++ (be8 s).take (7 + 1)):=by unfold Hid; rw [HY.out]; simp [be8]
      go_wp2_with (at_builtin; refine wpList_append_own _ rfl _ _ 26 rfl w.heap.size 5 i0 _ 1 1 Tryz.underlying26 hi hz0 hz1 hz2 rfl (by decide) _ ys.length (ys.map (Value.int .u8)) rfl (HO2.out.alloc _) ⟨wr.heap.size,0,none⟩ 1 1 [.int .u8 ((IntKind.u8.wrap (s)))] rfl rfl (World.news_of_block (heap_alloc_new _ _)) (by intro u hu; simp at hu; subst hu; rfl) ?c1 ?c2 ?c3 ?_)
      case c1=>unfold maxLen; omega
      case c2=>omega
      case c3=>first | omega | (simp; omega)
      intro v' w' hown hgrow hiff
      obtain ⟨DA',dc',hv⟩:=own_form hown
      subst hv
      have hbl : Below w.heap.size w w':=(hbr.alloc hbs _).grown hgrow (by simp; omega) (fun k hk=>own_low HO2.out hk)
      have HOW : Hid (w'.ownsRow w.heap.size 5 1 (.slice DA' (ys ++ [IntKind.u8.wrap (s)]).length dc') (ys ++ [IntKind.u8.wrap (s)]).length ((ys ++ [IntKind.u8.wrap (s)]).map (Value.int .u8))):=by
       unfold Hid; rw [List.length_append,List.map_append]; exact hown
      have HLN : Hid (ys.length + 1 = (ys ++ [IntKind.u8.wrap (s)]).length):=by unfold Hid; simp
      clear hown hgrow hiff
      go_wp2
      go_roundw
      case rel=>exact ⟨7 + 1,ys ++ [IntKind.u8.wrap (s)],DA',dc',by omega,by simp,by rw [← HLN.out],HE2,HOW,hbl⟩
      case measure=>simp [intOf]
 | some a=>
   have HR:=Lib.hid hr
   clear hr
   go_enter Tryz.func109,Tryz.ntmps109
   go_wp2_with fail
   refine HC.out.mono ?_
   rintro e w1 ⟨rfl,hb1⟩
   have hro:=World.ownsRow_lit (base:=w.heap.size) (e:=5) (size:=1) w1 #[] 0 hb1.size (by decide) rfl
   have hla:=((HR.out.below hb1 (Nat.le_refl _)).more hb1.size).alloc (Nat.le_refl _) (.cells #[] 5)
   have hsz:=hb1.size
   generalize sumC xs = s at *
   go_wp2_with (at_builtin; refine wpList_append_own _ rfl _ _ 26 rfl w.heap.size 5 i0 _ 1 1 Tryz.underlying26 hi hz0 hz1 hz2 rfl (by decide) _ 0 [] rfl hro a xs.length c (xs.map (Value.int .u8)) rfl (by simp) hla.qat_add (qbytes_one xs) ?c1 ?c2 ?c3 ?_)
   case c1=>unfold maxLen; omega
   case c2=>omega
   case c3=>simp; omega
   intro v' w2 hown hgrow hiff
   try simp only [Nat.zero_add,List.nil_append] at hown
   obtain ⟨A1,c1,hv⟩:=own_form hown
   subst hv
   have hbl : Below w.heap.size w w2:=(hb1.alloc hb1.size _).grown hgrow (by simp; omega) (fun k hk=>by simp [Value.ownBlock] at hk; omega)
   have HO1:=Lib.hid hown
   have HB1:=Lib.hid hbl
   clear hro hla hown hgrow hiff hbl hb1
   go_wp2
   go_loopw [4,5] (fun b v wr=>∃ (k : Nat) (ys : List Int) (DA : Option Addr) (dc : Nat),k ≤ 8 ∧ v = .int .i64 (7 - (k : Int)) ∧ b = .slice DA ys.length dc ∧ Hid (ys = xs ++ (be8 s).take k) ∧ Hid (wr.ownsRow w.heap.size 5 1 (.slice DA ys.length dc) ys.length (ys.map (Value.int .u8))) ∧ Below w.heap.size w wr) (fun _ v _=>(intOf v + 1).toNat)
   case atStart=>exact ⟨0,xs,A1,c1,by omega,rfl,rfl,by unfold Hid; simp,HO1,HB1.out⟩
   case round=>
    obtain ⟨k,ys,DA,dc,hk,rfl,rfl,HY,HO2,hbr⟩:=hrel
    have hyl : ys.length ≤ 800008:=by
     have h8 : (be8 s).length = 8:=rfl
     rw [HY.out,List.length_append,List.length_take]; omega
    have hbs : w.heap.size ≤ wr.heap.size:=hbr.size
    by_cases h8 : k = 8
    ·subst h8
     have HE : Hid (ys = sealB xs):=by unfold Hid; rw [HE0.out,HY.out]; rfl
     go_wp2
     go_ret
     exact ⟨DA,dc,by rw [← HE.out]; rfl,by rw [← HE.out]; exact HO2.out,hbr⟩
    ·rcases (by omega : k = 0 ∨ k = 1 ∨ k = 2 ∨ k = 3 ∨ k = 4 ∨ k = 5 ∨ k = 6 ∨ k = 7) with rfl | rfl | rfl | rfl | rfl | rfl | rfl | rfl
     ·have HE2 : Hid (ys ++ [IntKind.u8.wrap (s / 72057594037927936)] = xs ++ (be8 s).take (0 + 1)):=by unfold Hid; rw [HY.out]; simp [be8]
      go_wp2_with (at_builtin; refine wpList_append_own _ rfl _ _ 26 rfl w.heap.size 5 i0 _ 1 1 Tryz.underlying26 hi hz0 hz1 hz2 rfl (by decide) _ ys.length (ys.map (Value.int .u8)) rfl (HO2.out.alloc _) ⟨wr.heap.size,0,none⟩ 1 1 [.int .u8 ((IntKind.u8.wrap (s / 72057594037927936)))] rfl rfl (World.news_of_block (heap_alloc_new _ _)) (by intro u hu; simp at hu; subst hu; rfl) ?c1 ?c2 ?c3 ?_)
      case c1=>unfold maxLen; omega
      case c2=>omega
      case c3=>first | omega | (simp; omega)
      intro v' w' hown hgrow hiff
      obtain ⟨DA',dc',hv⟩:=own_form hown
      subst hv
      have hbl : Below w.heap.size w w':=(hbr.alloc hbs _).grown hgrow (by simp; omega) (fun k hk=>own_low HO2.out hk)
      have HOW : Hid (w'.ownsRow w.heap.size 5 1 (.slice DA' (ys ++ [IntKind.u8.wrap (s / 72057594037927936)]).length dc') (ys ++ [IntKind.u8.wrap (s / 72057594037927936)]).length ((ys ++ [IntKind.u8.wrap (s / 72057594037927936)]).map (Value.int .u8))):=by
       unfold Hid; rw [List.length_append,List.map_append]; exact hown
      have HLN : Hid (ys.length + 1 = (ys ++ [IntKind.u8.wrap (s / 72057594037927936)]).length):=by unfold Hid; simp
      clear hown hgrow hiff
      go_wp2
      go_roundw
      case rel=>exact ⟨0 + 1,ys ++ [IntKind.u8.wrap (s / 72057594037927936)],DA',dc',by omega,by simp,by rw [← HLN.out],HE2,HOW,hbl⟩
      case measure=>simp [intOf]
     ·have HE2 : Hid (ys ++ [IntKind.u8.wrap (s / 281474976710656)] = xs ++ (be8 s).take (1 + 1)):=by unfold Hid; rw [HY.out]; simp [be8]
      go_wp2_with (at_builtin; refine wpList_append_own _ rfl _ _ 26 rfl w.heap.size 5 i0 _ 1 1 Tryz.underlying26 hi hz0 hz1 hz2 rfl (by decide) _ ys.length (ys.map (Value.int .u8)) rfl (HO2.out.alloc _) ⟨wr.heap.size,0,none⟩ 1 1 [.int .u8 ((IntKind.u8.wrap (s / 281474976710656)))] rfl rfl (World.news_of_block (heap_alloc_new _ _)) (by intro u hu; simp at hu; subst hu; rfl) ?c1 ?c2 ?c3 ?_)
      case c1=>unfold maxLen; omega
      case c2=>omega
      case c3=>first | omega | (simp; omega)
      intro v' w' hown hgrow hiff
      obtain ⟨DA',dc',hv⟩:=own_form hown
      subst hv
      have hbl : Below w.heap.size w w':=(hbr.alloc hbs _).grown hgrow (by simp; omega) (fun k hk=>own_low HO2.out hk)
      have HOW : Hid (w'.ownsRow w.heap.size 5 1 (.slice DA' (ys ++ [IntKind.u8.wrap (s / 281474976710656)]).length dc') (ys ++ [IntKind.u8.wrap (s / 281474976710656)]).length ((ys ++ [IntKind.u8.wrap (s / 281474976710656)]).map (Value.int .u8))):=by
       unfold Hid; rw [List.length_append,List.map_append]; exact hown
      have HLN : Hid (ys.length + 1 = (ys ++ [IntKind.u8.wrap (s / 281474976710656)]).length):=by unfold Hid; simp
      clear hown hgrow hiff
      go_wp2
      go_roundw
      case rel=>exact ⟨1 + 1,ys ++ [IntKind.u8.wrap (s / 281474976710656)],DA',dc',by omega,by simp,by rw [← HLN.out],HE2,HOW,hbl⟩
      case measure=>simp [intOf]
     ·have HE2 : Hid (ys ++ [IntKind.u8.wrap (s / 1099511627776)] = xs ++ (be8 s).take (2 + 1)):=by unfold Hid; rw [HY.out]; simp [be8]
      go_wp2_with (at_builtin; refine wpList_append_own _ rfl _ _ 26 rfl w.heap.size 5 i0 _ 1 1 Tryz.underlying26 hi hz0 hz1 hz2 rfl (by decide) _ ys.length (ys.map (Value.int .u8)) rfl (HO2.out.alloc _) ⟨wr.heap.size,0,none⟩ 1 1 [.int .u8 ((IntKind.u8.wrap (s / 1099511627776)))] rfl rfl (World.news_of_block (heap_alloc_new _ _)) (by intro u hu; simp at hu; subst hu; rfl) ?c1 ?c2 ?c3 ?_)
      case c1=>unfold maxLen; omega
      case c2=>omega
      case c3=>first | omega | (simp; omega)
      intro v' w' hown hgrow hiff
      obtain ⟨DA',dc',hv⟩:=own_form hown
      subst hv
      have hbl : Below w.heap.size w w':=(hbr.alloc hbs _).grown hgrow (by simp; omega) (fun k hk=>own_low HO2.out hk)
      have HOW : Hid (w'.ownsRow w.heap.size 5 1 (.slice DA' (ys ++ [IntKind.u8.wrap (s / 1099511627776)]).length dc') (ys ++ [IntKind.u8.wrap (s / 1099511627776)]).length ((ys ++ [IntKind.u8.wrap (s / 1099511627776)]).map (Value.int .u8))):=by
       unfold Hid; rw [List.length_append,List.map_append]; exact hown
      have HLN : Hid (ys.length + 1 = (ys ++ [IntKind.u8.wrap (s / 1099511627776)]).length):=by unfold Hid; simp
      clear hown hgrow hiff
      go_wp2
      go_roundw
      case rel=>exact ⟨2 + 1,ys ++ [IntKind.u8.wrap (s / 1099511627776)],DA',dc',by omega,by simp,by rw [← HLN.out],HE2,HOW,hbl⟩
      case measure=>simp [intOf]
     ·have HE2 : Hid (ys ++ [IntKind.u8.wrap (s / 4294967296)] = xs ++ (be8 s).take (3 + 1)):=by unfold Hid; rw [HY.out]; simp [be8]
      go_wp2_with (at_builtin; refine wpList_append_own _ rfl _ _ 26 rfl w.heap.size 5 i0 _ 1 1 Tryz.underlying26 hi hz0 hz1 hz2 rfl (by decide) _ ys.length (ys.map (Value.int .u8)) rfl (HO2.out.alloc _) ⟨wr.heap.size,0,none⟩ 1 1 [.int .u8 ((IntKind.u8.wrap (s / 4294967296)))] rfl rfl (World.news_of_block (heap_alloc_new _ _)) (by intro u hu; simp at hu; subst hu; rfl) ?c1 ?c2 ?c3 ?_)
      case c1=>unfold maxLen; omega
      case c2=>omega
      case c3=>first | omega | (simp; omega)
      intro v' w' hown hgrow hiff
      obtain ⟨DA',dc',hv⟩:=own_form hown
      subst hv
      have hbl : Below w.heap.size w w':=(hbr.alloc hbs _).grown hgrow (by simp; omega) (fun k hk=>own_low HO2.out hk)
      have HOW : Hid (w'.ownsRow w.heap.size 5 1 (.slice DA' (ys ++ [IntKind.u8.wrap (s / 4294967296)]).length dc') (ys ++ [IntKind.u8.wrap (s / 4294967296)]).length ((ys ++ [IntKind.u8.wrap (s / 4294967296)]).map (Value.int .u8))):=by
       unfold Hid; rw [List.length_append,List.map_append]; exact hown
      have HLN : Hid (ys.length + 1 = (ys ++ [IntKind.u8.wrap (s / 4294967296)]).length):=by unfold Hid; simp
      clear hown hgrow hiff
      go_wp2
      go_roundw
      case rel=>exact ⟨3 + 1,ys ++ [IntKind.u8.wrap (s / 4294967296)],DA',dc',by omega,by simp,by rw [← HLN.out],HE2,HOW,hbl⟩
      case measure=>simp [intOf]
     ·have HE2 : Hid (ys ++ [IntKind.u8.wrap (s / 16777216)] = xs ++ (be8 s).take (4 + 1)):=by unfold Hid; rw [HY.out]; simp [be8]
      go_wp2_with (at_builtin; refine wpList_append_own _ rfl _ _ 26 rfl w.heap.size 5 i0 _ 1 1 Tryz.underlying26 hi hz0 hz1 hz2 rfl (by decide) _ ys.length (ys.map (Value.int .u8)) rfl (HO2.out.alloc _) ⟨wr.heap.size,0,none⟩ 1 1 [.int .u8 ((IntKind.u8.wrap (s / 16777216)))] rfl rfl (World.news_of_block (heap_alloc_new _ _)) (by intro u hu; simp at hu; subst hu; rfl) ?c1 ?c2 ?c3 ?_)
      case c1=>unfold maxLen; omega
      case c2=>omega
      case c3=>first | omega | (simp; omega)
      intro v' w' hown hgrow hiff
      obtain ⟨DA',dc',hv⟩:=own_form hown
      subst hv
      have hbl : Below w.heap.size w w':=(hbr.alloc hbs _).grown hgrow (by simp; omega) (fun k hk=>own_low HO2.out hk)
      have HOW : Hid (w'.ownsRow w.heap.size 5 1 (.slice DA' (ys ++ [IntKind.u8.wrap (s / 16777216)]).length dc') (ys ++ [IntKind.u8.wrap (s / 16777216)]).length ((ys ++ [IntKind.u8.wrap (s / 16777216)]).map (Value.int .u8))):=by
       unfold Hid; rw [List.length_append,List.map_append]; exact hown
      have HLN : Hid (ys.length + 1 = (ys ++ [IntKind.u8.wrap (s / 16777216)]).length):=by unfold Hid; simp
      clear hown hgrow hiff
      go_wp2
      go_roundw
      case rel=>exact ⟨4 + 1,ys ++ [IntKind.u8.wrap (s / 16777216)],DA',dc',by omega,by simp,by rw [← HLN.out],HE2,HOW,hbl⟩
      case measure=>simp [intOf]
     ·have HE2 : Hid (ys ++ [IntKind.u8.wrap (s / 65536)] = xs ++ (be8 s).take (5 + 1)):=by unfold Hid; rw [HY.out]; simp [be8]
      go_wp2_with (at_builtin; refine wpList_append_own _ rfl _ _ 26 rfl w.heap.size 5 i0 _ 1 1 Tryz.underlying26 hi hz0 hz1 hz2 rfl (by decide) _ ys.length (ys.map (Value.int .u8)) rfl (HO2.out.alloc _) ⟨wr.heap.size,0,none⟩ 1 1 [.int .u8 ((IntKind.u8.wrap (s / 65536)))] rfl rfl (World.news_of_block (heap_alloc_new _ _)) (by intro u hu; simp at hu; subst hu; rfl) ?c1 ?c2 ?c3 ?_)
      case c1=>unfold maxLen; omega
      case c2=>omega
      case c3=>first | omega | (simp; omega)
      intro v' w' hown hgrow hiff
      obtain ⟨DA',dc',hv⟩:=own_form hown
      subst hv
      have hbl : Below w.heap.size w w':=(hbr.alloc hbs _).grown hgrow (by simp; omega) (fun k hk=>own_low HO2.out hk)
      have HOW : Hid (w'.ownsRow w.heap.size 5 1 (.slice DA' (ys ++ [IntKind.u8.wrap (s / 65536)]).length dc') (ys ++ [IntKind.u8.wrap (s / 65536)]).length ((ys ++ [IntKind.u8.wrap (s / 65536)]).map (Value.int .u8))):=by
       unfold Hid; rw [List.length_append,List.map_append]; exact hown
      have HLN : Hid (ys.length + 1 = (ys ++ [IntKind.u8.wrap (s / 65536)]).length):=by unfold Hid; simp
      clear hown hgrow hiff
      go_wp2
      go_roundw
      case rel=>exact ⟨5 + 1,ys ++ [IntKind.u8.wrap (s / 65536)],DA',dc',by omega,by simp,by rw [← HLN.out],HE2,HOW,hbl⟩
      case measure=>simp [intOf]
     ·have HE2 : Hid (ys ++ [IntKind.u8.wrap (s / 256)] = xs ++ (be8 s).take (6 + 1)):=by unfold Hid; rw [HY.out]; simp [be8]
      go_wp2_with (at_builtin; refine wpList_append_own _ rfl _ _ 26 rfl w.heap.size 5 i0 _ 1 1 Tryz.underlying26 hi hz0 hz1 hz2 rfl (by decide) _ ys.length (ys.map (Value.int .u8)) rfl (HO2.out.alloc _) ⟨wr.heap.size,0,none⟩ 1 1 [.int .u8 ((IntKind.u8.wrap (s / 256)))] rfl rfl (World.news_of_block (heap_alloc_new _ _)) (by intro u hu; simp at hu; subst hu; rfl) ?c1 ?c2 ?c3 ?_)
      case c1=>unfold maxLen; omega
      case c2=>omega
      case c3=>first | omega | (simp; omega)
      intro v' w' hown hgrow hiff
      obtain ⟨DA',dc',hv⟩:=own_form hown
      subst hv
      have hbl : Below w.heap.size w w':=(hbr.alloc hbs _).grown hgrow (by simp; omega) (fun k hk=>own_low HO2.out hk)
      have HOW : Hid (w'.ownsRow w.heap.size 5 1 (.slice DA' (ys ++ [IntKind.u8.wrap (s / 256)]).length dc') (ys ++ [IntKind.u8.wrap (s / 256)]).length ((ys ++ [IntKind.u8.wrap (s / 256)]).map (Value.int .u8))):=by
       unfold Hid; rw [List.length_append,List.map_append]; exact hown
      have HLN : Hid (ys.length + 1 = (ys ++ [IntKind.u8.wrap (s / 256)]).length):=by unfold Hid; simp
      clear hown hgrow hiff
      go_wp2
      go_roundw
      case rel=>exact ⟨6 + 1,ys ++ [IntKind.u8.wrap (s / 256)],DA',dc',by omega,by simp,by rw [← HLN.out],HE2,HOW,hbl⟩
      case measure=>simp [intOf]
     ·have HE2 : Hid (ys ++ [IntKind.u8.wrap (s)] = xs ++ (be8 s).take (7 + 1)):=by unfold Hid; rw [HY.out]; simp [be8]
      go_wp2_with (at_builtin; refine wpList_append_own _ rfl _ _ 26 rfl w.heap.size 5 i0 _ 1 1 Tryz.underlying26 hi hz0 hz1 hz2 rfl (by decide) _ ys.length (ys.map (Value.int .u8)) rfl (HO2.out.alloc _) ⟨wr.heap.size,0,none⟩ 1 1 [.int .u8 ((IntKind.u8.wrap (s)))] rfl rfl (World.news_of_block (heap_alloc_new _ _)) (by intro u hu; simp at hu; subst hu; rfl) ?c1 ?c2 ?c3 ?_)
      case c1=>unfold maxLen; omega
      case c2=>omega
      case c3=>first | omega | (simp; omega)
      intro v' w' hown hgrow hiff
      obtain ⟨DA',dc',hv⟩:=own_form hown
      subst hv
      have hbl : Below w.heap.size w w':=(hbr.alloc hbs _).grown hgrow (by simp; omega) (fun k hk=>own_low HO2.out hk)
      have HOW : Hid (w'.ownsRow w.heap.size 5 1 (.slice DA' (ys ++ [IntKind.u8.wrap (s)]).length dc') (ys ++ [IntKind.u8.wrap (s)]).length ((ys ++ [IntKind.u8.wrap (s)]).map (Value.int .u8))):=by
       unfold Hid; rw [List.length_append,List.map_append]; exact hown
      have HLN : Hid (ys.length + 1 = (ys ++ [IntKind.u8.wrap (s)]).length):=by unfold Hid; simp
      clear hown hgrow hiff
      go_wp2
      go_roundw
      case rel=>exact ⟨7 + 1,ys ++ [IntKind.u8.wrap (s)],DA',dc',by omega,by simp,by rw [← HLN.out],HE2,HOW,hbl⟩
      case measure=>simp [intOf]
end Go.Proofs.YtaggiceejcegdaaGreat
namespace Go.Proofs.YtaggiceejcegdaaGreat
set_option linter.unusedVariables false
open Go.RowKit
def hdS (gen seq part parts : Nat) : List Int:=[82] ++ uintB gen ++ uintB seq ++ uintB part ++ uintB parts
def secB (gen seq part parts : Nat) (ch : List Int) : List Int:=sealB (hdS gen seq part parts ++ uintB ch.length ++ ch)
theorem hdS_len (gen seq part parts : Nat) : (hdS gen seq part parts).length ≤ 41:=by
 unfold hdS
 have:=uintB_len gen; have:=uintB_len seq; have:=uintB_len part; have:=uintB_len parts
 simp; omega
theorem wrapN {n : Nat} (h : n < 9223372036854775808) : IntKind.u64.wrap (n : Int) = (n : Int):=by rw [IntKind.wrap_u64]; omega
set_option maxRecDepth 100000 in
set_option maxHeartbeats 2000000 in
theorem sector_any (gen seq part parts : Nat) (hg : gen < 2 ^ 64) (hs : seq < 2 ^ 64) (hp : part < 1000000) (hq : parts < 1000000) (ch : List Int) (A : Option Addr) (c : Nat) (w : World) (h : Rd w w.heap.size A (ch.map (Value.int .u8))) (hl : ch.length ≤ 700000) :
  Calls Tryz.prog 69 #[.agg #[.int .u64 gen,.int .u64 seq,.int .i64 part,.int .i64 parts],.slice A ch.length c] w (NewO w (secB gen seq part parts ch)):=by
 have HB : Hid (∀ W,Below (w.heap.size + 1) (w.alloc (.cells #[.int .u64 gen,.int .u64 seq,.int .i64 part,.int .i64 parts] 118)) W → Below w.heap.size w W):=fun W hW=>((Below.refl w.heap.size w).alloc (Nat.le_refl _) _).trans (hW.mono (by omega))
 have PB:=Cells4.new w 118 (.int .u64 gen) (.int .u64 seq) (.int .i64 part) (.int .i64 parts)
 have HH:=Lib.hid h
 obtain ⟨W0,hW0⟩ : ∃ W0,(w.alloc (.cells #[.int .u64 gen,.int .u64 seq,.int .i64 part,.int .i64 parts] 118)) = W0:=⟨_,rfl⟩
 have hzW0 : w.heap.size < W0.heap.size:=by rw [← hW0]; simp
 rw [hW0] at HB PB
 have HW0:=Lib.hid hW0
 have hE : [82] ++ uintB gen ++ uintB seq ++ uintB part ++ uintB parts = hdS gen seq part parts:=rfl
 have hl5:=hdS_len gen seq part parts
 have hC1:=rappuint_any gen hg [82] (some ⟨W0.heap.size,0,none⟩) 1 (W0.alloc (.cells #[.int .u8 82] 5)).drew (rd_drew (rd_new' [.int .u8 82] 5 rfl)) (by simp)
 have hC2:=fun (A2 : Option Addr) (c2 : Nat) (W : World) (hR : Rd W W.heap.size A2 (([82] ++ uintB gen).map (Value.int .u8)))=>rappuint_any seq hs ([82] ++ uintB gen) A2 c2 W hR (by have:=uintB_len gen; simp; omega)
 have hC3:=fun (A2 : Option Addr) (c2 : Nat) (W : World) (hR : Rd W W.heap.size A2 (([82] ++ uintB gen ++ uintB seq).map (Value.int .u8)))=>rappuint_any part (by omega) ([82] ++ uintB gen ++ uintB seq) A2 c2 W hR (by have:=uintB_len gen; have:=uintB_len seq; simp; omega)
 have hC4:=fun (A2 : Option Addr) (c2 : Nat) (W : World) (hR : Rd W W.heap.size A2 (([82] ++ uintB gen ++ uintB seq ++ uintB part).map (Value.int .u8)))=>rappuint_any parts (by omega) ([82] ++ uintB gen ++ uintB seq ++ uintB part) A2 c2 W hR (by have:=uintB_len gen; have:=uintB_len seq; have:=uintB_len part; simp; omega)
 rw [← wrapN (n:=part) (by omega)] at hC3
 rw [← wrapN (n:=parts) (by omega)] at hC4
 rw [hE] at hC4
 have hS : secB gen seq part parts ch = sealB (hdS gen seq part parts ++ uintB ch.length ++ ch):=rfl
 have hls : (hdS gen seq part parts ++ uintB ch.length ++ ch).length ≤ 700100:=by have:=uintB_len ch.length; simp only [List.length_append]; omega
 generalize secB gen seq part parts ch = zz at *
 generalize hdS gen seq part parts = g4 at *
 generalize [82] ++ uintB gen = g1 at *
 generalize g1 ++ uintB seq = g2 at *
 generalize g2 ++ uintB part = g3 at *
 have hn1 : ([82] : List Int).length = 1:=rfl
 rw [hn1] at hC1
 have HC1:=Lib.hid hC1
 have HC2:=Lib.hid hC2
 have HC3:=Lib.hid hC3
 have HC4:=Lib.hid hC4
 have HS:=Lib.hid hS
 have z0:=PB.c0
 have z1:=PB.c1
 have z2:=PB.c2
 have z3:=PB.c3
 clear PB hW0 hE hC1 hC2 hC3 hC4 hS hn1 h
 go_enter Tryz.func69,Tryz.ntmps69
 go_wp2_with fail
 rw [HW0.out]
 clear HW0
 go_region_held3 (fun W=>W.cell? ⟨w.heap.size,0,none⟩ = some (.int .u64 gen) ∧ W.cell? ⟨w.heap.size,1,none⟩ = some (.int .u64 seq) ∧ W.cell? ⟨w.heap.size,2,none⟩ = some (.int .i64 part) ∧ W.cell? ⟨w.heap.size,3,none⟩ = some (.int .i64 parts))
  (first | (refine ⟨?_,?_,?_,?_⟩ <;> assumption) | (simp (maxDischargeDepth:=20) [World.cell?_alloc_some, *]; done))
  ((first
    | (go_at_call 105
       (with_reducible refine HC1.out.mono ?_)
       clear HC1
       rintro e w1 ⟨Aw1,cw1,rfl,how1,hbw1⟩
       have HRw1:=Lib.hid (Rd.of_own how1)
       have HWw1 : Hid (Below W0.heap.size W0 w1):=(((Below.refl W0.heap.size W0).alloc (Nat.le_refl _) _).drew).trans (hbw1.mono (by simp))
       have y0:=(HWw1.out.cell (p:=⟨w.heap.size,0,none⟩) hzW0).trans z0
       have y1:=(HWw1.out.cell (p:=⟨w.heap.size,1,none⟩) hzW0).trans z1
       have y2:=(HWw1.out.cell (p:=⟨w.heap.size,2,none⟩) hzW0).trans z2
       have y3:=(HWw1.out.cell (p:=⟨w.heap.size,3,none⟩) hzW0).trans z3
       have hzw1 : w.heap.size < w1.heap.size:=Nat.lt_of_lt_of_le hzW0 HWw1.out.size
       clear how1 hbw1)
    | (go_at_call 105
       (with_reducible refine (HC2.out Aw1 cw1 _ HRw1.out).mono ?_)
       rintro e w2 ⟨Aw2,cw2,rfl,how2,hbw2⟩
       have HRw2:=Lib.hid (Rd.of_own how2)
       have HWw2 : Hid (Below W0.heap.size W0 w2):=HWw1.out.trans (hbw2.mono HWw1.out.size)
       have t0:=(hbw2.cell (p:=⟨w.heap.size,0,none⟩) hzw1).trans y0
       have t1:=(hbw2.cell (p:=⟨w.heap.size,1,none⟩) hzw1).trans y1
       have t2:=(hbw2.cell (p:=⟨w.heap.size,2,none⟩) hzw1).trans y2
       have t3:=(hbw2.cell (p:=⟨w.heap.size,3,none⟩) hzw1).trans y3
       have hzw2 : w.heap.size < w2.heap.size:=Nat.lt_of_lt_of_le hzW0 HWw2.out.size
       clear how2 hbw2)))
 clear HWw1 z0 z1 z2 z3 y0 y1 y2 y3
 have HC3':=Lib.hid (HC3.out Aw2 cw2 _ (rd_drew HRw2.out))
 clear HC3
 go_wp2_with fail
 go_region_held3 (fun W=>W.cell? ⟨w.heap.size,0,none⟩ = some (.int .u64 gen) ∧ W.cell? ⟨w.heap.size,1,none⟩ = some (.int .u64 seq) ∧ W.cell? ⟨w.heap.size,2,none⟩ = some (.int .i64 part) ∧ W.cell? ⟨w.heap.size,3,none⟩ = some (.int .i64 parts))
  (first | (refine ⟨?_,?_,?_,?_⟩ <;> assumption) | (simp (maxDischargeDepth:=20) [World.cell?_alloc_some, *]; done))
  ((first
    | (go_at_call 105
       (with_reducible refine HC3'.out.mono ?_)
       clear HC3'
       rintro e w3 ⟨Aw3,cw3,rfl,how3,hbw3⟩
       have HRw3:=Lib.hid (Rd.of_own how3)
       have HWw3 : Hid (Below w2.heap.size w2 w3):=((Below.refl _ _).drew).trans hbw3
       have y0:=(HWw3.out.cell (p:=⟨w.heap.size,0,none⟩) hzw2).trans t0
       have y1:=(HWw3.out.cell (p:=⟨w.heap.size,1,none⟩) hzw2).trans t1
       have y2:=(HWw3.out.cell (p:=⟨w.heap.size,2,none⟩) hzw2).trans t2
       have y3:=(HWw3.out.cell (p:=⟨w.heap.size,3,none⟩) hzw2).trans t3
       have hzw3 : w.heap.size < w3.heap.size:=Nat.lt_of_lt_of_le hzw2 HWw3.out.size
       clear how3 hbw3)
    | (go_at_call 105
       (with_reducible refine (HC4.out Aw3 cw3 _ HRw3.out).mono ?_)
       rintro e w4 ⟨Aw4,cw4,rfl,how4,hbw4⟩
       have HRw4:=Lib.hid (Rd.of_own how4)
       have HWw4 : Hid (Below w2.heap.size w2 w4):=HWw3.out.trans (hbw4.mono HWw3.out.size)
       have z0:=(hbw4.cell (p:=⟨w.heap.size,0,none⟩) hzw3).trans y0
       have z1:=(hbw4.cell (p:=⟨w.heap.size,1,none⟩) hzw3).trans y1
       have z2:=(hbw4.cell (p:=⟨w.heap.size,2,none⟩) hzw3).trans y2
       have z3:=(hbw4.cell (p:=⟨w.heap.size,3,none⟩) hzw3).trans y3
       have hzw4 : w.heap.size < w4.heap.size:=Nat.lt_of_lt_of_le hzw2 HWw4.out.size
       clear how4 hbw4)))
 clear HWw3 t0 t1 t2 t3 y0 y1 y2 y3
 have HBW : Hid (∀ W,Below w4.heap.size w4 W → Below w.heap.size w W):=fun W hW=>HB.out W ((HWw2.out.trans ((HWw4.out.trans (hW.mono HWw4.out.size)).mono HWw2.out.size)).mono hzW0)
 have HC5:=Lib.hid (rappbytes_any g4 ch Aw4 A cw4 c w4 HRw4.out (by omega) ((HH.out.below (HBW.out _ (Below.refl _ _)) (Nat.le_refl _)).more (HBW.out _ (Below.refl _ _)).size) (by omega))
 clear z0 z1 z2 z3
 generalize g4 ++ uintB ch.length ++ ch = ys at *
 go_wp2_with fail
 refine HC5.out.mono ?_
 rintro e w5 ⟨A5,c5,rfl,ho5,hb5⟩
 have HC6:=Lib.hid (rsealed_any ys A5 c5 w5 (Rd.of_own ho5) (by omega))
 have HB5:=Lib.hid (HBW.out _ hb5)
 rw [← HS.out] at HC6
 clear ho5 hb5
 go_wp2_with fail
 refine HC6.out.mono ?_
 rintro e w6 ⟨A6,c6,rfl,ho6,hb6⟩
 go_wp2
 go_ret
 exact ⟨A6,c6,rfl,own_mono ho6 HB5.out.size,HB5.out.trans (hb6.mono HB5.out.size)⟩
end Go.Proofs.YtaggiceejcegdaaGreat
namespace Go.Proofs.YtaggiceejcegdaaGreat
set_option linter.unusedVariables false
open Go.RowKit Go.Shelf
attribute [local go_sem] Oper.semAt_some
def nCh (L : Nat) : Nat:=(L + 27) / 28
def lCh (L k : Nat) : Nat:=min 28 (L - 28 * k)
def chV (b off L k : Nat) : Value:=.slice (some ⟨b,off + 28 * k,none⟩) (lCh L k) (lCh L k)
set_option maxRecDepth 100000 in
set_option maxHeartbeats 1000000 in
theorem chunk_in (n : Nat) (A : Option Addr) (L c : Nat) (w : World) :
  CallsIn Fence.wide n Tryz.prog 85 #[.slice A L c,.int .i64 28] w fun e w'=>e = .returned (.func (.func 127) #[] #[.pointer (some ⟨w.heap.size,0,none⟩),.pointer (some ⟨w.heap.size + 1,0,none⟩)]) ∧ w' = (w.alloc (.cells #[.slice A L c] 26)).alloc (.cells #[.int .i64 28] 3):=by
 refine callsIn_of_wp Tryz.func85 rfl trivial ?_ rfl
 simp only [Tryz.ntmps85,List.size_toArray,List.length_cons,List.length_nil,Nat.reduceAdd,Nat.reduceSub,Array.replicate_succ,Array.replicate_zero,List.push_toArray,List.append_toArray,List.nil_append,List.cons_append]
 gi_wp2
 go_ret
 exact ⟨rfl,rfl⟩
set_option maxRecDepth 100000 in
set_option maxHeartbeats 2000000 in
theorem chunk1_in (n : Nat) (hn : 1 ≤ n) (l Bs Bn n₀ b off L c : Nat) (hL : L ≤ 100000) (hc : L ≤ c) (hcm : c ≤ 9223372036854775807) (hBs : Bs < n₀) (hBn : Bn < n₀) (J Jx : List Nat → World → Prop) (hJd : ∀ s W k,J s W → J s (W.drewN k))
  (hY : ∀ pre x W,J pre W → pre.length < nCh L → YieldAt Fence.wide (n - 1) Tryz.prog l #[chV b off L x] W fun e W'=>
    (e = .returned (.bool true) ∧ J (pre ++ [x]) W' ∧ Below n₀ W W') ∨ (e = .returned (.bool false) ∧ Jx (pre ++ [x]) W'))
  (W : World) (hs : W.cell? ⟨Bs,0,none⟩ = some (.slice (some ⟨b,off,none⟩) L c)) (hi : W.cell? ⟨Bn,0,none⟩ = some (.int .i64 28)) (h0 : J [] W) :
  CallsIn Fence.wide n Tryz.prog 127 #[.func (.yield l) #[] #[],.pointer (some ⟨Bs,0,none⟩),.pointer (some ⟨Bn,0,none⟩)] W fun e W'=>(∃ v,e = .returned v) ∧
   ((∃ ys,ys = List.range (nCh L) ∧ J ys W') ∨ (∃ pre,(∃ k,pre = List.range k) ∧ Jx pre W')):=by
 refine callsIn_of_wp Tryz.func127 rfl trivial ?_ rfl
 simp only [Tryz.ntmps127,List.size_toArray,List.length_cons,List.length_nil,Nat.reduceAdd,Nat.reduceSub,Array.replicate_succ,Array.replicate_zero,List.push_toArray,List.append_toArray,List.nil_append,List.cons_append]
 gi_wp2
 gi_loopw [4] (fun i wr=>∃ k : Nat,k ≤ nCh L ∧ i = .int .i64 ((28 * k : Nat) : Int) ∧ J (List.range k) wr ∧ Below n₀ W wr)
  (fun i _=>(28 * nCh L - (intOf i).toNat))
 case atStart=>exact ⟨0,Nat.zero_le _,rfl,h0,Below.refl _ _⟩
 case round=>
  obtain ⟨k,hk,rfl,hJs,hnx⟩:=hrel
  have hs':=(hnx.cell (p:=⟨Bs,0,none⟩) hBs).trans hs
  have hi':=(hnx.cell (p:=⟨Bn,0,none⟩) hBn).trans hi
  have hm : nCh L = (L + 27) / 28:=rfl
  by_cases hlt : k < nCh L
  ·have hkL : 28 * k < L:=by omega
   have hY':=fun q=>hY _ k (wr.drewN q) (hJd _ _ q hJs) (by rw [List.length_range]; exact hlt)
   have hv : chV b off L k = .slice (some ⟨b,off + 28 * k,none⟩) (min 28 (L - 28 * k)) (min 28 (L - 28 * k)):=rfl
   rw [hv] at hY'
   clear hv
   have HE:=Lib.hid (show 28 * (k + 1) = 28 * k + 28 by omega)
   have HM : Hid (28 * nCh L - 28 * (k + 1) < 28 * nCh L - 28 * k):=by unfold Hid; omega
   have HN:=Lib.hid hlt
   have HF : Hid (28 * k + 28 ≤ 28 * nCh L ∧ 28 * nCh L ≤ L + 27):=by unfold Hid; omega
   have HW1 : Hid (IntKind.i64.wrap (((28 * k : Nat) : Int) + 28) = ((28 * k + 28 : Nat) : Int)):=by unfold Hid; rw [IntKind.wrap_i64]; omega
   clear hlt hk hm
   generalize 28 * k = i at *
   by_cases h28 : i + 28 ≤ L
   ·rw [Nat.min_eq_left (by omega)] at hY'
    have HY:=Lib.hid hY'
    clear hY'
    gi_wp2
    gi_quiet (fail)
    obtain ⟨fn,tmps,assign,body,hy,hR⟩:=HY.out nq
    clear HY
    gi_wp2
    refine hR.mono ?_
    rintro e W3 (⟨rfl,hJ3,hk3⟩ | ⟨rfl,hJx3⟩)
    ·have hs3:=(hk3.cell (p:=⟨Bs,0,none⟩) hBs).trans hs'
     have hi3:=(hk3.cell (p:=⟨Bn,0,none⟩) hBn).trans hi'
     have hnx3:=(below_drewN hnx nq).trans hk3
     gi_wp2
     go_roundw
     case rel=>exact ⟨k + 1,HN.out,by rw [HE.out]; simp,by rw [List.range_succ]; exact hJ3,hnx3⟩
     case measure=>simp [intOf]; have:=HM.out; rw [HE.out] at this; omega
    ·gi_wp2
     refine bodyPost_ret (results_none rfl _ _ _) rfl ?_
     exact ⟨⟨_,rfl⟩,.inr ⟨_,⟨k + 1,(List.range_succ).symm⟩,hJx3⟩⟩
   ·rw [Nat.min_eq_right (by omega)] at hY'
    have HY:=Lib.hid hY'
    clear hY'
    gi_wp2
    gi_quiet (fail)
    obtain ⟨fn,tmps,assign,body,hy,hR⟩:=HY.out nq
    clear HY
    gi_wp2
    refine hR.mono ?_
    rintro e W3 (⟨rfl,hJ3,hk3⟩ | ⟨rfl,hJx3⟩)
    ·have hs3:=(hk3.cell (p:=⟨Bs,0,none⟩) hBs).trans hs'
     have hi3:=(hk3.cell (p:=⟨Bn,0,none⟩) hBn).trans hi'
     have hnx3:=(below_drewN hnx nq).trans hk3
     gi_wp2
     go_roundw
     case rel=>exact ⟨k + 1,HN.out,by rw [HE.out]; simp,by rw [List.range_succ]; exact hJ3,hnx3⟩
     case measure=>simp [intOf]; have:=HM.out; rw [HE.out] at this; omega
    ·gi_wp2
     refine bodyPost_ret (results_none rfl _ _ _) rfl ?_
     exact ⟨⟨_,rfl⟩,.inr ⟨_,⟨k + 1,(List.range_succ).symm⟩,hJx3⟩⟩
  ·obtain rfl : k = nCh L:=by omega
   gi_wp2
   go_end0
   exact ⟨⟨_,rfl⟩,.inl ⟨_,rfl,hJs⟩⟩
structure Sl where
 A : Option Addr
 xs : List Int
 c : Nat
def Sl.v (s : Sl) : Value:=.slice s.A s.xs.length s.c
def chSl (p : List Int) (b off k : Nat) : Sl:=⟨some ⟨b,off + 28 * k,none⟩,(p.drop (28 * k)).take 28,lCh p.length k⟩
theorem info_sl : (Tryz.prog.info? 26).map (fun i=>(i.zero,i.size,i.bytes)) = some (some (.slice none 0 0),1,24):=by kernel_rfl
theorem chunk_stops (n : Nat) (hn : 1 ≤ n) (Bs Bn n₀ b off L c : Nat) (hL : L ≤ 100000) (hc : L ≤ c) (hcm : c ≤ 9223372036854775807) (w : World) (hBs : Bs < n₀) (hBn : Bn < n₀) (hn₀ : n₀ ≤ w.heap.size)
  (hs : w.cell? ⟨Bs,0,none⟩ = some (.slice (some ⟨b,off,none⟩) L c)) (hi : w.cell? ⟨Bn,0,none⟩ = some (.int .i64 28)) :
  SeqStopsK Fence.wide n Tryz.prog 127 #[.pointer (some ⟨Bs,0,none⟩),.pointer (some ⟨Bn,0,none⟩)] (fun k : Nat=>#[chV b off L k]) (Below n₀) (fun ys=>ys = List.range (nCh L)) (fun pre=>∃ k,pre = List.range k) (nCh L) w:=fun l J Jx W hW hJ _ hY h0=>
 chunk1_in n hn l Bs Bn n₀ b off L c hL hc hcm hBs hBn J Jx (fun s X k h=>hJ s X _ none h ⟨rfl,rfl,rfl,Nat.le_refl _,fun _ _ _=>rfl⟩ (fun r e=>by cases e)) hY W ((hW.cell (p:=⟨Bs,0,none⟩) (Nat.lt_of_lt_of_le hBs hn₀)).trans hs) ((hW.cell (p:=⟨Bn,0,none⟩) (Nat.lt_of_lt_of_le hBn hn₀)).trans hi) h0
set_option maxRecDepth 100000 in
set_option maxHeartbeats 2000000 in
theorem appseq_in (n : Nat) (hn : 3 ≤ n) (Bs Bn b off L c : Nat) (hL : L ≤ 100000) (hc : L ≤ c) (hcm : c ≤ 9223372036854775807) (w : World) (hBs : Bs < w.heap.size) (hBn : Bn < w.heap.size)
  (hs : w.cell? ⟨Bs,0,none⟩ = some (.slice (some ⟨b,off,none⟩) L c)) (hi : w.cell? ⟨Bn,0,none⟩ = some (.int .i64 28)) :
  CallsIn Fence.wide n Tryz.prog 126 #[.slice none 0 0,.func (.func 127) #[] #[.pointer (some ⟨Bs,0,none⟩),.pointer (some ⟨Bn,0,none⟩)]] w fun e W'=>∃ v,e = .returned v ∧ W'.ownsRow w.heap.size 26 1 v (List.range (nCh L)).length ((List.range (nCh L)).map (chV b off L)) ∧ Below w.heap.size w W':=by
 obtain ⟨i0,hi0,hz0,hz1,hz2⟩:=info_parts info_sl
 have hm : nCh L = (L + 27) / 28:=rfl
 refine callsIn_of_wp_marks Tryz.func126 rfl trivial ?_ rfl
 simp only [Tryz.ntmps126,List.size_toArray,List.length_cons,List.length_nil,Nat.reduceAdd,Nat.reduceSub,Array.replicate_succ,Array.replicate_zero,List.push_toArray,List.append_toArray,List.nil_append,List.cons_append]
 gi_wp2
 have bO:=Boxed.new w 49 (.slice none 0 0)
 have hB0 : Below w.heap.size w (w.alloc (.cells #[.slice none 0 0] 49)):=(Below.refl _ w).alloc (Nat.le_refl _) _
 refine wpIn_rangeFunc_ownG (w0:=w.alloc (.cells #[.slice none 0 0] 49)) rfl (by omega) (gf:=127) (lb:=#[.pointer (some ⟨Bs,0,none⟩),.pointer (some ⟨Bn,0,none⟩)]) rfl trivial (enters_of Tryz.func127 (by kernel_rfl) rfl)
  (chunk_stops (n - 1) (by omega) Bs Bn w.heap.size b off L c hL hc hcm _ hBs hBn (by simp) ((hB0.cell (p:=⟨Bs,0,none⟩) hBs).trans hs) ((hB0.cell (p:=⟨Bn,0,none⟩) hBn).trans hi)) belowK_t (belowK_b (by simp)) (Below.refl _ _) (fun _=>rfl)
  (fun (pre : List Nat) W=>(∃ v,Boxed W w.heap.size 49 v ∧ W.ownsRow w.heap.size 26 1 v pre.length (pre.map (chV b off L)) ∧ True) ∧ Below w.heap.size w W)
  (fun _ _ _=>False)
  (OwnFrom.and (Own.from (holdsRow_own w.heap.size w.heap.size 49 26 1 (fun pre : List Nat=>pre.length) (fun pre : List Nat=>pre.map (chV b off L)) (fun _ _=>True)) _) (ownFrom_below (Nat.le_refl _) (by simp)))
  (fun _ _ _ _ _ hs _ _=>hs)
  ⟨⟨_,bO,World.ownsRow_nil _ _ _ _,trivial⟩,hB0⟩
  (fun x=>{ tmps:=#[.slice none 0 0,.func (.func 127) #[] #[.pointer (some ⟨Bs,0,none⟩),.pointer (some ⟨Bn,0,none⟩)],.pointer (some ⟨w.heap.size,0,none⟩),undef,.slice none 0 0,chV b off L x,.func (.func 127) #[] #[.pointer (some ⟨Bs,0,none⟩),.pointer (some ⟨Bn,0,none⟩)],chV b off L x,undef,undef,undef,undef,undef],defers:=[] }) ?assign ?body ?done ?stop
 case assign=>
  intro l x W K hK
  gi_wp2
  exact hK
 case body=>
  rintro l pre x W ⟨⟨v,hv,hrow,hnil⟩,hB⟩ hlt
  have hcv:=hv.cell
  obtain ⟨ad,m1,c1,hu⟩ : ∃ ad m1 c1,chV b off L x = .slice (some ad) m1 c1:=⟨_,_,_,rfl⟩
  have HU : Hid ((pre ++ [x]).map (chV b off L) = pre.map (chV b off L) ++ [.slice (some ad) m1 c1]):=by unfold Hid; rw [List.map_append,← hu]; rfl
  rw [hu]
  clear hu
  gi_wp2_with (gi_at_builtin; refine wpListIn_append_own _ rfl _ _ 49 rfl w.heap.size 26 i0 (.slice none 0 0) 1 24 Tryz.underlying49 hi0 hz0 hz1 hz2 rfl (by decide) _ _ _ rfl (hrow.alloc _) ⟨W.heap.size,0,none⟩ 1 1 [.slice (some ad) m1 c1] rfl rfl (cell_one_new _ _ _) (by simp [Value.oneCell']) (by unfold maxLen; omega) (by omega) (by have:=hB.size; simp; omega) ?_; intro v' w1 hown' hgrow _; obtain ⟨g',cap',rfl⟩:=ownsRow_succ hown'; obtain ⟨hv1,hv2,hr2,hk2,hb2⟩:=hv.appended (by decide) hrow hB.size (Nat.le_refl _) hown' hgrow; have hc1:=hv1.cell; have hf1:=hv1.frozen)
  exact ⟨hk2.from _,hb2,⟨⟨_,hv2,by rw [HU.out,List.length_append]; exact hr2,trivial⟩,hB.trans hb2⟩⟩
 case done=>
  rintro D ys W hD rfl ⟨⟨v,hv,hrow,hnil⟩,hB⟩ hK
  have hc:=hv.cell
  gi_wp2
  refine ⟨by simp,.inl ⟨_,_,rfl,run_takeDeferred hK,?_⟩⟩
  exact ⟨_,results_tmp rfl _ _ _,v,rfl,ownsRow_putObj hrow _ hK rfl,hB.trans (belowK_b (w:=w) (Nat.le_refl _) W D _ _ (by simp at hD; omega) hK rfl rfl)⟩
 case stop=>
  rintro D c pre W _ _ h _
  exact h.elim
end Go.Proofs.YtaggiceejcegdaaGreat

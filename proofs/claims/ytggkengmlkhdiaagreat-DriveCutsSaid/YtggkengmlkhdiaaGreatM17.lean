/-
  WHAT IS SHOWN: what retry of drive returns and leaves: the operation is called as long as it is busy; what the operations of the closures do. Conditions: the disk lies in memory; the boxes hold the values.
-/
import Derived.Test.YtggkengmlkhdiaaGreatM15
import Derived.Test.YtggkengmlkhdiaaGreatM16
namespace Go.Proofs.YtggkengmlkhdiaaGreat
set_option linter.unusedVariables false
open Go.RowKit
set_option maxRecDepth 100000 in
set_option maxHeartbeats 4000000 in
theorem rterase_any {w:World} (bd bk bi:Nat) (J:Nat→World→Prop) (er:Nat→Int) (h0:J 0 w) (HC:∀ n W,n≤8→J n W→Calls Tryz.prog 61 #[.pointer (some ⟨bd,0,none⟩),.pointer (some ⟨bk,0,none⟩),.pointer (some ⟨bi,0,none⟩)] W fun e w'=>e= .returned (.int .i64 (er n))∧J (n+1) w'):
  Calls Tryz.prog 47 #[.func (.func 61) #[] #[.pointer (some ⟨bd,0,none⟩),.pointer (some ⟨bk,0,none⟩),.pointer (some ⟨bi,0,none⟩)]] w fun e w'=>∃ k,e= .returned (.int .i64 (er k))∧J (k+1) w'∧(∀ j,j < k→er j=16)∧(k=8∨(k≤8∧¬ er k=16)):=by
 have HC':=Lib.hid HC
 clear HC
 go_enter Tryz.func47,Tryz.ntmps47
 go_wp2_with fail
 refine (HC'.out 0 w (by omega) h0).mono ?_
 rintro e w1 ⟨rfl,h1⟩
 go_wp2
 go_loopw [3,4] (fun e n wr=>∃ k:Nat,k≤8∧e= .int .i64 (er k)∧n= .int .i64 (k:Int)∧J (k+1) wr∧Hid (∀ j,j < k→er j=16)) (fun _ n _=>10 - (intOf n).toNat)
 case atStart=>exact ⟨0,by omega,rfl,rfl,h1,by unfold Hid; intro j hj; omega⟩
 case round=>
  obtain ⟨k,hk,rfl,rfl,hJ,HJ⟩:=hrel
  generalize hE:er k=E at *
  by_cases h8:k < 8
  ·by_cases h16:E=16
   ·subst h16
    have d1:decide ((k:Int) < 8)=true:=decide_eq_true (by omega)
    have hw:IntKind.i64.wrap ((k:Int)+1)=((k+1:Nat):Int):=by rw [IntKind.wrap_i64]; omega
    have HJ2:Hid (∀ j,j < k+1→er j=16):=by
     unfold Hid; intro j hj
     by_cases e:j=k
     ·subst e; exact hE
     ·exact HJ.out j (by omega)
    go_wp2_with fail
    refine (HC'.out (k+1) wr (by omega) hJ).mono ?_
    rintro e w2 ⟨rfl,h2⟩
    go_wp2
    go_roundw
    case rel=>exact ⟨k+1,by omega,rfl,by go_num,h2,HJ2⟩
    case measure=>simp [intOf]; omega
   ·have d1:decide ((k:Int) < 8)=true:=decide_eq_true (by omega)
    have d2:(E==16)=false:=by simpa using h16
    go_wp2
    go_ret
    exact ⟨k,by rw [hE]; rfl,hJ,HJ.out,.inr ⟨hk,by rw [hE]; exact h16⟩⟩
  ·have d1:decide ((k:Int) < 8)=false:=decide_eq_false (by omega)
   go_wp2
   go_ret
   exact ⟨k,by rw [hE]; rfl,hJ,HJ.out,.inl (by omega)⟩
set_option maxRecDepth 100000 in
set_option maxHeartbeats 4000000 in
theorem rtflush_any {w:World} (bd bk:Nat) (J:Nat→World→Prop) (er:Nat→Int) (h0:J 0 w) (HC:∀ n W,n≤8→J n W→Calls Tryz.prog 63 #[.pointer (some ⟨bd,0,none⟩),.pointer (some ⟨bk,0,none⟩)] W fun e w'=>e= .returned (.int .i64 (er n))∧J (n+1) w'):
  Calls Tryz.prog 47 #[.func (.func 63) #[] #[.pointer (some ⟨bd,0,none⟩),.pointer (some ⟨bk,0,none⟩)]] w fun e w'=>∃ k,e= .returned (.int .i64 (er k))∧J (k+1) w'∧(∀ j,j < k→er j=16)∧(k=8∨(k≤8∧¬ er k=16)):=by
 have HC':=Lib.hid HC
 clear HC
 go_enter Tryz.func47,Tryz.ntmps47
 go_wp2_with fail
 refine (HC'.out 0 w (by omega) h0).mono ?_
 rintro e w1 ⟨rfl,h1⟩
 go_wp2
 go_loopw [3,4] (fun e n wr=>∃ k:Nat,k≤8∧e= .int .i64 (er k)∧n= .int .i64 (k:Int)∧J (k+1) wr∧Hid (∀ j,j < k→er j=16)) (fun _ n _=>10 - (intOf n).toNat)
 case atStart=>exact ⟨0,by omega,rfl,rfl,h1,by unfold Hid; intro j hj; omega⟩
 case round=>
  obtain ⟨k,hk,rfl,rfl,hJ,HJ⟩:=hrel
  generalize hE:er k=E at *
  by_cases h8:k < 8
  ·by_cases h16:E=16
   ·subst h16
    have d1:decide ((k:Int) < 8)=true:=decide_eq_true (by omega)
    have hw:IntKind.i64.wrap ((k:Int)+1)=((k+1:Nat):Int):=by rw [IntKind.wrap_i64]; omega
    have HJ2:Hid (∀ j,j < k+1→er j=16):=by
     unfold Hid; intro j hj
     by_cases e:j=k
     ·subst e; exact hE
     ·exact HJ.out j (by omega)
    go_wp2_with fail
    refine (HC'.out (k+1) wr (by omega) hJ).mono ?_
    rintro e w2 ⟨rfl,h2⟩
    go_wp2
    go_roundw
    case rel=>exact ⟨k+1,by omega,rfl,by go_num,h2,HJ2⟩
    case measure=>simp [intOf]; omega
   ·have d1:decide ((k:Int) < 8)=true:=decide_eq_true (by omega)
    have d2:(E==16)=false:=by simpa using h16
    go_wp2
    go_ret
    exact ⟨k,by rw [hE]; rfl,hJ,HJ.out,.inr ⟨hk,by rw [hE]; exact h16⟩⟩
  ·have d1:decide ((k:Int) < 8)=false:=decide_eq_false (by omega)
   go_wp2
   go_ret
   exact ⟨k,by rw [hE]; rfl,hJ,HJ.out,.inl (by omega)⟩
set_option maxRecDepth 100000 in
set_option maxHeartbeats 4000000 in
theorem rtread_any {w:World} (bd ba bb:Nat) (J:Nat→World→Prop) (er:Nat→Int) (h0:J 0 w) (HC:∀ n W,n≤8→J n W→Calls Tryz.prog 92 #[.pointer (some ⟨bd,0,none⟩),.pointer (some ⟨ba,0,none⟩),.pointer (some ⟨bb,0,none⟩)] W fun e w'=>e= .returned (.int .i64 (er n))∧J (n+1) w'):
  Calls Tryz.prog 47 #[.func (.func 92) #[] #[.pointer (some ⟨bd,0,none⟩),.pointer (some ⟨ba,0,none⟩),.pointer (some ⟨bb,0,none⟩)]] w fun e w'=>∃ k,e= .returned (.int .i64 (er k))∧J (k+1) w'∧(∀ j,j < k→er j=16)∧(k=8∨(k≤8∧¬ er k=16)):=by
 have HC':=Lib.hid HC
 clear HC
 go_enter Tryz.func47,Tryz.ntmps47
 go_wp2_with fail
 refine (HC'.out 0 w (by omega) h0).mono ?_
 rintro e w1 ⟨rfl,h1⟩
 go_wp2
 go_loopw [3,4] (fun e n wr=>∃ k:Nat,k≤8∧e= .int .i64 (er k)∧n= .int .i64 (k:Int)∧J (k+1) wr∧Hid (∀ j,j < k→er j=16)) (fun _ n _=>10 - (intOf n).toNat)
 case atStart=>exact ⟨0,by omega,rfl,rfl,h1,by unfold Hid; intro j hj; omega⟩
 case round=>
  obtain ⟨k,hk,rfl,rfl,hJ,HJ⟩:=hrel
  generalize hE:er k=E at *
  by_cases h8:k < 8
  ·by_cases h16:E=16
   ·subst h16
    have d1:decide ((k:Int) < 8)=true:=decide_eq_true (by omega)
    have hw:IntKind.i64.wrap ((k:Int)+1)=((k+1:Nat):Int):=by rw [IntKind.wrap_i64]; omega
    have HJ2:Hid (∀ j,j < k+1→er j=16):=by
     unfold Hid; intro j hj
     by_cases e:j=k
     ·subst e; exact hE
     ·exact HJ.out j (by omega)
    go_wp2_with fail
    refine (HC'.out (k+1) wr (by omega) hJ).mono ?_
    rintro e w2 ⟨rfl,h2⟩
    go_wp2
    go_roundw
    case rel=>exact ⟨k+1,by omega,rfl,by go_num,h2,HJ2⟩
    case measure=>simp [intOf]; omega
   ·have d1:decide ((k:Int) < 8)=true:=decide_eq_true (by omega)
    have d2:(E==16)=false:=by simpa using h16
    go_wp2
    go_ret
    exact ⟨k,by rw [hE]; rfl,hJ,HJ.out,.inr ⟨hk,by rw [hE]; exact h16⟩⟩
  ·have d1:decide ((k:Int) < 8)=false:=decide_eq_false (by omega)
   go_wp2
   go_ret
   exact ⟨k,by rw [hE]; rfl,hJ,HJ.out,.inl (by omega)⟩
set_option maxRecDepth 100000 in
set_option maxHeartbeats 4000000 in
theorem rtwrite_any {w:World} (bd ba bb:Nat) (J:Nat→World→Prop) (er:Nat→Int) (h0:J 0 w) (HC:∀ n W,n≤8→J n W→Calls Tryz.prog 111 #[.pointer (some ⟨bd,0,none⟩),.pointer (some ⟨ba,0,none⟩),.pointer (some ⟨bb,0,none⟩)] W fun e w'=>e= .returned (.int .i64 (er n))∧J (n+1) w'):
  Calls Tryz.prog 47 #[.func (.func 111) #[] #[.pointer (some ⟨bd,0,none⟩),.pointer (some ⟨ba,0,none⟩),.pointer (some ⟨bb,0,none⟩)]] w fun e w'=>∃ k,e= .returned (.int .i64 (er k))∧J (k+1) w'∧(∀ j,j < k→er j=16)∧(k=8∨(k≤8∧¬ er k=16)):=by
 have HC':=Lib.hid HC
 clear HC
 go_enter Tryz.func47,Tryz.ntmps47
 go_wp2_with fail
 refine (HC'.out 0 w (by omega) h0).mono ?_
 rintro e w1 ⟨rfl,h1⟩
 go_wp2
 go_loopw [3,4] (fun e n wr=>∃ k:Nat,k≤8∧e= .int .i64 (er k)∧n= .int .i64 (k:Int)∧J (k+1) wr∧Hid (∀ j,j < k→er j=16)) (fun _ n _=>10 - (intOf n).toNat)
 case atStart=>exact ⟨0,by omega,rfl,rfl,h1,by unfold Hid; intro j hj; omega⟩
 case round=>
  obtain ⟨k,hk,rfl,rfl,hJ,HJ⟩:=hrel
  generalize hE:er k=E at *
  by_cases h8:k < 8
  ·by_cases h16:E=16
   ·subst h16
    have d1:decide ((k:Int) < 8)=true:=decide_eq_true (by omega)
    have hw:IntKind.i64.wrap ((k:Int)+1)=((k+1:Nat):Int):=by rw [IntKind.wrap_i64]; omega
    have HJ2:Hid (∀ j,j < k+1→er j=16):=by
     unfold Hid; intro j hj
     by_cases e:j=k
     ·subst e; exact hE
     ·exact HJ.out j (by omega)
    go_wp2_with fail
    refine (HC'.out (k+1) wr (by omega) hJ).mono ?_
    rintro e w2 ⟨rfl,h2⟩
    go_wp2
    go_roundw
    case rel=>exact ⟨k+1,by omega,rfl,by go_num,h2,HJ2⟩
    case measure=>simp [intOf]; omega
   ·have d1:decide ((k:Int) < 8)=true:=decide_eq_true (by omega)
    have d2:(E==16)=false:=by simpa using h16
    go_wp2
    go_ret
    exact ⟨k,by rw [hE]; rfl,hJ,HJ.out,.inr ⟨hk,by rw [hE]; exact h16⟩⟩
  ·have d1:decide ((k:Int) < 8)=false:=decide_eq_false (by omega)
   go_wp2
   go_ret
   exact ⟨k,by rw [hE]; rfl,hJ,HJ.out,.inl (by omega)⟩
set_option maxRecDepth 100000 in
set_option maxHeartbeats 4000000 in
theorem rtcflush_any {w:World} (bd:Nat) (J:Nat→World→Prop) (er:Nat→Int) (h0:J 0 w) (HC:∀ n W,n≤8→J n W→Calls Tryz.prog 80 #[.pointer (some ⟨bd,0,none⟩)] W fun e w'=>e= .returned (.int .i64 (er n))∧J (n+1) w'):
  Calls Tryz.prog 47 #[.func (.func 80) #[] #[.pointer (some ⟨bd,0,none⟩)]] w fun e w'=>∃ k,e= .returned (.int .i64 (er k))∧J (k+1) w'∧(∀ j,j < k→er j=16)∧(k=8∨(k≤8∧¬ er k=16)):=by
 have HC':=Lib.hid HC
 clear HC
 go_enter Tryz.func47,Tryz.ntmps47
 go_wp2_with fail
 refine (HC'.out 0 w (by omega) h0).mono ?_
 rintro e w1 ⟨rfl,h1⟩
 go_wp2
 go_loopw [3,4] (fun e n wr=>∃ k:Nat,k≤8∧e= .int .i64 (er k)∧n= .int .i64 (k:Int)∧J (k+1) wr∧Hid (∀ j,j < k→er j=16)) (fun _ n _=>10 - (intOf n).toNat)
 case atStart=>exact ⟨0,by omega,rfl,rfl,h1,by unfold Hid; intro j hj; omega⟩
 case round=>
  obtain ⟨k,hk,rfl,rfl,hJ,HJ⟩:=hrel
  generalize hE:er k=E at *
  by_cases h8:k < 8
  ·by_cases h16:E=16
   ·subst h16
    have d1:decide ((k:Int) < 8)=true:=decide_eq_true (by omega)
    have hw:IntKind.i64.wrap ((k:Int)+1)=((k+1:Nat):Int):=by rw [IntKind.wrap_i64]; omega
    have HJ2:Hid (∀ j,j < k+1→er j=16):=by
     unfold Hid; intro j hj
     by_cases e:j=k
     ·subst e; exact hE
     ·exact HJ.out j (by omega)
    go_wp2_with fail
    refine (HC'.out (k+1) wr (by omega) hJ).mono ?_
    rintro e w2 ⟨rfl,h2⟩
    go_wp2
    go_roundw
    case rel=>exact ⟨k+1,by omega,rfl,by go_num,h2,HJ2⟩
    case measure=>simp [intOf]; omega
   ·have d1:decide ((k:Int) < 8)=true:=decide_eq_true (by omega)
    have d2:(E==16)=false:=by simpa using h16
    go_wp2
    go_ret
    exact ⟨k,by rw [hE]; rfl,hJ,HJ.out,.inr ⟨hk,by rw [hE]; exact h16⟩⟩
  ·have d1:decide ((k:Int) < 8)=false:=decide_eq_false (by omega)
   go_wp2
   go_ret
   exact ⟨k,by rw [hE]; rfl,hJ,HJ.out,.inl (by omega)⟩
set_option maxRecDepth 100000 in
set_option maxHeartbeats 4000000 in
theorem rtcerase_any {w:World} (bd bk:Nat) (J:Nat→World→Prop) (er:Nat→Int) (h0:J 0 w) (HC:∀ n W,n≤8→J n W→Calls Tryz.prog 81 #[.pointer (some ⟨bd,0,none⟩),.pointer (some ⟨bk,0,none⟩)] W fun e w'=>e= .returned (.int .i64 (er n))∧J (n+1) w'):
  Calls Tryz.prog 47 #[.func (.func 81) #[] #[.pointer (some ⟨bd,0,none⟩),.pointer (some ⟨bk,0,none⟩)]] w fun e w'=>∃ k,e= .returned (.int .i64 (er k))∧J (k+1) w'∧(∀ j,j < k→er j=16)∧(k=8∨(k≤8∧¬ er k=16)):=by
 have HC':=Lib.hid HC
 clear HC
 go_enter Tryz.func47,Tryz.ntmps47
 go_wp2_with fail
 refine (HC'.out 0 w (by omega) h0).mono ?_
 rintro e w1 ⟨rfl,h1⟩
 go_wp2
 go_loopw [3,4] (fun e n wr=>∃ k:Nat,k≤8∧e= .int .i64 (er k)∧n= .int .i64 (k:Int)∧J (k+1) wr∧Hid (∀ j,j < k→er j=16)) (fun _ n _=>10 - (intOf n).toNat)
 case atStart=>exact ⟨0,by omega,rfl,rfl,h1,by unfold Hid; intro j hj; omega⟩
 case round=>
  obtain ⟨k,hk,rfl,rfl,hJ,HJ⟩:=hrel
  generalize hE:er k=E at *
  by_cases h8:k < 8
  ·by_cases h16:E=16
   ·subst h16
    have d1:decide ((k:Int) < 8)=true:=decide_eq_true (by omega)
    have hw:IntKind.i64.wrap ((k:Int)+1)=((k+1:Nat):Int):=by rw [IntKind.wrap_i64]; omega
    have HJ2:Hid (∀ j,j < k+1→er j=16):=by
     unfold Hid; intro j hj
     by_cases e:j=k
     ·subst e; exact hE
     ·exact HJ.out j (by omega)
    go_wp2_with fail
    refine (HC'.out (k+1) wr (by omega) hJ).mono ?_
    rintro e w2 ⟨rfl,h2⟩
    go_wp2
    go_roundw
    case rel=>exact ⟨k+1,by omega,rfl,by go_num,h2,HJ2⟩
    case measure=>simp [intOf]; omega
   ·have d1:decide ((k:Int) < 8)=true:=decide_eq_true (by omega)
    have d2:(E==16)=false:=by simpa using h16
    go_wp2
    go_ret
    exact ⟨k,by rw [hE]; rfl,hJ,HJ.out,.inr ⟨hk,by rw [hE]; exact h16⟩⟩
  ·have d1:decide ((k:Int) < 8)=false:=decide_eq_false (by omega)
   go_wp2
   go_ret
   exact ⟨k,by rw [hE]; rfl,hJ,HJ.out,.inl (by omega)⟩
set_option maxRecDepth 100000 in
set_option maxHeartbeats 4000000 in
theorem rtdflush_any {w:World} (bd:Nat) (J:Nat→World→Prop) (er:Nat→Int) (h0:J 0 w) (HC:∀ n W,n≤8→J n W→Calls Tryz.prog 48 #[.pointer (some ⟨bd,0,none⟩)] W fun e w'=>e= .returned (.int .i64 (er n))∧J (n+1) w'):
  Calls Tryz.prog 47 #[.func (.func 48) #[] #[.pointer (some ⟨bd,0,none⟩)]] w fun e w'=>∃ k,e= .returned (.int .i64 (er k))∧J (k+1) w'∧(∀ j,j < k→er j=16)∧(k=8∨(k≤8∧¬ er k=16)):=by
 have HC':=Lib.hid HC
 clear HC
 go_enter Tryz.func47,Tryz.ntmps47
 go_wp2_with fail
 refine (HC'.out 0 w (by omega) h0).mono ?_
 rintro e w1 ⟨rfl,h1⟩
 go_wp2
 go_loopw [3,4] (fun e n wr=>∃ k:Nat,k≤8∧e= .int .i64 (er k)∧n= .int .i64 (k:Int)∧J (k+1) wr∧Hid (∀ j,j < k→er j=16)) (fun _ n _=>10 - (intOf n).toNat)
 case atStart=>exact ⟨0,by omega,rfl,rfl,h1,by unfold Hid; intro j hj; omega⟩
 case round=>
  obtain ⟨k,hk,rfl,rfl,hJ,HJ⟩:=hrel
  generalize hE:er k=E at *
  by_cases h8:k < 8
  ·by_cases h16:E=16
   ·subst h16
    have d1:decide ((k:Int) < 8)=true:=decide_eq_true (by omega)
    have hw:IntKind.i64.wrap ((k:Int)+1)=((k+1:Nat):Int):=by rw [IntKind.wrap_i64]; omega
    have HJ2:Hid (∀ j,j < k+1→er j=16):=by
     unfold Hid; intro j hj
     by_cases e:j=k
     ·subst e; exact hE
     ·exact HJ.out j (by omega)
    go_wp2_with fail
    refine (HC'.out (k+1) wr (by omega) hJ).mono ?_
    rintro e w2 ⟨rfl,h2⟩
    go_wp2
    go_roundw
    case rel=>exact ⟨k+1,by omega,rfl,by go_num,h2,HJ2⟩
    case measure=>simp [intOf]; omega
   ·have d1:decide ((k:Int) < 8)=true:=decide_eq_true (by omega)
    have d2:(E==16)=false:=by simpa using h16
    go_wp2
    go_ret
    exact ⟨k,by rw [hE]; rfl,hJ,HJ.out,.inr ⟨hk,by rw [hE]; exact h16⟩⟩
  ·have d1:decide ((k:Int) < 8)=false:=decide_eq_false (by omega)
   go_wp2
   go_ret
   exact ⟨k,by rw [hE]; rfl,hJ,HJ.out,.inl (by omega)⟩
section
variable {w w':World} {B:Bd} {q pw p:Nat} {g:Geo} {F:List Flt} {d:DC}
theorem dcell_one {k:Nat} {v:Value} {t:TypeId} {fr:Nat × Nat} (h:w.heap[k]?=some (.cells #[v] t fr)):w.cell? ⟨k,0,none⟩=some v:=by rw [cell_of_row _ _ _ _ _ _ h]; rfl
structure DKey (w:World) (p q:Nat) (key:Int):Prop where
 ex:∃ base v0 v1 v2 v3,w.ownsRow base 87 6 (.slice (some ⟨p,0,none⟩) 1 1) 1 [.pointer (some ⟨q,0,none⟩),.int .u64 key,v0,v1,v2,v3]
theorem Drv.dkey {key:Int} {S:ST} {ea ec:Nat} {BA:Option Addr} {bc:Nat} (h:Drv w B p q pw g F key S ea ec BA bc):DKey w p q key:=⟨_,_,_,_,_,h.obj⟩
theorem DKey.kept {key:Int} {ts:List TypeId} {C:Bd} (h:DKey w p q key) (hk:KeptT ts C w w') (ht:87 ∉ ts):DKey w' p q key:=by
 obtain ⟨base,v0,v1,v2,v3,h⟩:=h
 exact ⟨base,v0,v1,v2,v3,own_ty h hk ht⟩
theorem DKey.cells {key:Int} (h:DKey w p q key):w.cell? ⟨p,0,none⟩=some (.pointer (some ⟨q,0,none⟩))∧w.cell? ⟨p,1,none⟩=some (.int .u64 key):=by
 obtain ⟨base,v0,v1,v2,v3,h⟩:=h
 exact ⟨(World.ownsRow.cellAt h 0 (by decide)).trans rfl,(World.ownsRow.cellAt h 1 (by decide)).trans rfl⟩
theorem DKey.below0 {key:Int} (h:DKey w p q key) (hb:Below w.heap.size w w'):DKey w' p q key:=h.kept (ts:=[]) (C:=Bd.of 0) (KeptT.bel hb) (by simp)
set_option maxRecDepth 100000 in
set_option maxHeartbeats 4000000 in
theorem dflcl_any {key:Int} {bd:Nat} {fd:Nat × Nat} (h:DM w B q pw g F d) (hn:F.length≤9223372036854775807) (hon:d.O.length≤99000)
  (hd:w.heap[bd]?=some (.cells #[.pointer (some ⟨p,0,none⟩)] 22 fd)) (hk:DKey w p q key):
  Calls Tryz.prog 48 #[.pointer (some ⟨bd,0,none⟩)] w fun e w'=>e= .returned (.int .i64 (fOne g F key d).2.er)∧DM w' B q pw g F (fOne g F key d).1∧KeptT DAT B w w':=by
 have HCA:=Lib.hid (dflush_any key (DPm.below0 h (w':=w.drew) ((Below.refl _ _).drew)) hn hon)
 obtain ⟨C,hC⟩:∃ C:List Value→World→Prop,C=fun h W=>match h with
  | []=>W=w.drew
  | [v]=>v= .int .i64 (fOne g F key d).2.er∧DM W B q pw g F (fOne g F key d).1∧KeptT DAT B w W
  | _=>False:=⟨_,rfl⟩
 have hall:∀ t:HeldC C,KeptT DAT B w t.w:=fun t=>by
  obtain ⟨s,W,h⟩:=t
  simp only
  subst hC
  match s,h with
  | [],h=>have h':W=w.drew:=h; rw [h']; exact (KeptT.refl _ _ w).drew
  | [v],h=>exact h.2.2
 have HC0:Hid (C [] w.drew):=by subst hC; exact rfl
 have HK1:Hid (∀ W,C [] W→Calls Tryz.prog 49 #[.pointer (some ⟨q,0,none⟩),.int .u64 key] W fun e w'=>∃ x,e= .returned x∧C ([]++[x]) w'):=by
  subst hC
  intro W hW
  have hW':W=w.drew:=hW
  subst hW'
  exact HCA.out.mono fun e w' h=>⟨_,h.1,rfl,h.2.1,KeptT.trans (show KeptT DAT B w w.drew from Kept.drew (KeptT.refl _ _ w)) h.2.2⟩
 have HV1:Hid (∀ v W,C [v] W→v= .int .i64 (fOne g F key d).2.er):=by subst hC; exact fun _ _ h=>h.1
 have HF:Hid (∀ v W,C [v] W→DM W B q pw g F (fOne g F key d).1∧KeptT DAT B w W):=by subst hC; exact fun _ _ h=>h.2
 have hne:Nonempty (HeldC C):=⟨⟨[],_,HC0.out⟩⟩
 have f0:∀ t:HeldC C,t.w.cell? ⟨bd,0,none⟩=some (.pointer (some ⟨p,0,none⟩)):=fun t=>Kept.cell (hall t) (dcell_one hd) (KeptT.no (IsT.of hd) (by unfold DAT; decide))
 have f1:∀ t:HeldC C,t.w.cell? ⟨p,0,none⟩=some (.pointer (some ⟨q,0,none⟩)):=fun t=>(hk.kept (hall t) (by unfold DAT; decide)).cells.1
 have f2:∀ t:HeldC C,t.w.cell? ⟨p,1,none⟩=some (.int .u64 key):=fun t=>(hk.kept (hall t) (by unfold DAT; decide)).cells.2
 clear h hd hk
 generalize (fOne g F key d).2.er=E at *
 go_enter Tryz.func48,Tryz.ntmps48
 clear hC hall HCA
 go_wp2_with fail
 refine wp_region_chain C [8] [8] (by kernel_rfl) (by kernel_rfl) (by kernel_rfl) (by kernel_rfl) HC0.out ?_
 repeat (refine wpCh_n (by rfl) (by rfl) ?_; go_big_quiet_step (fail); refine wpQuiet_nil ?_)
 refine wpCh_l (f:=49) (args:=#[.pointer (some ⟨q,0,none⟩),.int .u64 key]) (by rfl) (by rfl) (fun W=>by simp [go_sem]) (fun W hW=>HK1.out W hW) (fun v W hW=>?_)
 obtain rfl:=HV1.out v W hW
 go_big_quiet_step (fail)
 refine wpQuiet_nil ?_
 repeat (refine wpCh_n (by rfl) (by rfl) ?_; go_big_quiet_step (fail); refine wpQuiet_nil ?_)
 refine wpCh_nil ?_
 intro wc hcw
 have HD:=Lib.hid (HF.out _ wc hcw)
 clear hcw HK1 HV1 HF HC0
 go_wp2
 go_ret
 exact ⟨rfl,HD.out⟩
set_option maxRecDepth 100000 in
set_option maxHeartbeats 4000000 in
theorem cflcl_any {key:Int} {bd:Nat} {fd:Nat × Nat} (h:DM w B q pw g F d) (hn:F.length≤9223372036854775807) (hon:d.O.length≤99000)
  (hd:w.heap[bd]?=some (.cells #[.pointer (some ⟨p,0,none⟩)] 22 fd)) (hk:DKey w p q key):
  Calls Tryz.prog 80 #[.pointer (some ⟨bd,0,none⟩)] w fun e w'=>e= .returned (.int .i64 (fOne g F key d).2.er)∧DM w' B q pw g F (fOne g F key d).1∧KeptT DAT B w w':=by
 have HCA:=Lib.hid (dflush_any key (DPm.below0 h (w':=w.drew) ((Below.refl _ _).drew)) hn hon)
 obtain ⟨C,hC⟩:∃ C:List Value→World→Prop,C=fun h W=>match h with
  | []=>W=w.drew
  | [v]=>v= .int .i64 (fOne g F key d).2.er∧DM W B q pw g F (fOne g F key d).1∧KeptT DAT B w W
  | _=>False:=⟨_,rfl⟩
 have hall:∀ t:HeldC C,KeptT DAT B w t.w:=fun t=>by
  obtain ⟨s,W,h⟩:=t
  simp only
  subst hC
  match s,h with
  | [],h=>have h':W=w.drew:=h; rw [h']; exact (KeptT.refl _ _ w).drew
  | [v],h=>exact h.2.2
 have HC0:Hid (C [] w.drew):=by subst hC; exact rfl
 have HK1:Hid (∀ W,C [] W→Calls Tryz.prog 49 #[.pointer (some ⟨q,0,none⟩),.int .u64 key] W fun e w'=>∃ x,e= .returned x∧C ([]++[x]) w'):=by
  subst hC
  intro W hW
  have hW':W=w.drew:=hW
  subst hW'
  exact HCA.out.mono fun e w' h=>⟨_,h.1,rfl,h.2.1,KeptT.trans (show KeptT DAT B w w.drew from Kept.drew (KeptT.refl _ _ w)) h.2.2⟩
 have HV1:Hid (∀ v W,C [v] W→v= .int .i64 (fOne g F key d).2.er):=by subst hC; exact fun _ _ h=>h.1
 have HF:Hid (∀ v W,C [v] W→DM W B q pw g F (fOne g F key d).1∧KeptT DAT B w W):=by subst hC; exact fun _ _ h=>h.2
 have hne:Nonempty (HeldC C):=⟨⟨[],_,HC0.out⟩⟩
 have f0:∀ t:HeldC C,t.w.cell? ⟨bd,0,none⟩=some (.pointer (some ⟨p,0,none⟩)):=fun t=>Kept.cell (hall t) (dcell_one hd) (KeptT.no (IsT.of hd) (by unfold DAT; decide))
 have f1:∀ t:HeldC C,t.w.cell? ⟨p,0,none⟩=some (.pointer (some ⟨q,0,none⟩)):=fun t=>(hk.kept (hall t) (by unfold DAT; decide)).cells.1
 have f2:∀ t:HeldC C,t.w.cell? ⟨p,1,none⟩=some (.int .u64 key):=fun t=>(hk.kept (hall t) (by unfold DAT; decide)).cells.2
 clear h hd hk
 generalize (fOne g F key d).2.er=E at *
 go_enter Tryz.func80,Tryz.ntmps80
 clear hC hall HCA
 go_wp2_with fail
 refine wp_region_chain C [8] [8] (by kernel_rfl) (by kernel_rfl) (by kernel_rfl) (by kernel_rfl) HC0.out ?_
 repeat (refine wpCh_n (by rfl) (by rfl) ?_; go_big_quiet_step (fail); refine wpQuiet_nil ?_)
 refine wpCh_l (f:=49) (args:=#[.pointer (some ⟨q,0,none⟩),.int .u64 key]) (by rfl) (by rfl) (fun W=>by simp [go_sem]) (fun W hW=>HK1.out W hW) (fun v W hW=>?_)
 obtain rfl:=HV1.out v W hW
 go_big_quiet_step (fail)
 refine wpQuiet_nil ?_
 repeat (refine wpCh_n (by rfl) (by rfl) ?_; go_big_quiet_step (fail); refine wpQuiet_nil ?_)
 refine wpCh_nil ?_
 intro wc hcw
 have HD:=Lib.hid (HF.out _ wc hcw)
 clear hcw HK1 HV1 HF HC0
 go_wp2
 go_ret
 exact ⟨rfl,HD.out⟩
set_option maxRecDepth 100000 in
set_option maxHeartbeats 4000000 in
theorem cercl_any {key k:Int} {bd bk:Nat} {fd fk:Nat × Nat} (ha:I64 k) (h:DM w B q pw g F d) (hn:F.length≤9223372036854775807) (hon:d.O.length≤99000)
  (hd:w.heap[bd]?=some (.cells #[.pointer (some ⟨p,0,none⟩)] 22 fd)) (hb:w.heap[bk]?=some (.cells #[.int .i64 k] 3 fk)) (hk:DKey w p q key):
  Calls Tryz.prog 81 #[.pointer (some ⟨bd,0,none⟩),.pointer (some ⟨bk,0,none⟩)] w fun e w'=>e= .returned (.int .i64 (eOne g F key k d).2.er)∧DM w' B q pw g F (eOne g F key k d).1∧KeptT DAT B w w':=by
 have HCA:=Lib.hid (derase_any key k ha (DPm.below0 h (w':=w.drew) ((Below.refl _ _).drew)) hn hon)
 obtain ⟨C,hC⟩:∃ C:List Value→World→Prop,C=fun h W=>match h with
  | []=>W=w.drew
  | [v]=>v= .int .i64 (eOne g F key k d).2.er∧DM W B q pw g F (eOne g F key k d).1∧KeptT DAT B w W
  | _=>False:=⟨_,rfl⟩
 have hall:∀ t:HeldC C,KeptT DAT B w t.w:=fun t=>by
  obtain ⟨s,W,h⟩:=t
  simp only
  subst hC
  match s,h with
  | [],h=>have h':W=w.drew:=h; rw [h']; exact (KeptT.refl _ _ w).drew
  | [v],h=>exact h.2.2
 have HC0:Hid (C [] w.drew):=by subst hC; exact rfl
 have HK1:Hid (∀ W,C [] W→Calls Tryz.prog 62 #[.pointer (some ⟨q,0,none⟩),.int .u64 key,.int .i64 k] W fun e w'=>∃ x,e= .returned x∧C ([]++[x]) w'):=by
  subst hC
  intro W hW
  have hW':W=w.drew:=hW
  subst hW'
  exact HCA.out.mono fun e w' h=>⟨_,h.1,rfl,h.2.1,KeptT.trans (show KeptT DAT B w w.drew from Kept.drew (KeptT.refl _ _ w)) h.2.2⟩
 have HV1:Hid (∀ v W,C [v] W→v= .int .i64 (eOne g F key k d).2.er):=by subst hC; exact fun _ _ h=>h.1
 have HF:Hid (∀ v W,C [v] W→DM W B q pw g F (eOne g F key k d).1∧KeptT DAT B w W):=by subst hC; exact fun _ _ h=>h.2
 have hne:Nonempty (HeldC C):=⟨⟨[],_,HC0.out⟩⟩
 have f0:∀ t:HeldC C,t.w.cell? ⟨bd,0,none⟩=some (.pointer (some ⟨p,0,none⟩)):=fun t=>Kept.cell (hall t) (dcell_one hd) (KeptT.no (IsT.of hd) (by unfold DAT; decide))
 have f1:∀ t:HeldC C,t.w.cell? ⟨p,0,none⟩=some (.pointer (some ⟨q,0,none⟩)):=fun t=>(hk.kept (hall t) (by unfold DAT; decide)).cells.1
 have f2:∀ t:HeldC C,t.w.cell? ⟨p,1,none⟩=some (.int .u64 key):=fun t=>(hk.kept (hall t) (by unfold DAT; decide)).cells.2
 have f3:∀ t:HeldC C,t.w.cell? ⟨bk,0,none⟩=some (.int .i64 k):=fun t=>Kept.cell (hall t) (dcell_one hb) (KeptT.no (IsT.of hb) (by unfold DAT; decide))
 clear h hd hk hb ha
 generalize (eOne g F key k d).2.er=E at *
 go_enter Tryz.func81,Tryz.ntmps81
 clear hC hall HCA
 go_wp2_with fail
 refine wp_region_chain C [9] [9] (by kernel_rfl) (by kernel_rfl) (by kernel_rfl) (by kernel_rfl) HC0.out ?_
 repeat (refine wpCh_n (by rfl) (by rfl) ?_; go_big_quiet_step (fail); refine wpQuiet_nil ?_)
 refine wpCh_l (f:=62) (args:=#[.pointer (some ⟨q,0,none⟩),.int .u64 key,.int .i64 k]) (by rfl) (by rfl) (fun W=>by simp [go_sem]) (fun W hW=>HK1.out W hW) (fun v W hW=>?_)
 obtain rfl:=HV1.out v W hW
 go_big_quiet_step (fail)
 refine wpQuiet_nil ?_
 repeat (refine wpCh_n (by rfl) (by rfl) ?_; go_big_quiet_step (fail); refine wpQuiet_nil ?_)
 refine wpCh_nil ?_
 intro wc hcw
 have HD:=Lib.hid (HF.out _ wc hcw)
 clear hcw HK1 HV1 HF HC0
 go_wp2
 go_ret
 exact ⟨rfl,HD.out⟩
set_option maxRecDepth 100000 in
set_option maxHeartbeats 4000000 in
theorem awrcl_any {key a:Int} {xs:List Int} {A:Option Addr} {c bd ba bb:Nat} {fd fa fb:Nat × Nat} (h:DM w B q pw g F d) (hF:∀ f∈F,I64 f.to_) (hn:F.length≤9223372036854775807) (hon:d.O.length≤99000) (hai:I64 a)
  (hr:∀ W,KeptT DAT B w W→Rd W W.heap.size A (xs.map (Value.int .u8))) (hx:xs.length≤100000) (hc:xs.length≤c)
  (hd:w.heap[bd]?=some (.cells #[.pointer (some ⟨p,0,none⟩)] 22 fd)) (ha:w.heap[ba]?=some (.cells #[.int .i64 a] 3 fa)) (hb:w.heap[bb]?=some (.cells #[.slice A xs.length c] 65 fb)) (hk:DKey w p q key):
  Calls Tryz.prog 111 #[.pointer (some ⟨bd,0,none⟩),.pointer (some ⟨ba,0,none⟩),.pointer (some ⟨bb,0,none⟩)] w fun e w'=>e= .returned (.int .i64 (wOne g F key a xs d).2.er)∧DM w' B q pw g F (wOne g F key a xs d).1∧KeptT DAT B w w':=by
 have HCA:=Lib.hid (dwrite_any key a xs false A c (DPm.below0 h (w':=w.drew) ((Below.refl _ _).drew)) hn hon hai (begD_to d.s d.P key hF) (fun W hW=>hr W (KeptT.trans (show KeptT DAT B w w.drew from Kept.drew (KeptT.refl _ _ w)) (hW.sub dpt_dat))) hx hc)
 obtain ⟨C,hC⟩:∃ C:List Value→World→Prop,C=fun h W=>match h with
  | []=>W=w.drew
  | [v]=>v= .int .i64 (wOne g F key a xs d).2.er∧DM W B q pw g F (wOne g F key a xs d).1∧KeptT DAT B w W
  | _=>False:=⟨_,rfl⟩
 have hall:∀ t:HeldC C,KeptT DAT B w t.w:=fun t=>by
  obtain ⟨s,W,h⟩:=t
  simp only
  subst hC
  match s,h with
  | [],h=>have h':W=w.drew:=h; rw [h']; exact (KeptT.refl _ _ w).drew
  | [v],h=>exact h.2.2
 have HC0:Hid (C [] w.drew):=by subst hC; exact rfl
 have HK1:Hid (∀ W,C [] W→Calls Tryz.prog 112 #[.pointer (some ⟨q,0,none⟩),.int .u64 key,.int .i64 a,.slice A xs.length c,.bool false] W fun e w'=>∃ x,e= .returned x∧C ([]++[x]) w'):=by
  subst hC
  intro W hW
  have hW':W=w.drew:=hW
  subst hW'
  exact HCA.out.mono fun e w' h=>⟨_,h.1,rfl,h.2.1,KeptT.trans (show KeptT DAT B w w.drew from Kept.drew (KeptT.refl _ _ w)) h.2.2⟩
 have HV1:Hid (∀ v W,C [v] W→v= .int .i64 (wOne g F key a xs d).2.er):=by subst hC; exact fun _ _ h=>h.1
 have HF:Hid (∀ v W,C [v] W→DM W B q pw g F (wOne g F key a xs d).1∧KeptT DAT B w W):=by subst hC; exact fun _ _ h=>h.2
 have hne:Nonempty (HeldC C):=⟨⟨[],_,HC0.out⟩⟩
 have f0:∀ t:HeldC C,t.w.cell? ⟨bd,0,none⟩=some (.pointer (some ⟨p,0,none⟩)):=fun t=>Kept.cell (hall t) (dcell_one hd) (KeptT.no (IsT.of hd) (by unfold DAT; decide))
 have f1:∀ t:HeldC C,t.w.cell? ⟨p,0,none⟩=some (.pointer (some ⟨q,0,none⟩)):=fun t=>(hk.kept (hall t) (by unfold DAT; decide)).cells.1
 have f2:∀ t:HeldC C,t.w.cell? ⟨p,1,none⟩=some (.int .u64 key):=fun t=>(hk.kept (hall t) (by unfold DAT; decide)).cells.2
 have f3:∀ t:HeldC C,t.w.cell? ⟨ba,0,none⟩=some (.int .i64 a):=fun t=>Kept.cell (hall t) (dcell_one ha) (KeptT.no (IsT.of ha) (by unfold DAT; decide))
 have f4:∀ t:HeldC C,t.w.cell? ⟨bb,0,none⟩=some (.slice A xs.length c):=fun t=>Kept.cell (hall t) (dcell_one hb) (KeptT.no (IsT.of hb) (by unfold DAT; decide))
 clear h hd hk hb ha hai hr hF
 generalize (wOne g F key a xs d).2.er=E at *
 go_enter Tryz.func111,Tryz.ntmps111
 clear hC hall HCA
 go_wp2_with fail
 refine wp_region_chain C [10] [10] (by kernel_rfl) (by kernel_rfl) (by kernel_rfl) (by kernel_rfl) HC0.out ?_
 repeat (refine wpCh_n (by rfl) (by rfl) ?_; go_big_quiet_step (fail); refine wpQuiet_nil ?_)
 refine wpCh_l (f:=112) (args:=#[.pointer (some ⟨q,0,none⟩),.int .u64 key,.int .i64 a,.slice A xs.length c,.bool false]) (by rfl) (by rfl) (fun W=>by simp [go_sem]) (fun W hW=>HK1.out W hW) (fun v W hW=>?_)
 obtain rfl:=HV1.out v W hW
 go_big_quiet_step (fail)
 refine wpQuiet_nil ?_
 repeat (refine wpCh_n (by rfl) (by rfl) ?_; go_big_quiet_step (fail); refine wpQuiet_nil ?_)
 refine wpCh_nil ?_
 intro wc hcw
 have HD:=Lib.hid (HF.out _ wc hcw)
 clear hcw HK1 HV1 HF HC0
 go_wp2
 go_ret
 exact ⟨rfl,HD.out⟩
set_option maxRecDepth 100000 in
set_option maxHeartbeats 4000000 in
theorem nercl_any {key k:Int} {bd bk bi:Nat} {fd fk fi:Nat × Nat} (ha:I64 k) (h:DM w B q pw g F d) (hn:F.length≤9223372036854775807) (hon:d.O.length≤99000)
  (hd:w.heap[bd]?=some (.cells #[.pointer (some ⟨q,0,none⟩)] 54 fd)) (hk:w.heap[bk]?=some (.cells #[.int .u64 key] 23 fk)) (hi:w.heap[bi]?=some (.cells #[.int .i64 k] 3 fi)):
  Calls Tryz.prog 61 #[.pointer (some ⟨bd,0,none⟩),.pointer (some ⟨bk,0,none⟩),.pointer (some ⟨bi,0,none⟩)] w fun e w'=>e= .returned (.int .i64 (eOne g F key k d).2.er)∧DM w' B q pw g F (eOne g F key k d).1∧KeptT DAT B w w':=by
 have c0:=dcell_one hd
 have c1:=dcell_one hk
 have c2:=dcell_one hi
 have HC:=Lib.hid (derase_any key k ha h hn hon)
 clear hd hk hi h ha
 go_enter Tryz.func61,Tryz.ntmps61
 go_wp2_with fail
 refine HC.out.mono ?_
 rintro e w1 ⟨rfl,hd1,hk1⟩
 have HD:=Lib.hid (And.intro hd1 hk1)
 clear hd1 hk1 HC
 go_wp2
 go_ret
 exact ⟨rfl,HD.out⟩
set_option maxRecDepth 100000 in
set_option maxHeartbeats 4000000 in
theorem nflcl_any {key:Int} {bd bk:Nat} {fd fk:Nat × Nat} (h:DM w B q pw g F d) (hn:F.length≤9223372036854775807) (hon:d.O.length≤99000)
  (hd:w.heap[bd]?=some (.cells #[.pointer (some ⟨q,0,none⟩)] 54 fd)) (hk:w.heap[bk]?=some (.cells #[.int .u64 key] 23 fk)):
  Calls Tryz.prog 63 #[.pointer (some ⟨bd,0,none⟩),.pointer (some ⟨bk,0,none⟩)] w fun e w'=>e= .returned (.int .i64 (fOne g F key d).2.er)∧DM w' B q pw g F (fOne g F key d).1∧KeptT DAT B w w':=by
 have c0:=dcell_one hd
 have c1:=dcell_one hk
 have HC:=Lib.hid (dflush_any key h hn hon)
 clear hd hk h
 go_enter Tryz.func63,Tryz.ntmps63
 go_wp2_with fail
 refine HC.out.mono ?_
 rintro e w1 ⟨rfl,hd1,hk1⟩
 have HD:=Lib.hid (And.intro hd1 hk1)
 clear hd1 hk1 HC
 go_wp2
 go_ret
 exact ⟨rfl,HD.out⟩
theorem tryner_any {key k:Int} {bd bk bi:Nat} {fd fk fi:Nat × Nat} (ha:I64 k) (h:DM w B q pw g F d) (hn:F.length≤9223372036854775807) (hon:d.O.length+9≤99000)
  (hd:w.heap[bd]?=some (.cells #[.pointer (some ⟨q,0,none⟩)] 54 fd)) (hk:w.heap[bk]?=some (.cells #[.int .u64 key] 23 fk)) (hi:w.heap[bi]?=some (.cells #[.int .i64 k] 3 fi)):
  Calls Tryz.prog 47 #[.func (.func 61) #[] #[.pointer (some ⟨bd,0,none⟩),.pointer (some ⟨bk,0,none⟩),.pointer (some ⟨bi,0,none⟩)]] w fun e w'=>e= .returned (.int .i64 (tryD (eOne g F key k) d).2.er)∧DM w' B q pw g F (tryD (eOne g F key k) d).1∧KeptT DAT B w w':=by
 refine (rterase_any bd bk bi (fun n W=>DM W B q pw g F (callN (eOne g F key k) d n)∧KeptT DAT B w W) (fun n=>(ansN (eOne g F key k) d n).er) ⟨h,KeptT.refl _ _ w⟩ ?_).mono ?_
 ·intro n W hn8 ⟨hW,hkW⟩
  have hl:=callN_len (eOne_len g F key k) d n
  refine (nercl_any ha hW hn (by omega) (Kept.obj hkW hd (KeptT.no (IsT.of hd) (by unfold DAT; decide))) (Kept.obj hkW hk (KeptT.no (IsT.of hk) (by unfold DAT; decide))) (Kept.obj hkW hi (KeptT.no (IsT.of hi) (by unfold DAT; decide)))).mono ?_
  rintro e w' ⟨rfl,hd',hk'⟩
  exact ⟨rfl,hd',hkW.trans hk'⟩
 ·rintro e w' ⟨k,rfl,⟨hd',hk'⟩,hb,hlast⟩
  rw [try_stop hb hlast]
  exact ⟨rfl,hd',hk'⟩
theorem trynfl_any {key:Int} {bd bk:Nat} {fd fk:Nat × Nat} (h:DM w B q pw g F d) (hn:F.length≤9223372036854775807) (hon:d.O.length+9≤99000)
  (hd:w.heap[bd]?=some (.cells #[.pointer (some ⟨q,0,none⟩)] 54 fd)) (hk:w.heap[bk]?=some (.cells #[.int .u64 key] 23 fk)):
  Calls Tryz.prog 47 #[.func (.func 63) #[] #[.pointer (some ⟨bd,0,none⟩),.pointer (some ⟨bk,0,none⟩)]] w fun e w'=>e= .returned (.int .i64 (tryD (fOne g F key) d).2.er)∧DM w' B q pw g F (tryD (fOne g F key) d).1∧KeptT DAT B w w':=by
 refine (rtflush_any bd bk (fun n W=>DM W B q pw g F (callN (fOne g F key) d n)∧KeptT DAT B w W) (fun n=>(ansN (fOne g F key) d n).er) ⟨h,KeptT.refl _ _ w⟩ ?_).mono ?_
 ·intro n W hn8 ⟨hW,hkW⟩
  have hl:=callN_len (fOne_len g F key) d n
  refine (nflcl_any hW hn (by omega) (Kept.obj hkW hd (KeptT.no (IsT.of hd) (by unfold DAT; decide))) (Kept.obj hkW hk (KeptT.no (IsT.of hk) (by unfold DAT; decide)))).mono ?_
  rintro e w' ⟨rfl,hd',hk'⟩
  exact ⟨rfl,hd',hkW.trans hk'⟩
 ·rintro e w' ⟨k,rfl,⟨hd',hk'⟩,hb,hlast⟩
  rw [try_stop hb hlast]
  exact ⟨rfl,hd',hk'⟩
theorem trywr20_any {key a:Int} {xs:List Int} {A:Option Addr} {c bd ba bb:Nat} {fd fa fb:Nat × Nat} (h:DM w B q pw g F d) (hF:∀ f∈F,I64 f.to_) (hn:F.length≤9223372036854775807) (hon:d.O.length+9≤99000) (hai:I64 a)
  (hr:∀ W,KeptT DAT B w W→Rd W W.heap.size A (xs.map (Value.int .u8))) (hx:xs.length≤100000) (hc:xs.length≤c)
  (hd:w.heap[bd]?=some (.cells #[.pointer (some ⟨p,0,none⟩)] 22 fd)) (ha:w.heap[ba]?=some (.cells #[.int .i64 a] 3 fa)) (hb:w.heap[bb]?=some (.cells #[.slice A xs.length c] 65 fb)) (hk:DKey w p q key):
  Calls Tryz.prog 47 #[.func (.func 111) #[] #[.pointer (some ⟨bd,0,none⟩),.pointer (some ⟨ba,0,none⟩),.pointer (some ⟨bb,0,none⟩)]] w fun e w'=>e= .returned (.int .i64 (tryD (wOne g F key a xs) d).2.er)∧DM w' B q pw g F (tryD (wOne g F key a xs) d).1∧KeptT DAT B w w':=by
 refine (rtwrite_any bd ba bb (fun n W=>DM W B q pw g F (callN (wOne g F key a xs) d n)∧KeptT DAT B w W) (fun n=>(ansN (wOne g F key a xs) d n).er) ⟨h,KeptT.refl _ _ w⟩ ?_).mono ?_
 ·intro n W hn8 ⟨hW,hkW⟩
  have hl:=callN_len (wOne_len g F key a xs) d n
  refine (awrcl_any hW hF hn (by omega) hai (fun W' hW'=>hr W' (hkW.trans hW')) hx hc (Kept.obj hkW hd (KeptT.no (IsT.of hd) (by unfold DAT; decide))) (Kept.obj hkW ha (KeptT.no (IsT.of ha) (by unfold DAT; decide)))
   (Kept.obj hkW hb (KeptT.no (IsT.of hb) (by unfold DAT; decide))) (hk.kept hkW (by unfold DAT; decide))).mono ?_
  rintro e w' ⟨rfl,hd',hk'⟩
  exact ⟨rfl,hd',hkW.trans hk'⟩
 ·rintro e w' ⟨k,rfl,⟨hd',hk'⟩,hb,hlast⟩
  rw [try_stop hb hlast]
  exact ⟨rfl,hd',hk'⟩
theorem trydfl_any {key:Int} {bd:Nat} {fd:Nat × Nat} (h:DM w B q pw g F d) (hn:F.length≤9223372036854775807) (hon:d.O.length+9≤99000)
  (hd:w.heap[bd]?=some (.cells #[.pointer (some ⟨p,0,none⟩)] 22 fd)) (hk:DKey w p q key):
  Calls Tryz.prog 47 #[.func (.func 48) #[] #[.pointer (some ⟨bd,0,none⟩)]] w fun e w'=>e= .returned (.int .i64 (tryD (fOne g F key) d).2.er)∧DM w' B q pw g F (tryD (fOne g F key) d).1∧KeptT DAT B w w':=by
 refine (rtdflush_any bd (fun n W=>DM W B q pw g F (callN (fOne g F key) d n)∧KeptT DAT B w W) (fun n=>(ansN (fOne g F key) d n).er) ⟨h,KeptT.refl _ _ w⟩ ?_).mono ?_
 ·intro n W hn8 ⟨hW,hkW⟩
  have hl:=callN_len (fOne_len g F key) d n
  refine (dflcl_any hW hn (by omega) (Kept.obj hkW hd (KeptT.no (IsT.of hd) (by unfold DAT; decide))) (hk.kept hkW (by unfold DAT; decide))).mono ?_
  rintro e w' ⟨rfl,hd',hk'⟩
  exact ⟨rfl,hd',hkW.trans hk'⟩
 ·rintro e w' ⟨k,rfl,⟨hd',hk'⟩,hb,hlast⟩
  rw [try_stop hb hlast]
  exact ⟨rfl,hd',hk'⟩
theorem trycfl_any {key:Int} {bd:Nat} {fd:Nat × Nat} (h:DM w B q pw g F d) (hn:F.length≤9223372036854775807) (hon:d.O.length+9≤99000)
  (hd:w.heap[bd]?=some (.cells #[.pointer (some ⟨p,0,none⟩)] 22 fd)) (hk:DKey w p q key):
  Calls Tryz.prog 47 #[.func (.func 80) #[] #[.pointer (some ⟨bd,0,none⟩)]] w fun e w'=>e= .returned (.int .i64 (tryD (fOne g F key) d).2.er)∧DM w' B q pw g F (tryD (fOne g F key) d).1∧KeptT DAT B w w':=by
 refine (rtcflush_any bd (fun n W=>DM W B q pw g F (callN (fOne g F key) d n)∧KeptT DAT B w W) (fun n=>(ansN (fOne g F key) d n).er) ⟨h,KeptT.refl _ _ w⟩ ?_).mono ?_
 ·intro n W hn8 ⟨hW,hkW⟩
  have hl:=callN_len (fOne_len g F key) d n
  refine (cflcl_any hW hn (by omega) (Kept.obj hkW hd (KeptT.no (IsT.of hd) (by unfold DAT; decide))) (hk.kept hkW (by unfold DAT; decide))).mono ?_
  rintro e w' ⟨rfl,hd',hk'⟩
  exact ⟨rfl,hd',hkW.trans hk'⟩
 ·rintro e w' ⟨k,rfl,⟨hd',hk'⟩,hb,hlast⟩
  rw [try_stop hb hlast]
  exact ⟨rfl,hd',hk'⟩
theorem trycer_any {key k:Int} {bd bk:Nat} {fd fk:Nat × Nat} (ha:I64 k) (h:DM w B q pw g F d) (hn:F.length≤9223372036854775807) (hon:d.O.length+9≤99000)
  (hd:w.heap[bd]?=some (.cells #[.pointer (some ⟨p,0,none⟩)] 22 fd)) (hb:w.heap[bk]?=some (.cells #[.int .i64 k] 3 fk)) (hk:DKey w p q key):
  Calls Tryz.prog 47 #[.func (.func 81) #[] #[.pointer (some ⟨bd,0,none⟩),.pointer (some ⟨bk,0,none⟩)]] w fun e w'=>e= .returned (.int .i64 (tryD (eOne g F key k) d).2.er)∧DM w' B q pw g F (tryD (eOne g F key k) d).1∧KeptT DAT B w w':=by
 refine (rtcerase_any bd bk (fun n W=>DM W B q pw g F (callN (eOne g F key k) d n)∧KeptT DAT B w W) (fun n=>(ansN (eOne g F key k) d n).er) ⟨h,KeptT.refl _ _ w⟩ ?_).mono ?_
 ·intro n W hn8 ⟨hW,hkW⟩
  have hl:=callN_len (eOne_len g F key k) d n
  refine (cercl_any ha hW hn (by omega) (Kept.obj hkW hd (KeptT.no (IsT.of hd) (by unfold DAT; decide))) (Kept.obj hkW hb (KeptT.no (IsT.of hb) (by unfold DAT; decide))) (hk.kept hkW (by unfold DAT; decide))).mono ?_
  rintro e w' ⟨rfl,hd',hk'⟩
  exact ⟨rfl,hd',hkW.trans hk'⟩
 ·rintro e w' ⟨k,rfl,⟨hd',hk'⟩,hb,hlast⟩
  rw [try_stop hb hlast]
  exact ⟨rfl,hd',hk'⟩
end
end Go.Proofs.YtggkengmlkhdiaaGreat

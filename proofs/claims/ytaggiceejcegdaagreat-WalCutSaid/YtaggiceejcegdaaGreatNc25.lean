/-
  WHAT IS SHOWN: what Valid of tegularef13 returns. Conditions: the faults can be read.
-/
import Derived.Test.YtaggiceejcegdaaGreatNc18
namespace Go.Proofs.YtaggiceejcegdaaGreat
set_option linter.unusedVariables false
open Go.RowKit
theorem last_ge (l : List Flt) : ∀ k,k ≤ l.length → (∀ j (hj : j < l.length),j < k → okF (lastF l j) l[j] = true) → -1 ≤ lastF l k
 | 0,_,_=>by unfold lastF; simp
 | k + 1,hk,h=>by
   have h0:=last_ge l k (by omega) (fun j hj hjk=>h j hj (by omega))
   have h1:=h k (by omega) (by omega)
   rw [lastF_succ l k (by omega)]
   unfold okF at h1
   simp at h1
   omega
set_option maxRecDepth 100000 in
set_option maxHeartbeats 8000000 in
theorem rfvalid_any (l : List Flt) (A : Option Addr) (c : Nat) (w : World) (hl : Rd w w.heap.size A (flatF l)) (hn : l.length ≤ 9223372036854775807) :
  Calls Tryz.prog 53 #[.slice A l.length c] w fun e w'=>e = .returned (.bool (validF l)) ∧ Below w.heap.size w w':=by
 have HR:=Lib.hid hl
 clear hl
 go_enter Tryz.func53,Tryz.ntmps53
 go_wp2
 go_loopw [3] (fun s3 wr=>∃ k : Nat,k ≤ l.length ∧ s3 = .int .i64 k ∧ Below w.heap.size w wr ∧ Hid (∀ j (hj : j < l.length),j < k → okF (lastF l j) l[j] = true)) (fun v _=>l.length - (intOf v).toNat)
 case atStart=>exact ⟨0,Nat.zero_le _,rfl,Below.refl _ _,by unfold Hid; intro j _ h; omega⟩
 case round=>
  obtain ⟨k,hk,rfl,hbr,HA⟩:=hrel
  by_cases hlt : k < l.length
  ·obtain ⟨go,oo,rfl,hgo,c0,c1,c2⟩:=flt_at (HR.out.below hbr (Nat.le_refl _)) hlt
   have HN : Hid (okF (lastF l k) l[k] = false → validF l = false):=validF_not hlt
   have HY : Hid (okF (lastF l k) l[k] = true → ∀ j (hj : j < l.length),j < k + 1 → okF (lastF l j) l[j] = true):=by
    unfold Hid; intro h j hj hj2
    by_cases e : j = k
    ·subst e; exact h
    ·exact HA.out j hj (by omega)
   have hbn : ∀ o n,Below w.heap.size w ((wr.alloc o).drewN n):=fun o n=>(hbr.alloc hbr.size o).trans (((Kept.refl (fun _=>False) (wr.alloc o)).drewN n).below0.mono (Nat.le_trans hbr.size (by simp)))
   have HBN:=Lib.hid hbn
   have hgw : go < wr.heap.size:=Nat.lt_of_lt_of_le hgo hbr.size
   have k0 : (0 : Int) ≤ k:=by omega
   have k1 : (k : Int) < l.length:=by omega
   clear hbn
   have hlg:=last_ge l k hk HA.out
   cases k with
   | zero=>
     have hla : lastF l 0 = -1:=rfl
     rw [hla] at HN HY
     simp only [Nat.zero_mul,Nat.add_zero] at c0 c1 c2
     generalize l[0] = f at *
     have n0 : (wr.alloc (.cells #[.int .i64 f.at_,.int .i64 f.kind,.int .i64 f.to_] 138)).cell? ⟨wr.heap.size,0,none⟩ = some (.int .i64 f.at_):=cell_new _ _ _ _ _ _ rfl rfl
     have n1 : (wr.alloc (.cells #[.int .i64 f.at_,.int .i64 f.kind,.int .i64 f.to_] 138)).cell? ⟨wr.heap.size,1,none⟩ = some (.int .i64 f.kind):=cell_new _ _ _ _ _ _ rfl rfl
     have n2 : (wr.alloc (.cells #[.int .i64 f.at_,.int .i64 f.kind,.int .i64 f.to_] 138)).cell? ⟨wr.heap.size,2,none⟩ = some (.int .i64 f.to_):=cell_new _ _ _ _ _ _ rfl rfl
     clear hla hlg
     by_cases h1 : f.at_ < 0
     ·have HF:=Lib.hid (HN.out (by unfold okF; simp; omega))
      have d1 : decide (f.at_ < 0) = true:=decide_eq_true h1
      clear h1
      go_wp2
      go_quiet (fail)
      go_wp2
      go_ret
      exact ⟨by rw [HF.out]; rfl,HBN.out _ _⟩
     have d1 : decide (f.at_ < 0) = false:=decide_eq_false h1
     have h1' : ¬ (f.at_ ≤ -1):=by omega
     have HO : Hid (okF (-1) f = (!decide (f.kind < 1) && (!decide (7 < f.kind) && (!decide (f.to_ < 0) && (decide (f.to_ = 0) || (decide (f.kind = 3) || decide (f.kind = 5))))))):=by unfold Hid okF; rw [decide_eq_false h1']; rfl
     clear h1 h1'
     by_cases h3 : f.kind < 1
     ·have d3 : decide (f.kind < 1) = true:=decide_eq_true h3
      have HF:=Lib.hid (HN.out (by rw [HO.out,d3]; rfl))
      clear h3
      go_wp2
      go_quiet (fail)
      go_wp2
      go_ret
      exact ⟨by rw [HF.out]; rfl,HBN.out _ _⟩
     have d3 : decide (f.kind < 1) = false:=decide_eq_false h3
     by_cases h4 : 7 < f.kind
     ·have d4 : decide (7 < f.kind) = true:=decide_eq_true h4
      have HF:=Lib.hid (HN.out (by rw [HO.out,d3,d4]; rfl))
      clear h3 h4
      go_wp2
      go_quiet (fail)
      go_wp2
      go_ret
      exact ⟨by rw [HF.out]; rfl,HBN.out _ _⟩
     have d4 : decide (7 < f.kind) = false:=decide_eq_false h4
     by_cases h5 : f.to_ < 0
     ·have d5 : decide (f.to_ < 0) = true:=decide_eq_true h5
      have HF:=Lib.hid (HN.out (by rw [HO.out,d3,d4,d5]; rfl))
      clear h3 h4 h5
      go_wp2
      go_quiet (fail)
      go_wp2
      go_ret
      exact ⟨by rw [HF.out]; rfl,HBN.out _ _⟩
     have d5 : decide (f.to_ < 0) = false:=decide_eq_false h5
     by_cases h6 : f.to_ = 0
     ·have HF:=Lib.hid (HY.out (by rw [HO.out,d3,d4,d5,decide_eq_true h6]; rfl))
      have e6 : (f.to_ != 0) = false:=by simpa using h6
      clear h3 h4 h5 h6
      go_wp2
      go_quiet (fail)
      go_wp2
      go_roundw
      case rel=>exact ⟨1,by omega,by go_num,HBN.out _ _,HF.out⟩
      case measure=>simp [intOf]; omega
     have e6 : (f.to_ != 0) = true:=by simpa using h6
     by_cases h7 : f.kind = 3
     ·have HF:=Lib.hid (HY.out (by rw [HO.out,d3,d4,d5,decide_eq_true h7]; simp))
      have e7 : (f.kind != 3) = false:=by simpa using h7
      clear h3 h4 h5 h6 h7
      go_wp2
      go_quiet (fail)
      go_wp2
      go_roundw
      case rel=>exact ⟨1,by omega,by go_num,HBN.out _ _,HF.out⟩
      case measure=>simp [intOf]; omega
     have e7 : (f.kind != 3) = true:=by simpa using h7
     by_cases h8 : f.kind = 5
     ·have HF:=Lib.hid (HY.out (by rw [HO.out,d3,d4,d5,decide_eq_true h8]; simp))
      have e8 : (f.kind != 5) = false:=by simpa using h8
      clear h3 h4 h5 h6 h7 h8
      go_wp2
      go_quiet (fail)
      go_wp2
      go_roundw
      case rel=>exact ⟨1,by omega,by go_num,HBN.out _ _,HF.out⟩
      case measure=>simp [intOf]; omega
     have e8 : (f.kind != 5) = true:=by simpa using h8
     have HF:=Lib.hid (HN.out (by rw [HO.out,d3,d4,d5,decide_eq_false h6,decide_eq_false h7,decide_eq_false h8]; rfl))
     clear h3 h4 h5 h6 h7 h8
     go_wp2
     go_quiet (fail)
     go_wp2
     go_ret
     exact ⟨by rw [HF.out]; rfl,HBN.out _ _⟩
   | succ m=>
     have hml : m < l.length:=by omega
     obtain ⟨go',oo',e',_,b0,_,_⟩:=flt_at (HR.out.below hbr (Nat.le_refl _)) hml
     injection e' with e'; injection e' with e1' e2'; subst e1'; subst e2'
     rw [lastF_succ l m hml] at HN HY hlg
     generalize l[m + 1] = f at *
     generalize l[m].at_ = prev at *
     have n0 : (wr.alloc (.cells #[.int .i64 f.at_,.int .i64 f.kind,.int .i64 f.to_] 138)).cell? ⟨wr.heap.size,0,none⟩ = some (.int .i64 f.at_):=cell_new _ _ _ _ _ _ rfl rfl
     have n1 : (wr.alloc (.cells #[.int .i64 f.at_,.int .i64 f.kind,.int .i64 f.to_] 138)).cell? ⟨wr.heap.size,1,none⟩ = some (.int .i64 f.kind):=cell_new _ _ _ _ _ _ rfl rfl
     have n2 : (wr.alloc (.cells #[.int .i64 f.at_,.int .i64 f.kind,.int .i64 f.to_] 138)).cell? ⟨wr.heap.size,2,none⟩ = some (.int .i64 f.to_):=cell_new _ _ _ _ _ _ rfl rfl
     have b0' : (wr.alloc (.cells #[.int .i64 f.at_,.int .i64 f.kind,.int .i64 f.to_] 138)).cell? ⟨go,oo + m * 3,none⟩ = some (.int .i64 prev):=(World.cell?_alloc_lt _ _ ⟨go,oo + m * 3,none⟩ hgw).trans b0
     have m0 : (0 : Int) ≤ m:=by omega
     have m1 : (m : Int) < l.length:=by omega
     have mp : decide ((0 : Int) < (m : Int) + 1) = true:=decide_eq_true (by omega)
     by_cases h1 : f.at_ < 0
     ·have HF:=Lib.hid (HN.out (by unfold okF; simp; omega))
      have d1 : decide (f.at_ < 0) = true:=decide_eq_true h1
      clear h1
      go_wp2
      go_quiet (fail)
      go_wp2
      go_ret
      exact ⟨by rw [HF.out]; rfl,HBN.out _ _⟩
     have d1 : decide (f.at_ < 0) = false:=decide_eq_false h1
     by_cases h2 : f.at_ ≤ prev
     ·have HF:=Lib.hid (HN.out (by unfold okF; simp [h2]))
      have d2 : decide (f.at_ ≤ prev) = true:=decide_eq_true h2
      clear h1 h2
      go_wp2
      go_quiet (fail)
      go_wp2
      go_ret
      exact ⟨by rw [HF.out]; rfl,HBN.out _ _⟩
     have d2 : decide (f.at_ ≤ prev) = false:=decide_eq_false h2
     have HO : Hid (okF prev f = (!decide (f.kind < 1) && (!decide (7 < f.kind) && (!decide (f.to_ < 0) && (decide (f.to_ = 0) || (decide (f.kind = 3) || decide (f.kind = 5))))))):=by unfold Hid okF; rw [decide_eq_false h2]; rfl
     clear h1 h2 hlg
     by_cases h3 : f.kind < 1
     ·have d3 : decide (f.kind < 1) = true:=decide_eq_true h3
      have HF:=Lib.hid (HN.out (by rw [HO.out,d3]; rfl))
      clear h3
      go_wp2
      go_quiet (fail)
      go_wp2
      go_ret
      exact ⟨by rw [HF.out]; rfl,HBN.out _ _⟩
     have d3 : decide (f.kind < 1) = false:=decide_eq_false h3
     by_cases h4 : 7 < f.kind
     ·have d4 : decide (7 < f.kind) = true:=decide_eq_true h4
      have HF:=Lib.hid (HN.out (by rw [HO.out,d3,d4]; rfl))
      clear h3 h4
      go_wp2
      go_quiet (fail)
      go_wp2
      go_ret
      exact ⟨by rw [HF.out]; rfl,HBN.out _ _⟩
     have d4 : decide (7 < f.kind) = false:=decide_eq_false h4
     by_cases h5 : f.to_ < 0
     ·have d5 : decide (f.to_ < 0) = true:=decide_eq_true h5
      have HF:=Lib.hid (HN.out (by rw [HO.out,d3,d4,d5]; rfl))
      clear h3 h4 h5
      go_wp2
      go_quiet (fail)
      go_wp2
      go_ret
      exact ⟨by rw [HF.out]; rfl,HBN.out _ _⟩
     have d5 : decide (f.to_ < 0) = false:=decide_eq_false h5
     by_cases h6 : f.to_ = 0
     ·have HF:=Lib.hid (HY.out (by rw [HO.out,d3,d4,d5,decide_eq_true h6]; rfl))
      have e6 : (f.to_ != 0) = false:=by simpa using h6
      clear h3 h4 h5 h6
      go_wp2
      go_quiet (fail)
      go_wp2
      go_roundw
      case rel=>exact ⟨(m + 1 + 1),by omega,by go_num,HBN.out _ _,HF.out⟩
      case measure=>simp [intOf]; omega
     have e6 : (f.to_ != 0) = true:=by simpa using h6
     by_cases h7 : f.kind = 3
     ·have HF:=Lib.hid (HY.out (by rw [HO.out,d3,d4,d5,decide_eq_true h7]; simp))
      have e7 : (f.kind != 3) = false:=by simpa using h7
      clear h3 h4 h5 h6 h7
      go_wp2
      go_quiet (fail)
      go_wp2
      go_roundw
      case rel=>exact ⟨(m + 1 + 1),by omega,by go_num,HBN.out _ _,HF.out⟩
      case measure=>simp [intOf]; omega
     have e7 : (f.kind != 3) = true:=by simpa using h7
     by_cases h8 : f.kind = 5
     ·have HF:=Lib.hid (HY.out (by rw [HO.out,d3,d4,d5,decide_eq_true h8]; simp))
      have e8 : (f.kind != 5) = false:=by simpa using h8
      clear h3 h4 h5 h6 h7 h8
      go_wp2
      go_quiet (fail)
      go_wp2
      go_roundw
      case rel=>exact ⟨(m + 1 + 1),by omega,by go_num,HBN.out _ _,HF.out⟩
      case measure=>simp [intOf]; omega
     have e8 : (f.kind != 5) = true:=by simpa using h8
     have HF:=Lib.hid (HN.out (by rw [HO.out,d3,d4,d5,decide_eq_false h6,decide_eq_false h7,decide_eq_false h8]; rfl))
     clear h3 h4 h5 h6 h7 h8
     go_wp2
     go_quiet (fail)
     go_wp2
     go_ret
     exact ⟨by rw [HF.out]; rfl,HBN.out _ _⟩
  ·have HF : Hid (validF l = true):=validF_of (fun j hj=>HA.out j hj (by omega))
   go_wp2
   go_ret
   exact ⟨by rw [HF.out]; rfl,hbr⟩
end Go.Proofs.YtaggiceejcegdaaGreat

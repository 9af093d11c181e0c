/-
  WHAT IS SHOWN: more: plain facts, of no program: the faults of a busy disk, laid one behind another, never more than eight in a row. Conditions: as each theorem names them.
-/
import Derived.Test.YtggkengmlkhdiaaGreatM47
namespace Go.Proofs.YtggkengmlkhdiaaGreat
set_option linter.unusedVariables false
open Go.RowKit
structure BusyI (F : List Flt) (row at_ : Int) (k : Nat) : Prop where
 r8 : 0 ≤ row ∧ row ≤ 8
 at0 : 0 ≤ at_ ∧ at_ ≤ 65 * (k : Int)
 len : F.length ≤ k
 fl : ∀ f ∈ F,f.kind = 6 ∧ f.to_ = 0 ∧ 0 ≤ f.at_ ∧ f.at_ < at_
 ok : validF F = true
 gap : ∀ f ∈ F,f.at_ ≠ at_ - row - 1
 nine : ∀ m : Int,∃ j : Nat,j ≤ 8 ∧ ∀ f ∈ F,f.at_ ≠ m + j
theorem BusyI.nil : BusyI [] 0 0 0:=⟨by omega,by omega,by simp,fun f h=>absurd h (by simp),rfl,fun f h=>absurd h (by simp),fun m=>⟨0,by omega,fun f h=>absurd h (by simp)⟩⟩
theorem BusyI.skip {F : List Flt} {row at_ : Int} {k : Nat} (h : BusyI F row at_ k) {d : Int} (h0 : 0 ≤ d) (h1 : d ≤ 63) : BusyI F 0 (at_ + (1 + d)) (k + 1):=
 ⟨by omega,by have:=h.at0; omega,by have:=h.len; omega,fun f hf=>by have:=h.fl f hf; exact ⟨this.1,this.2.1,this.2.2.1,by omega⟩,h.ok,fun f hf=>by have:=h.fl f hf; omega,h.nine⟩
theorem validFrom_push (x : Flt) (l : List Flt) : ∀ last,validFrom last l = true → (∀ b,b < x.at_ → okF b x = true) → last < x.at_ → (∀ f ∈ l,f.at_ < x.at_) → validFrom last (l ++ [x]) = true:=by
 induction l with
 | nil=>
   intro last _ ho hl _
   show validFrom last [x] = true
   unfold validFrom
   rw [ho last hl]
   rfl
 | cons f l ih=>
   intro last hv ho hl hm
   unfold validFrom at hv
   rw [Bool.and_eq_true] at hv
   show validFrom last (f :: (l ++ [x])) = true
   unfold validFrom
   rw [Bool.and_eq_true]
   exact ⟨hv.1,ih f.at_ hv.2 ho (hm f (by simp)) (fun y hy=>hm y (by simp [hy]))⟩
theorem BusyI.push {F : List Flt} {row at_ : Int} {k : Nat} (h : BusyI F row at_ k) (hr : row ≠ 8) : BusyI (F ++ [⟨at_,6,0⟩]) (row + 1) (at_ + 1) (k + 1):=by
 have hrow:=h.r8
 have hat:=h.at0
 refine ⟨by omega,by omega,by simp; exact h.len,fun f hf=>?_,?_,fun f hf=>?_,fun m=>?_⟩
 ·rcases List.mem_append.1 hf with hf | hf
  ·have:=h.fl f hf; exact ⟨this.1,this.2.1,this.2.2.1,by omega⟩
  ·rw [List.mem_singleton] at hf; subst hf; exact ⟨rfl,rfl,hat.1,by show at_ < at_ + 1; omega⟩
 ·refine validFrom_push ⟨at_,6,0⟩ F (-1) h.ok (fun b hb=>?_) (by show -1 < at_; omega) (fun f hf=>(h.fl f hf).2.2.2)
  unfold okF
  rw [decide_eq_false (show ¬ at_ ≤ b by simp only at hb; omega)]
  rfl
 ·rcases List.mem_append.1 hf with hf | hf
  ·have:=h.gap f hf; omega
  ·rw [List.mem_singleton] at hf; subst hf; show at_ ≠ _; omega
 ·by_cases c1 : at_ - row ≤ m
  ·by_cases c2 : m ≤ at_
   ·refine ⟨(at_ + 1 - m).toNat,by omega,fun f hf=>?_⟩
    rcases List.mem_append.1 hf with hf | hf
    ·have:=h.fl f hf; omega
    ·rw [List.mem_singleton] at hf; subst hf; show at_ ≠ _; omega
   ·refine ⟨0,by omega,fun f hf=>?_⟩
    rcases List.mem_append.1 hf with hf | hf
    ·have:=h.fl f hf; omega
    ·rw [List.mem_singleton] at hf; subst hf; show at_ ≠ _; omega
  ·by_cases c3 : at_ - row - 1 ≤ m + 8
   ·refine ⟨(at_ - row - 1 - m).toNat,by omega,fun f hf=>?_⟩
    rcases List.mem_append.1 hf with hf | hf
    ·have:=h.gap f hf; omega
    ·rw [List.mem_singleton] at hf; subst hf; show at_ ≠ _; omega
   ·obtain ⟨j,hj,hn⟩:=h.nine m
    refine ⟨j,hj,fun f hf=>?_⟩
    rcases List.mem_append.1 hf with hf | hf
    ·exact hn f hf
    ·rw [List.mem_singleton] at hf; subst hf; show at_ ≠ _; omega
theorem iterI_add : ∀ (j : Nat) (m : Int), -9223372036854775808 ≤ m → m + j ≤ 9223372036854775807 → iterI j m = m + j
 | 0,m,_,_=>by unfold iterI; omega
 | j + 1,m,h0,h1=>by
   unfold iterI
   have e : wrap64 (m + 1) = m + 1:=by unfold wrap64; omega
   rw [e,iterI_add j (m + 1) (by omega) (by omega)]
   omega
theorem BusyI.run {F : List Flt} {row at_ : Int} {k : Nat} (h : BusyI F row at_ k) (hk : k ≤ 60) : RunF F:=by
 refine ⟨fun f hf=>(h.fl f hf).1,fun m hm=>?_⟩
 have ha:=h.at0
 obtain ⟨m0,m1⟩:=hm
 by_cases hb : m ≤ 100000
 ·obtain ⟨j,hj,hn⟩:=h.nine m
  refine ⟨j,hj,fun f hf=>?_⟩
  rw [iterI_add j m (by omega) (by omega)]
  exact hn f hf
 ·refine ⟨0,by omega,fun f hf=>?_⟩
  have:=h.fl f hf
  unfold iterI
  omega
theorem BusyI.i64 {F : List Flt} {row at_ : Int} {k : Nat} (h : BusyI F row at_ k) : ∀ f ∈ F,I64 f.to_:=fun f hf=>by
 rw [(h.fl f hf).2.1]; exact ⟨by omega,by omega⟩
theorem flatF_push (F : List Flt) (f : Flt) : flatF F ++ f.cells = flatF (F ++ [f]):=by unfold flatF; simp
end Go.Proofs.YtggkengmlkhdiaaGreat

/-
  WHAT IS SHOWN: plain facts: what is left to be read grows never. plain facts, of no program: what payload of the reference computes is what strict reading says; records are read from their payload. plain facts, of no program, on reading records from sectors. plain facts, of no program: the sectors of a record are read as that record. plain facts, of no program: records of which a sector is missing or changed. plain facts on logs: the log of sectors, valid logs, the sectors of a log. Conditions: as each theorem names them.
-/
import Derived.Test.YtaggiceejcegdaaGreatNc06
import Derived.Test.YtaggiceejcegdaaGreatNc05
namespace Go.Proofs.YtaggiceejcegdaaGreat
set_option linter.unusedVariables false
theorem uintGo_len : ∀ (l : List Int) (i n m : Nat) (r : List Int),uintGo i n l = some (m,r) → r.length < l.length
 | [],i,n,m,r,h=>by rw [uintGo_nil] at h; cases h
 | c :: l,i,n,m,r,h=>by
   unfold uintGo at h
   split at h
   ·cases h
   ·split at h
    ·cases h
    ·split at h
     ·split at h
      ·cases h
      ·injection h with h; injection h with _ h; subst h; simp
     ·have:=uintGo_len l _ _ _ _ h
      simp; omega
theorem uintD_len {l r : List Int} {m : Nat} (h : uintD l = some (m,r)) : r.length < l.length:=uintGo_len l 0 0 m r h
theorem uint_len' (r : Rdr) : r.uint.2.2.rest.length ≤ r.rest.length:=by
 unfold Rdr.uint
 split
 ·rename_i h; exact Nat.le_of_lt (uintD_len h)
 ·exact Nat.zero_le _
theorem take_len' (r : Rdr) (n : Nat) : (r.take n).2.2.rest.length ≤ r.rest.length ∧ (r.take n).1.length ≤ r.rest.length:=by
 unfold Rdr.take
 split
 ·exact ⟨Nat.zero_le _,Nat.zero_le _⟩
 ·constructor
  ·show (List.drop _ _).length ≤ _; rw [List.length_drop]; omega
  ·show (List.take _ _).length ≤ _; rw [List.length_take]; omega
theorem blk_len' (r : Rdr) : r.blk.2.2.rest.length ≤ r.rest.length:=(take_len' r 8).1
theorem bytes_len' (r : Rdr) : r.bytes.2.2.rest.length ≤ r.rest.length ∧ r.bytes.1.length ≤ r.rest.length:=by
 have hu:=uint_len' r
 unfold Rdr.bytes
 split
 ·have:=take_len' r.uint.2.2 r.uint.1
  exact ⟨Nat.le_trans this.1 hu,Nat.le_trans this.2 hu⟩
 ·exact ⟨hu,Nat.zero_le _⟩
theorem cN_rest {α : Type} {f : Rdr → α × Rdr} (h : ∀ r,(f r).2.rest.length ≤ r.rest.length) : ∀ (k : Nat) (r : Rdr),(cN f k r).2.rest.length ≤ r.rest.length
 | 0,_=>Nat.le_refl _
 | k + 1,r=>Nat.le_trans (h _) (cN_rest h k r)
end Go.Proofs.YtaggiceejcegdaaGreat
namespace Go.Proofs.YtaggiceejcegdaaGreat
set_option linter.unusedVariables false
theorem uintD_u8 {l l' : List Int} {m : Nat} (hu : U8s l) (h : uintD l = some (m,l')) : m < 2 ^ 64 ∧ U8s l':=by
 obtain ⟨h1,p,rfl⟩:=uintD_lt hu h
 exact ⟨h1,fun x hx=>hu x (List.mem_append.2 (.inr hx))⟩
def N64 (n : Int) : Prop:=0 ≤ n ∧ n < 2 ^ 64
structure PW.Nat_ (x : PW) : Prop where
 g : N64 x.g
 p : N64 x.p
 v : x.v < 2 ^ 64
 d : U8s x.data
structure Mv.Nat_ (x : Mv) : Prop where
 g : N64 x.g
 p : N64 x.p
 k : I64 x.k
 b : N64 x.b
theorem n64_nat {n : Nat} (h : n < 2 ^ 64) : N64 n:=⟨by omega,by omega⟩
theorem zag_i64 {n : Nat} (h : n < 2 ^ 64) : I64 (zagN n):=by unfold I64 zagN; split <;> omega
theorem getD_u8 {l : List Int} (h : U8s l) (i : Nat) : 0 ≤ l.getD i 0 ∧ l.getD i 0 ≤ 255:=by
 rw [List.getD_eq_getElem?_getD]
 cases hg : l[i]? with
 | none=>simp
 | some a=>exact h a (List.mem_of_getElem? hg)
theorem sW_u8 {l l' : List Int} {x : PW} (hu : U8s l) (h : sW l = some (x,l')) : x.Nat_ ∧ U8s l':=by
 unfold sW at h
 split at h
 ·cases h
 rename_i g l1 h1
 split at h
 ·cases h
 rename_i p l2 h2
 split at h
 ·cases h
 rename_i v l3 h3
 split at h
 ·cases h
 injection h with h; injection h with h h'; subst h; subst h'
 obtain ⟨b1,u1⟩:=uintD_u8 hu h1
 obtain ⟨b2,u2⟩:=uintD_u8 u1 h2
 obtain ⟨b3,u3⟩:=uintD_u8 u2 h3
 refine ⟨⟨n64_nat b1,n64_nat b2,b3,fun y hy=>?_⟩,u3.drop 8⟩
 unfold PW.data at hy
 simp only [List.mem_cons,List.not_mem_nil,or_false] at hy
 rcases hy with rfl | rfl | rfl | rfl | rfl | rfl | rfl | rfl <;> exact getD_u8 u3 _
theorem sM_u8 {l l' : List Int} {x : Mv} (hu : U8s l) (h : sM l = some (x,l')) : x.Nat_ ∧ U8s l':=by
 unfold sM at h
 split at h
 ·cases h
 rename_i g l1 h1
 split at h
 ·cases h
 rename_i p l2 h2
 split at h
 ·cases h
 rename_i k l3 h3
 split at h
 ·cases h
 rename_i b l4 h4
 injection h with h; injection h with h h'; subst h; subst h'
 obtain ⟨b1,u1⟩:=uintD_u8 hu h1
 obtain ⟨b2,u2⟩:=uintD_u8 u1 h2
 obtain ⟨b3,u3⟩:=uintD_u8 u2 h3
 obtain ⟨b4,u4⟩:=uintD_u8 u3 h4
 exact ⟨⟨n64_nat b1,n64_nat b2,zag_i64 b3,n64_nat b4⟩,u4⟩
theorem sN_u8 {α : Type} {s : List Int → Option (α × List Int)} {P : α → Prop} (hs : ∀ l l' x,U8s l → s l = some (x,l') → P x ∧ U8s l') : ∀ {k : Nat} {l : List Int} {xs : List α} {l' : List Int},U8s l → sN s k l = some (xs,l') → (∀ x ∈ xs,P x) ∧ U8s l'
 | 0,l,xs,l',hu,h=>by unfold sN at h; injection h with h; injection h with h h'; subst h; subst h'; exact ⟨by simp,hu⟩
 | k + 1,l,xs,l',hu,h=>by
   unfold sN at h
   split at h
   ·cases h
   ·rename_i ys l1 h1
    split at h
    ·cases h
    ·rename_i x l2 h2
     injection h with h; injection h with h h'; subst h; subst h'
     obtain ⟨a1,a2⟩:=sN_u8 hs hu h1
     obtain ⟨a3,a4⟩:=hs _ _ _ a2 h2
     refine ⟨fun y hy=>?_,a4⟩
     rcases List.mem_append.1 hy with hy | hy
     ·exact a1 y hy
     ·simp at hy; subst hy; exact a3
structure Rec.Nat_ (r : Rec) : Prop where
 gen : r.gen < 2 ^ 64
 seq : r.seq < 2 ^ 64
 ws : ∀ x ∈ r.ws,x.Nat_
 ms : ∀ x ∈ r.ms,x.Nat_
 note : U8s r.note
theorem sRec_u8 {b : List Int} {r : Rec} (hu : U8s b) (h : sRec b = some r) : r.Nat_:=by
 unfold sRec at h
 split at h
 ·cases h
 rename_i gen l1 h1
 split at h
 ·cases h
 rename_i seq l2 h2
 split at h
 ·cases h
 rename_i n l3 h3
 split at h
 ·cases h
 rename_i ws l4 h4
 split at h
 ·cases h
 rename_i m l5 h5
 split at h
 ·cases h
 rename_i ms l6 h6
 split at h
 ·cases h
 rename_i k l7 h7
 split at h
 rotate_left
 ·cases h
 injection h with h
 subst h
 obtain ⟨b1,u1⟩:=uintD_u8 hu h1
 obtain ⟨b2,u2⟩:=uintD_u8 u1 h2
 obtain ⟨b3,u3⟩:=uintD_u8 u2 h3
 obtain ⟨w1,w2⟩:=sN_u8 (fun _ _ _ a c=>sW_u8 a c) u3 h4
 obtain ⟨b5,u5⟩:=uintD_u8 w2 h5
 obtain ⟨m1,m2⟩:=sN_u8 (fun _ _ _ a c=>sM_u8 a c) u5 h6
 obtain ⟨b7,u7⟩:=uintD_u8 m2 h7
 exact ⟨b1,b2,w1,m1,u7⟩
theorem recD_ok {b : List Int} {r : Rec} (hu : U8s b) (h : recD b = some r) : r.Ok ∧ validR r = true:=by
 unfold recD at h
 split at h
 ·cases h
 rename_i r' hs
 split at h
 rotate_left
 ·cases h
 rename_i hv
 injection h with h; subst h
 have hn:=sRec_u8 hu hs
 have hvl:=validR_vld hv
 refine ⟨⟨hn.gen,hn.seq,fun x hx=>?_,fun x hx=>?_,hn.note⟩,hv⟩
 ·have h1:=hvl.ws x hx
  have h2:=hn.ws x hx
  exact ⟨⟨by omega,by omega⟩,⟨by omega,by omega⟩,h2.v,h2.d⟩
 ·have h1:=hvl.ms x hx
  exact ⟨⟨by omega,by omega⟩,⟨by omega,by omega⟩,⟨by omega,by omega⟩,⟨by omega,by omega⟩⟩
def wr64 (n : Int) : Int:=IntKind.i64.wrap n
theorem wr64_small {n : Int} (h0 : 0 ≤ n) (h1 : n < 9223372036854775808) : wr64 n = n:=by unfold wr64; rw [IntKind.wrap_i64]; omega
theorem wr64_big {n : Int} (h0 : 9223372036854775808 ≤ n) (h1 : n < 18446744073709551616) : wr64 n < 0:=by unfold wr64; rw [IntKind.wrap_i64]; omega
def wrW (x : PW) : PW:=⟨wr64 x.g,wr64 x.p,x.v,x.d0,x.d1,x.d2,x.d3,x.d4,x.d5,x.d6,x.d7⟩
def wrM (x : Mv) : Mv:=⟨wr64 x.g,wr64 x.p,x.k,wr64 x.b⟩
def wrR (r : Rec) : Rec:=⟨r.gen,r.seq,r.ws.map wrW,r.ms.map wrM,r.note⟩
theorem wr_within {n : Int} (h : N64 n) {lo hi : Int} (hlo : 0 ≤ lo) (hhi : hi < 9223372036854775808) : (lo ≤ wr64 n ∧ wr64 n < hi) ↔ (lo ≤ n ∧ n < hi):=by
 obtain ⟨h0,h1⟩:=h
 by_cases hb : n < 9223372036854775808
 ·rw [wr64_small h0 hb]
 ·have:=wr64_big (n:=n) (by omega) (by omega)
  constructor
  ·rintro ⟨a,b⟩; omega
  ·rintro ⟨a,b⟩; omega
theorem wr_piece {x y : Int} (hx : N64 x) (hy : N64 y) : pieceB (wr64 x) (wr64 y) = pieceB x y:=by
 have h1:=wr_within hx (lo:=0) (hi:=4096) (by omega) (by omega)
 have h2:=wr_within hy (lo:=0) (hi:=16) (by omega) (by omega)
 unfold pieceB
 rw [Bool.eq_iff_iff]
 simp only [Bool.and_eq_true,decide_eq_true_eq]
 constructor
 ·rintro ⟨⟨⟨a,b⟩,c⟩,d⟩; have:=h1.1 ⟨a,b⟩; have:=h2.1 ⟨c,d⟩; omega
 ·rintro ⟨⟨⟨a,b⟩,c⟩,d⟩; have:=h1.2 ⟨a,b⟩; have:=h2.2 ⟨c,d⟩; omega
theorem wr_place {k b : Int} (hb : N64 b) : placeB k (wr64 b) = placeB k b:=by
 have h1:=wr_within hb (lo:=0) (hi:=65536) (by omega) (by omega)
 unfold placeB
 split
 ·rw [Bool.eq_iff_iff]; simp only [beq_iff_eq]
  obtain ⟨h0,h2⟩:=hb
  by_cases hs : b < 9223372036854775808
  ·rw [wr64_small h0 hs]
  ·have:=wr64_big (n:=b) (by omega) (by omega); omega
 ·rw [Bool.eq_iff_iff]
  simp only [Bool.and_eq_true,decide_eq_true_eq]
  constructor
  ·rintro ⟨⟨⟨a,c⟩,d⟩,e⟩; have:=h1.1 ⟨d,e⟩; omega
  ·rintro ⟨⟨⟨a,c⟩,d⟩,e⟩; have:=h1.2 ⟨d,e⟩; omega
theorem all_map_eq {α : Type} {f : α → Bool} {g : α → α} {l : List α} (h : ∀ x ∈ l,f (g x) = f x) : (l.map g).all f = l.all f:=by
 induction l with
 | nil=>rfl
 | cons a l ih=>simp only [List.map_cons,List.all_cons]; rw [h a (by simp),ih (fun x hx=>h x (by simp [hx]))]
theorem wr_valid {r : Rec} (h : r.Nat_) : validR (wrR r) = validR r:=by
 unfold validR wrR wsB msB
 simp only [List.length_map]
 rw [all_map_eq (f:=PW.ok) (g:=wrW) (fun x hx=>wr_piece (h.ws x hx).g (h.ws x hx).p),all_map_eq (f:=Mv.ok) (g:=wrM) (fun x hx=>by
  show (pieceB (wr64 x.g) (wr64 x.p) && placeB x.k (wr64 x.b)) = (pieceB x.g x.p && placeB x.k x.b)
  rw [wr_piece (h.ms x hx).g (h.ms x hx).p,wr_place (h.ms x hx).b])]
theorem map_id_of {α : Type} {g : α → α} {l : List α} (h : ∀ x ∈ l,g x = x) : l.map g = l:=by
 induction l with
 | nil=>rfl
 | cons a l ih=>rw [List.map_cons,h a (by simp),ih (fun x hx=>h x (by simp [hx]))]
theorem wr_id {r : Rec} (h : Vld r) : wrR r = r:=by
 unfold wrR
 rw [map_id_of (g:=wrW) (fun x hx=>by have:=h.ws x hx; unfold wrW; rw [wr64_small (by omega) (by omega),wr64_small (by omega) (by omega)]),
  map_id_of (g:=wrM) (fun x hx=>by have:=h.ms x hx; unfold wrM; rw [wr64_small (by omega) (by omega),wr64_small (by omega) (by omega),wr64_small (by omega) (by omega)])]
def rW (r : Rdr) : PW × Rdr:=
 let g:=r.uint
 let p:=g.2.2.uint
 let v:=p.2.2.uint
 let d:=v.2.2.blk
 (⟨wr64 g.1,wr64 p.1,v.1,d.1.getD 0 0,d.1.getD 1 0,d.1.getD 2 0,d.1.getD 3 0,d.1.getD 4 0,d.1.getD 5 0,d.1.getD 6 0,d.1.getD 7 0⟩,d.2.2)
def rM (r : Rdr) : Mv × Rdr:=
 let g:=r.uint
 let p:=g.2.2.uint
 let k:=p.2.2.uint
 let b:=k.2.2.uint
 (⟨wr64 g.1,wr64 p.1,zagN k.1,wr64 b.1⟩,b.2.2)
def sW' (l : List Int) : Option (PW × List Int):=(sW l).map fun x=>(wrW x.1,x.2)
def sM' (l : List Int) : Option (Mv × List Int):=(sM l).map fun x=>(wrM x.1,x.2)
theorem rW_fail : (rW Rdr.fail).2 = Rdr.fail:=by unfold rW; simp only [uint_fail,blk_fail]
theorem rM_fail : (rM Rdr.fail).2 = Rdr.fail:=by unfold rM; simp only [uint_fail]
theorem rW_step : Step rW sW' (fun _=>True):=by
 refine ⟨rW_fail,fun l=>?_⟩
 cases h1 : uintD l with
 | none=>right; unfold sW' sW rW; rw [h1]; simp only [uint_none h1,uint_fail,blk_fail]; exact ⟨by simp,trivial⟩
 | some x1=>
 obtain ⟨g,l1⟩:=x1
 cases h2 : uintD l1 with
 | none=>right; unfold sW' sW rW; rw [h1]; simp only [h2,uint_good h1,uint_none h2,uint_fail,blk_fail]; exact ⟨by simp,trivial⟩
 | some x2=>
 obtain ⟨p,l2⟩:=x2
 cases h3 : uintD l2 with
 | none=>right; unfold sW' sW rW; rw [h1]; simp only [h2,h3,uint_good h1,uint_good h2,uint_none h3,blk_fail]; exact ⟨by simp,trivial⟩
 | some x3=>
 obtain ⟨v,l3⟩:=x3
 by_cases h8 : l3.length < 8
 ·right; unfold sW' sW rW; rw [h1]; simp only [h2,h3,uint_good h1,uint_good h2,uint_good h3,blk_short h8,if_pos h8]; exact ⟨by simp,trivial⟩
 ·left
  unfold sW' sW rW; rw [h1]; simp only [h2,h3,uint_good h1,uint_good h2,uint_good h3,blk_good (by omega : 8 ≤ l3.length),if_neg h8]
  exact ⟨_,_,rfl,trivial,rfl⟩
theorem rM_step : Step rM sM' (fun _=>True):=by
 refine ⟨rM_fail,fun l=>?_⟩
 cases h1 : uintD l with
 | none=>right; unfold sM' sM rM; rw [h1]; simp only [uint_none h1,uint_fail]; exact ⟨by simp,trivial⟩
 | some x1=>
 obtain ⟨g,l1⟩:=x1
 cases h2 : uintD l1 with
 | none=>right; unfold sM' sM rM; rw [h1]; simp only [h2,uint_good h1,uint_none h2,uint_fail]; exact ⟨by simp,trivial⟩
 | some x2=>
 obtain ⟨p,l2⟩:=x2
 cases h3 : uintD l2 with
 | none=>right; unfold sM' sM rM; rw [h1]; simp only [h2,h3,uint_good h1,uint_good h2,uint_none h3,uint_fail]; exact ⟨by simp,trivial⟩
 | some x3=>
 obtain ⟨v,l3⟩:=x3
 cases h4 : uintD l3 with
 | none=>right; unfold sM' sM rM; rw [h1]; simp only [h2,h3,h4,uint_good h1,uint_good h2,uint_good h3,uint_none h4]; exact ⟨by simp,trivial⟩
 | some x4=>
 obtain ⟨b,l4⟩:=x4
 left
 unfold sM' sM rM; rw [h1]; simp only [h2,h3,h4,uint_good h1,uint_good h2,uint_good h3,uint_good h4]
 exact ⟨_,_,rfl,trivial,rfl⟩
theorem sN_map {α : Type} {s : List Int → Option (α × List Int)} {g : α → α} : ∀ (k : Nat) (l : List Int),sN (fun l=>(s l).map fun x=>(g x.1,x.2)) k l = (sN s k l).map fun x=>(x.1.map g,x.2)
 | 0,l=>rfl
 | k + 1,l=>by
   unfold sN
   rw [sN_map k l]
   cases h : sN s k l with
   | none=>rfl
   | some x=>
     obtain ⟨xs,l1⟩:=x
     simp only [Option.map_some]
     cases h2 : s l1 with
     | none=>rfl
     | some y=>obtain ⟨y,l2⟩:=y; simp
def r3 (b : List Int) : Nat × Int × Rdr:=(c2 b).2.2.uint
def r4 (b : List Int) : List PW × Rdr:=cN rW (r3 b).1 (r3 b).2.2
def r5 (b : List Int) : Nat × Int × Rdr:=(r4 b).2.uint
def r6 (b : List Int) : List Mv × Rdr:=cN rM (r5 b).1 (r5 b).2.2
def r7 (b : List Int) : List Int × Int × Rdr:=(r6 b).2.bytes
def rRec (b : List Int) : Rec:=⟨(c1 b).1,(c2 b).1,(r4 b).1,(r6 b).1,(r7 b).1⟩
def rOk (b : List Int) : Bool:=(r7 b).2.2.done == 0 && validR (rRec b)
theorem r3_fail {b : List Int} (h : (c2 b).2.2 = Rdr.fail) : (r3 b).2.2 = Rdr.fail:=by unfold r3; rw [h,uint_fail]
theorem r4_fail {b : List Int} (h : (r3 b).2.2 = Rdr.fail) : (r4 b).2 = Rdr.fail:=by unfold r4; rw [h]; exact cN_fail rW_fail _
theorem r5_fail {b : List Int} (h : (r4 b).2 = Rdr.fail) : (r5 b).2.2 = Rdr.fail:=by unfold r5; rw [h,uint_fail]
theorem r6_fail {b : List Int} (h : (r5 b).2.2 = Rdr.fail) : (r6 b).2 = Rdr.fail:=by unfold r6; rw [h]; exact cN_fail rM_fail _
theorem r7_fail {b : List Int} (h : (r6 b).2 = Rdr.fail) : (r7 b).2.2 = Rdr.fail:=by unfold r7; rw [h,bytes_fail]
theorem r_good {b : List Int} {r : Rec} (h : sRec b = some r) : rRec b = wrR r ∧ (r7 b).2.2.done = 0:=by
 unfold sRec at h
 split at h
 ·cases h
 rename_i gen l1 h1
 split at h
 ·cases h
 rename_i seq l2 h2
 split at h
 ·cases h
 rename_i n l3 h3
 split at h
 ·cases h
 rename_i ws l4 h4
 split at h
 ·cases h
 rename_i m l5 h5
 split at h
 ·cases h
 rename_i ms l6 h6
 split at h
 ·cases h
 rename_i k l7 h7
 split at h
 rotate_left
 ·cases h
 rename_i hk
 injection h with h
 subst h
 have e1 : c1 b = (gen,0,⟨l1,false⟩):=uint_good h1
 have e2 : c2 b = (seq,0,⟨l2,false⟩):=by unfold c2; rw [e1]; exact uint_good h2
 have e3 : r3 b = (n,0,⟨l3,false⟩):=by unfold r3; rw [e2]; exact uint_good h3
 have h4' : sN sW' n l3 = some (ws.map wrW,l4):=by unfold sW'; rw [sN_map,h4]; rfl
 have h6' : sN sM' m l5 = some (ms.map wrM,l6):=by unfold sM'; rw [sN_map,h6]; rfl
 have e4 : r4 b = (ws.map wrW,⟨l4,false⟩):=by
  unfold r4; rw [e3]
  rcases (cN_step rW_step n).2 l3 with ⟨xs,l',d1,d2,d3⟩ | ⟨d1,d2⟩
  ·rw [h4'] at d1; injection d1 with d1; injection d1 with d1 d1'; subst d1; subst d1'; exact d3
  ·exact absurd (fun _ _=>trivial) (d1 _ l4 h4')
 have e5 : r5 b = (m,0,⟨l5,false⟩):=by unfold r5; rw [e4]; exact uint_good h5
 have e6 : r6 b = (ms.map wrM,⟨l6,false⟩):=by
  unfold r6; rw [e5]
  rcases (cN_step rM_step m).2 l5 with ⟨xs,l',d1,d2,d3⟩ | ⟨d1,d2⟩
  ·rw [h6'] at d1; injection d1 with d1; injection d1 with d1 d1'; subst d1; subst d1'; exact d3
  ·exact absurd (fun _ _=>trivial) (d1 _ l6 h6')
 have e7 : r7 b = (l7,0,⟨[],false⟩):=by
  unfold r7; rw [e6,bytes_good h7 (by omega),← hk]; simp
 refine ⟨by unfold rRec wrR; rw [e1,e2,e4,e6,e7],by rw [e7]; rfl⟩
theorem r_back {b : List Int} (h : (r7 b).2.2.done = 0) : ∃ r,sRec b = some r:=by
 have hf : ¬ (r7 b).2.2 = Rdr.fail:=fun e=>by rw [e,done_fail] at h; omega
 have g6 : ¬ (r6 b).2 = Rdr.fail:=fun e=>hf (r7_fail e)
 have g5 : ¬ (r5 b).2.2 = Rdr.fail:=fun e=>g6 (r6_fail e)
 have g4 : ¬ (r4 b).2 = Rdr.fail:=fun e=>g5 (r5_fail e)
 have g3 : ¬ (r3 b).2.2 = Rdr.fail:=fun e=>g4 (r4_fail e)
 have g2 : ¬ (c2 b).2.2 = Rdr.fail:=fun e=>g3 (r3_fail e)
 have g1 : ¬ (c1 b).2.2 = Rdr.fail:=fun e=>g2 (c2_fail e)
 cases h1 : uintD b with
 | none=>exact absurd (by unfold c1; rw [uint_none h1]) g1
 | some x1=>
 obtain ⟨gen,l1⟩:=x1
 have e1 : c1 b = (gen,0,⟨l1,false⟩):=uint_good h1
 cases h2 : uintD l1 with
 | none=>exact absurd (by unfold c2; rw [e1]; show (Rdr.uint _).2.2 = _; rw [uint_none h2]) g2
 | some x2=>
 obtain ⟨seq,l2⟩:=x2
 have e2 : c2 b = (seq,0,⟨l2,false⟩):=by unfold c2; rw [e1]; exact uint_good h2
 cases h3 : uintD l2 with
 | none=>exact absurd (by unfold r3; rw [e2]; show (Rdr.uint _).2.2 = _; rw [uint_none h3]) g3
 | some x3=>
 obtain ⟨n,l3⟩:=x3
 have e3 : r3 b = (n,0,⟨l3,false⟩):=by unfold r3; rw [e2]; exact uint_good h3
 rcases (cN_step rW_step n).2 l3 with ⟨ws,l4,d1,d2,d3⟩ | ⟨d1,d2⟩
 rotate_left
 ·exact absurd (by unfold r4; rw [e3]; exact d2) g4
 have e4 : r4 b = (ws,⟨l4,false⟩):=by unfold r4; rw [e3]; exact d3
 cases h5 : uintD l4 with
 | none=>exact absurd (by unfold r5; rw [e4]; show (Rdr.uint _).2.2 = _; rw [uint_none h5]) g5
 | some x5=>
 obtain ⟨m,l5⟩:=x5
 have e5 : r5 b = (m,0,⟨l5,false⟩):=by unfold r5; rw [e4]; exact uint_good h5
 rcases (cN_step rM_step m).2 l5 with ⟨ms,l6,k1,k2,k3⟩ | ⟨k1,k2⟩
 rotate_left
 ·exact absurd (by unfold r6; rw [e5]; exact k2) g6
 have e6 : r6 b = (ms,⟨l6,false⟩):=by unfold r6; rw [e5]; exact k3
 cases h7 : uintD l6 with
 | none=>exact absurd (by unfold r7; rw [e6]; show (Rdr.bytes _).2.2 = _; rw [bytes_none h7]) hf
 | some x7=>
 obtain ⟨k,l7⟩:=x7
 by_cases hk : k ≤ l7.length
 rotate_left
 ·exact absurd (by unfold r7; rw [e6]; show (Rdr.bytes _).2.2 = _; rw [bytes_short h7 (by omega)]) hf
 have e7 : r7 b = (l7.take k,0,⟨l7.drop k,false⟩):=by unfold r7; rw [e6]; exact bytes_good h7 hk
 rw [e7] at h
 have hz:=(done_zero h).2
 simp only at hz
 have hle : l7.length = k:=by have:=congrArg List.length hz; rw [List.length_drop] at this; simp at this; omega
 unfold sW' at d1
 rw [sN_map] at d1
 unfold sM' at k1
 rw [sN_map] at k1
 unfold sRec
 rw [h1]
 simp only [h2,h3]
 cases hw : sN sW n l3 with
 | none=>rw [hw] at d1; cases d1
 | some y=>
   obtain ⟨ws',l4'⟩:=y
   rw [hw] at d1; injection d1 with d1; injection d1 with _ d1; subst d1
   simp only [h5]
   cases hm : sN sM m l5 with
   | none=>rw [hm] at k1; cases k1
   | some y=>
     obtain ⟨ms',l6'⟩:=y
     rw [hm] at k1; injection k1 with k1; injection k1 with _ k1; subst k1
     simp only [h7,if_pos hle]
     exact ⟨_,rfl⟩
theorem r_rec {b : List Int} (hu : U8s b) : rOk b = (recD b).isSome ∧ ∀ r,recD b = some r → rRec b = r:=by
 have h2 : ∀ r,recD b = some r → rRec b = r ∧ rOk b = true:=fun r h=>by
  unfold recD at h
  split at h
  ·cases h
  ·rename_i r' hs
   split at h
   ·rename_i hv
    injection h with h; subst h
    obtain ⟨e1,e2⟩:=r_good hs
    rw [wr_id (validR_vld hv)] at e1
    refine ⟨e1,?_⟩
    unfold rOk; rw [e2,e1,hv]; rfl
   ·cases h
 refine ⟨?_,fun r h=>(h2 r h).1⟩
 cases hr : recD b with
 | some r=>exact (h2 r hr).2
 | none=>
   cases hc : rOk b with
   | false=>rfl
   | true=>
     unfold rOk at hc
     simp only [Bool.and_eq_true,beq_iff_eq] at hc
     obtain ⟨r,hs⟩:=r_back hc.1
     have hg:=(r_good hs).1
     unfold recD at hr
     rw [hs] at hr
     rw [hg,wr_valid (sRec_u8 hu hs)] at hc
     simp only [if_pos hc.2] at hr
     cases hr
theorem uint_nil {r : Rdr} (h : r.rest = []) : r.uint.2.2 = Rdr.fail:=by
 unfold Rdr.uint; rw [h,uintD_nil]
theorem rW_nil {r : Rdr} (h : r.rest = []) : (rW r).2 = Rdr.fail:=by unfold rW; simp only [uint_nil h,uint_fail,blk_fail]
theorem rM_nil {r : Rdr} (h : r.rest = []) : (rM r).2 = Rdr.fail:=by unfold rM; simp only [uint_nil h,uint_fail]
theorem cN_stop {α : Type} {f : Rdr → α × Rdr} (h : (f Rdr.fail).2 = Rdr.fail) {k : Nat} {r : Rdr} (hk : (f (cN f k r).2).2 = Rdr.fail) : ∀ n,k < n → (cN f n r).2 = Rdr.fail
 | 0,h0=>by omega
 | n + 1,h0=>by
   show (f (cN f n r).2).2 = _
   by_cases hn : k < n
   ·rw [cN_stop h hk n hn,h]
   ·obtain rfl : k = n:=by omega
    exact hk
theorem r_none {b : List Int} (hu : U8s b) (h : (r7 b).2.2 = Rdr.fail) : recD b = none:=by
 have h1:=(r_rec hu).1
 have h2 : rOk b = false:=by unfold rOk; rw [h,done_fail]; rfl
 rw [h2] at h1
 cases hr : recD b with
 | none=>rfl
 | some r=>rw [hr] at h1; cases h1
theorem r_stop1 {b : List Int} (hu : U8s b) {k : Nat} (hk : k < (r3 b).1) (h : (cN rW k (r3 b).2.2).2.rest = []) : recD b = none:=
 r_none hu (r7_fail (r6_fail (r5_fail (cN_stop rW_fail (rW_nil h) _ hk))))
theorem r_stop2 {b : List Int} (hu : U8s b) {k : Nat} (hk : k < (r5 b).1) (h : (cN rM k (r5 b).2.2).2.rest = []) : recD b = none:=
 r_none hu (r7_fail (cN_stop rM_fail (rM_nil h) _ hk))
theorem rW_rest (r : Rdr) : (rW r).2.rest.length ≤ r.rest.length:=
 Nat.le_trans (blk_len' _) (Nat.le_trans (uint_len' _) (Nat.le_trans (uint_len' _) (uint_len' _)))
theorem rM_rest (r : Rdr) : (rM r).2.rest.length ≤ r.rest.length:=
 Nat.le_trans (uint_len' _) (Nat.le_trans (uint_len' _) (Nat.le_trans (uint_len' _) (uint_len' _)))
theorem r3_rest (b : List Int) : (r3 b).2.2.rest.length ≤ b.length:=Nat.le_trans (uint_len' _) (Nat.le_trans (uint_len' _) (uint_len' _))
theorem r4_rest (b : List Int) : (r4 b).2.rest.length ≤ b.length:=Nat.le_trans (cN_rest rW_rest _ _) (r3_rest b)
theorem r5_rest (b : List Int) : (r5 b).2.2.rest.length ≤ b.length:=Nat.le_trans (uint_len' _) (r4_rest b)
theorem r6_rest (b : List Int) : (r6 b).2.rest.length ≤ b.length:=Nat.le_trans (cN_rest rM_rest _ _) (r5_rest b)
theorem r7_rest (b : List Int) : (r7 b).2.2.rest.length ≤ b.length ∧ (r7 b).1.length ≤ b.length:=
 ⟨Nat.le_trans (bytes_len' _).1 (r6_rest b),Nat.le_trans (bytes_len' _).2 (r6_rest b)⟩
theorem take_enc_W (x : PW) (h0 : 0 ≤ x.g) (h1 : x.g < 2 ^ 64) (h2 : 0 ≤ x.p) (h3 : x.p < 2 ^ 64) (h4 : x.v < 2 ^ 64) (r : List Int) : sW (x.enc ++ r) = some (x,r):=by
 unfold sW PW.enc
 rw [List.append_assoc,List.append_assoc,List.append_assoc,uintD_B (by omega)]
 simp only
 rw [uintD_B (by omega)]
 simp only
 rw [uintD_B h4]
 simp only
 have hd : (x.data ++ r).length = r.length + 8:=by unfold PW.data; simp
 rw [if_neg (by omega)]
 obtain ⟨g,p,v,d0,d1,d2,d3,d4,d5,d6,d7⟩:=x
 have e1 : ((g.toNat : Nat) : Int) = g:=Int.toNat_of_nonneg h0
 have e2 : ((p.toNat : Nat) : Int) = p:=Int.toNat_of_nonneg h2
 simp only [PW.data,e1,e2]
 rfl
theorem take_enc_M (x : Mv) (h0 : 0 ≤ x.g) (h1 : x.g < 2 ^ 64) (h2 : 0 ≤ x.p) (h3 : x.p < 2 ^ 64) (h4 : I64 x.k) (h5 : 0 ≤ x.b) (h6 : x.b < 2 ^ 64) (r : List Int) : sM (x.enc ++ r) = some (x,r):=by
 unfold sM Mv.enc
 rw [List.append_assoc,List.append_assoc,List.append_assoc,uintD_B (by omega)]
 simp only
 rw [uintD_B (by omega)]
 simp only
 rw [uintD_B (zigN_lt h4.1 h4.2)]
 simp only
 rw [uintD_B (by omega)]
 obtain ⟨g,p,k,b⟩:=x
 have e1 : ((g.toNat : Nat) : Int) = g:=Int.toNat_of_nonneg h0
 have e2 : ((p.toNat : Nat) : Int) = p:=Int.toNat_of_nonneg h2
 have e3 : ((b.toNat : Nat) : Int) = b:=Int.toNat_of_nonneg h5
 simp only [e1,e2,e3,zag_zig]
theorem sN_enc {α : Type} {s : List Int → Option (α × List Int)} {enc : α → List Int} {l : List α} (h : ∀ x ∈ l,∀ r,s (enc x ++ r) = some (x,r)) : ∀ k,k ≤ l.length → ∀ r,sN s k ((l.take k).flatMap enc ++ r) = some (l.take k,r)
 | 0,_,r=>by simp [sN]
 | k + 1,hk,r=>by
   rw [List.take_succ_eq_append_getElem (by omega : k < l.length),List.flatMap_append,List.append_assoc]
   unfold sN
   rw [sN_enc h k (by omega)]
   simp only [List.flatMap_cons,List.flatMap_nil,List.append_nil]
   rw [h _ (List.getElem_mem _) r]
theorem recD_pay {r : Rec} (hv : validR r = true) (hok : r.Ok) : recD (payR r) = some r:=by
 have hvl:=validR_vld hv
 have h1:=hvl.nw; have h2:=hvl.nm; have h3:=hvl.nn
 have hws : sN sW r.ws.length (wsE r.ws ++ (uintB r.ms.length ++ (msE r.ms ++ (uintB r.note.length ++ r.note)))) = some (r.ws,uintB r.ms.length ++ (msE r.ms ++ (uintB r.note.length ++ r.note))):=by
  have:=sN_enc (s:=sW) (enc:=PW.enc) (l:=r.ws) (fun x hx r'=>by have:=hvl.ws x hx; exact take_enc_W x (by omega) (by omega) (by omega) (by omega) (hok.ws x hx).v r') r.ws.length (Nat.le_refl _)
  rw [List.take_length] at this
  exact this _
 have hms : sN sM r.ms.length (msE r.ms ++ (uintB r.note.length ++ r.note)) = some (r.ms,uintB r.note.length ++ r.note):=by
  have:=sN_enc (s:=sM) (enc:=Mv.enc) (l:=r.ms) (fun x hx r'=>by have:=hvl.ms x hx; exact take_enc_M x (by omega) (by omega) (by omega) (by omega) (hok.ms x hx).k (by omega) (by omega) r') r.ms.length (Nat.le_refl _)
  rw [List.take_length] at this
  exact this _
 have hs : sRec (payR r) = some r:=by
  unfold sRec payR
  simp only [List.append_assoc]
  rw [uintD_B hok.gen]
  simp only
  rw [uintD_B hok.seq]
  simp only
  rw [uintD_B (by omega)]
  simp only [hws]
  rw [uintD_B (by omega)]
  simp only [hms]
  rw [uintD_B (by omega)]
  simp
 unfold recD
 rw [hs]
 simp only [if_pos hv]
end Go.Proofs.YtaggiceejcegdaaGreat
namespace Go.Proofs.YtaggiceejcegdaaGreat
set_option linter.unusedVariables false
structure Dec where
 r : Rec
 n : Nat
 er : Int
def zRec : Rec:=⟨0,0,[],[],[]⟩
def Dec.bad (e : Int) : Dec:=⟨zRec,0,e⟩
def hdD (ls : List (List Int)) : Ins:=insD (ls.headD [])
def partE (ls : List (List Int)) (i : Nat) : Int:=
 if h : i < ls.length then
  if ¬ (insD ls[i]).er = 0 then (insD ls[i]).er
  else if (insD ls[i]).gen = (hdD ls).gen ∧ (insD ls[i]).seq = (hdD ls).seq ∧ (insD ls[i]).part = i ∧ (insD ls[i]).parts = (hdD ls).parts then 0 else 5
 else 5
def scanE (ls : List (List Int)) : Nat → Option Int
 | 0=>none
 | k + 1=>match scanE ls k with
   | some e=>some e
   | none=>if partE ls k = 0 then none else some (partE ls k)
def allB (ls : List (List Int)) : Nat → List Int
 | 0=>[]
 | k + 1=>allB ls k ++ (insD (ls.getD k [])).ch
def decEnd (ls : List (List Int)) (m : Nat) : Dec:=match recD (allB ls m) with
 | none=>.bad 5
 | some r=>if encR r = ls.take m then ⟨r,m,0⟩ else .bad 5
def decD (ls : List (List Int)) : Dec:=
 if ¬ partE ls 0 = 0 then .bad (partE ls 0)
 else match scanE ls (hdD ls).parts with
  | some e=>.bad e
  | none=>decEnd ls (hdD ls).parts
theorem scan_none {ls : List (List Int)} : ∀ {k : Nat},(∀ i,i < k → partE ls i = 0) → scanE ls k = none
 | 0,_=>rfl
 | k + 1,h=>by
   unfold scanE
   rw [scan_none (fun i hi=>h i (by omega))]
   simp only
   rw [if_pos (h k (by omega))]
theorem scan_some {ls : List (List Int)} {k : Nat} (h : ∀ i,i < k → partE ls i = 0) (he : ¬ partE ls k = 0) : ∀ {m : Nat},k < m → scanE ls m = some (partE ls k)
 | 0,h0=>by omega
 | m + 1,h0=>by
   unfold scanE
   by_cases hm : k < m
   ·rw [scan_some h he hm]
   ·obtain rfl : k = m:=by omega
    rw [scan_none h]
    simp only
    rw [if_neg he]
theorem decD_err {ls : List (List Int)} {k : Nat} (h : ∀ i,i < k → partE ls i = 0) (he : ¬ partE ls k = 0) (hk : k = 0 ∨ k < (hdD ls).parts) : decD ls = .bad (partE ls k):=by
 unfold decD
 by_cases h0 : k = 0
 ·subst h0; rw [if_pos he]
 ·rw [if_neg (by rw [h 0 (by omega)]; simp),scan_some h he (by omega : k < (hdD ls).parts)]
theorem decD_end {ls : List (List Int)} (h0 : 0 < (hdD ls).parts) (h : ∀ i,i < (hdD ls).parts → partE ls i = 0) : decD ls = decEnd ls (hdD ls).parts:=by
 unfold decD
 rw [if_neg (by rw [h 0 h0]; simp),scan_none h]
theorem insD_er {b : List Int} : (insD b).er = 0 ∨ (insD b).er = 5 ∨ (insD b).er = 6:=by
 unfold insD
 split
 ·exact .inr (.inl rfl)
 ·split
  ·exact .inr (.inr rfl)
  ·split
   ·exact .inr (.inl rfl)
   ·split
    ·exact .inl rfl
    ·exact .inr (.inl rfl)
theorem insD_parts {b : List Int} (h : (insD b).er = 0) : (insD b).part < (insD b).parts ∧ (insD b).parts ≤ 4096 ∧ 1 ≤ (insD b).ch.length ∧ (insD b).ch.length ≤ 28 ∧ 1 ≤ (insD b).seq:=by
 unfold insD at h ⊢
 split
 ·rename_i h1; rw [if_pos h1] at h; exact absurd h (by decide)
 ·rename_i h1; rw [if_neg h1] at h
  split
  ·rename_i h2; rw [if_pos h2] at h; exact absurd h (by decide)
  ·rename_i h2; rw [if_neg h2] at h
   split
   ·rename_i h3; rw [if_pos h3] at h; exact absurd h (by decide)
   ·rename_i h3; rw [if_neg h3] at h
    split
    ·rename_i h4
     unfold insOk at h4
     simp only [Bool.and_eq_true,beq_iff_eq,decide_eq_true_eq] at h4
     obtain ⟨⟨⟨⟨⟨_,a1⟩,a2⟩,a3⟩,a4⟩,a5⟩:=h4
     exact ⟨a3,a2,a4,a5,a1⟩
    ·rename_i h4; rw [if_neg h4] at h; exact absurd h (by decide)
theorem allB_len {ls : List (List Int)} : ∀ {k : Nat},(∀ i,i < k → partE ls i = 0) → (allB ls k).length ≤ 28 * k
 | 0,_=>by simp [allB]
 | k + 1,h=>by
   unfold allB
   rw [List.length_append]
   have h1:=allB_len (k:=k) (fun i hi=>h i (by omega))
   have h2:=h k (by omega)
   unfold partE at h2
   split at h2
   ·rename_i hk
    split at h2
    ·rename_i h3; exact absurd h2 h3
    ·rename_i h3
     have h3' : (insD ls[k]).er = 0:=by simpa using h3
     have h4:=(insD_parts h3').2.2.2.1
     have : ls.getD k [] = ls[k]:=by simp [hk]
     rw [this]; omega
   ·omega
end Go.Proofs.YtaggiceejcegdaaGreat
namespace Go.Proofs.YtaggiceejcegdaaGreat
set_option linter.unusedVariables false
theorem insOk_yes' {b : List Int} (h0 : (rdK b 4).bytes.2.2.done = 0) (h1 : 1 ≤ numK b 1) (h2 : numK b 3 ≤ 4096) (h3 : numK b 2 < numK b 3) (h4 : 1 ≤ (rdK b 4).bytes.1.length) (h5 : (rdK b 4).bytes.1.length ≤ 28) : insOk b = true:=by
 unfold insOk
 simp [h0,h1,h2,h3,h4,h5]
theorem insD_sec {gen seq k m : Nat} {ch : List Int} (hg : gen < 2 ^ 64) (hs : seq < 2 ^ 64) (h1 : 1 ≤ seq) (hk : k < m) (hm : m ≤ 4096) (hc1 : 1 ≤ ch.length) (hc2 : ch.length ≤ 28) : insD (secB gen seq k m ch) = ⟨gen,seq,k,m,ch,0⟩:=by
 have hb8 : ∀ s,(be8 s).length = 8:=fun _=>rfl
 have hX : hdS gen seq k m ++ uintB ch.length ++ ch = 82 :: (uintB gen ++ (uintB seq ++ (uintB k ++ (uintB m ++ (uintB ch.length ++ ch))))):=by unfold hdS; simp
 obtain ⟨X,hXd⟩ : ∃ X,hdS gen seq k m ++ uintB ch.length ++ ch = X:=⟨_,rfl⟩
 have hb : secB gen seq k m ch = X ++ be8 (sumC X):=by unfold secB sealB; rw [hXd]
 rw [hXd] at hX
 have hlen : (secB gen seq k m ch).length = X.length + 8:=by rw [hb,List.length_append,hb8]
 have hXl : 1 ≤ X.length:=by rw [hX]; simp
 have htk : (secB gen seq k m ch).take ((secB gen seq k m ch).length - 8) = X:=by
  rw [hlen,Nat.add_sub_cancel,hb,List.take_left]
 have hseal : sealB X = secB gen seq k m ch:=by rw [hb]; rfl
 obtain ⟨B,hB⟩ : ∃ B,secB gen seq k m ch = B:=⟨_,rfl⟩
 rw [hB] at hb hlen htk hseal ⊢
 clear hB
 have e0 : rdK B 0 = ⟨uintB gen ++ (uintB seq ++ (uintB k ++ (uintB m ++ (uintB ch.length ++ ch)))),false⟩:=by
  unfold rdK; rw [htk,hX]; rfl
 have u0 : (rdK B 0).uint = (gen,0,⟨uintB seq ++ (uintB k ++ (uintB m ++ (uintB ch.length ++ ch))),false⟩):=by rw [e0]; exact uint_good (uintD_B hg _)
 have e1 : rdK B 1 = ⟨uintB seq ++ (uintB k ++ (uintB m ++ (uintB ch.length ++ ch))),false⟩:=by show (rdK B 0).uint.2.2 = _; rw [u0]
 have u1 : (rdK B 1).uint = (seq,0,⟨uintB k ++ (uintB m ++ (uintB ch.length ++ ch)),false⟩):=by rw [e1]; exact uint_good (uintD_B hs _)
 have e2 : rdK B 2 = ⟨uintB k ++ (uintB m ++ (uintB ch.length ++ ch)),false⟩:=by show (rdK B 1).uint.2.2 = _; rw [u1]
 have u2 : (rdK B 2).uint = (k,0,⟨uintB m ++ (uintB ch.length ++ ch),false⟩):=by rw [e2]; exact uint_good (uintD_B (by omega) _)
 have e3 : rdK B 3 = ⟨uintB m ++ (uintB ch.length ++ ch),false⟩:=by show (rdK B 2).uint.2.2 = _; rw [u2]
 have u3 : (rdK B 3).uint = (m,0,⟨uintB ch.length ++ ch,false⟩):=by rw [e3]; exact uint_good (uintD_B (by omega) _)
 have e4 : rdK B 4 = ⟨uintB ch.length ++ ch,false⟩:=by show (rdK B 3).uint.2.2 = _; rw [u3]
 have b4 : (rdK B 4).bytes = (ch,0,⟨[],false⟩):=by
  rw [e4,bytes_good (uintD_B (by omega) _) (Nat.le_refl _)]; simp
 have n0 : numK B 0 = gen:=by unfold numK; rw [u0]
 have n1 : numK B 1 = seq:=by unfold numK; rw [u1]
 have n2 : numK B 2 = k:=by unfold numK; rw [u2]
 have n3 : numK B 3 = m:=by unfold numK; rw [u3]
 have hok : insOk B = true:=insOk_yes' (by rw [b4]; rfl) (by rw [n1]; exact h1) (by rw [n3]; exact hm) (by rw [n2,n3]; exact hk) (by rw [b4]; exact hc1) (by rw [b4]; exact hc2)
 unfold insD
 rw [if_neg (by
  rintro (h | h)
  ·omega
  ·rw [hb,hX] at h; exact h rfl),if_neg (by rw [htk,hseal]; simp),if_neg (by omega),if_pos hok,n0,n1,n2,n3,b4]
theorem nCh_le {L : Nat} (h : L ≤ 6000) : nCh L ≤ 4096:=by unfold nCh; omega
theorem payR_pos (r : Rec) : 0 < (payR r).length:=by unfold payR; have:=uintB_pos r.gen; simp only [List.length_append]; omega
theorem encR_len (r : Rec) : (encR r).length = nCh (payR r).length:=by unfold encR; simp
theorem encR_get (r : Rec) {k : Nat} (hk : k < nCh (payR r).length) : (encR r)[k]? = some (secB r.gen r.seq k (nCh (payR r).length) (((payR r).drop (28 * k)).take 28)):=by
 unfold encR; rw [List.getElem?_map,List.getElem?_range hk]; rfl
theorem chunk_len {p : List Int} {k : Nat} (hk : k < nCh p.length) : 1 ≤ ((p.drop (28 * k)).take 28).length ∧ ((p.drop (28 * k)).take 28).length ≤ 28:=by
 have : nCh p.length = (p.length + 27) / 28:=rfl
 rw [List.length_take,List.length_drop]; omega
theorem ins_enc {r : Rec} (hv : Vld r) (hok : r.Ok) {k : Nat} (hk : k < nCh (payR r).length) : insD (secB r.gen r.seq k (nCh (payR r).length) (((payR r).drop (28 * k)).take 28)) = ⟨r.gen,r.seq,k,nCh (payR r).length,((payR r).drop (28 * k)).take 28,0⟩:=
 insD_sec hok.gen hok.seq hv.seq hk (nCh_le (payR_len hv)) (chunk_len hk).1 (chunk_len hk).2
theorem get_app {r : Rec} {tail : List (List Int)} {k : Nat} (hk : k < nCh (payR r).length) : (encR r ++ tail)[k]? = some (secB r.gen r.seq k (nCh (payR r).length) (((payR r).drop (28 * k)).take 28)):=by
 rw [List.getElem?_append_left (by rw [encR_len]; exact hk),encR_get r hk]
theorem hd_enc {r : Rec} (hv : Vld r) (hok : r.Ok) (tail : List (List Int)) : hdD (encR r ++ tail) = ⟨r.gen,r.seq,0,nCh (payR r).length,((payR r).drop (28 * 0)).take 28,0⟩:=by
 have h0 : 0 < nCh (payR r).length:=by have:=payR_pos r; unfold nCh; omega
 have hg:=get_app (r:=r) (tail:=tail) h0
 unfold hdD
 rw [← ins_enc hv hok h0]
 congr 1
 cases h : encR r ++ tail with
 | nil=>rw [h] at hg; cases hg
 | cons a l=>rw [h] at hg; simpa using hg
theorem part_enc {r : Rec} (hv : Vld r) (hok : r.Ok) (tail : List (List Int)) {k : Nat} (hk : k < nCh (payR r).length) : partE (encR r ++ tail) k = 0:=by
 have hg:=get_app (r:=r) (tail:=tail) hk
 have hkl : k < (encR r ++ tail).length:=by
  rcases Nat.lt_or_ge k (encR r ++ tail).length with h | h
  ·exact h
  ·rw [List.getElem?_eq_none h] at hg; cases hg
 rw [List.getElem?_eq_getElem hkl] at hg
 injection hg with hg
 unfold partE
 rw [dif_pos hkl,hg,ins_enc hv hok hk,hd_enc hv hok]
 simp
theorem all_enc {r : Rec} (hv : Vld r) (hok : r.Ok) (tail : List (List Int)) : ∀ k,k ≤ nCh (payR r).length → allB (encR r ++ tail) k = (payR r).take (28 * k)
 | 0,_=>by simp [allB]
 | k + 1,hk=>by
   unfold allB
   rw [all_enc hv hok tail k (by omega)]
   have hg:=get_app (r:=r) (tail:=tail) (k:=k) (by omega)
   have : (encR r ++ tail).getD k [] = secB r.gen r.seq k (nCh (payR r).length) (((payR r).drop (28 * k)).take 28):=by
    rw [List.getD_eq_getElem?_getD,hg]; rfl
   rw [this,ins_enc hv hok (by omega)]
   simp only
   rw [show 28 * (k + 1) = 28 * k + 28 by omega,List.take_add]
theorem dec_enc {r : Rec} (hv : validR r = true) (hok : r.Ok) (tail : List (List Int)) : decD (encR r ++ tail) = ⟨r,(encR r).length,0⟩:=by
 have hvl:=validR_vld hv
 have hh:=hd_enc hvl hok tail
 have h0 : 0 < nCh (payR r).length:=by have:=payR_pos r; unfold nCh; omega
 have hp : (hdD (encR r ++ tail)).parts = nCh (payR r).length:=by rw [hh]
 rw [decD_end (by rw [hp]; exact h0) (fun i hi=>part_enc hvl hok tail (by rw [hp] at hi; exact hi)),hp]
 unfold decEnd
 have ha : allB (encR r ++ tail) (nCh (payR r).length) = payR r:=by
  rw [all_enc hvl hok tail _ (Nat.le_refl _)]
  apply List.take_of_length_le
  unfold nCh; omega
 rw [ha,recD_pay hv hok]
 simp only
 rw [if_pos (by rw [← encR_len r,List.take_left]),encR_len]
end Go.Proofs.YtaggiceejcegdaaGreat
namespace Go.Proofs.YtaggiceejcegdaaGreat
set_option linter.unusedVariables false
theorem partE_get {ls : List (List Int)} {i : Nat} (h : partE ls i = 0) : ∃ b,ls[i]? = some b ∧ (insD b).er = 0 ∧ (insD b).gen = (hdD ls).gen ∧ (insD b).seq = (hdD ls).seq ∧ (insD b).part = i ∧ (insD b).parts = (hdD ls).parts:=by
 unfold partE at h
 split at h
 ·rename_i hi
  split at h
  ·rename_i h1; exact absurd h h1
  ·rename_i h1
   split at h
   ·rename_i h2
    exact ⟨_,List.getElem?_eq_getElem hi,by simpa using h1,h2⟩
   ·exact absurd h (by decide)
 ·exact absurd h (by decide)
theorem partE_er {ls : List (List Int)} {i : Nat} : partE ls i = 0 ∨ partE ls i = 5 ∨ partE ls i = 6:=by
 unfold partE
 split
 ·split
  ·exact insD_er
  ·split
   ·exact .inl rfl
   ·exact .inr (.inl rfl)
 ·exact .inr (.inl rfl)
theorem scan_ne {ls : List (List Int)} {e : Int} : ∀ {k : Nat},scanE ls k = some e → e = 5 ∨ e = 6
 | 0,h=>by cases h
 | k + 1,h=>by
   unfold scanE at h
   cases h1 : scanE ls k with
   | some e'=>rw [h1] at h; injection h with h; subst h; exact scan_ne h1
   | none=>
     rw [h1] at h
     simp only at h
     split at h
     ·cases h
     ·rename_i h2
      injection h with h; subst h
      rcases partE_er (ls:=ls) (i:=k) with h3 | h3
      ·exact absurd h3 h2
      ·exact h3
theorem scan_all {ls : List (List Int)} : ∀ {k : Nat},scanE ls k = none → ∀ i,i < k → partE ls i = 0
 | 0,_,i,hi=>by omega
 | k + 1,h,i,hi=>by
   unfold scanE at h
   cases h1 : scanE ls k with
   | some e'=>rw [h1] at h; cases h
   | none=>
     rw [h1] at h
     simp only at h
     split at h
     ·rename_i h2
      by_cases hk : i = k
      ·subst hk; exact h2
      ·exact scan_all h1 i (by omega)
     ·cases h
theorem dec_er (ls : List (List Int)) : (decD ls).er = 0 ∨ (((decD ls).er = 5 ∨ (decD ls).er = 6) ∧ (decD ls).n = 0):=by
 unfold decD
 split
 ·rename_i h
  rcases partE_er (ls:=ls) (i:=0) with h3 | h3
  ·exact absurd h3 h
  ·exact .inr ⟨h3,rfl⟩
 ·cases h1 : scanE ls (hdD ls).parts with
  | some e=>exact .inr ⟨scan_ne h1,rfl⟩
  | none=>
    simp only
    unfold decEnd
    split
    ·exact .inr ⟨.inl rfl,rfl⟩
    ·split
     ·exact .inl rfl
     ·exact .inr ⟨.inl rfl,rfl⟩
theorem dec_zero {ls : List (List Int)} (h : (decD ls).er = 0) : partE ls 0 = 0 ∧ (∀ i,i < (hdD ls).parts → partE ls i = 0) ∧ ∃ r,recD (allB ls (hdD ls).parts) = some r ∧ encR r = ls.take (hdD ls).parts ∧ decD ls = ⟨r,(hdD ls).parts,0⟩:=by
 have h0 : partE ls 0 = 0:=by
  rcases Classical.em (partE ls 0 = 0) with h0 | h0
  ·exact h0
  ·unfold decD at h; rw [if_pos h0] at h; exact absurd h h0
 have hd : decD ls = match scanE ls (hdD ls).parts with
  | some e=>.bad e
  | none=>decEnd ls (hdD ls).parts:=by
  unfold decD
  rw [if_neg (by rw [h0]; simp)]
  all_goals rfl
 cases h1 : scanE ls (hdD ls).parts with
 | some e=>
   rw [hd,h1] at h
   have h2 : e = 0:=h
   rcases scan_ne h1 with h3 | h3 <;> omega
 | none=>
   refine ⟨h0,scan_all h1,?_⟩
   rw [hd,h1] at h ⊢
   simp only at h ⊢
   unfold decEnd at h ⊢
   cases h2 : recD (allB ls (hdD ls).parts) with
   | none=>rw [h2] at h; exact absurd h (by show ¬ (5 : Int) = 0; decide)
   | some r=>
     rw [h2] at h
     simp only at h ⊢
     by_cases h3 : encR r = ls.take (hdD ls).parts
     ·exact ⟨r,rfl,h3,by rw [if_pos h3]⟩
     ·rw [if_neg h3] at h; exact absurd h (by show ¬ (5 : Int) = 0; decide)
def misL (how k j : Nat) (ls ms : List (List Int)) : List (List Int):=
 if how = 0 then ls.set k []
 else if how = 1 then ls.set k ((ls.getD k []).take ((ls.getD k []).length / 2))
 else if how = 2 then ls.set k (ms.getD j [])
 else ls.take k
end Go.Proofs.YtaggiceejcegdaaGreat
namespace Go.Proofs.YtaggiceejcegdaaGreat
set_option linter.unusedVariables false
open Go.RowKit
def stepOk (ls : List (List Int)) (gen a k : Nat) : Bool:=decide ((decD (ls.drop a)).er = 0) && decide ((decD (ls.drop a)).r.gen = gen) && decide ((decD (ls.drop a)).r.seq = k + 1)
def scanS (ls : List (List Int)) (gen : Nat) : Nat → List Rec × Nat
 | 0=>([],0)
 | i + 1=>if stepOk ls gen (scanS ls gen i).2 (scanS ls gen i).1.length = true then ((scanS ls gen i).1 ++ [(decD (ls.drop (scanS ls gen i).2)).r],(scanS ls gen i).2 + (decD (ls.drop (scanS ls gen i).2)).n) else scanS ls gen i
def scanD (ls : List (List Int)) (gen : Nat) : List Rec × Nat:=scanS ls gen (ls.length + 1)
theorem dec_n {ls : List (List Int)} (h : (decD ls).er = 0) : 1 ≤ (decD ls).n ∧ (decD ls).n ≤ ls.length:=by
 obtain ⟨h0,h1,r,hr,he,hd⟩:=dec_zero h
 have hl : ∀ i,i < (hdD ls).parts → i < ls.length:=fun i hi=>by
  obtain ⟨b,e,_⟩:=partE_get (h1 i hi)
  exact (List.getElem?_eq_some_iff.1 e).1
 have hle : (hdD ls).parts ≤ ls.length:=by
  rcases Nat.lt_or_ge ls.length (hdD ls).parts with h2 | h2
  ·have:=hl _ h2; omega
  ·exact h2
 have hlen:=congrArg List.length he
 rw [encR_len,List.length_take] at hlen
 have hpos : 0 < nCh (payR r).length:=by have:=payR_pos r; unfold nCh; omega
 rw [hd]
 exact ⟨by show 1 ≤ (hdD ls).parts; omega,hle⟩
theorem decD_nil : decD [] = Dec.bad 5:=by
 have h : partE [] 0 = 5:=rfl
 unfold decD
 rw [h]; rfl
theorem stepOk_end {ls : List (List Int)} {gen a k : Nat} (h : ls.length ≤ a) : stepOk ls gen a k = false:=by
 unfold stepOk
 rw [List.drop_eq_nil_of_le h,decD_nil]; rfl
theorem stepOk_iff {ls : List (List Int)} {gen a k : Nat} : stepOk ls gen a k = true ↔ (decD (ls.drop a)).er = 0 ∧ (decD (ls.drop a)).r.gen = gen ∧ (decD (ls.drop a)).r.seq = k + 1:=by
 unfold stepOk
 simp [and_assoc]
theorem scan_next {ls : List (List Int)} {gen i : Nat} {X : List Rec × Nat} (hX : scanS ls gen i = X) (h : stepOk ls gen X.2 X.1.length = true) : scanS ls gen (i + 1) = (X.1 ++ [(decD (ls.drop X.2)).r],X.2 + (decD (ls.drop X.2)).n):=by
 show (if _ then _ else _) = _
 rw [hX,if_pos h]
theorem scan_stay {ls : List (List Int)} {gen i : Nat} (h : stepOk ls gen (scanS ls gen i).2 (scanS ls gen i).1.length = false) : ∀ j,scanS ls gen (i + j) = scanS ls gen i
 | 0=>rfl
 | j + 1=>by
   show (if stepOk ls gen (scanS ls gen (i + j)).2 (scanS ls gen (i + j)).1.length = true then _ else _) = _
   rw [scan_stay h j,h,if_neg (by decide)]; exact scan_stay h j
theorem scan_bound {ls : List (List Int)} {gen : Nat} : ∀ i,(scanS ls gen i).1.length = i → i ≤ (scanS ls gen i).2 ∧ (scanS ls gen i).2 ≤ ls.length
 | 0,_=>⟨Nat.le_refl _,Nat.zero_le _⟩
 | i + 1,h=>by
   have h0 : scanS ls gen (i + 1) = if stepOk ls gen (scanS ls gen i).2 (scanS ls gen i).1.length = true then ((scanS ls gen i).1 ++ [(decD (ls.drop (scanS ls gen i).2)).r],(scanS ls gen i).2 + (decD (ls.drop (scanS ls gen i).2)).n) else scanS ls gen i:=rfl
   have hle : ∀ i,(scanS ls gen i).1.length ≤ i:=by
    intro i
    induction i with
    | zero=>exact Nat.le_refl _
    | succ i ih=>
      have hs : scanS ls gen (i + 1) = if stepOk ls gen (scanS ls gen i).2 (scanS ls gen i).1.length = true then ((scanS ls gen i).1 ++ [(decD (ls.drop (scanS ls gen i).2)).r],(scanS ls gen i).2 + (decD (ls.drop (scanS ls gen i).2)).n) else scanS ls gen i:=rfl
      rw [hs]
      split
      ·rw [List.length_append,List.length_singleton]; omega
      ·omega
   rw [h0] at h ⊢
   split at h
   ·rename_i h1
    rw [if_pos h1]
    rw [List.length_append,List.length_singleton] at h
    obtain ⟨b1,b2⟩:=scan_bound (ls:=ls) (gen:=gen) i (by omega)
    have h2:=dec_n (stepOk_iff.1 h1).1
    rw [List.length_drop] at h2
    exact ⟨by show _ ≤ _ + _; omega,by show _ + _ ≤ _; omega⟩
   ·have:=hle i; omega
theorem scan_fin {ls : List (List Int)} {gen i : Nat} {X : List Rec × Nat} (hX : scanS ls gen i = X) (hl : X.1.length = i) (h : stepOk ls gen X.2 X.1.length = false) : scanD ls gen = X:=by
 subst hX
 have hb:=scan_bound i hl
 unfold scanD
 rw [show ls.length + 1 = i + (ls.length + 1 - i) by omega,scan_stay h]
def okAt (l : List Rec) (i : Nat) : Bool:=match l[i]? with
 | none=>true
 | some r=>validR r && decide (r.gen = (l.headD zRec).gen) && decide (r.seq = i + 1)
def logV (l : List Rec) : Bool:=(List.range l.length).all (okAt l)
theorem okAt_get {l : List Rec} {i : Nat} (hi : i < l.length) : okAt l i = (validR l[i] && decide (l[i].gen = (l.headD zRec).gen) && decide (l[i].seq = i + 1)):=by
 unfold okAt; rw [List.getElem?_eq_getElem hi]
theorem range_all {f : Nat → Bool} {k : Nat} (h : (List.range k).all f = true) (hf : f k = true) : (List.range (k + 1)).all f = true:=by
 rw [List.range_succ,List.all_append,h]; simp [hf]
theorem logV_no {l : List Rec} {k : Nat} (hk : k < l.length) (h : okAt l k = false) : logV l = false:=by
 unfold logV
 rw [List.all_eq_false]
 exact ⟨k,List.mem_range.2 hk,by rw [h]; decide⟩
theorem logV_at {l : List Rec} (h : logV l = true) {i : Nat} (hi : i < l.length) : validR l[i] = true ∧ l[i].gen = (l.headD zRec).gen ∧ l[i].seq = i + 1:=by
 unfold logV at h
 rw [List.all_eq_true] at h
 have:=h i (List.mem_range.2 hi)
 rw [okAt_get hi] at this
 simp only [Bool.and_eq_true,decide_eq_true_eq] at this
 exact ⟨this.1.1,this.1.2,this.2⟩
def secsL (l : List Rec) : List (List Int):=l.flatMap encR
theorem secsL_take {l : List Rec} {k : Nat} (h : k < l.length) : secsL (l.take (k + 1)) = secsL (l.take k) ++ encR l[k]:=by
 unfold secsL; rw [List.take_succ_eq_append_getElem h,List.flatMap_append]; simp
theorem secsL_app (a b : List Rec) : secsL (a ++ b) = secsL a ++ secsL b:=by unfold secsL; rw [List.flatMap_append]
theorem secsL_len {l : List Rec} (h : ∀ r ∈ l,validR r = true) : (secsL l).length ≤ l.length * 4096:=by
 unfold secsL
 induction l with
 | nil=>simp
 | cons a l ih=>
   rw [List.flatMap_cons,List.length_append,List.length_cons,Nat.add_mul]
   have h1:=ih (fun r hr=>h r (by simp [hr]))
   have h2 : (encR a).length ≤ 4096:=by rw [encR_len]; exact nCh_le (payR_len (validR_vld (h a (by simp))))
   omega
theorem logV_mem {l : List Rec} (h : logV l = true) : ∀ r ∈ l,validR r = true:=fun r hr=>by
 obtain ⟨i,hi,rfl⟩:=List.mem_iff_getElem.1 hr
 exact (logV_at h hi).1
end Go.Proofs.YtaggiceejcegdaaGreat

/-
  WHAT IS SHOWN: plain facts on memory: what keeps other memory while a log works. plain facts, of no program: disks without faults whose power may fail, and what lies on them behind writes in a row. plain facts on the document's example of tegulalaw49, and what keeps other memory while a log works. plain facts on memory: a pair of disks and a log. disks of the program and of the reference side by side: what Write, Read and Flush of wal and of tegularef49 return and leave of one of them. what a walk is told of the parameters of tegulalaw27: bytes, sectors, records. what a walk is told of the parameters of tegulalaw28: lists of records, lists of lists of records. what a walk is told of the parameters of tegulalaw49: faults, lists of faults, records. plain facts on a log that grows; what twins returns for disks without faults; how a log and its disks begin. awake of tegulalaw49 returns true. Conditions: as each theorem names them.
-/
import Derived.Test.YtaggiceejcegdaaGreatNc32
import Derived.Test.YtaggiceejcegdaaGreatNc21
import Derived.Test.YtaggiceejcegdaaGreatNc07
import Derived.Test.YtaggiceejcegdaaGreatNc09
import Derived.Deep.DeepCutAuto
import Derived.Test.YtaggiceejcegdaaGreatNc06
import Derived.Test.YtaggiceejcegdaaGreatNc15
import Derived.Test.YtaggiceejcegdaaGreatNc34
import Derived.Test.YtaggiceejcegdaaGreatNc30
import Derived.ProofKit
import Derived.OpenShut
import Derived.ChangeOld
import Derived.Deep.Slices
import Derived.Deep.Fields
import Derived.Lib.SmallJoins
import Derived.Test.YtaggiceejcegdaaGreatNc33
namespace Go.Proofs.YtaggiceejcegdaaGreat
set_option linter.unusedVariables false
open Go.RowKit
section
variable {w w' : World} {n n' b : Nat} {S : LogS} {V : Option Nat}
theorem LogM.mono (h : LogM w n' b V S) (hn : n ≤ n') : LogM w n b V S:=by
 obtain ⟨A,c,xs,h,e⟩:=h
 exact ⟨A,c,xs,⟨own_mono h.obj hn,h.rec_,h.own.mono hn⟩,e⟩
theorem LogM.vt (h : LogM w n b V S) {k : Nat} (hv : V = some k) : IsT 28 w k:=by
 obtain ⟨A,c,xs,h,e⟩:=h
 rw [hv] at e
 rcases h.own.own.2 with ⟨e2,_⟩ | ⟨g,cap,cur,e2,_,h4,_⟩
 ·rw [e2] at e; cases e
 ·rw [e2] at e
  obtain rfl : g = k:=by simpa [Value.ownBlock] using e
  exact IsT.of h4
theorem KeptA.no {k : Nat} {t : TypeId} (h : LogM w n b V S) (ht : IsT t w k) (h1 : t ∉ LDT) (h2 : t ≠ 28) : ¬ (n ≤ k ∧ (HasT LDT w k ∨ V = some k)):=by
 rintro ⟨_,hh | hh⟩
 ·exact HasT.no ht h1 hh
 ·exact h2 (ht.same (h.vt hh))
theorem KeptA.row {base size m : Nat} {t : TypeId} {v : Value} {xs : List Value} (hk : KeptA n V w w') (h : LogM w n b V S) (ho : w.ownsRow base t size v m xs) (h1 : t ∉ LDT) (h2 : t ≠ 28) : w'.ownsRow base t size v m xs:=
 own_kept ho hk (fun k e=>by
  rcases ho.2 with ⟨e2,_⟩ | ⟨g,cap,cur,e2,_,h4,_⟩
  ·rw [e2] at e; cases e
  ·rw [e2] at e
   obtain rfl : g = k:=by simpa [Value.ownBlock] using e
   exact KeptA.no h (IsT.of h4) h1 h2)
theorem KeptA.below (hk : KeptA n V w w') (hn : n ≤ w.heap.size) : Below n w w':=Kept.below hk (fun i h=>h.1) hn
end
end Go.Proofs.YtaggiceejcegdaaGreat
namespace Go.Proofs.YtaggiceejcegdaaGreat
set_option linter.unusedVariables false
open Go.RowKit
theorem quintB_len1 {n : Nat} (h : n < 128) : (uintB n).length = 1:=by unfold uintB; rw [uintF_small h]; rfl
theorem quintB_len2 {n : Nat} (h : n < 16384) : (uintB n).length ≤ 2:=by
 by_cases h1 : n < 128
 ·rw [quintB_len1 h1]; omega
 ·unfold uintB; rw [uintF_big h1,uintF_small (by omega)]; simp
theorem qsec_len64 {gen seq k m : Nat} {ch : List Int} (hk : k < 16384) (hm : m < 16384) (hc : ch.length ≤ 28) : (secB gen seq k m ch).length ≤ 64:=by
 unfold secB sealB hdS
 have h1:=uintB_len gen; have h2:=uintB_len seq; have h3:=quintB_len2 hk; have h4:=quintB_len2 hm
 have h5:=quintB_len1 (n:=ch.length) (by omega)
 have h6 : ∀ s,(be8 s).length = 8:=fun _=>rfl
 simp only [List.length_append,h6,h5,List.length_cons,List.length_nil]
 omega
theorem qenc_each {r : Rec} (hv : validR r = true) (hok : r.Ok) {k : Nat} (hk : k < (encR r).length) : ∃ s ch,(encR r)[k]? = some s ∧ insD s = ⟨r.gen,r.seq,k,(encR r).length,ch,0⟩ ∧ s.length ≤ 64 ∧ 0 < ch.length:=by
 have hn : k < nCh (payR r).length:=by rw [← encR_len]; exact hk
 have hl:=chunk_len hn
 have hm:=nCh_le (payR_len (validR_vld hv))
 refine ⟨_,((payR r).drop (28 * k)).take 28,encR_get r hn,?_,qsec_len64 (by omega) (by omega) hl.2,by omega⟩
 rw [encR_len]; exact ins_enc (validR_vld hv) hok hn
theorem encR_64 {r : Rec} (hv : validR r = true) (hok : r.Ok) : ∀ s ∈ encR r,s.length ≤ 64:=by
 intro s hs
 obtain ⟨k,hk,rfl⟩:=List.getElem_of_mem hs
 obtain ⟨s,ch,h1,_,h3,_⟩:=qenc_each hv hok hk
 rw [List.getElem?_eq_getElem hk] at h1
 injection h1 with h1
 rw [h1]; exact h3
def gQ : Geo:=⟨20,1,2,2,1⟩
def setSeq (L : List Sec) (a : Nat) : List (List Int) → List Sec
 | []=>L
 | x :: xs=>setSeq (L.set a ⟨1,x⟩) (a + 1) xs
theorem setSeq_len (a : Nat) : ∀ (xs : List (List Int)) (L : List Sec) (b : Nat),(setSeq L b xs).length = L.length
 | [],L,b=>rfl
 | x :: xs,L,b=>by unfold setSeq; rw [setSeq_len a xs]; simp
theorem setSeq_below : ∀ (xs : List (List Int)) (L : List Sec) (a i : Nat),i < a → (setSeq L a xs)[i]? = L[i]?
 | [],L,a,i,h=>rfl
 | x :: xs,L,a,i,h=>by rw [setSeq,setSeq_below xs _ _ _ (by omega),List.getElem?_set_ne (by omega)]
theorem setSeq_above : ∀ (xs : List (List Int)) (L : List Sec) (a i : Nat),a + xs.length ≤ i → (setSeq L a xs)[i]? = L[i]?
 | [],L,a,i,h=>rfl
 | x :: xs,L,a,i,h=>by
   rw [List.length_cons] at h
   rw [setSeq,setSeq_above xs _ _ _ (by omega),List.getElem?_set_ne (by omega)]
theorem setSeq_at : ∀ (xs : List (List Int)) (L : List Sec) (a i : Nat) (hi : i < xs.length),a + xs.length ≤ L.length → (setSeq L a xs)[a + i]? = some ⟨1,xs[i]⟩
 | [],L,a,i,hi,_=>by simp at hi
 | x :: xs,L,a,0,hi,h=>by
   rw [List.length_cons] at h
   rw [setSeq,setSeq_below xs _ _ _ (by omega),Nat.add_zero,List.getElem?_set_self (by omega)]; rfl
 | x :: xs,L,a,i + 1,hi,h=>by
   rw [List.length_cons] at h hi
   rw [setSeq,show a + (i + 1) = a + 1 + i by omega,setSeq_at xs _ _ i (by omega) (by simp; omega)]
   simp
def opsAt : Nat → List (List Int) → List OpV
 | _,[]=>[]
 | a,x :: xs=>⟨false,a,x,none,0⟩ :: opsAt (a + 1) xs
theorem opsAt_len : ∀ (xs : List (List Int)) (a : Nat),(opsAt a xs).length = xs.length
 | [],a=>rfl
 | x :: xs,a=>by rw [opsAt,List.length_cons,opsAt_len xs,List.length_cons]
theorem opsAt_snoc : ∀ (xs : List (List Int)) (a : Nat) (y : List Int),opsAt a (xs ++ [y]) = opsAt a xs ++ [⟨false,((a + xs.length : Nat) : Int),y,none,0⟩]
 | [],a,y=>rfl
 | x :: xs,a,y=>by
   rw [List.cons_append,opsAt,opsAt,opsAt_snoc xs,List.cons_append,List.length_cons,show a + 1 + xs.length = a + (xs.length + 1) by omega]
theorem shQ {a : Nat} (h : a < 20) : shadowL gQ a = []:=by
 apply shadow_out
 rw [loc_out (by decide) (by
  unfold inR szN gQ
  simp
  omega)]
 decide
theorem writeQ {L : List Sec} {a : Nat} {x : List Int} (ha : a < 20) (hl : L.length = 24) (hx : x.length ≤ 64) : writeL gQ L a x = L.set a ⟨1,x⟩:=by
 unfold writeL
 rw [shQ ha,decide_eq_true hx]
 have : inL L a = true:=(inL_iff L a).2 ⟨by omega,by omega⟩
 rw [this]
 rfl
theorem playQ : ∀ (ys : List (List Int)) (L : List Sec) (a : Nat),a + ys.length ≤ 20 → L.length = 24 → (∀ y ∈ ys,y.length ≤ 64) → playL gQ L (opsAt a ys) = setSeq L a ys
 | [],L,a,_,_,_=>rfl
 | y :: ys,L,a,h,hl,hy=>by
   rw [List.length_cons] at h
   rw [opsAt,setSeq]
   show playL gQ (doL gQ L ⟨false,a,y,none,0⟩) (opsAt (a + 1) ys) = _
   have e : doL gQ L ⟨false,a,y,none,0⟩ = L.set a ⟨1,y⟩:=by
    unfold doL
    simp only [Bool.false_eq_true,if_false]
    exact writeQ (by omega) hl (hy y (by simp))
   rw [e]
   exact playQ ys _ (a + 1) (by omega) (by simp [hl]) (fun z hz=>hy z (by simp [hz]))
structure GoodD (s : DS) : Prop where
 d : s.dead = false
 k : s.key = 0
 e : s.seen = 0
def OnP (P : Pow) : Prop:=P.off = false ∧ P.fails = 0
def OffP (P : Pow) : Prop:=P.off = true ∧ P.fails = 1 ∧ P.armed = false
theorem stQ_on {s : DS} {P : Pow} (h : GoodD s) (hp : OnP P) : stE s P = 0:=by
 unfold stE; rw [h.d,hp.1,h.e,hp.2]; simp
theorem begQ_on {s : DS} {P : Pow} (h : GoodD s) (hp : OnP P) (ht : trip P = false) : begD [] s P 0 = ⟨0,{ s with ops:=wrap64 (s.ops + 1) },callP P,noF⟩:=by
 have ho : ¬ (callP P).off = true:=by unfold callP; rw [ht]; simp [hp.1]
 unfold begD
 rw [if_neg (by simp [stQ_on h hp]),if_neg ho,if_neg (by simp [h.k])]
 rfl
theorem begQ_trip {s : DS} {P : Pow} (h : GoodD s) (hp : OnP P) (ht : trip P = true) : begD [] s P 0 = ⟨13,s,callP P,noF⟩:=by
 have ho : (callP P).off = true:=by unfold callP; rw [ht]; rfl
 unfold begD
 rw [if_neg (by simp [stQ_on h hp]),if_pos ho]
theorem begQ_off {s : DS} {P : Pow} (h : GoodD s) (hp : P.off = true) : begD [] s P 0 = ⟨13,s,P,noF⟩:=by
 have hs : stE s P = 13:=by unfold stE; rw [h.d,hp]; simp
 unfold begD
 rw [if_pos (by rw [hs]; decide),hs]
theorem callQ_on {P : Pow} (hp : OnP P) (ht : trip P = false) : OnP (callP P) ∧ (callP P).armed = P.armed:=by
 unfold callP; rw [ht]; exact ⟨⟨hp.1,hp.2⟩,rfl⟩
theorem callQ_trip {P : Pow} (hp : OnP P) (ht : trip P = true) : OffP (callP P):=by
 unfold callP; rw [ht,hp.2]; exact ⟨rfl,(by decide +kernel : wrap64 (0 + 1) = 1),rfl⟩
theorem try_one {f : DC → DC × Ans} {d : DC} (h : ¬ (f d).2.er = 16) : tryD f d = f d:=by
 rw [try_stop (k:=0) (fun j hj=>by omega) (.inr ⟨by omega,h⟩)]; rfl
theorem wOneQ_on {d : DC} {a : Nat} {xs : List Int} (h : GoodD d.s) (hp : OnP d.P) (ht : trip d.P = false) (ha : a < 20) (hl : d.L.length = 24) (hx : xs.length ≤ 64) :
  ∃ s',GoodD s' ∧ wOne gQ [] 0 a xs d = (⟨s',callP d.P,d.L,d.O ++ [⟨false,a,xs,none,0⟩]⟩,⟨0,[]⟩):=by
 have hb:=begQ_on h hp ht
 have hin : inL d.L a = true:=(inL_iff d.L a).2 ⟨by omega,by omega⟩
 have hin2 : inL (playL gQ d.L d.O) a = true:=(inL_iff _ a).2 ⟨by omega,by rw [playL_len]; omega⟩
 have he : wrE d.L a xs = 0:=by unfold wrE; rw [if_pos hin,if_pos hx]
 have hop : wOp a xs noF = ⟨false,a,xs,none,0⟩:=rfl
 have hh : wHit gQ d.L d.O a xs noF = true:=by
  unfold wHit
  rw [he,hop]
  have e1 : doE gQ (playL gQ d.L d.O) ⟨false,a,xs,none,0⟩ = 0:=by
   unfold doE; simp only [Bool.false_eq_true,if_false]; unfold writeE; rw [if_pos hin2,if_pos hx]
  rw [e1]; rfl
 refine ⟨{ ({ d.s with ops:=wrap64 (d.s.ops + 1) } : DS) with w:=wrap64 (d.s.w + 1) },⟨h.d,h.k,h.e⟩,?_⟩
 unfold wOne dWrS dWrLM dWrO dWrE
 rw [hb]
 simp only [if_true]
 unfold wrS wrLM wrO
 rw [he,hh,hop]
 rfl
theorem wOneQ_trip {d : DC} {a : Int} {xs : List Int} (h : GoodD d.s) (hp : OnP d.P) (ht : trip d.P = true) : wOne gQ [] 0 a xs d = (⟨d.s,callP d.P,d.L,d.O⟩,⟨13,[]⟩):=by
 have hb:=begQ_trip h hp ht
 unfold wOne dWrS dWrLM dWrO dWrE
 rw [hb]
 rfl
theorem wOneQ_off {d : DC} {a : Int} {xs : List Int} (h : GoodD d.s) (hp : d.P.off = true) : wOne gQ [] 0 a xs d = (d,⟨13,[]⟩):=by
 have hb:=begQ_off h hp
 unfold wOne dWrS dWrLM dWrO dWrE
 rw [hb]
 rfl
structure WrQ (a : Nat) (ls : List (List Int)) (d : DC) (k j : Nat) (x : DC × Int) : Prop where
 jk : j ≤ k
 s : GoodD x.1.s
 L : x.1.L = d.L
 O : x.1.O = d.O ++ opsAt a (ls.take j)
 on : OnP x.1.P → OnP d.P ∧ j = k ∧ x.2 = 0
 off : OnP d.P → OnP x.1.P ∨ OffP x.1.P
 gone : OffP d.P → j = 0 ∧ x.1.P = d.P
 free : d.P.armed = false → OnP d.P → OnP x.1.P ∧ x.1.P.armed = false
theorem wrAllQ {a : Nat} {ls : List (List Int)} {d : DC} (h : GoodD d.s) (hp : OnP d.P ∨ OffP d.P) (ha : a + ls.length ≤ 20) (hl : d.L.length = 24) (hx : ∀ x ∈ ls,x.length ≤ 64) :
  ∀ k,k ≤ ls.length → ∃ j,WrQ a ls d k j (wrAll gQ [] 0 a ls d k)
 | 0,_=>⟨0,by omega,h,rfl,by simp [opsAt,wrAll],fun hh=>⟨hh,rfl,rfl⟩,fun hh=>.inl hh,fun _=>⟨rfl,rfl⟩,fun hh ho=>⟨ho,hh⟩⟩
 | k + 1,hk=>by
   obtain ⟨j,hw⟩:=wrAllQ h hp ha hl hx k (by omega)
   by_cases h0 : (wrAll gQ [] 0 a ls d k).2 = 0
   ·have hgd : ls.getD k [] = ls[k]:=by simp [List.getD,show k < ls.length by omega]
    have hxk:=hx ls[k] (List.getElem_mem (by omega))
    rw [wrAll,if_pos h0,hgd]
    have hcast : ((a : Int) + (k : Int)) = ((a + k : Nat) : Int):=by omega
    rw [hcast]
    generalize wrAll gQ [] 0 a ls d k = W at *
    obtain ⟨D,er0⟩:=W
    have hwL : D.L = d.L:=hw.L
    have hws : GoodD D.s:=hw.s
    have hwO : D.O = d.O ++ opsAt a (ls.take j):=hw.O
    simp only at h0 ⊢
    by_cases hon : OnP D.P
    ·obtain ⟨hond,rfl,_⟩:=hw.on hon
     cases ht : trip D.P
     ·obtain ⟨s',hs',e⟩:=wOneQ_on (a:=a + j) hws hon ht (by omega) (by rw [hwL]; exact hl) hxk
      rw [try_one (by rw [e]; simp),e]
      obtain ⟨c1,c2⟩:=callQ_on hon ht
      refine ⟨j + 1,by omega,hs',hw.L,?_,fun _=>⟨hond,rfl,rfl⟩,fun _=>.inl c1,fun hh=>absurd hh.1 (by rw [hond.1]; decide),fun hh ho=>⟨c1,c2.trans (hw.free hh ho).2⟩⟩
      show D.O ++ _ = _
      rw [hwO,List.take_succ_eq_append_getElem (by omega),opsAt_snoc,List.append_assoc,List.length_take,Nat.min_eq_left (by omega)]
     ·have e:=wOneQ_trip (a:=((a + j : Nat) : Int)) (xs:=ls[j]) hws hon ht
      rw [try_one (by rw [e]; simp),e]
      have c1:=callQ_trip hon ht
      refine ⟨j,by omega,hw.s,hw.L,hw.O,fun hh=>absurd hh.1 (by show ¬ (callP D.P).off = false; rw [c1.1]; decide),fun _=>.inr c1,fun hh=>absurd hh.1 (by rw [hond.1]; decide),fun hh ho=>?_⟩
      have:=(hw.free hh ho).2
      unfold trip at ht
      rw [this] at ht
      cases ht
    ·have hoff : D.P.off = true:=by
      rcases hp with hp | hp
      ·rcases hw.off hp with h1 | h1
       ·exact absurd h1 hon
       ·exact h1.1
      ·rw [(hw.gone hp).2]; exact hp.1
     have e:=wOneQ_off (a:=((a + k : Nat) : Int)) (xs:=ls[k]) hws hoff
     rw [try_one (by rw [e]; simp),e]
     exact ⟨j,by have:=hw.jk; omega,hw.s,hw.L,hw.O,fun hh=>absurd hh hon,hw.off,hw.gone,fun hh ho=>absurd (hw.free hh ho).1 hon⟩
   ·rw [wrAll,if_neg h0]
    have hon : ¬ OnP (wrAll gQ [] 0 a ls d k).1.P:=fun hh=>h0 (hw.on hh).2.2
    exact ⟨j,by have:=hw.jk; omega,hw.s,hw.L,hw.O,fun hh=>absurd hh hon,hw.off,hw.gone,fun hh ho=>absurd (hw.free hh ho).1 hon⟩
theorem rOneQ {d : DC} {a : Int} (h : d.s.dead = false ∧ d.s.key = 0 ∧ d.s.seen = d.P.fails) (hp : d.P.off = false) (hu : d.P.armed = false) (ha : inL d.L a = true) :
  ∃ s' P',rOne gQ [] 0 a d = (⟨s',P',d.L,d.O⟩,⟨readE (playL gQ d.L d.O) a,readB (playL gQ d.L d.O) a⟩) ∧ (s'.dead = false ∧ s'.key = 0 ∧ s'.seen = P'.fails) ∧ P'.off = false ∧ P'.armed = false:=by
 have ht : trip d.P = false:=by unfold trip; rw [hu]; rfl
 have hs : stE d.s d.P = 0:=by unfold stE; rw [h.1,hp,h.2.2]; simp
 have ho : ¬ (callP d.P).off = true:=by unfold callP; rw [ht]; simp [hp]
 have hb : begD [] d.s d.P 0 = ⟨0,{ d.s with ops:=wrap64 (d.s.ops + 1) },callP d.P,noF⟩:=by
  unfold begD
  rw [if_neg (by simp [hs]),if_neg ho,if_neg (by simp [h.2.1])]
  rfl
 have hin2 : inL (playL gQ d.L d.O) a = true:=by rw [inL_iff,playL_len]; exact (inL_iff d.L a).1 ha
 have he : readE (playL gQ d.L d.O) a = 0 ∨ readE (playL gQ d.L d.O) a = 15:=by unfold readE; rw [if_pos hin2]; split <;> simp
 have hf : frO a noF = a:=by unfold frO noF; rfl
 have k04 : ((0 : Int) = 4) = False:=by simp
 have e1 : rdE d.L (playL gQ d.L d.O) a noF = readE (playL gQ d.L d.O) a:=by
  unfold rdE; rw [if_pos ha,hf]; unfold noF; simp only [k04,if_false]
  rcases he with he | he <;> rw [he] <;> simp
 have hc : callP d.P = ⟨d.P.off,d.P.armed,wrap64 (d.P.left - 1),d.P.fails⟩:=by unfold callP; rw [ht]; rfl
 have e2 : rdB d.L (playL gQ d.L d.O) a noF = readB (playL gQ d.L d.O) a:=by
  unfold rdB; rw [e1,hf]; unfold readB; split <;> rfl
 unfold rOne dRdS dRdE dRdB
 rw [hb]
 simp only [if_true]
 rw [e1,e2,hc]
 refine ⟨_,_,rfl,?_,hp,hu⟩
 unfold rdS
 split
 ·exact ⟨h.1,h.2.1,h.2.2⟩
 ·exact ⟨h.1,h.2.1,h.2.2⟩
theorem readE_cases {X : List Sec} {a : Int} (h : inL X a = true) : (readE X a = 0 ∨ readE X a = 15) ∧ (¬ readE X a = 0 → readB X a = []):=by
 refine ⟨by unfold readE; rw [if_pos h]; split <;> simp,fun h0=>by unfold readB; rw [if_neg h0]⟩
theorem rdAllQ {d : DC} {a : Nat} (h : d.s.dead = false ∧ d.s.key = 0 ∧ d.s.seen = d.P.fails) (hp : d.P.off = false) (hu : d.P.armed = false) (hl : d.L.length = 24) : ∀ n,a + n ≤ 24 →
  ∃ s' P',rdAll gQ [] 0 a d n = (⟨s',P',d.L,d.O⟩,(List.range n).map (fun i=>readB (playL gQ d.L d.O) ((a + i : Nat) : Int)),0) ∧ (s'.dead = false ∧ s'.key = 0 ∧ s'.seen = P'.fails) ∧ P'.off = false ∧ P'.armed = false
 | 0,_=>⟨d.s,d.P,rfl,h,hp,hu⟩
 | n + 1,hn=>by
   obtain ⟨s',P',e,h1,h2,h3⟩:=rdAllQ (a:=a) h hp hu hl n (by omega)
   have hin : inL d.L ((a + n : Nat) : Int) = true:=(inL_iff _ _).2 ⟨by omega,by omega⟩
   have hin2 : inL (playL gQ d.L d.O) ((a + n : Nat) : Int) = true:=by rw [inL_iff,playL_len]; exact (inL_iff _ _).1 hin
   obtain ⟨s2,P2,e2,g1,g2,g3⟩:=rOneQ (d:=⟨s',P',d.L,d.O⟩) (a:=((a + n : Nat) : Int)) h1 h2 h3 hin
   obtain ⟨hc,hz⟩:=readE_cases hin2
   have hcast : ((a : Int) + (n : Int)) = ((a + n : Nat) : Int):=by omega
   refine ⟨s2,P2,?_,g1,g2,g3⟩
   rw [rdAll_yes (by rw [e]),e,hcast]
   simp only
   have e3 : tryD (rOne gQ [] 0 ((a + n : Nat) : Int)) ⟨s',P',d.L,d.O⟩ = _:=(try_one (by rw [e2]; simp only; rcases hc with hc | hc <;> rw [hc] <;> decide)).trans e2
   rw [e3]
   unfold rdNext
   simp only
   rw [List.range_succ,List.map_append]
   rcases hc with hc | hc
   ·rw [if_pos hc]; rfl
   ·rw [if_neg (by rw [hc]; decide),if_pos (.inl hc)]
    have:=hz (by rw [hc]; decide)
    simp only [List.map_cons,List.map_nil]
    rw [this]
theorem readSeq {xs : List (List Int)} (hx : ∀ x ∈ xs,x.length ≤ 64) (n : Nat) (hn : xs.length ≤ n) (hl : 1 + n ≤ 24) : (List.range n).map (fun i=>readB (setSeq (blankL gQ) 1 xs) ((1 + i : Nat) : Int)) = xs ++ List.replicate (n - xs.length) []:=by
 have hbl : (blankL gQ).length = 24:=by decide
 apply List.ext_getElem?
 intro i
 by_cases hi : i < n
 ·rw [List.getElem?_map,List.getElem?_range hi]
  have hin : inL (setSeq (blankL gQ) 1 xs) ((1 + i : Nat) : Int) = true:=(inL_iff _ _).2 ⟨by omega,by rw [setSeq_len 0,hbl]; omega⟩
  have ht : ((1 + i : Nat) : Int).toNat = 1 + i:=by omega
  simp only [Option.map_some]
  by_cases h2 : i < xs.length
  ·have hs:=setSeq_at xs (blankL gQ) 1 i h2 (by rw [hbl]; omega)
   have hd : (setSeq (blankL gQ) 1 xs).getD (1 + i) blankS = ⟨1,xs[i]⟩:=by simp only [List.getD,hs]; rfl
   have hr : readE (setSeq (blankL gQ) 1 xs) ((1 + i : Nat) : Int) = 0:=by unfold readE; rw [if_pos hin,ht,hd]; rfl
   rw [List.getElem?_append_left h2,List.getElem?_eq_getElem h2]
   congr 1
   unfold readB; rw [if_pos hr,ht,hd]
  ·have hs:=setSeq_above xs (blankL gQ) 1 (1 + i) (by omega)
   have hb : (blankL gQ)[1 + i]? = some blankS:=by
    unfold blankL
    rw [List.getElem?_replicate,if_pos (by have : (szN gQ).toNat = 24:=by decide
                                           rw [this]; omega)]
   have hd : (setSeq (blankL gQ) 1 xs).getD (1 + i) blankS = blankS:=by simp only [List.getD,hs,hb]; rfl
   have hr : ¬ readE (setSeq (blankL gQ) 1 xs) ((1 + i : Nat) : Int) = 0:=by unfold readE; rw [if_pos hin,ht,hd]; decide
   rw [List.getElem?_append_right (by omega),List.getElem?_replicate,if_pos (by omega)]
   congr 1
   unfold readB; rw [if_neg hr]
 ·rw [List.getElem?_eq_none (by simp; omega),List.getElem?_eq_none (by simp; omega)]
end Go.Proofs.YtaggiceejcegdaaGreat
namespace Go.Proofs.YtaggiceejcegdaaGreat
set_option linter.unusedVariables false
open Go.RowKit
def e0W : Rec:=⟨0,0,[],[],[]⟩
def n60W : Rec:=⟨0,0,[],[],List.replicate 60 0⟩
def S0W : LogS:=⟨3,1,4,0,[]⟩
def r1W : Rec:=⟨3,1,[],[],[]⟩
def r2W : Rec:=⟨3,2,[],[],[]⟩
def S1W : LogS:=⟨3,1,4,1,[r1W]⟩
def S2W : LogS:=⟨3,1,4,2,[r1W,r2W]⟩
theorem l1W : (encR r1W).length = 1:=enc1 3 1 (by decide) (by decide)
theorem l2W : (encR r2W).length = 1:=enc1 3 2 (by decide) (by decide)
theorem v1W : validR r1W = true:=by decide
theorem v2W : validR r2W = true:=by decide
theorem E0W : appE S0W e0W = 0:=by
 have e : S0W.num e0W = r1W:=rfl
 unfold appE; rw [e,v1W,l1W]; rfl
theorem A0W : appS S0W e0W = S1W:=by
 have e : S0W.num e0W = r1W:=rfl
 unfold appS; rw [E0W,e,l1W]; rfl
theorem E1W : appE S1W e0W = 0:=by
 have e : S1W.num e0W = r2W:=rfl
 unfold appE; rw [e,v2W,l2W]; rfl
theorem A1W : appS S1W e0W = S2W:=by
 have e : S1W.num e0W = r2W:=rfl
 unfold appS; rw [E1W,e,l2W]; rfl
theorem E2W : appE S2W n60W = 11:=by
 have hv : validR (S2W.num n60W) = true:=by decide
 have hl : (encR (S2W.num n60W)).length = 3:=by
  rw [encR_len]
  have : (payR (S2W.num n60W)).length = 65:=by
   unfold payR
   simp only [List.length_append]
   show (uintB 3).length + (uintB 3).length + (uintB 0).length + 0 + (uintB 0).length + 0 + (uintB 60).length + 60 = 65
   rw [quintB_len1 (by decide),quintB_len1 (by decide),quintB_len1 (by decide)]
  rw [this]; rfl
 unfold appE; rw [hv,hl]; rfl
theorem ok1W : r1W.Ok:=ok_plain (by decide) (by decide)
theorem ok2W : r2W.Ok:=ok_plain (by decide) (by decide)
theorem e0ok : e0W.Ok:=ok_plain (by decide) (by decide)
theorem n60ok : n60W.Ok:=⟨by decide,by decide,fun x hx=>by simp [n60W] at hx,fun x hx=>by simp [n60W] at hx,fun x hx=>by have:=(List.mem_replicate.1 hx).2; subst this; decide⟩
theorem tinyE (r : Rec) (h : r.ws.length ≤ 64 ∧ r.ms.length ≤ 64 ∧ r.note.length ≤ 300) : Tiny r:=⟨by omega,by omega,by omega⟩
theorem sok0 : S0W.Ok:=⟨by decide,by decide,by decide,by decide,by decide,by decide,by decide,fun r hr=>by simp [S0W] at hr⟩
theorem sok1 : S1W.Ok:=⟨by decide,by decide,by decide,by decide,by decide,by decide,by decide,fun r hr=>by simp [S1W] at hr; subst hr; exact ⟨tinyE _ (by decide),ok1W⟩⟩
theorem sok2 : S2W.Ok:=⟨by decide,by decide,by decide,by decide,by decide,by decide,by decide,fun r hr=>by
 simp [S2W] at hr
 rcases hr with rfl | rfl
 ·exact ⟨tinyE _ (by decide),ok1W⟩
 ·exact ⟨tinyE _ (by decide),ok2W⟩⟩
def d0W : DC:=⟨newS PZ,PZ,blankL gQ,[]⟩
theorem m0W : newMS [[]] = ⟨[⟨[],d0W.s,d0W.L,d0W.O⟩],d0W.P⟩:=rfl
theorem all_one (key a : Int) (ls : List (List Int)) (d : DC) : allD gW key a ls no0 ⟨[⟨[],d.s,d.L,d.O⟩],d.P⟩ = (⟨[⟨[],(wrD gW [] key a ls d).1.s,(wrD gW [] key a ls d).1.L,(wrD gW [] key a ls d).1.O⟩],(wrD gW [] key a ls d).1.P⟩,[(wrD gW [] key a ls d).2]):=rfl
theorem wr_free {d : DC} {a : Nat} {ls : List (List Int)} (h : GoodD d.s) (hp : OnP d.P) (hu : d.P.armed = false) (ha : a + ls.length ≤ 20) (hl : d.L.length = 24) (hx : ∀ x ∈ ls,x.length ≤ 64) :
  ∃ s' P',wrD gW [] 0 a ls d = (⟨s',P',d.L,d.O ++ opsAt a ls⟩,0) ∧ GoodD s' ∧ OnP P' ∧ P'.armed = false:=by
 obtain ⟨j,hw⟩:=wrAllQ h (.inl hp) ha hl hx ls.length (Nat.le_refl _)
 have e : wrD gW [] 0 a ls d = wrAll gQ [] 0 a ls d ls.length:=rfl
 rw [e]
 generalize wrAll gQ [] 0 a ls d ls.length = x at *
 obtain ⟨f1,f2⟩:=hw.free hu hp
 obtain ⟨_,rfl,h0⟩:=hw.on f1
 obtain ⟨⟨s',P',L',O'⟩,er⟩:=x
 have h1:=hw.L
 have h2:=hw.O
 rw [List.take_of_length_le (Nat.le_refl _)] at h2
 simp only at h0 h1 h2
 exact ⟨s',P',by rw [h0,h1,h2],hw.s,f1,f2⟩
theorem exW : ∃ d1 d2 : DC,(∀ m,m = newMS [[]] → appM gW 0 no0 S0W e0W m = (⟨[⟨[],d1.s,d1.L,d1.O⟩],d1.P⟩,[0])) ∧ appM gW 0 no0 S1W e0W ⟨[⟨[],d1.s,d1.L,d1.O⟩],d1.P⟩ = (⟨[⟨[],d2.s,d2.L,d2.O⟩],d2.P⟩,[0]) ∧
  (rdAll gW [] 0 1 d2 4).2 = ([(encR r1W).headD [],(encR r2W).headD [],[],[]],0) ∧ d1.O.length ≤ 10 ∧ d2.O.length ≤ 10:=by
 obtain ⟨s1,P1,e1,g1,p1,u1⟩:=wr_free (d:=d0W) (a:=1) (ls:=encR r1W) ⟨rfl,rfl,rfl⟩ ⟨rfl,rfl⟩ rfl (by rw [l1W]; decide) (by decide) (encR_64 v1W ok1W)
 obtain ⟨s2,P2,e2,g2,p2,u2⟩:=wr_free (d:=⟨s1,P1,d0W.L,d0W.O ++ opsAt 1 (encR r1W)⟩) (a:=2) (ls:=encR r2W) g1 p1 u1 (by rw [l2W]; decide) (by show (blankL gQ).length = 24; decide) (encR_64 v2W ok2W)
 refine ⟨⟨s1,P1,d0W.L,d0W.O ++ opsAt 1 (encR r1W)⟩,⟨s2,P2,d0W.L,(d0W.O ++ opsAt 1 (encR r1W)) ++ opsAt 2 (encR r2W)⟩,?_,?_,?_,?_,?_⟩
 ·intro m hm
  subst hm
  unfold appM
  rw [E0W,if_pos rfl,m0W]
  show allD gW 0 ((1 : Nat) : Int) (encR r1W) no0 _ = _
  rw [all_one,e1]
 ·unfold appM
  rw [E1W,if_pos rfl]
  show allD gW 0 ((2 : Nat) : Int) (encR r2W) no0 _ = _
  have:=all_one 0 ((2 : Nat) : Int) (encR r2W) ⟨s1,P1,d0W.L,d0W.O ++ opsAt 1 (encR r1W)⟩
  rw [e2] at this
  exact this
 ·obtain ⟨s',P',e,_⟩:=rdAllQ (d:=⟨s2,P2,d0W.L,(d0W.O ++ opsAt 1 (encR r1W)) ++ opsAt 2 (encR r2W)⟩) (a:=1) ⟨g2.d,g2.k,by rw [g2.e,p2.2]⟩ p2.1 u2 (by show (blankL gQ).length = 24; decide) 4 (by decide)
  have e' : rdAll gW [] 0 1 (⟨s2,P2,d0W.L,(d0W.O ++ opsAt 1 (encR r1W)) ++ opsAt 2 (encR r2W)⟩ : DC) 4 = _:=e
  rw [e']
  obtain ⟨b1,hb1⟩:=List.length_eq_one_iff.1 l1W
  obtain ⟨b2,hb2⟩:=List.length_eq_one_iff.1 l2W
  have ho : (d0W.O ++ opsAt 1 (encR r1W)) ++ opsAt 2 (encR r2W) = opsAt 1 [b1,b2]:=by rw [hb1,hb2]; rfl
  have h64 : ∀ x ∈ [b1,b2],x.length ≤ 64:=fun x hx=>by
   simp only [List.mem_cons,List.not_mem_nil,or_false] at hx
   rcases hx with rfl | rfl
   ·exact encR_64 v1W ok1W _ (by rw [hb1]; simp)
   ·exact encR_64 v2W ok2W _ (by rw [hb2]; simp)
  have hpl : playL gQ d0W.L ((d0W.O ++ opsAt 1 (encR r1W)) ++ opsAt 2 (encR r2W)) = setSeq (blankL gQ) 1 [b1,b2]:=by
   rw [ho]; exact playQ _ _ 1 (by simp) (by decide) h64
  simp only
  rw [hpl,readSeq h64 4 (by simp) (by decide),hb1,hb2]
  rfl
 ·simp [d0W,opsAt_len,l1W]
 ·simp [d0W,opsAt_len,l1W,l2W]
theorem scW : scanD [(encR r1W).headD [],(encR r2W).headD [],[],[]] 3 = ([r1W,r2W],2):=by
 obtain ⟨b1,hb1⟩:=List.length_eq_one_iff.1 l1W
 obtain ⟨b2,hb2⟩:=List.length_eq_one_iff.1 l2W
 have hs : secsL [r1W,r2W] = [b1,b2]:=by unfold secsL; simp [hb1,hb2]
 have hg : LogG [r1W,r2W] 3:=by
  intro i hi
  match i,hi with
  | 0,_=>exact ⟨v1W,rfl,rfl⟩
  | 1,_=>exact ⟨v2W,rfl,rfl⟩
 have h:=scan_Gb hg (fun r hr=>by
  simp only [List.mem_cons,List.not_mem_nil,or_false] at hr
  rcases hr with rfl | rfl
  ·exact ok1W
  ·exact ok2W) [[],[]] (by decide +kernel)
 rw [hs] at h
 rw [hb1,hb2]
 exact h
end Go.Proofs.YtaggiceejcegdaaGreat
namespace Go.Proofs.YtaggiceejcegdaaGreat
set_option linter.unusedVariables false
open Go.RowKit
structure WS (w W : World) (n pb b pw : Nat) (V : Option Nat) (v0 v1 v3 : Value) (PA : Option Addr) (pc : Nat) (qs : List Nat) (no : Nat → Bool) (S : LogS) (m : MS) : Prop where
 pair : W.ownsRow w.heap.size 36 4 (.slice (some ⟨pb,0,none⟩) 1 1) 1 [v0,v1,.slice PA qs.length pc,v3]
 ptr : W.ownsRow w.heap.size 52 1 (.slice PA qs.length pc) qs.length (ptrs qs no)
 log : LogM W n b V S
 many : ManyM W n pw gW qs m
 bel : Below w.heap.size w W
 le : w.heap.size ≤ n
section
variable {w W W' : World} {n pb b pw : Nat} {V : Option Nat} {v0 v1 v3 : Value} {PA : Option Addr} {pc : Nat} {qs : List Nat} {no : Nat → Bool} {S : LogS} {m : MS}
theorem WS.below (h : WS w W n pb b pw V v0 v1 v3 PA pc qs no S m) (hb : Below W.heap.size W W') : WS w W' n pb b pw V v0 v1 v3 PA pc qs no S m:=
 ⟨own_kept h.pair (belKept0 (S:=fun _=>False) hb) (fun _ _ h=>h),own_kept h.ptr (belKept0 (S:=fun _=>False) hb) (fun _ _ h=>h),h.log.below0 hb,h.many.below0 hb,h.bel.trans (hb.mono h.bel.size),h.le⟩
theorem WS.cell (h : WS w W n pb b pw V v0 v1 v3 PA pc qs no S m) : W.cell? ⟨pb,2,none⟩ = some (.slice PA qs.length pc):=(World.ownsRow.cellAt h.pair 2 (by decide)).trans rfl
theorem WS.app {N : Nat} (h : WS w W n pb b pw V v0 v1 v3 PA pc qs no S m) (hS : S.Ok) (hmo : m.Ok N) (hN : N ≤ 80000) (hq : qs.length ≤ 1000) (r : Rec) (hok : r.Ok) (A1 D1 N1 : Option Addr) (c1 d1 n1 : Nat) (hr : RecR W W.heap.size r A1 c1 D1 d1 N1 n1) (ht : Tiny r) :
  Calls Tryz.prog 13 #[.pointer (some ⟨b,0,none⟩),.slice PA qs.length pc,.int .u64 0,.agg #[.int .u64 r.gen,.int .u64 r.seq,.slice A1 r.ws.length c1,.slice D1 r.ms.length d1,.slice N1 r.note.length n1]] W fun e w'=>∃ A c V',e = .returned (.tuple #[.slice A (appM gW 0 no S r m).2.length c,.int .i64 (appE S r)]) ∧
   w'.ownsRow w.heap.size 41 1 (.slice A (appM gW 0 no S r m).2.length c) (appM gW 0 no S r m).2.length ((appM gW 0 no S r m).2.map (Value.int .i64)) ∧ WS w w' n pb b pw V' v0 v1 v3 PA pc qs no (appS S r) (appM gW 0 no S r m).1 ∧ KeptA n V W w':=by
 refine (wappend_any (key:=0) (no:=no) (pc:=pc) r hok A1 D1 N1 c1 d1 n1 hr ht h.log hS h.many hmo hN (RdT.of_own h.ptr) hq).mono ?_
 rintro e w' ⟨A,c,V',he,ho,_,hl,hm,hk⟩
 exact ⟨A,c,V',he,own_mono ho h.bel.size,⟨hk.row h.log h.pair (by unfold LDT; decide) (by decide),hk.row h.log h.ptr (by unfold LDT; decide) (by decide),hl,hm,h.bel.trans ((hk.below h.many.low).mono h.le),h.le⟩,hk⟩
end
theorem WS.typed {w W W' : World} {n pb b pw : Nat} {V : Option Nat} {v0 v1 v3 : Value} {PA : Option Addr} {pc : Nat} {qs : List Nat} {no : Nat → Bool} {S : LogS} {m m' : MS} {B : Bd} (h : WS w W n pb b pw V v0 v1 v3 PA pc qs no S m) (hm : ManyM W' n pw gW qs m') (hk : KeptT DAT B W W') (hB : B.n = n) : WS w W' n pb b pw V v0 v1 v3 PA pc qs no S m':=
 ⟨own_ty h.pair hk (by unfold DAT; decide),own_ty h.ptr hk (by unfold DAT; decide),h.log.types hk (by unfold DAT; decide) (by unfold DAT; decide) (by unfold DAT; decide) (by unfold DAT; decide) (by unfold DAT; decide),hm,h.bel.trans ((hk.below (by rw [hB]; exact h.many.low)).mono (by rw [hB]; exact h.le)),h.le⟩
theorem SlsB.sok {w : World} {base : Nat} {A : Option Addr} {c : Nat} {ss : List Sl} (h : SlsB w base A c ss) (hb : ∀ b ∈ ss.map Sl.xs,U8s b ∧ b.length ≤ 1000) : ∀ s ∈ ss,SlOk s:=fun s hs=>by
 obtain ⟨h1,h2⟩:=hb _ (List.mem_map.2 ⟨s,hs,rfl⟩)
 obtain ⟨h3,h4⟩:=(h.each s hs).2.2 (by omega)
 exact ⟨h1,h2,h3,h4⟩
theorem okM0 : (newMS [[]]).Ok 0:=by
 intro i v hv
 match i,hv with
 | 0,hv=>simp [newMS] at hv; subst hv; exact ⟨fun f hf=>by simp at hf,Nat.zero_le _,Nat.le_refl _⟩
 | i + 1,hv=>simp [newMS] at hv
theorem ok1M {d : DC} (h : d.O.length ≤ 10) : (⟨[⟨[],d.s,d.L,d.O⟩],d.P⟩ : MS).Ok 10:=by
 intro i v hv
 match i,hv with
 | 0,hv=>simp at hv; subst hv; exact ⟨fun f hf=>by simp at hf,Nat.zero_le _,h⟩
 | i + 1,hv=>simp at hv
end Go.Proofs.YtaggiceejcegdaaGreat
namespace Go.Proofs.YtaggiceejcegdaaGreat
set_option linter.unusedVariables false
open Go.RowKit
structure PS (w W : World) (n pb pw rp : Nat) (PA RA : Option Addr) (pc rc : Nat) (qs rqs : List Nat) (no : Nat → Bool) (m mr : MS) : Prop where
 pair : W.ownsRow w.heap.size 36 4 (.slice (some ⟨pb,0,none⟩) 1 1) 1 [.pointer (some ⟨pw,0,none⟩),.pointer (some ⟨rp,0,none⟩),.slice PA qs.length pc,.slice RA rqs.length rc]
 ptr : W.ownsRow w.heap.size 52 1 (.slice PA qs.length pc) qs.length (ptrs qs no)
 rptr : W.ownsRow w.heap.size 54 1 (.slice RA rqs.length rc) rqs.length (ptrs rqs no)
 many : ManyM W n pw gW qs m
 ref : RManyM W n rp gW rqs mr
 bel : Below w.heap.size w W
 le : w.heap.size ≤ n
section
variable {w W W' : World} {n pb pw rp : Nat} {PA RA : Option Addr} {pc rc : Nat} {qs rqs : List Nat} {no : Nat → Bool} {m mr : MS} {B : Bd}
section
variable {i q : Nat} {v : DX} {key at_ : Int}
end
end
def oneD (F : List Flt) (d : DC) : MS:=⟨[⟨F,d.s,d.L,d.O⟩],d.P⟩
end Go.Proofs.YtaggiceejcegdaaGreat
namespace Go.Proofs.YtaggiceejcegdaaGreat
set_option linter.unusedVariables false
open Go.ChangeShapes Go.WideShapes Go.ChangeAt Go.RowKit Go.Deep
theorem own : ownKnob Tryz.prog.godebug = none:=by kernel_rfl
theorem laidOut : laidOutB Tryz.prog = true:=by kernel_rfl
theorem list_of {α : Type} {Q : Nat → α → Prop} : ∀ n : Nat,(∀ i,i < n → ∃ b,Q i b) → ∃ l : List α,l.length = n ∧ ∀ i b,l[i]? = some b → Q i b
 | 0,_=>⟨[],rfl,fun i b h=>by simp at h⟩
 | n + 1,h=>by
   obtain ⟨l,hl,hq⟩:=list_of n (fun i hi=>h i (by omega))
   obtain ⟨b,hb⟩:=h n (by omega)
   refine ⟨l ++ [b],by simp [hl],fun i x hx=>?_⟩
   rcases Nat.lt_or_ge i l.length with hi | hi
   ·rw [List.getElem?_append_left hi] at hx; exact hq i x hx
   ·rw [List.getElem?_append_right hi] at hx
    have h0 : i - l.length = 0:=by
     rcases Nat.eq_zero_or_pos (i - l.length) with h0 | h0
     ·exact h0
     ·rw [List.getElem?_eq_none (by simp; omega)] at hx; cases hx
    rw [h0] at hx
    have hi' : i = n:=by omega
    simp at hx
    subst hx; subst hi'; exact hb
theorem i64_of {x : Int} (h : (Lit.int .i64 x).wf = true) : I64 x:=by
 simp [Lit.wf,IntKind.min,IntKind.max,IntKind.signed,IntKind.bits] at h
 exact ⟨by omega,by omega⟩
theorem u8_of {x : Int} (h : (Lit.int .u8 x).wf = true) : 0 ≤ x ∧ x ≤ 255:=by
 simp [Lit.wf,IntKind.min,IntKind.max,IntKind.signed,IntKind.bits] at h
 exact ⟨by omega,by omega⟩
theorem cellsInt : Tryz.prog.cellsOf 3 = 1:=by kernel_rfl
theorem cellsU8 : Tryz.prog.cellsOf 5 = 1:=by kernel_rfl
theorem cellsBytes : Tryz.prog.cellsOf 26 = 1:=by kernel_rfl
theorem rd_of_add {w : World} {a : Addr} {xs : List Value} (h : ∀ j u,xs[j]? = some u → w.cell? (a.add j) = some u) : Rd w w.heap.size (some a) xs:=by
 intro j u hu
 have hlen : j < xs.length:=(List.getElem?_eq_some_iff.1 hu).1
 have h0 : ∃ u0,w.cell? (a.add 0) = some u0:=⟨xs[0],h 0 _ (List.getElem?_eq_getElem (by omega))⟩
 obtain ⟨u0,h0⟩:=h0
 have hsp : a.spot = none:=by simpa [Addr.add] using World.cell?_spot h0
 obtain ⟨g,o,s⟩:=a
 simp only at hsp
 subst hsp
 have hc:=h j u hu
 rw [add_off] at hc
 exact ⟨g,o,rfl,block_lt_of_cell hc,hc⟩
structure BytesIn (w : World) (v : Value) (s : Sl) : Prop where
 val : v = s.v
 rd : Rd w w.heap.size s.A (s.xs.map (Value.int .u8))
 ok : U8s s.xs
 cap : s.xs.length ≤ s.c
 big : s.c ≤ 9223372036854775807
section
variable {H : Type} {enc : TypeId × Value → H} {w : World} {base : Nat} {spare : Nat → Bool} {held : Bool}
theorem open_bytes {fuel : Nat} {v : Value} {y : DataW H × List MemPlace} (h : DataW.trod enc Tryz.prog w base spare held fuel 26 [v] = some y) : ∃ s,BytesIn w v s:=by
 rcases open_slice Tryz.underlying26 h with ⟨hcs,_⟩ | ⟨a,len,cap,m,n,D,Pl,hcs,hx1,hl,hm,hmm,hx2,hel⟩
 ·simp at hcs
  subst hcs
  exact ⟨⟨none,[],0⟩,rfl,Rd.nil_ _ _ _,fun x hx=>by simp at hx,Nat.le_refl _,Nat.zero_le _⟩
 ·simp at hcs
  subst hcs
  have hlm : len ≤ m:=by rw [hmm]; split <;> omega
  obtain ⟨l,hll,hq⟩:=list_of (Q:=fun i (b : Int)=>(0 ≤ b ∧ b ≤ 255) ∧ w.cell? (a.add i) = some (.int .u8 b)) len (fun i hi=>by
   obtain ⟨cs',hc,ht⟩:=hel i (by omega)
   rw [cellsU8] at hc
   obtain ⟨_,hcl,hat⟩:=World.cells?_some hc
   match cs',hcl with
   | [c0],_=>
     obtain ⟨n0,e0,_,w0⟩:=DataW.trod_int Tryz.underlying5 ht
     simp at e0
     subst e0
     refine ⟨n0,u8_of w0,?_⟩
     have:=hat 0 (by omega)
     simpa [Go.Deep.add_add] using this)
  refine ⟨⟨some a,l,cap⟩,by unfold Sl.v; rw [hll],rd_of_add fun j u hu=>?_,fun b hb=>?_,by show l.length ≤ cap; omega,by show cap ≤ _; unfold maxLen at hm; omega⟩
  ·rw [List.getElem?_map] at hu
   obtain ⟨x,hx,rfl⟩:=Option.map_eq_some_iff.1 hu
   exact (hq j x hx).2
  ·obtain ⟨i,hi⟩:=List.mem_iff_getElem?.1 hb
   exact (hq i b hi).1
structure SecsIn (w : World) (v : Value) (A : Option Addr) (ss : List Sl) (c : Nat) : Prop where
 val : v = .slice A ss.length c
 rd : SlsR w w.heap.size A ss
 ok : ∀ s ∈ ss,U8s s.xs ∧ s.xs.length ≤ s.c ∧ s.c ≤ 9223372036854775807
 cap : ss.length ≤ c
 big : c ≤ 9223372036854775807
structure RecIn (w : World) (v : Value) (x : Rec) (A : Option Addr) (c : Nat) (D : Option Addr) (d : Nat) (N : Option Addr) (n : Nat) : Prop where
 val : v = .agg #[.int .u64 x.gen,.int .u64 x.seq,.slice A x.ws.length c,.slice D x.ms.length d,.slice N x.note.length n]
 rd : RecR w w.heap.size x A c D d N n
 ok : x.Ok
 nw : x.ws.length ≤ 9223372036854775807
 nm : x.ms.length ≤ 9223372036854775807
 nn : x.note.length ≤ 9223372036854775807
end
end Go.Proofs.YtaggiceejcegdaaGreat
namespace Go.Proofs.YtaggiceejcegdaaGreat
set_option linter.unusedVariables false
open Go.ChangeShapes Go.WideShapes Go.ChangeAt Go.RowKit Go.Deep
structure RSIn (w : World) (x : RS) : Prop where
 rd : RecR w w.heap.size x.r x.A x.c x.D x.d x.N x.n
 ok : x.r.Ok
 nw : x.r.ws.length ≤ 9223372036854775807
 nm : x.r.ms.length ≤ 9223372036854775807
 nn : x.r.note.length ≤ 9223372036854775807
section
variable {H : Type} {enc : TypeId × Value → H} {w : World} {base : Nat} {spare : Nat → Bool} {held : Bool}
structure RcsIn (w : World) (v : Value) (A : Option Addr) (l : List RS) (c : Nat) : Prop where
 val : v = .slice A l.length c
 rd : RcsR w w.heap.size A l
 each : ∀ x ∈ l,RSIn w x
 len : l.length ≤ c
 cap : c ≤ 9223372036854775807
structure LgsIn (w : World) (v : Value) (A : Option Addr) (ls : List LS) (c : Nat) : Prop where
 val : v = .slice A ls.length c
 rd : LgsR w w.heap.size A ls
 each : ∀ x ∈ ls,RcsIn w x.v x.A x.l x.c
 len : ls.length ≤ c
 cap : c ≤ 9223372036854775807
end
end Go.Proofs.YtaggiceejcegdaaGreat
namespace Go.Proofs.YtaggiceejcegdaaGreat
set_option linter.unusedVariables false
open Go.ChangeShapes Go.WideShapes Go.ChangeAt Go.RowKit Go.Deep
structure FlsIn (w : World) (A : Option Addr) (l : List Flt) : Prop where
 rd : Rd w w.heap.size A (flatF l)
 to_ : ∀ f ∈ l,I64 f.to_
 n : l.length ≤ 9223372036854775807
section
variable {H : Type} {enc : TypeId × Value → H} {w : World} {base : Nat} {spare : Nat → Bool} {held : Bool}
structure FlssIn (w : World) (v : Value) (A : Option Addr) (fs : List FL) (c : Nat) : Prop where
 val : v = .slice A fs.length c
 rd : FlsR w w.heap.size A fs
 each : ∀ x ∈ fs,FlsIn w x.A x.F
 len : fs.length ≤ 9223372036854775807
end
end Go.Proofs.YtaggiceejcegdaaGreat
namespace Go.Proofs.YtaggiceejcegdaaGreat
set_option linter.unusedVariables false
open Go.RowKit
def S0L (gen : Nat) (fr sec : Int) : LogS:=⟨gen,fr,sec,0,[]⟩
end Go.Proofs.YtaggiceejcegdaaGreat
namespace Go.Proofs.YtaggiceejcegdaaGreat
set_option linter.unusedVariables false
open Go.RowKit
set_option maxRecDepth 100000 in
set_option maxHeartbeats 8000000 in
theorem awake49_any (w : World) : Calls Tryz.prog 9 #[] w fun e w'=>e = .returned (.bool true) ∧ Below w.heap.size w w':=by
 obtain ⟨D1,D2,X1,X2,X3,O1,O2⟩:=exW
 have hb0 : Below w.heap.size w (w.alloc (.cells #[.slice none 0 0] 48)):=(Below.refl _ _).alloc (Nat.le_refl _) _
 have hfl : FlsR (w.alloc (.cells #[.slice none 0 0] 48)) (w.alloc (.cells #[.slice none 0 0] 48)).heap.size (some ⟨w.heap.size,0,none⟩) [⟨none,[],0⟩]:=by
  refine ⟨fun j u hu=>?_,fun x hx=>by simp at hx; subst hx; exact Rd.nil_ _ _ _⟩
  match j,hu with
  | 0,hu=>simp [FL.v] at hu; subst hu; exact ⟨w.heap.size,0,rfl,by simp,by simp⟩
  | j + 1,hu=>simp [FL.v] at hu
 have HT : Hid (Calls Tryz.prog 11 #[.slice (some ⟨w.heap.size,0,none⟩) 1 1] (w.alloc (.cells #[.slice none 0 0] 48)) (TwPost (w.alloc (.cells #[.slice none 0 0] 48)) [[]])):=
  twins_any [⟨none,[],0⟩] (some ⟨w.heap.size,0,none⟩) 1 _ hfl (by decide) (fun x hx=>by simp at hx; subst hx; exact ⟨by decide,by decide⟩)
 have HB0:=Lib.hid hb0
 have hz0 : (w.alloc (.cells #[.slice none 0 0] 48)).heap.size = w.heap.size + 1:=by simp
 have HX1:=Lib.hid X1; have HX2:=Lib.hid X2; have HX3:=Lib.hid X3; have HO1:=Lib.hid O1; have HO2:=Lib.hid O2
 clear hfl hb0 X1 X2 X3 O1 O2
 go_enter Tryz.func9,Tryz.ntmps9
 go_wp2_with fail
 refine HT.out.mono ?_
 rintro e w1 ⟨pw,rp,PA,pc,RA,rc,qs,rqs,rfl,hP,hR,hm,hrm,hb1⟩
 rw [hz0] at hP hm hb1
 simp only [List.length_cons,List.length_nil,Nat.zero_add] at hP ⊢
 have hql : qs.length = 1:=hm.len
 obtain ⟨q,rfl⟩:=List.length_eq_one_iff.1 hql
 obtain ⟨gp,rfl,hgp,_⟩:=own_at hP (by decide)
 have hz1:=hb1.size
 have hbp : Below w1.heap.size w1 (w1.alloc (.cells #[.pointer (some ⟨pw,0,none⟩),.pointer (some ⟨rp,0,none⟩),.slice (some ⟨gp,0,none⟩) 1 pc,.slice RA 1 rc] 36)):=(Below.refl _ _).alloc (Nat.le_refl _) _
 have orow:=World.ownsRow_lit (base:=w.heap.size) (e:=36) (size:=4) w1 #[.pointer (some ⟨pw,0,none⟩),.pointer (some ⟨rp,0,none⟩),.slice (some ⟨gp,0,none⟩) 1 pc,.slice RA 1 rc] 1 (by omega) (by decide) rfl
 have HP2:=Lib.hid (own_mono (own_kept hP (belKept0 (S:=fun _=>False) hbp) (fun _ _ h=>h)) (by omega : w.heap.size ≤ w.heap.size + 1))
 have HM2:=Lib.hid (hm.below0 hbp)
 have HR2:=Lib.hid orow
 have HB2:=Lib.hid (((HB0.out.trans (hb1.mono (by omega))).trans (hbp.mono (by omega)) : Below w.heap.size w _))
 clear hP hR hm hrm hb1 orow HT hbp
 go_wp2_with fail
 refine (wnew_any 3 1 4 [] none 0 _ (RcsR.nil _ _ _) (fun x hx=>by simp at hx) (fun x hx=>by simp at hx) (by decide)).mono ?_
 intro e w3 hpost
 unfold NewPostW at hpost
 rw [if_pos (by decide)] at hpost
 obtain ⟨b,V,rfl,hlm,hb3⟩:=hpost
 have hW3 : WS w w3 (w.heap.size + 1) w1.heap.size b pw V (.pointer (some ⟨pw,0,none⟩)) (.pointer (some ⟨rp,0,none⟩)) (.slice RA 1 rc) (some ⟨gp,0,none⟩) pc [q] no0 S0W (newMS [[]]):=by
  have hk:=belKept0 (S:=fun _=>False) hb3
  refine ⟨?_,?_,hlm.mono (by simp; omega),HM2.out.below0 hb3,HB2.out.trans (hb3.mono HB2.out.size),by omega⟩
  ·exact own_kept HR2.out hk (fun _ _ h=>h)
  ·exact own_kept HP2.out hk (fun _ _ h=>h)
 have HW3:=Lib.hid hW3
 have q2:=hW3.cell
 clear hlm hb3 hW3 HM2 HR2 HP2
 have HA1:=Lib.hid (HW3.out.app sok0 okM0 (by decide) (by simp) e0W e0ok none none none 0 0 0 ⟨Rd.nil_ _ _ _,Rd.nil_ _ _ _,Rd.nil_ _ _ _⟩ (tinyE _ (by decide)))
 rw [HX1.out _ rfl,E0W,A0W] at HA1
 go_wp2_with fail
 refine HA1.out.mono ?_
 rintro e w4 ⟨A4,c4,V4,rfl,ho4,hW4,hk4⟩
 have HO4:=Lib.hid ho4
 have HW4:=Lib.hid hW4
 have q2':=hW4.cell
 clear ho4 hW4 hk4 HA1 q2
 have HA2:=Lib.hid (HW4.out.app sok1 (ok1M HO1.out) (by decide) (by simp) e0W e0ok none none none 0 0 0 ⟨Rd.nil_ _ _ _,Rd.nil_ _ _ _,Rd.nil_ _ _ _⟩ (tinyE _ (by decide)))
 rw [HX2.out,E1W,A1W] at HA2
 go_wp2_with fail
 refine HA2.out.mono ?_
 rintro e w5 ⟨A5,c5,V5,rfl,ho5,hW5,hk5⟩
 have HW5:=Lib.hid hW5
 have HO5:=Lib.hid (hk5.row HW4.out.log HO4.out (by unfold LDT; decide) (by decide))
 have q3:=hW5.cell
 clear ho5 hW5 hk5 HA2 q2'
 obtain ⟨i0,hi,hz0',hz1',hz2'⟩:=info_parts info_u8
 have hmk : ∀ W : World,(Instr.makeSlice 26 (.int .i64 60) (.int .i64 60)).run Tryz.prog W = .ok (.slice (some ⟨W.heap.size,0,none⟩) 60 60) (W.alloc (.cells (madeCells #[.int .u8 0] 60) 5)):=fun W=>by
  have:=run_make (P:=Tryz.prog) W 26 5 i0 _ Tryz.underlying26 hi hz0' .i64 .i64 60 60 (by decide) (Int.le_refl _) (by rw [hz2']; decide) (by decide)
  rw [hz1'] at this
  exact this
 have hA0 : (appM gW 0 no0 S2W n60W ⟨[⟨[],D2.s,D2.L,D2.O⟩],D2.P⟩) = (⟨[⟨[],D2.s,D2.L,D2.O⟩],D2.P⟩,[]):=by unfold appM; rw [E2W]; rfl
 have hA1 : appS S2W n60W = S2W:=by unfold appS; rw [E2W]; rfl
 have hb6 : Below w5.heap.size w5 (w5.alloc (.cells (madeCells #[.int .u8 0] 60) 5)).drew:=((Below.refl _ _).alloc (Nat.le_refl _) _).drew
 have hrow6:=World.ownsRow_lit (base:=0) (e:=5) (size:=1) w5 (madeCells #[.int .u8 0] 60) 60 (Nat.zero_le _) (by decide) (by rw [size_madeCells])
 rw [made_one] at hrow6
 have HA3 : Hid (Calls Tryz.prog 13 #[.pointer (some ⟨b,0,none⟩),.slice (some ⟨gp,0,none⟩) 1 pc,.int .u64 0,.agg #[.int .u64 0,.int .u64 0,.slice none 0 0,.slice none 0 0,.slice (some ⟨w5.heap.size,0,none⟩) 60 60]] (w5.alloc (.cells (madeCells #[.int .u8 0] 60) 5)).drew fun e w'=>∃ A c V',e = .returned (.tuple #[.slice A 0 c,.int .i64 11]) ∧
   WS w w' (w.heap.size + 1) w1.heap.size b pw V' (.pointer (some ⟨pw,0,none⟩)) (.pointer (some ⟨rp,0,none⟩)) (.slice RA 1 rc) (some ⟨gp,0,none⟩) pc [q] no0 S2W ⟨[⟨[],D2.s,D2.L,D2.O⟩],D2.P⟩ ∧ KeptA (w.heap.size + 1) V5 (w5.alloc (.cells (madeCells #[.int .u8 0] 60) 5)).drew w'):=by
  have:=(HW5.out.below hb6).app sok2 (ok1M HO2.out) (by decide) (by simp) n60W n60ok none none (some ⟨w5.heap.size,0,none⟩) 0 0 60 ⟨Rd.nil_ _ _ _,Rd.nil_ _ _ _,by
   have h9 : Rd (w5.alloc (.cells (madeCells #[.int .u8 0] 60) 5)).drew (w5.alloc (.cells (madeCells #[.int .u8 0] 60) 5)).drew.heap.size (some ⟨w5.heap.size,0,none⟩) (List.replicate 60 (.int .u8 0)):=Rd.of_own hrow6
   have h10 : n60W.note.map (Value.int .u8) = List.replicate 60 (.int .u8 0):=by unfold n60W; simp
   rw [h10]; exact h9⟩ (tinyE _ (by decide))
  rw [hA0,hA1,E2W] at this
  refine this.mono ?_
  rintro e w' ⟨A,c,V',he,_,hw,hk⟩
  exact ⟨A,c,V',he,hw,hk⟩
 have HO6:=Lib.hid (own_kept HO5.out (belKept0 (S:=fun _=>False) hb6) (fun _ _ h=>h))
 have HL6:=Lib.hid (HW5.out.below hb6).log
 clear hA0 hA1 hrow6
 go_wp2
 go_region_held3 (fun W=>W.cell? ⟨w1.heap.size,2,none⟩ = some (.slice (some ⟨gp,0,none⟩) 1 pc))
  (first | assumption | (simp (maxDischargeDepth:=20) [World.cell?_alloc_some, *]; done))
  ((go_at_call 13
    refine HA3.out.mono ?_
    rintro e w7 ⟨A7,c7,V7,rfl,hW7,hk7⟩
    have HW7:=Lib.hid hW7
    have HO7:=Lib.hid (hk7.row HL6.out HO6.out (by unfold LDT; decide) (by decide))
    have q4:=hW7.cell
    clear hW7 hk7))
 have q5 : w7.cell? ⟨gp,0,none⟩ = some (.pointer (some ⟨q,0,none⟩)):=(World.ownsRow.cellAt HW7.out.ptr 0 (by simp)).trans rfl
 obtain ⟨B,hB,hd,hback⟩:=HW7.out.many.at_ (i:=0) (v:=⟨[],D2.s,D2.L,D2.O⟩) (q:=q) rfl rfl
 have HRD : Hid (Calls Tryz.prog 20 #[.pointer (some ⟨q,0,none⟩),.int .u64 0,.int .i64 1,.int .i64 4] w7 (RdsPost w7 B q pw gW [] (rdAll gW [] 0 1 D2 4))):=wread_pos (key:=0) (at_:=1) (d:=D2) (N:=4) (by decide) (by decide) hd (by decide) (by decide) (by decide)
 have HBK:=Lib.hid hback
 clear hd hback HA3 hmk q3
 go_wp2_with fail
 refine HRD.out.mono ?_
 rintro e w8 ⟨A8,c8,ss,rfl,hss,ho8,hd8,hk8⟩
 rw [HX3.out] at hss ⊢
 simp only at hss ⊢
 have HW8:=Lib.hid (HW7.out.typed (HBK.out w8 _ hd8 hk8) hk8 hB)
 have HO8:=Lib.hid (own_ty HO7.out hk8 (by unfold DAT; decide))
 have hsl : ss.length = 4:=by have:=congrArg List.length hss; simpa using this
 have hu8 : ∀ b ∈ ss.map Sl.xs,U8s b ∧ b.length ≤ 1000:=by
  rw [hss]
  intro b hb
  simp only [List.mem_cons,List.not_mem_nil,or_false] at hb
  have hsec:=secs_ok (l:=[r1W,r2W]) (fun r hr=>by
   simp only [List.mem_cons,List.not_mem_nil,or_false] at hr
   rcases hr with rfl | rfl
   ·exact ok1W
   ·exact ok2W)
  have hs2 : secsL [r1W,r2W] = encR r1W ++ encR r2W:=by unfold secsL; simp
  rw [hs2] at hsec
  obtain ⟨b1,hb1⟩:=List.length_eq_one_iff.1 l1W
  obtain ⟨b2,hb2⟩:=List.length_eq_one_iff.1 l2W
  rw [hb1,hb2] at hsec hb
  rcases hb with rfl | rfl | rfl | rfl
  ·exact hsec _ (by simp)
  ·exact hsec _ (by simp)
  ·exact ⟨U8s.nil,by decide⟩
  ·exact ⟨U8s.nil,by decide⟩
 have hcap:=own_cap0 ho8.own
 have HSC:=Lib.hid (rscan_any ss (ho8.sok hu8) 3 A8 c8 hcap.1 (by have:=hcap.2.1; unfold maxLen at this; omega) (by omega) w8 ho8.rd)
 rw [hss,scW] at HSC
 clear hss ho8 hd8 hk8 hu8 hcap hsl HRD HBK q4 q5
 go_wp2_with fail
 refine HSC.out.mono ?_
 rintro e w9 ⟨A9,c9,l9,rfl,hl9,_,hb9⟩
 have hll : l9.length = 2:=by have:=congrArg List.length hl9; simpa using this
 have HW9:=Lib.hid (HW8.out.below hb9)
 have HO9:=Lib.hid (own_kept HO8.out (belKept0 (S:=fun _=>False) hb9) (fun _ _ h=>h))
 obtain ⟨g4,rfl,hg4,_⟩:=own_at HO9.out (by decide)
 have q6 : w9.cell? ⟨g4,0,none⟩ = some (.int .i64 0):=(World.ownsRow.cellAt HO9.out 0 (by decide)).trans rfl
 have HNX:=Lib.hid (wnext_any HW9.out.log (by decide) (by decide))
 have hnn : ((nextN S2W.l.length S2W.gen : Nat) : Int) = 12884901891:=by decide
 rw [hnn] at HNX
 rw [hll]
 simp only
 clear hl9 hb9 HSC hnn hll
 go_wp2_with fail
 refine HNX.out.mono ?_
 rintro e w10 ⟨rfl,hb10⟩
 go_wp2
 go_ret
 exact ⟨rfl,HW9.out.bel.trans (hb10.mono HW9.out.bel.size)⟩
end Go.Proofs.YtaggiceejcegdaaGreat

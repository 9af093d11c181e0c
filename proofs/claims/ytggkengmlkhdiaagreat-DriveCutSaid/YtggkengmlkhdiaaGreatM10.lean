/-
  WHAT IS SHOWN: what do of tegulalaw14 returns and leaves: each act on a disk. plain facts, of no program, on the encodings of codec: numbers as bytes, and back. plain facts on memory and bytes; what Clone of bytes returns. plain facts, of no program: operations of a disk that are called again while it is busy; sectors that are written and read one after another. what Sum of crc64 and of tegularef08 return: the same number. plain facts, of no program: entries of a drive, their bytes, and what the bytes say again. plain facts on lists of bands (api.BandInfo) and what the functions of the packages band and tegularef16 compute on them. Conditions: as each theorem names them.
-/
import Derived.Test.YtggkengmlkhdiaaGreatM09
import Derived.Test.YtggkengmlkhdiaaGreatM00
import Derived.Test.YtggkengmlkhdiaaGreatRows
import Derived.Handy
import Derived.Deep.QuietTactic
import Derived.BigQuiet
import Derived.Laws.BytesArg
import Derived.Lib.ConvBytes
import Derived.Deep.AppendLies
namespace Go.Proofs.YtggkengmlkhdiaaGreat
set_option linter.unusedVariables false
open Go.RowKit
structure DC where
 s:DS
 P:Pow
 L:List Sec
 O:List OpV
def doC (g:Geo) (F:List Flt) (d:DC) (a:ActV):DC:=
 if a.kind=0 then ⟨dRdS F d.s d.P d.L (playL g d.L d.O) a.key a.at_,(begD F d.s d.P a.key).P,d.L,d.O⟩
 else if a.kind=1 then ⟨dWrS F d.s d.P d.L a.key a.at_ a.xs,(begD F d.s d.P a.key).P,dWrLM g F d.s d.P d.L d.O a.key a.at_ a.xs a.force,dWrO g F d.s d.P d.L d.O a.key a.at_ a.xs a.force⟩
 else if a.kind=2 then ⟨dErS g F d.s d.P d.L d.O a.key a.at_,(begD F d.s d.P a.key).P,d.L,dErO g F d.s d.P d.L d.O a.key a.at_⟩
 else if a.kind=3 then ⟨dFlS F d.s d.P a.key,(begD F d.s d.P a.key).P,dFlLM g F d.s d.P d.L d.O a.key,dFlO F d.s d.P d.O a.key⟩
 else if a.kind=4 then ⟨acqS d.s d.P a.key,d.P,d.L,d.O⟩
 else if a.kind=5 then ⟨{ d.s with dead:=true },d.P,d.L,d.O⟩
 else if a.kind=6 then ⟨rstS d.s d.P,d.P,rstLM g d.s d.P d.L d.O a.at_,rstO d.s d.P d.O⟩
 else if a.kind=7 then ⟨d.s,armP d.P a.at_,d.L,d.O⟩
 else if a.kind=8 then ⟨d.s,{ d.P with off:=false },d.L,d.O⟩
 else d
def doEr (g:Geo) (F:List Flt) (d:DC) (a:ActV):Int:=
 if a.kind=0 then dRdE F d.s d.P d.L (playL g d.L d.O) a.key a.at_
 else if a.kind=1 then dWrE F d.s d.P d.L a.key a.at_ a.xs
 else if a.kind=2 then dErE g F d.s d.P d.L d.O a.key a.at_
 else if a.kind=3 then (begD F d.s d.P a.key).er
 else if a.kind=4 then stE d.s d.P
 else if a.kind=6 then rstE d.s d.P
 else 0
def doBy (g:Geo) (F:List Flt) (d:DC) (a:ActV):List Int:=if a.kind=0 then dRdB F d.s d.P d.L (playL g d.L d.O) a.key a.at_ else []
def DoDPost (w:World) (B:Bd) (q pw:Nat) (g:Geo) (F:List Flt) (d:DC) (a:ActV) (e:Ending) (w':World):Prop:=
 e= .returned (.tuple #[.string (strOfNums (doBy g F d a)),.int .i64 (doEr g F d a)])∧DPm w' B q pw g F (doC g F d a).s (doC g F d a).P (doC g F d a).L (doC g F d a).O∧KeptT DAT B w w'
theorem atF_mem:∀ (l:List Flt) (op:Int),atF l op=noF∨atF l op∈l
 | [],_=>.inl rfl
 | f::l,op=>by
   unfold atF
   split
   ·exact .inr (by simp)
   ·rcases atF_mem l op with h | h
    ·exact .inl h
    ·exact .inr (by simp [h])
theorem begD_to {F:List Flt} (s:DS) (P:Pow) (key:Int) (hF:∀ f∈F,I64 f.to_):I64 (begD F s P key).f.to_:=by
 have h0:I64 noF.to_:=noI64
 unfold begD
 repeat' split
 all_goals first | exact h0 | skip
 rcases atF_mem F s.ops with h | h
 ·simp only [h]; exact h0
 ·exact hF _ h
theorem DPm.power {w w':World} {B:Bd} {q pw:Nat} {g:Geo} {F:List Flt} {s:DS} {P P':Pow} {LM:List Sec} {O:List OpV} (h:DPm w B q pw g F s P LM O) (hp:PowM w' B pw P') (hk:KeptT [132] B w w'):DPm w' B q pw g F s P' LM O:=by
 obtain ⟨⟨p,FA,fc,hd⟩,_,hf,hs,hB⟩:=h
 exact ⟨⟨p,FA,fc,hd.keptP hk⟩,hp,hf,hs,Nat.le_trans hB hk.size⟩
end Go.Proofs.YtggkengmlkhdiaaGreat
namespace Go.Proofs.YtggkengmlkhdiaaGreat
set_option linter.unusedVariables false
def uintF:Nat→Nat→List Int
 | 0,_=>[]
 | k+1,n=>if n < 128 then [(n:Int)] else ((n % 128+128:Nat):Int)::uintF k (n / 128)
def uintB (n:Nat):List Int:=uintF 10 n
def zigN (n:Int):Nat:=if 0≤n then (2 * n).toNat else (-2 * n - 1).toNat
def uintGo:Nat→Nat→List Int→Option (Nat × List Int)
 | _,_,[]=>none
 | i,n,c::r=>
   if 9 < i then none
   else if i=9∧1 < c then none
   else if c < 128 then (if c=0∧0 < i then none else some (n+(c % 128).toNat * 2 ^ (7 * i),r))
   else uintGo (i+1) (n+(c % 128).toNat * 2 ^ (7 * i)) r
def uintD (xs:List Int):Option (Nat × List Int):=uintGo 0 0 xs
structure Rdr where
 rest:List Int
 bad:Bool
def Rdr.ok (r:Rdr):Prop:=r.bad=true→r.rest=[]
def Rdr.fail:Rdr:=⟨[],true⟩
def Rdr.uint (r:Rdr):Nat × Int × Rdr:=match uintD r.rest with
 | some (n,l)=>(n,0,⟨l,r.bad⟩)
 | none=>(0,5,Rdr.fail)
def Rdr.take (r:Rdr) (n:Nat):List Int × Int × Rdr:=if r.bad=true∨r.rest.length < n then ([],5,Rdr.fail) else (r.rest.take n,0,⟨r.rest.drop n,r.bad⟩)
def Rdr.bytes (r:Rdr):List Int × Int × Rdr:=if r.uint.2.1=0 then r.uint.2.2.take r.uint.1 else ([],r.uint.2.1,r.uint.2.2)
def Rdr.count (r:Rdr) (m:Nat):Nat × Int × Rdr:=if r.uint.2.1=0∧m < r.uint.1 then (0,5,Rdr.fail) else r.uint
def Rdr.blk (r:Rdr):List Int × Int × Rdr:=(if (r.take 8).2.1=0 then (r.take 8).1 else [0,0,0,0,0,0,0,0],(r.take 8).2)
def zagN (n:Nat):Int:=if n % 2=0 then ((n / 2:Nat):Int) else -((n / 2:Nat):Int) - 1
def Rdr.done (r:Rdr):Int:=if r.bad=true∨0 < r.rest.length then 5 else 0
end Go.Proofs.YtggkengmlkhdiaaGreat
namespace Go.Proofs.YtggkengmlkhdiaaGreat
set_option linter.unusedVariables false
open Go.RowKit
theorem qinfo_u8:(Tryz.prog.info? 5).map (fun i=>(i.zero,i.size,i.bytes))=some (some (.int .u8 0),1,1):=by kernel_rfl
theorem qbytes_one (xs:List Int):∀ u∈xs.map (Value.int .u8),u.oneCell'=true:=by
 intro u hu
 obtain ⟨b,_,rfl⟩:=List.mem_map.1 hu
 rfl
def U8s (xs:List Int):Prop:=∀ x∈xs,0≤x∧x≤255
def NewO (w:World) (xs:List Int) (e:Ending) (w':World):Prop:=∃ A c,e= .returned (.slice A xs.length c)∧w'.ownsRow w.heap.size 5 1 (.slice A xs.length c) xs.length (xs.map (Value.int .u8))∧Below w.heap.size w w'
theorem byte_at {w:World} {B:Nat} {A:Option Addr} {xs:List Int} (h:Rd w B A (xs.map (Value.int .u8))) {k:Nat} (hk:k < xs.length):∃ g o,A=some ⟨g,o,none⟩∧g < B∧w.cell? ⟨g,o+k,none⟩=some (.int .u8 xs[k]):=by
 obtain ⟨g,o,e,hg,hc⟩:=h k (.int .u8 xs[k]) (by simp [hk])
 exact ⟨g,o,e,hg,hc⟩
end Go.Proofs.YtggkengmlkhdiaaGreat
namespace Go.Proofs.YtggkengmlkhdiaaGreat
set_option linter.unusedVariables false
structure Ans where
 er:Int
 by_:List Int
def wOne (g:Geo) (F:List Flt) (key a:Int) (xs:List Int) (d:DC):DC × Ans:=
 (⟨dWrS F d.s d.P d.L key a xs,(begD F d.s d.P key).P,dWrLM g F d.s d.P d.L d.O key a xs false,dWrO g F d.s d.P d.L d.O key a xs false⟩,⟨dWrE F d.s d.P d.L key a xs,[]⟩)
def rOne (g:Geo) (F:List Flt) (key a:Int) (d:DC):DC × Ans:=
 (⟨dRdS F d.s d.P d.L (playL g d.L d.O) key a,(begD F d.s d.P key).P,d.L,d.O⟩,⟨dRdE F d.s d.P d.L (playL g d.L d.O) key a,dRdB F d.s d.P d.L (playL g d.L d.O) key a⟩)
def fOne (g:Geo) (F:List Flt) (key:Int) (d:DC):DC × Ans:=
 (⟨dFlS F d.s d.P key,(begD F d.s d.P key).P,dFlLM g F d.s d.P d.L d.O key,dFlO F d.s d.P d.O key⟩,⟨(begD F d.s d.P key).er,[]⟩)
def callN (f:DC→DC × Ans) (d:DC):Nat→DC
 | 0=>d
 | n+1=>(f (callN f d n)).1
def ansN (f:DC→DC × Ans) (d:DC) (n:Nat):Ans:=(f (callN f d n)).2
def lastN (f:DC→DC × Ans) (d:DC):Nat→Nat
 | 0=>0
 | m+1=>if lastN f d m=m∧(ansN f d m).er=16 then m+1 else lastN f d m
def tryD (f:DC→DC × Ans) (d:DC):DC × Ans:=(callN f d (lastN f d 8+1),ansN f d (lastN f d 8))
theorem lastN_le (f:DC→DC × Ans) (d:DC):∀ m,lastN f d m≤m
 | 0=>Nat.le_refl _
 | m+1=>by
   unfold lastN
   split
   ·exact Nat.le_refl _
   ·exact Nat.le_trans (lastN_le f d m) (by omega)
theorem lastN_busy {f:DC→DC × Ans} {d:DC}:∀ {m:Nat},(∀ j,j < m→(ansN f d j).er=16)→lastN f d m=m
 | 0,_=>rfl
 | m+1,h=>by
   unfold lastN
   rw [if_pos ⟨lastN_busy (fun j hj=>h j (by omega)),h m (by omega)⟩]
theorem lastN_stop {f:DC→DC × Ans} {d:DC} {k:Nat} (h:∀ j,j < k→(ansN f d j).er=16) (hk:¬ (ansN f d k).er=16):∀ m,k≤m→lastN f d m=k
 | 0,h0=>by
   obtain rfl:k=0:=by omega
   rfl
 | m+1,h0=>by
   by_cases hkm:k=m+1
   ·subst hkm; exact lastN_busy h
   ·have ih:=lastN_stop h hk m (by omega)
    unfold lastN
    rw [ih,if_neg]
    rintro ⟨h1,h2⟩
    subst h1
    exact hk h2
theorem try_stop {f:DC→DC × Ans} {d:DC} {k:Nat} (h:∀ j,j < k→(ansN f d j).er=16) (hk:k=8∨(k≤8∧¬ (ansN f d k).er=16)):tryD f d=(callN f d (k+1),ansN f d k):=by
 unfold tryD
 rcases hk with rfl | ⟨h1,h2⟩
 ·rw [lastN_busy h]
 ·rw [lastN_stop h h2 8 h1]
theorem callN_len {f:DC→DC × Ans} (h:∀ d,(f d).1.O.length≤d.O.length+1) (d:DC):∀ n,(callN f d n).O.length≤d.O.length+n
 | 0=>Nat.le_refl _
 | n+1=>by
   have h1:=callN_len h d n
   have h2:=h (callN f d n)
   show (f (callN f d n)).1.O.length≤_
   omega
theorem tryD_len {f:DC→DC × Ans} (h:∀ d,(f d).1.O.length≤d.O.length+1) (d:DC):(tryD f d).1.O.length≤d.O.length+9:=by
 have h1:=callN_len h d (lastN f d 8+1)
 have h2:=lastN_le f d 8
 unfold tryD
 simp only
 omega
theorem wOne_len (g:Geo) (F:List Flt) (key a:Int) (xs:List Int) (d:DC):(wOne g F key a xs d).1.O.length≤d.O.length+1:=by
 unfold wOne dWrO wrO
 simp only
 repeat' split
 all_goals simp
theorem fOne_len (g:Geo) (F:List Flt) (key:Int) (d:DC):(fOne g F key d).1.O.length≤d.O.length+1:=by
 unfold fOne dFlO
 simp only
 repeat' split
 all_goals simp
def wrAll (g:Geo) (F:List Flt) (key a:Int) (ls:List (List Int)) (d:DC):Nat→DC × Int
 | 0=>(d,0)
 | k+1=>if (wrAll g F key a ls d k).2=0 then ((tryD (wOne g F key (a+k) (ls.getD k [])) (wrAll g F key a ls d k).1).1,(tryD (wOne g F key (a+k) (ls.getD k [])) (wrAll g F key a ls d k).1).2.er) else wrAll g F key a ls d k
def wrD (g:Geo) (F:List Flt) (key a:Int) (ls:List (List Int)) (d:DC):DC × Int:=wrAll g F key a ls d ls.length
def rdNext (r:DC × List (List Int) × Int) (x:DC × Ans):DC × List (List Int) × Int:=
 if x.2.er=0 then (x.1,r.2.1++[x.2.by_],0) else if x.2.er=15∨x.2.er=16 then (x.1,r.2.1++[[]],0) else (x.1,[],x.2.er)
def rdAll (g:Geo) (F:List Flt) (key a:Int) (d:DC):Nat→DC × List (List Int) × Int
 | 0=>(d,[],0)
 | k+1=>if (rdAll g F key a d k).2.2=0 then rdNext (rdAll g F key a d k) (tryD (rOne g F key (a+k)) (rdAll g F key a d k).1) else rdAll g F key a d k
def rdD (g:Geo) (F:List Flt) (key a:Int) (n:Int) (d:DC):DC × List (List Int) × Int:=rdAll g F key a d n.toNat
structure DX where
 F:List Flt
 s:DS
 L:List Sec
 O:List OpV
structure MS where
 ds:List DX
 P:Pow
def MS.dc (m:MS) (v:DX):DC:=⟨v.s,m.P,v.L,v.O⟩
def MS.put (m:MS) (i:Nat) (F:List Flt) (d:DC):MS:=⟨m.ds.set i ⟨F,d.s,d.L,d.O⟩,d.P⟩
def allK (g:Geo) (key a:Int) (ls:List (List Int)) (no:Nat→Bool) (m:MS):Nat→MS × List Int
 | 0=>(m,[])
 | k+1=>
   match (allK g key a ls no m k).1.ds[k]? with
   | none=>allK g key a ls no m k
   | some v=>
     if no k then ((allK g key a ls no m k).1,(allK g key a ls no m k).2++[0])
     else ((allK g key a ls no m k).1.put k v.F (wrD g v.F key a ls ((allK g key a ls no m k).1.dc v)).1,(allK g key a ls no m k).2++[(wrD g v.F key a ls ((allK g key a ls no m k).1.dc v)).2])
def allD (g:Geo) (key a:Int) (ls:List (List Int)) (no:Nat→Bool) (m:MS):MS × List Int:=allK g key a ls no m m.ds.length
def MS.Ok (m:MS) (N:Nat):Prop:=∀ (i:Nat) (v:DX),m.ds[i]?=some v→(∀ f∈v.F,I64 f.to_)∧v.F.length≤9223372036854775807∧v.O.length≤N
def SecU (L:List Sec):Prop:=∀ s∈L,U8s s.by_
def DC.U8 (d:DC):Prop:=SecU d.L∧∀ o∈d.O,U8s o.xs
theorem U8s.nil:U8s []:=fun x hx=>by simp at hx
theorem U8s.take {xs:List Int} (h:U8s xs) (n:Nat):U8s (xs.take n):=fun x hx=>h x (List.mem_of_mem_take hx)
theorem SecU.set {L:List Sec} (h:SecU L) (i:Nat) (s:Sec) (hs:U8s s.by_):SecU (L.set i s):=by
 intro t ht
 rcases List.mem_or_eq_of_mem_set ht with h1 | h1
 ·exact h t h1
 ·subst h1; exact hs
theorem SecU.destroy:∀ (ss:List Int) {L:List Sec},SecU L→SecU (destroy ss L)
 | [],L,h=>h
 | s::ss,L,h=>by unfold Go.Proofs.YtggkengmlkhdiaaGreat.destroy; rw [List.foldl_cons]; exact SecU.destroy ss (h.set _ goneS U8s.nil)
theorem SecU.erase (L:List Sec) (f:Nat) (h:SecU L):∀ k,SecU (eraseTo L f k)
 | 0=>h
 | k+1=>by rw [eraseTo_succ]; exact (SecU.erase L f h k).set _ blankS U8s.nil
theorem SecU.do_ {g:Geo} {L:List Sec} (h:SecU L) (o:OpV) (ho:U8s o.xs):SecU (doL g L o):=by
 unfold doL; split
 ·unfold eraseL; split
  ·exact SecU.erase _ _ h _
  ·exact h
 ·unfold writeL; split
  ·exact SecU.destroy _ (h.set _ _ ho)
  ·exact h
theorem SecU.play {g:Geo}:∀ (l:List OpV) {L:List Sec},SecU L→(∀ o∈l,U8s o.xs)→SecU (playL g L l)
 | [],L,h,_=>h
 | o::l,L,h,ho=>by unfold playL; rw [List.foldl_cons]; exact SecU.play l (h.do_ o (ho o (by simp))) (fun x hx=>ho x (by simp [hx]))
theorem SecU.read {L:List Sec} (h:SecU L) (a:Int):U8s (readB L a):=by
 unfold readB; split
 ·unfold List.getD
  cases e:L[a.toNat]? with
  | none=>exact U8s.nil
  | some s=>exact h s (List.mem_of_getElem? e)
 ·exact U8s.nil
theorem SecU.blank (n:Nat):SecU (List.replicate n blankS):=by
 intro s hs; rw [(List.mem_replicate.1 hs).2]; exact U8s.nil
theorem wOne_u8 {g:Geo} {F:List Flt} {key a:Int} {xs:List Int} {d:DC} (h:d.U8) (hx:U8s xs):(wOne g F key a xs d).1.U8:=by
 obtain ⟨h1,h2⟩:=h
 have hb:∀ f,U8s (wOp a xs f).xs:=fun f=>by
  unfold wOp byO; simp only; split
  ·exact hx.take _
  ·exact hx
 have h3:∀ f,∀ o∈d.O++[wOp a xs f],U8s o.xs:=fun f o ho=>by
  rcases List.mem_append.1 ho with ho | ho
  ·exact h2 o ho
  ·simp at ho; subst ho; exact hb f
 unfold wOne DC.U8 dWrLM dWrO wrLM wrO
 simp only
 refine ⟨?_,?_⟩
 ·split
  ·split
   ·exact SecU.play _ h1 (fun o ho=>h3 _ o (List.mem_of_mem_take ho))
   ·exact h1
  ·exact h1
 ·intro o ho
  split at ho
  ·split at ho
   ·split at ho
    ·simp at ho
    ·exact h3 _ o ho
   ·exact h2 o ho
  ·exact h2 o ho
theorem rOne_u8 {g:Geo} {F:List Flt} {key a:Int} {d:DC} (h:d.U8):(rOne g F key a d).1.U8∧U8s (rOne g F key a d).2.by_:=by
 refine ⟨h,?_⟩
 unfold rOne dRdB rdB
 simp only
 repeat' split
 all_goals first | exact U8s.nil | exact SecU.read (SecU.play _ h.1 h.2) _
theorem fOne_u8 {g:Geo} {F:List Flt} {key:Int} {d:DC} (h:d.U8):(fOne g F key d).1.U8:=by
 obtain ⟨h1,h2⟩:=h
 unfold fOne DC.U8 dFlLM dFlO
 simp only
 refine ⟨?_,?_⟩
 ·split
  ·exact SecU.play _ h1 (fun o ho=>h2 o (List.mem_of_mem_take ho))
  ·exact h1
 ·intro o ho
  split at ho
  ·simp at ho
  ·exact h2 o ho
theorem callN_u8 {f:DC→DC × Ans} (h:∀ d,d.U8→(f d).1.U8) {d:DC} (hd:d.U8):∀ n,(callN f d n).U8
 | 0=>hd
 | n+1=>h _ (callN_u8 h hd n)
theorem tryD_u8 {f:DC→DC × Ans} (h:∀ d,d.U8→(f d).1.U8) {d:DC} (hd:d.U8):(tryD f d).1.U8:=callN_u8 h hd _
def MS.U8 (m:MS):Prop:=∀ (i:Nat) (v:DX),m.ds[i]?=some v→(m.dc v).U8
theorem callN_r {g:Geo} {F:List Flt} {key a:Int} {d:DC}:∀ n,(callN (rOne g F key a) d n).L=d.L∧(callN (rOne g F key a) d n).O=d.O
 | 0=>⟨rfl,rfl⟩
 | n+1=>callN_r n
theorem tryD_r {g:Geo} {F:List Flt} {key a:Int} {d:DC}:(tryD (rOne g F key a) d).1.L=d.L∧(tryD (rOne g F key a) d).1.O=d.O:=callN_r _
end Go.Proofs.YtggkengmlkhdiaaGreat
namespace Go.Proofs.YtggkengmlkhdiaaGreat
set_option linter.unusedVariables false
open Go.RowKit
def stepC (x:Int):Int:=if (bits BinOp.and IntKind.u64 x 1==1)=true then bits BinOp.xor IntKind.u64 (x / 2) 14514072000185962306 else x / 2
def stepsC:Nat→Int→Int
 | 0,x=>x
 | k+1,x=>stepC (stepsC k x)
def crcX (x:Int) (xs:List Int):Int:=xs.foldl (fun x c=>stepsC 8 (bits BinOp.xor IntKind.u64 x (IntKind.u64.wrap c))) x
theorem crcX_take (x:Int) (xs:List Int) (k:Nat) (h:k < xs.length):crcX x (xs.take (k+1))=stepsC 8 (bits BinOp.xor IntKind.u64 (crcX x (xs.take k)) (IntKind.u64.wrap xs[k])):=by
 unfold crcX; rw [List.take_succ_eq_append_getElem h,List.foldl_append]; rfl
set_option maxHeartbeats 400000 in
theorem step_any (x:Int) (w:World):Calls Tryz.prog 162 #[.int .u64 x] w fun e w'=>e= .returned (.int .u64 (stepC x))∧Below w.heap.size w w':=by
 cases hb:(bits BinOp.and IntKind.u64 x 1==1)
 ·have HS:Hid (stepC x=x / 2):=by unfold Hid stepC; rw [hb]; rfl
  go_enter Tryz.func162,Tryz.ntmps162
  go_wp2
  go_ret
  exact ⟨by rw [HS.out]; rfl,Below.refl _ _⟩
 ·have HS:Hid (stepC x=bits BinOp.xor IntKind.u64 (x / 2) 14514072000185962306):=by unfold Hid stepC; rw [hb]; rfl
  go_enter Tryz.func162,Tryz.ntmps162
  go_wp2
  go_ret
  exact ⟨by rw [HS.out]; rfl,Below.refl _ _⟩
def notC (x:Int):Int:=bits BinOp.xor IntKind.u64 IntKind.u64.max x
def sumC (xs:List Int):Int:=notC (crcX (notC 0) xs)
set_option maxHeartbeats 1000000 in
theorem update_any (s:Int) (xs:List Int) (A:Option Addr) (c:Nat) (w:World) (hr:Rd w w.heap.size A (xs.map (Value.int .u8))) (hn:xs.length≤1000000):
  Calls Tryz.prog 128 #[.int .u64 s,.slice A xs.length c] w fun e w'=>e= .returned (.int .u64 (notC (crcX (notC s) xs)))∧Below w.heap.size w w':=by
 have HR:=Lib.hid hr
 have HS:=Lib.hid step_any
 clear hr
 go_enter Tryz.func128,Tryz.ntmps128
 go_wp2
 go_loopw [5,12] (fun s5 s12 wr=>∃ k:Nat,k≤xs.length∧s12= .int .i64 k∧s5= .int .u64 (crcX (notC s) (xs.take k))∧Below w.heap.size w wr) (fun _ v _=>xs.length - (intOf v).toNat)
 case atStart=>exact ⟨0,Nat.zero_le _,rfl,rfl,Below.refl _ _⟩
 case round=>
  obtain ⟨k,hk,rfl,rfl,hbr⟩:=hrel
  by_cases hlt:k < xs.length
  ·obtain ⟨g,o,rfl,hg,hc⟩:=byte_at (HR.out.below hbr (Nat.le_refl _)) hlt
   have HT:=Lib.hid (crcX_take (notC s) xs k hlt)
   have k0:(0:Int)≤k:=by omega
   have k1:(k:Int) < xs.length:=by omega
   generalize crcX (notC s) (xs.take k)=y at *
   generalize xs[k]=b at *
   go_wp2
   go_loopw [5,20] (fun s5 s20 wx=>∃ j:Nat,j≤8∧s20= .int .i64 j∧s5= .int .u64 (stepsC j (bits BinOp.xor IntKind.u64 y (IntKind.u64.wrap b)))∧Below w.heap.size w wx) (fun _ v _=>8 - (intOf v).toNat)
   case atStart=>exact ⟨0,by omega,rfl,rfl,hbr⟩
   case round=>
    obtain ⟨j,hj,rfl,rfl,hbx⟩:=hrel
    by_cases hl8:j < 8
    ·have j1:(j:Int) < 8:=by omega
     have HJ:Hid (stepsC (j+1) (bits BinOp.xor IntKind.u64 y (IntKind.u64.wrap b))=stepC (stepsC j (bits BinOp.xor IntKind.u64 y (IntKind.u64.wrap b)))):=rfl
     generalize stepsC j (bits BinOp.xor IntKind.u64 y (IntKind.u64.wrap b))=z at *
     go_wp2_with fail
     refine (HS.out z _).mono ?_
     rintro e w2 ⟨rfl,hb2⟩
     have hbl2:=hbx.trans (hb2.mono hbx.size)
     go_wp2
     go_roundw
     case rel=>exact ⟨j+1,by omega,by go_num,by rw [HJ.out],hbl2⟩
     case measure=>simp [intOf]; omega
    ·obtain rfl:j=8:=by omega
     generalize stepsC 8 (bits BinOp.xor IntKind.u64 y (IntKind.u64.wrap b))=z at *
     go_wp2
     go_roundw
     case rel=>exact ⟨k+1,by omega,by go_num,by rw [HT.out],hbx⟩
     case measure=>simp [intOf]; omega
  ·obtain rfl:k=xs.length:=by omega
   rw [List.take_of_length_le (Nat.le_refl _)]
   generalize hy:crcX (notC s) xs=y at *
   have HY:=Lib.hid hy
   clear hy
   go_wp2
   go_ret
   exact ⟨by rw [HY.out]; rfl,hbr⟩
theorem sum_any (xs:List Int) (A:Option Addr) (c:Nat) (w:World) (hr:Rd w w.heap.size A (xs.map (Value.int .u8))) (hn:xs.length≤1000000):
  Calls Tryz.prog 101 #[.slice A xs.length c] w fun e w'=>e= .returned (.int .u64 (sumC xs))∧Below w.heap.size w w':=by
 have H:=Lib.hid (update_any 0 xs A c w hr hn)
 have HN:Hid (sumC xs=notC (crcX (notC 0) xs)):=rfl
 clear hr
 generalize notC (crcX (notC 0) xs)=y at *
 go_enter Tryz.func101,Tryz.ntmps101
 go_wp2_with fail
 refine H.out.mono ?_
 rintro e w1 ⟨rfl,hb1⟩
 go_wp2
 go_ret
 exact ⟨by rw [HN.out]; rfl,hb1⟩
end Go.Proofs.YtggkengmlkhdiaaGreat
namespace Go.Proofs.YtggkengmlkhdiaaGreat
set_option linter.unusedVariables false
theorem U8s.qtake {xs:List Int} (h:U8s xs) (n:Nat):U8s (xs.take n):=fun x hx=>h x (List.mem_of_mem_take hx)
theorem U8s.qdrop {xs:List Int} (h:U8s xs) (n:Nat):U8s (xs.drop n):=fun x hx=>h x (List.mem_of_mem_drop hx)
def leB (n:Int) (k:Nat):List Int:=(List.range k).map fun i=>IntKind.u8.wrap (n / 2 ^ (8 * i))
def getN:List Int→Int
 | []=>0
 | x::l=>x+256 * getN l
theorem leB_len (n:Int) (k:Nat):(leB n k).length=k:=by simp [leB]
theorem wrap_u8 (n:Int):IntKind.u8.wrap n=n % 256:=by
 unfold IntKind.wrap; simp [IntKind.bits,IntKind.signed]
theorem leB_succ (n:Int) (k:Nat):leB n (k+1)=n % 256::leB (n / 256) k:=by
 unfold leB
 rw [List.range_succ_eq_map,List.map_cons,List.map_map]
 congr 1
 ·simp [wrap_u8]
 ·apply List.map_congr_left
  intro i _
  simp only [Function.comp]
  rw [show (2:Int) ^ (8 * (i+1))=256 * 2 ^ (8 * i) by rw [Nat.mul_add,Int.pow_add]; omega]
  rw [Int.ediv_ediv_of_nonneg (by decide)]
theorem leB_push (n:Int) (k:Nat):leB n (k+1)=leB n k++[IntKind.u8.wrap (n / 2 ^ (8 * k))]:=by
 unfold leB; rw [List.range_succ,List.map_append]; rfl
theorem leB_u8 (n:Int) (k:Nat):U8s (leB n k):=fun x hx=>by
 unfold leB at hx
 obtain ⟨i,_,rfl⟩:=List.mem_map.1 hx
 rw [wrap_u8]; omega
theorem get_le:∀ (k:Nat) (n:Int),0≤n→n < 256 ^ k→getN (leB n k)=n
 | 0,n,h0,h1=>by simp at h1; simp [leB,getN]; omega
 | k+1,n,h0,h1=>by
   rw [leB_succ]
   unfold getN
   rw [get_le k (n / 256) (by omega) (by rw [Int.pow_succ] at h1; omega)]
   omega
theorem getN_nn:∀ {l:List Int},U8s l→0≤getN l
 | [],_=>by simp [getN]
 | x::l,h=>by
   have h1:=h x (by simp)
   have h2:=getN_nn (l:=l) (fun y hy=>h y (by simp [hy]))
   unfold getN; omega
theorem getN_lt:∀ {l:List Int},U8s l→getN l < 256 ^ l.length
 | [],_=>by simp [getN]
 | x::l,h=>by
   have h1:=h x (by simp)
   have h2:=getN_lt (l:=l) (fun y hy=>h y (by simp [hy]))
   unfold getN; rw [List.length_cons,Int.pow_succ]; omega
theorem getN_push:∀ (l:List Int) (x:Int),getN (l++[x])=getN l+x * 2 ^ (8 * l.length)
 | [],x=>by simp [getN]
 | y::l,x=>by
   rw [List.cons_append]; unfold getN
   rw [getN_push l x,List.length_cons,show (2:Int) ^ (8 * (l.length+1))=256 * 2 ^ (8 * l.length) by rw [Nat.mul_add,Int.pow_add]; omega]
   rw [Int.mul_add,← Int.mul_assoc x,Int.mul_comm x 256,Int.mul_assoc,← Int.add_assoc]
structure Ent where
 kind:Int
 blk:Int
 ver:Int
 dt:List Int
def zeros8:List Int:=[0,0,0,0,0,0,0,0]
def noEnt:Ent:=⟨0,0,0,zeros8⟩
def validE (e:Ent):Bool:=decide (0≤e.blk) && (decide (e.blk < 65536) && (decide (1≤e.ver) && (if e.kind=2 then decide (e.dt=zeros8) else decide (e.kind=1))))
def plainB (e:Ent) (t:Int):List Int:=(((leB e.kind 1++leB e.blk 4)++leB e.ver 8)++e.dt)++leB t 8
def encB (e:Ent) (t:Int):List Int:=plainB e t++leB (sumC (plainB e t)) 8
def entOf (xs:List Int):Ent:=⟨xs.getD 0 0,getN ((xs.drop 1).take 4),getN ((xs.drop 5).take 8),(xs.drop 13).take 8⟩
def decE (xs:List Int):Int:=if xs.length=37 then (if getN (xs.drop 29)=sumC (xs.take 29) then (if validE (entOf xs) then 0 else 5) else 6) else 5
def decX (xs:List Int):Ent:=if decE xs=0 then entOf xs else noEnt
def decT (xs:List Int):Int:=if decE xs=0 then getN ((xs.drop 21).take 8) else 0
structure Ent.Ok (e:Ent):Prop where
 v0:0≤e.ver
 v1:e.ver≤18446744073709551615
 len:e.dt.length=8
 u8:U8s e.dt
theorem validE_told {x:Ent} (h:validE x=true):0≤x.blk∧x.blk < 65536∧1≤x.ver∧(x.kind=1∨x.kind=2):=by
 unfold validE at h
 simp only [Bool.and_eq_true,decide_eq_true_eq] at h
 refine ⟨h.1,h.2.1,h.2.2.1,?_⟩
 have hk:=h.2.2.2
 split at hk
 ·rename_i h; exact .inr h
 ·exact .inl (by simpa using hk)
theorem bits_u64 (o:BinOp) (a b:Int) (ho:o= .xor):0≤bits o IntKind.u64 a b∧bits o IntKind.u64 a b≤18446744073709551615:=by
 subst ho
 unfold bits
 simp [IntKind.wrap,IntKind.bits,IntKind.signed]
 omega
theorem sumC_u64 (xs:List Int):0≤sumC xs∧sumC xs≤18446744073709551615:=bits_u64 _ _ _ rfl
theorem plainB_len {e:Ent} {t:Int} (h:e.dt.length=8):(plainB e t).length=29:=by simp [plainB,leB_len,h]
theorem encB_len {e:Ent} {t:Int} (h:e.dt.length=8):(encB e t).length=37:=by simp [encB,plainB_len h,leB_len]
theorem encB_u8 {e:Ent} {t:Int} (h:U8s e.dt):U8s (encB e t):=by
 have app:∀ {a b:List Int},U8s a→U8s b→U8s (a++b):=fun ha hb x hx=>by
  rcases List.mem_append.1 hx with h | h
  ·exact ha x h
  ·exact hb x h
 exact app (app (app (app (app (leB_u8 _ _) (leB_u8 _ _)) (leB_u8 _ _)) h) (leB_u8 _ _)) (leB_u8 _ _)
theorem dec_enc {e:Ent} {t:Int} (hv:validE e=true) (ho:e.Ok) (h0:0≤t) (h1:t≤18446744073709551615):decE (encB e t)=0∧decX (encB e t)=e∧decT (encB e t)=t:=by
 have hl:=plainB_len (t:=t) ho.len
 have hv':=hv
 unfold validE at hv'
 simp only [Bool.and_eq_true,decide_eq_true_eq] at hv'
 obtain ⟨b0,b1,v0,hk⟩:=hv'
 have hkind:e.kind=1∨e.kind=2:=by
  split at hk
  ·rename_i h; exact .inr h
  ·exact .inl (by simpa using hk)
 have t29:(encB e t).take 29=plainB e t:=by
  unfold encB; rw [List.take_append_of_le_length (by omega),List.take_of_length_le (by omega)]
 have d29:(encB e t).drop 29=leB (sumC (plainB e t)) 8:=by
  unfold encB; rw [List.drop_append_of_le_length (by omega),List.drop_of_length_le (by omega),List.nil_append]
 have hs:=sumC_u64 (plainB e t)
 have hE:entOf (encB e t)=e:=by
  have l1:leB e.kind 1=[e.kind % 256]:=by rw [leB_succ]; rfl
  have l4:=leB_len e.blk 4
  have l8:=leB_len e.ver 8
  have d8:=ho.len
  have gb:=get_le 4 e.blk b0 (by omega)
  have gv:=get_le 8 e.ver ho.v0 (by have:=ho.v1; omega)
  have g0:e.kind % 256=e.kind:=by omega
  have ex:∃ r,encB e t=leB e.kind 1++(leB e.blk 4++(leB e.ver 8++(e.dt++r))):=⟨_,by unfold encB plainB; simp only [List.append_assoc]; rfl⟩
  obtain ⟨r,hr⟩:=ex
  have c1:(encB e t).drop 1=leB e.blk 4++(leB e.ver 8++(e.dt++r)):=by rw [hr,List.drop_left' (leB_len _ _)]
  have c5:(encB e t).drop 5=leB e.ver 8++(e.dt++r):=by
   rw [show (5:Nat)=1+4 from rfl,← List.drop_drop,c1,List.drop_left' l4]
  have c13:(encB e t).drop 13=e.dt++r:=by
   rw [show (13:Nat)=5+8 from rfl,← List.drop_drop,c5,List.drop_left' l8]
  unfold entOf
  rw [c1,c5,c13,List.take_left' l4,List.take_left' l8,List.take_left' d8,gb,gv]
  have h0:(encB e t).getD 0 0=e.kind:=by rw [hr,l1,g0]; rfl
  rw [h0]
 have hT:getN (((encB e t).drop 21).take 8)=t:=by
  have h21:(((leB e.kind 1++leB e.blk 4)++leB e.ver 8)++e.dt).length=21:=by simp [leB_len,ho.len]
  unfold encB plainB
  rw [List.append_assoc,List.drop_append_of_le_length (by omega),List.drop_of_length_le (by omega),List.nil_append,List.take_left' (leB_len _ _)]
  exact get_le 8 t h0 (by omega)
 have hD:decE (encB e t)=0:=by
  unfold decE
  rw [if_pos (encB_len ho.len),t29,d29,get_le 8 _ hs.1 (by omega),if_pos rfl,hE,if_pos hv]
 refine ⟨hD,?_,?_⟩
 ·unfold decX; rw [if_pos hD]; exact hE
 ·unfold decT; rw [if_pos hD]; exact hT
end Go.Proofs.YtggkengmlkhdiaaGreat
namespace Go.Proofs.YtggkengmlkhdiaaGreat.V
set_option linter.unusedVariables false
open Go.RowKit
structure BI where
 used:Int
 live:Int
 age:Int
 wear:Int
def BI.cells (b:BI):List Value:=[.int .i64 b.used,.int .i64 b.live,.int .u64 b.age,.int .u64 b.wear]
def BI.val (b:BI):Value:=.agg #[.int .i64 b.used,.int .i64 b.live,.int .u64 b.age,.int .u64 b.wear]
def I64 (n:Int):Prop:=-9223372036854775808≤n∧n≤9223372036854775807
def U64 (n:Int):Prop:=0≤n∧n≤18446744073709551615
structure BI.Ok (b:BI):Prop where
 used:I64 b.used
 live:I64 b.live
 age:U64 b.age
 wear:U64 b.wear
def Oks (l:List BI):Prop:=∀ b∈l,b.Ok
def flat (l:List BI):List Value:=l.flatMap BI.cells
theorem cells_len (b:BI):b.cells.length=4:=rfl
theorem flat_len4 (l:List BI):(flat l).length=l.length * 4:=flat_len _ 4 cells_len l
theorem _root_.Go.Proofs.YtggkengmlkhdiaaGreat.Rd.band {w:World} {B:Nat} {A:Option Addr} {l:List BI} (h:Rd w B A (flat l)) {i:Nat} {b:BI} (hb:l[i]?=some b):
  ∃ g o,A=some ⟨g,o,none⟩∧g < B∧w.cell? ⟨g,o+i * 4,none⟩=some (.int .i64 b.used)∧w.cell? ⟨g,o+i * 4+1,none⟩=some (.int .i64 b.live)∧
   w.cell? ⟨g,o+i * 4+2,none⟩=some (.int .u64 b.age)∧w.cell? ⟨g,o+i * 4+3,none⟩=some (.int .u64 b.wear):=by
 have e:∀ t,t < 4→(flat l)[i * 4+t]?=b.cells[t]?:=fun t ht=>by
  unfold flat; rw [flat_get _ 4 cells_len l i t ht,hb]; rfl
 obtain ⟨g,o,rfl,hg,h0⟩:=h (i * 4+0) _ (e 0 (by omega))
 obtain ⟨g1,o1,e1,_,h1⟩:=h (i * 4+1) _ (e 1 (by omega))
 obtain ⟨g2,o2,e2,_,h2⟩:=h (i * 4+2) _ (e 2 (by omega))
 obtain ⟨g3,o3,e3,_,h3⟩:=h (i * 4+3) _ (e 3 (by omega))
 simp only [Option.some.injEq,Addr.mk.injEq,and_true] at e1 e2 e3
 obtain ⟨rfl,rfl⟩:=e1; obtain ⟨rfl,rfl⟩:=e2; obtain ⟨rfl,rfl⟩:=e3
 exact ⟨g,o,rfl,hg,h0,by rw [Nat.add_assoc]; exact h1,by rw [Nat.add_assoc]; exact h2,by rw [Nat.add_assoc]; exact h3⟩
def badB (sz u l:Int):Bool:=decide (l < 0) || decide (u < l) || decide (sz < u)
def anyBad (sz:Int) (l:List BI):Bool:=l.any fun b=>badB sz b.used b.live
def validB (l:List BI) (sz:Int):Bool:=decide (1≤l.length) && decide (l.length≤64) && decide (1≤sz) && !anyBad sz l
def freeN (l:List BI):Int:=((l.filter fun b=>b.used==0).length:Int)
def partB (sz:Int) (b:BI):Bool:=decide (0 < b.used) && decide (b.used < sz)
def openStep (sz:Int) (s:Int × Int) (k:Nat) (b:BI):Int × Int:=
 if partB sz b && (decide (s.1 < 0) || decide (s.2 < b.age)) then ((k:Int),b.age) else s
def openFrom (sz:Int):Int × Int→Nat→List BI→Int × Int
 | s,_,[]=>s
 | s,k,b::l=>openFrom sz (openStep sz s k b) (k+1) l
def openB (l:List BI) (sz:Int):Int:=if validB l sz then (openFrom sz (-1,0) 0 l).1 else -1
def firstBad (sz:Int):List BI→Nat→Int
 | [],_=>-1
 | b::l,i=>if badB sz b.used b.live then (i:Int) else firstBad sz l (i+1)
theorem firstBad_ge (sz:Int):∀ (l:List BI) (i:Nat),decide (0≤firstBad sz l i)=anyBad sz l
 | [],i=>by simp [firstBad,anyBad]
 | b::l,i=>by
   unfold firstBad anyBad
   rw [List.any_cons]
   cases h:badB sz b.used b.live
   ·simp only [Bool.false_eq_true,if_false,Bool.false_or]; exact firstBad_ge sz l (i+1)
   ·simp
theorem get_some {α:Type} {l:List α} {k:Nat} (h:k < l.length):l[k]?=some l[k]:=List.getElem?_eq_getElem h
theorem oks_get {l:List BI} (h:Oks l) {k:Nat} (hk:k < l.length):l[k].Ok:=h _ (List.getElem_mem hk)
theorem freeN_take (l:List BI) (k:Nat) (h:k < l.length):freeN (l.take (k+1))=freeN (l.take k)+if (l[k].used==0)=true then 1 else 0:=by
 unfold freeN
 rw [List.take_succ_eq_append_getElem h,List.filter_append,List.length_append]
 cases hb:l[k].used==0 <;> simp [hb]
theorem freeN_le (l:List BI):0≤freeN l∧freeN l≤l.length:=by
 unfold freeN; exact ⟨by omega,by have:=List.length_filter_le (fun b:BI=>b.used==0) l; omega⟩
theorem openFrom_snoc (sz:Int):∀ (l:List BI) (s:Int × Int) (k:Nat) (b:BI),openFrom sz s k (l++[b])=openStep sz (openFrom sz s k l) (k+l.length) b
 | [],s,k,b=>by simp [openFrom]
 | a::l,s,k,b=>by
   rw [List.cons_append,openFrom,openFrom,openFrom_snoc sz l,List.length_cons]
   congr 1; omega
theorem openFrom_take (sz:Int) (l:List BI) (s:Int × Int) (k:Nat) (h:k < l.length):openFrom sz s 0 (l.take (k+1))=openStep sz (openFrom sz s 0 (l.take k)) k l[k]:=by
 rw [List.take_succ_eq_append_getElem h,openFrom_snoc,List.length_take,Nat.min_eq_left (by omega),Nat.zero_add]
theorem openFrom_inv (sz:Int) (l:List BI):∀ k,k≤l.length→((openFrom sz (-1,0) 0 (l.take k)).1= -1∨∃ i:Nat,i < k∧(openFrom sz (-1,0) 0 (l.take k)).1=(i:Int)∧∃ b,l[i]?=some b∧b.age=(openFrom sz (-1,0) 0 (l.take k)).2)
 | 0,_=>by left; simp [openFrom]
 | k+1,h=>by
   rw [openFrom_take sz l _ k (by omega)]
   unfold openStep
   split
   ·exact .inr ⟨k,by omega,rfl,l[k],get_some (by omega),rfl⟩
   ·rcases openFrom_inv sz l k (by omega) with h1 | ⟨i,hi,h1,h2⟩
    ·exact .inl h1
    ·exact .inr ⟨i,by omega,h1,h2⟩
def inL (l:List BI) (band:Int):Bool:=decide (0≤band) && decide (band < l.length)
def at_ (l:List BI) (band:Int):BI:=(l[band.toNat]?).getD ⟨0,0,0,0⟩
def appE (l:List BI) (sz band:Int):Int:=if inL l band then (if sz≤(at_ l band).used then 11 else 0) else 2
def appBI (now:Int) (b:BI):BI:=⟨wrap64 (b.used+1),wrap64 (b.live+1),now,b.wear⟩
def appL (l:List BI) (sz band now:Int):List BI:=if appE l sz band=0 then l.set band.toNat (appBI now (at_ l band)) else []
def unlE (l:List BI) (band:Int):Int:=if inL l band then (if (at_ l band).live < 1 then 8 else 0) else 2
def unlBI (b:BI):BI:=⟨b.used,b.live - 1,b.age,b.wear⟩
def unlL (l:List BI) (band:Int):List BI:=if unlE l band=0 then l.set band.toNat (unlBI (at_ l band)) else []
def resE (l:List BI) (band:Int):Int:=if inL l band then 0 else 2
def resBI (b:BI):BI:=⟨0,0,0,IntKind.u64.wrap (b.wear+1)⟩
def resL (l:List BI) (band:Int):List BI:=if resE l band=0 then l.set band.toNat (resBI (at_ l band)) else []
def liveN (l:List BI):Int:=l.foldl (fun n b=>wrap64 (n+b.live)) 0
theorem wrap64_ok (n:Int):I64 (wrap64 n):=by unfold wrap64 I64; omega
theorem oks_set {l:List BI} (h:Oks l) {k:Nat} {b:BI} (hb:b.Ok):Oks (l.set k b):=fun x hx=>by
 rcases List.mem_or_eq_of_mem_set hx with h1 | rfl
 ·exact h x h1
 ·exact hb
theorem oks_nil:Oks []:=fun x hx=>by cases hx
theorem at_eq {l:List BI} {k:Nat} (h:k < l.length):at_ l (k:Int)=l[k]:=by unfold at_; simp [h]
theorem resL_ok {l:List BI} (h:Oks l) {band:Int}:Oks (resL l band):=by
 unfold resL
 split
 ·exact oks_set h ⟨by constructor <;> simp [resBI],by constructor <;> simp [resBI],by constructor <;> simp [resBI],by constructor <;> simp only [resBI,IntKind.wrap_u64] <;> omega⟩
 ·exact oks_nil
end Go.Proofs.YtggkengmlkhdiaaGreat.V

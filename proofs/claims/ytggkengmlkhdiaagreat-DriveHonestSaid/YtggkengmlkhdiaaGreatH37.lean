/-
  WHAT IS SHOWN: plain facts, of no program: the account of a drive is kept by its acts, whatever the disk does. plain facts, of no program: the acts of a rig (a drive with the history of each block), and how many operations they leave pending. plain facts on memory, of no program: how a rig (a drive with the history of each block) lies in memory, and what keeps it. Conditions: as each theorem names them.
-/
import Derived.Test.YtggkengmlkhdiaaGreatH36
namespace Go.Proofs.YtggkengmlkhdiaaGreat
set_option linter.unusedVariables false
section
variable {g : Geo} {F : List Flt} {key : Int} {S : ST}
structure KeepV (g : Geo) (S U : ST) : Prop where
 ok : VOk g U.v
 es : U.v.es.length = S.v.es.length
 len : U.v.bs.length = S.v.bs.length
theorem KeepV.refl (h : VOk g S.v) : KeepV g S S:=⟨h,rfl,rfl⟩
theorem KeepV.trans {T U : ST} (h : KeepV g S T) (k : KeepV g T U) : KeepV g S U:=⟨k.ok,k.es.trans h.es,k.len.trans h.len⟩
theorem failV_es (v : DV) (er : Int) : (v.fail er).es = v.es ∧ (v.fail er).bs = v.bs:=by unfold DV.fail; split <;> exact ⟨rfl,rfl⟩
theorem flushS_keep (h : VOk g S.v) : KeepV g S (flushS g F key S).1:=by
 unfold flushS
 exact ⟨h.fail _,by simp only [(failV_es _ _).1],by simp only [(failV_es _ _).2]⟩
theorem eraseS_keep {k : Int} (h : VOk g S.v) : KeepV g S (eraseS g F key k S).1:=by
 unfold eraseS
 exact ⟨h.fail _,by simp only [(failV_es _ _).1],by simp only [(failV_es _ _).2]⟩
theorem cleanR_keep {k : Nat} {r : ST × Int × Int} (h : VOk g S.v) (hk : k < S.v.bs.length) (hc : CleanR g F key k S r) : KeepV g S r.1:=by
 obtain ⟨U,m,er⟩:=r
 by_cases h0 : er = 0
 ·subst h0
  have:=(clean_told h hk hc).1
  exact ⟨this.ok,this.es,this.len⟩
 ·obtain ⟨l,hl,e⟩:=hc
  have hlt : ∀ b ∈ l,b < S.v.es.length:=fun b hb=>by
   have:=hl.perm.mem_iff.1 hb
   unfold blocksIn at this
   exact List.mem_range.1 (List.mem_filter.1 this).1
  obtain ⟨m1,m2,m3⟩:=mvK_vok (F:=F) (key:=key) h hk hlt l.length (Nat.le_refl _)
  rw [clean_at rfl] at e
  generalize mvK g F key k l S l.length = M at *
  split at e
  ·unfold wipeS at e
   have hf:=flushS_keep (F:=F) (key:=key) (S:=M.1) m1
   have hE:=eraseS_keep (F:=F) (key:=key) (k:=(k : Int)) hf.ok
   generalize eraseS g F key k (flushS g F key M.1).1 = E at *
   generalize flushS g F key M.1 = L at *
   split at e
   ·split at e
    ·injection e with e1 e2; injection e2 with e2 e3; exact absurd e3 h0
    ·injection e with e1 e2; rw [e1]; exact (KeepV.trans ⟨m1,m2,m3⟩ hf).trans hE
   ·injection e with e1 e2; rw [e1]; exact KeepV.trans ⟨m1,m2,m3⟩ hf
  ·have e1 : U = M.1:=congrArg Prod.fst e
   show KeepV g S U
   rw [e1]; exact ⟨m1,m2,m3⟩
theorem cleans_keep {T : ST} (h : VOk g S.v) (hc : Cleans g F key S T) : KeepV g S T:=by
 have:=cleans_told h hc
 exact ⟨this.ok,this.es,this.len⟩
theorem flushR_keep (h : VOk g S.v) : KeepV g S (flushR g F key S).1:=by
 unfold flushR; split
 ·exact flushS_keep h
 ·exact KeepV.refl h
theorem cleanMR_keep {r : ST × Int × Int} (h : VOk g S.v) (hc : CleanMR g F key S r) : KeepV g S r.1:=by
 unfold CleanMR at hc
 split at hc
 ·split at hc
  ·rename_i _ h0
   obtain ⟨k,hk,hV⟩:=victim_told h h0
   rw [hk] at hc
   exact cleanR_keep h hV.hk hc
  ·rw [hc]; exact KeepV.refl h
 ·rw [hc]; exact KeepV.refl h
theorem putR_keep {x : Ent} {r : ST × Int} (h : VOk g S.v) (hxv : V.U64 x.ver) (hb : 0 ≤ x.blk) (hbl : x.blk < S.v.es.length) (hc : PutR g F key S x r) : KeepV g S r.1:=by
 obtain ⟨T,hT,hc⟩:=hc
 have hk:=cleans_keep h hT
 have hl:=hk.ok.len64
 rcases hc with ⟨_,e⟩ | ⟨_,_,e⟩ | ⟨_,h0,U,m,er,hr,_,e⟩
 ·have:=app_ok (F:=F) (key:=key) (x:=x) (except:=-1) hk.ok hxv hb (by rw [hk.es]; exact hbl) (by omega)
  rw [e]; exact hk.trans ⟨this.1,this.2.1,this.2.2⟩
 ·rw [e]; exact hk
 ·obtain ⟨k,hk2,hV⟩:=victim_told hk.ok h0
  rw [hk2] at hr
  rw [e]; exact hk.trans (cleanR_keep hk.ok hV.hk hr)
theorem writeR_keep {x : Ent} {r : ST × Int} (h : VOk g S.v) (hxv : V.U64 x.ver) (hc : WriteR g F key S x r) : KeepV g S r.1:=by
 unfold WriteR at hc
 split at hc
 ·rename_i h0
  unfold preE at h0
  by_cases hf : S.v.failed = 0
  ·rw [if_pos hf] at h0
   by_cases hb : 0 ≤ x.blk ∧ x.blk < S.v.es.length
   ·exact putR_keep h hxv hb.1 hb.2 hc
   ·rw [if_neg hb] at h0; exact absurd h0 (by decide)
  ·rw [if_neg hf] at h0; exact absurd h0 hf
 ·rw [hc]; exact KeepV.refl h
theorem readS20_keep {b : Int} (h : VOk g S.v) : KeepV g S (readS20 g F key S b):=by
 unfold readS20
 split
 ·split
  ·exact ⟨h,rfl,rfl⟩
  ·exact ⟨h.fail _,by simp only [(failV_es _ _).1],by simp only [(failV_es _ _).2]⟩
 ·exact KeepV.refl h
end
end Go.Proofs.YtggkengmlkhdiaaGreat
namespace Go.Proofs.YtggkengmlkhdiaaGreat
set_option linter.unusedVariables false
section
variable {g : Geo} {F : List Flt} {key : Int} {S : ST}
theorem flushS_len : (flushS g F key S).1.d.O.length ≤ S.d.O.length + 1:=tryD_one_len (fOne_idle g F key) (fOne_len g F key) S.d
theorem eraseS_len {k : Int} : (eraseS g F key k S).1.d.O.length ≤ S.d.O.length + 1:=tryD_one_len (eOne_idle g F key k) (eOne_len g F key k) S.d
theorem cleanR_len {k : Nat} {r : ST × Int × Int} (h : VOk g S.v) (hk : k < S.v.bs.length) (hc : CleanR g F key k S r) : r.1.d.O.length ≤ S.d.O.length + 1026:=by
 obtain ⟨l,hl,rfl⟩:=hc
 have hso:=(hl.ok h).len hk
 have hz:=h.bz1
 have hev:=h.each hk
 have hm:=mvK_len g F key k l S l.length
 rw [clean_at rfl]
 generalize mvK g F key k l S l.length = M at *
 split
 ·unfold wipeS
  have h1:=flushS_len (g:=g) (F:=F) (key:=key) (S:=M.1)
  have h2:=eraseS_len (g:=g) (F:=F) (key:=key) (k:=(k : Int)) (S:=(flushS g F key M.1).1)
  generalize eraseS g F key k (flushS g F key M.1).1 = E at *
  generalize flushS g F key M.1 = L at *
  split
  ·split
   ·simp only; omega
   ·simp only; omega
  ·simp only; omega
 ·omega
theorem cleanMR_len {r : ST × Int × Int} (h : VOk g S.v) (hc : CleanMR g F key S r) : r.1.d.O.length ≤ S.d.O.length + 1026:=by
 unfold CleanMR at hc
 split at hc
 ·split at hc
  ·rename_i _ h0
   obtain ⟨k,hk,hV⟩:=victim_told h h0
   rw [hk] at hc
   exact cleanR_len h hV.hk hc
  ·rw [hc]; simp only; omega
 ·rw [hc]; simp only; omega
theorem putR_len {x : Ent} {r : ST × Int} (h : VOk g S.v) (hc : PutR g F key S x r) : r.1.d.O.length ≤ S.d.O.length + 1027:=by
 obtain ⟨T,hT,hc⟩:=hc
 have hr:=cleans_told h hT
 have h1:=hr.O1
 rcases hc with ⟨_,e⟩ | ⟨_,_,e⟩ | ⟨_,h0,U,m,er,hcl,_,e⟩
 ·have:=appN_len (g:=g) (F:=F) (key:=key) (S:=T) (x:=x) (except:=-1)
  rw [e]; omega
 ·rw [e]; simp only; omega
 ·obtain ⟨k,hk2,hV⟩:=victim_told hr.ok h0
  rw [hk2] at hcl
  have:=cleanR_len hr.ok hV.hk hcl
  rw [e]; simp only at this ⊢; omega
theorem writeR_len {x : Ent} {r : ST × Int} (h : VOk g S.v) (hc : WriteR g F key S x r) : r.1.d.O.length ≤ S.d.O.length + 1027:=by
 unfold WriteR at hc
 split at hc
 ·exact putR_len h hc
 ·rw [hc]; simp only; omega
theorem flushR_len : (flushR g F key S).1.d.O.length ≤ S.d.O.length + 1:=by
 unfold flushR; split
 ·exact flushS_len
 ·simp only; omega
theorem readS20_len {b : Int} : (readS20 g F key S b).d.O.length ≤ S.d.O.length:=by
 unfold readS20; split
 ·simp only; rw [rdX_r.2]; exact Nat.le_refl _
 ·exact Nat.le_refl _
theorem putR_u8 {x : Ent} {r : ST × Int} (hu : S.d.U8) (hx : U8s x.dt) (hc : PutR g F key S x r) : r.1.d.U8:=by
 obtain ⟨T,hT,hc⟩:=hc
 have h1:=cleans_u8 hu hT
 rcases hc with ⟨_,e⟩ | ⟨_,_,e⟩ | ⟨_,_,U,m,er,hcl,_,e⟩
 ·rw [e]; exact appN_u8 h1 hx
 ·rw [e]; exact h1
 ·rw [e]; exact cleanR_u8 h1 hcl
theorem writeR_u8 {x : Ent} {r : ST × Int} (hu : S.d.U8) (hx : U8s x.dt) (hc : WriteR g F key S x r) : r.1.d.U8:=by
 unfold WriteR at hc
 split at hc
 ·exact putR_u8 hu hx hc
 ·rw [hc]; exact hu
theorem cleanMR_u8 {r : ST × Int × Int} (hu : S.d.U8) (hc : CleanMR g F key S r) : r.1.d.U8:=by
 unfold CleanMR at hc
 split at hc
 ·split at hc
  ·exact cleanR_u8 hu hc
  ·rw [hc]; exact hu
 ·rw [hc]; exact hu
theorem flushR_u8 (hu : S.d.U8) : (flushR g F key S).1.d.U8:=by
 unfold flushR; split
 ·exact flushS_u8 hu
 ·exact hu
theorem readS20_u8 {b : Int} (hu : S.d.U8) : (readS20 g F key S b).d.U8:=by
 unfold readS20; split
 ·exact (rdX_u8 hu).2
 ·exact hu
end
theorem rdS20_bytes {g : Geo} {F : List Flt} {key : Int} {d : DC} (hu : d.U8) (m : Nat) : ∀ k xs,(rdS20 g F key d m).2.1.getD k none = some xs → U8s xs:=fun k xs h=>by
 have hg : GoodD U8s d:=⟨⟨hu.1⟩,hu.2⟩
 have h2:=(rdS20_good (g:=g) (F:=F) (key:=key) U8s.nil hg m).2
 refine h2 (some xs) ?_ xs rfl
 unfold List.getD at h
 cases e : (rdS20 g F key d m).2.1[k]? with
 | none=>rw [e] at h; cases h
 | some o=>rw [e] at h; simp only [Option.getD_some] at h; subst h; exact List.mem_of_getElem? e
structure Wr where
 ver : Int
 dt : List Int
 trim : Bool
structure RG where
 S : ST
 hist : List (List Wr)
 fl : List Int
 next : Int
def dataW (x n : Int) : List Int:=[x,n % 256,0,0,0,0,0,0]
def wWr (x n : Int) : Wr:=⟨n,dataW x n,false⟩
def tWr (n : Int) : Wr:=⟨n,zeros8,true⟩
def wEnt (b : Int) (x n : Int) : Ent:=⟨1,b,n,dataW x n⟩
def tEnt (b n : Int) : Ent:=⟨2,b,n,zeros8⟩
def addH (h : List (List Wr)) (b : Nat) (w : Wr) : List (List Wr):=h.set b (h.getD b [] ++ [w])
theorem addH_len (h : List (List Wr)) (b : Nat) (w : Wr) : (addH h b w).length = h.length:=by simp [addH]
def lensH (h : List (List Wr)) : List Int:=h.map fun l=>(l.length : Int)
structure Act20 where
 kind : Int
 blk : Int
 data : Int
def ActR (g : Geo) (F : List Flt) (n : Nat) (a : Act20) (R R' : RG) (er : Int) : Prop:=
 if 0 ≤ a.blk ∧ a.blk < n then
  (a.kind = 0 ∧ ∃ S',WriteR g F 0 R.S (wEnt a.blk a.data (R.next + 1)) (S',er) ∧ R' = ⟨S',addH R.hist a.blk.toNat (wWr a.data (R.next + 1)),R.fl,R.next + 1⟩) ∨
  (a.kind = 1 ∧ ∃ S',WriteR g F 0 R.S (tEnt a.blk (R.next + 1)) (S',er) ∧ R' = ⟨S',addH R.hist a.blk.toNat (tWr (R.next + 1)),R.fl,R.next + 1⟩) ∨
  (a.kind = 2 ∧ ∃ S' m e,CleanMR g F 0 R.S (S',m,e) ∧ er = (if e = 9 then 0 else e) ∧ R' = { R with S:=S' }) ∨
  (a.kind = 3 ∧ er = (flushR g F 0 R.S).2 ∧ R' = { R with S:=(flushR g F 0 R.S).1,fl:=if (flushR g F 0 R.S).2 = 0 then lensH R.hist else R.fl }) ∨
  (4 ≤ a.kind ∧ er = (rdS20 g F 0 R.S.d (nSec g)).2.2 ∧
    ((er = 0 ∧ ∃ v,OpenV g n (rdS20 g F 0 R.S.d (nSec g)).2.1 v ∧ R' = { R with S:=⟨v,(rdS20 g F 0 R.S.d (nSec g)).1⟩ }) ∨
     (er ≠ 0 ∧ R' = { R with S:=⟨R.S.v,(rdS20 g F 0 R.S.d (nSec g)).1⟩ })))
 else R' = R ∧ er = 0
def inH (h : List (List Wr)) (x : Ent) : Prop:=∃ w ∈ h.getD x.blk.toNat [],w.ver = x.ver ∧ ((x.kind = 1 ∧ w.trim = false ∧ w.dt = x.dt) ∨ x.kind = 2)
theorem inH_add {h : List (List Wr)} {b : Nat} {w : Wr} {x : Ent} (hx : inH h x) : inH (addH h b w) x:=by
 obtain ⟨u,hu,h1⟩:=hx
 refine ⟨u,?_,h1⟩
 unfold addH
 by_cases e : x.blk.toNat = b
 ·subst e
  by_cases hl : x.blk.toNat < h.length
  ·simp only [List.getD,List.getElem?_set_self hl,Option.getD_some]
   exact List.mem_append.2 (.inl hu)
  ·simp only [List.getD,List.getElem?_eq_none (Nat.le_of_not_lt hl),Option.getD_none] at hu
   simp at hu
 ·simp only [List.getD,List.getElem?_set_ne (fun h'=>e h'.symm)]
  exact hu
theorem inH_new {h : List (List Wr)} {b : Nat} {w : Wr} {x : Ent} (hb : b < h.length) (hx : x.blk = (b : Int)) (hv : w.ver = x.ver) (hk : (x.kind = 1 ∧ w.trim = false ∧ w.dt = x.dt) ∨ x.kind = 2) : inH (addH h b w) x:=by
 refine ⟨w,?_,hv,hk⟩
 unfold addH
 rw [hx,Int.toNat_natCast]
 simp only [List.getD,List.getElem?_set_self hb,Option.getD_some]
 exact List.mem_append.2 (.inr (by simp))
structure HonI (g : Geo) (n : Nat) (c : Nat) (R : RG) : Prop where
 ok : VOk g R.S.v
 u8 : R.S.d.U8
 good : GoodD (HG (inH R.hist)) R.S.d
 es : R.S.v.es.length = n
 hl : R.hist.length = n
 fl : R.fl.length = n
 nx : 0 ≤ R.next ∧ R.next ≤ c
 O : R.S.d.O.length ≤ 1027 * c
 hn : ∀ l ∈ R.hist,l.length ≤ c
theorem u8w (n : Int) : 0 ≤ n % 256 ∧ n % 256 < 256:=by omega
theorem dataW_u8 {x : Int} (n : Int) (hx : 0 ≤ x ∧ x < 256) : U8s (dataW x n):=by
 intro y hy
 have:=u8w n
 simp only [dataW,List.mem_cons,List.not_mem_nil,or_false] at hy
 rcases hy with rfl | rfl | rfl | rfl | rfl | rfl | rfl | rfl <;> omega
theorem zeros8_u8 : U8s zeros8:=by
 intro y hy
 simp only [zeros8,List.mem_cons,List.not_mem_nil,or_false] at hy
 rcases hy with rfl | rfl | rfl | rfl | rfl | rfl | rfl | rfl <;> omega
theorem addH_lens {h : List (List Wr)} {b c : Nat} {w : Wr} (hh : ∀ l ∈ h,l.length ≤ c) : ∀ l ∈ addH h b w,l.length ≤ c + 1:=by
 intro l hl
 unfold addH at hl
 rcases List.mem_or_eq_of_mem_set hl with h1 | rfl
 ·have:=hh l h1; omega
 ·rw [List.length_append]
  have : (h.getD b []).length ≤ c:=by
   unfold List.getD
   cases e : h[b]? with
   | none=>simp
   | some l=>exact hh l (List.mem_of_getElem? e)
  rw [List.length_singleton]; omega
theorem act_hon {g : Geo} {F : List Flt} {n c : Nat} {a : Act20} {R R' : RG} {er : Int} (hF : NoTear F) (hn : 1 ≤ n ∧ n ≤ 65536) (hd : 0 ≤ a.data ∧ a.data < 256) (hc : c ≤ 1000) (h : HonI g n c R) (hr : ActR g F n a R R' er) : HonI g n (c + 1) R':=by
 have hnx:=h.nx
 have hO:=h.O
 have hhn:=h.hn
 unfold ActR at hr
 split at hr
 ·rename_i hb
  obtain ⟨b,hbe⟩:=Int.eq_ofNat_of_zero_le hb.1
  have hbn : b < R.hist.length:=by have:=h.hl; omega
  have hbt : a.blk.toNat = b:=by omega
  rcases hr with ⟨_,S',hw,rfl⟩ | ⟨_,S',hw,rfl⟩ | ⟨_,S',m,e,hw,_,rfl⟩ | ⟨_,_,rfl⟩ | ⟨_,rfl,hr⟩
  ·have hxo : (wEnt a.blk a.data (R.next + 1)).Ok:=⟨by show 0 ≤ R.next + 1; omega,by show R.next + 1 ≤ _; omega,rfl,dataW_u8 _ hd⟩
   have hk:=writeR_keep h.ok ⟨by show 0 ≤ R.next + 1; omega,by show R.next + 1 ≤ _; omega⟩ hw
   have hH : ∀ x,inH R.hist x → inH (addH R.hist a.blk.toNat (wWr a.data (R.next + 1))) x:=fun x hx=>inH_add hx
   have hl:=writeR_len h.ok hw
   refine ⟨hk.ok,writeR_u8 h.u8 (dataW_u8 _ hd) hw,writeR_good hF h.u8 (h.good.mono (fun ys hy=>hy.mono hH)) (inH_new (by rw [hbt]; exact hbn) (by rw [hbt]; exact hbe) rfl (.inl ⟨rfl,rfl,rfl⟩)) hxo hw,hk.es.trans h.es,(addH_len _ _ _).trans h.hl,h.fl,by simp only; omega,by simp only at hl ⊢; omega,addH_lens hhn⟩
  ·have hxo : (tEnt a.blk (R.next + 1)).Ok:=⟨by show 0 ≤ R.next + 1; omega,by show R.next + 1 ≤ _; omega,rfl,zeros8_u8⟩
   have hk:=writeR_keep h.ok ⟨by show 0 ≤ R.next + 1; omega,by show R.next + 1 ≤ _; omega⟩ hw
   have hH : ∀ x,inH R.hist x → inH (addH R.hist a.blk.toNat (tWr (R.next + 1))) x:=fun x hx=>inH_add hx
   have hl:=writeR_len h.ok hw
   refine ⟨hk.ok,writeR_u8 h.u8 zeros8_u8 hw,writeR_good hF h.u8 (h.good.mono (fun ys hy=>hy.mono hH)) (inH_new (by rw [hbt]; exact hbn) (by rw [hbt]; exact hbe) rfl (.inr rfl)) hxo hw,hk.es.trans h.es,(addH_len _ _ _).trans h.hl,h.fl,by simp only; omega,by simp only at hl ⊢; omega,addH_lens hhn⟩
  ·have hk:=cleanMR_keep h.ok hw
   have hl:=cleanMR_len h.ok hw
   exact ⟨hk.ok,cleanMR_u8 h.u8 hw,cleanMR_good hF h.u8 h.good hw,hk.es.trans h.es,h.hl,h.fl,by simp only; omega,by simp only at hl ⊢; omega,fun l hl=>by have:=hhn l hl; omega⟩
  ·have hk:=flushR_keep (F:=F) (key:=0) h.ok
   have hl:=flushR_len (g:=g) (F:=F) (key:=0) (S:=R.S)
   refine ⟨hk.ok,flushR_u8 h.u8,flushR_good h.good,hk.es.trans h.es,h.hl,?_,by simp only; omega,by simp only; omega,fun l hl=>by have:=hhn l hl; omega⟩
   simp only
   split
   ·simp only [lensH,List.length_map]; exact h.hl
   ·exact h.fl
  ·have hL:=(rdS20_r (g:=g) (F:=F) (key:=0) (d:=R.S.d) (nSec g)).2
   have hU:=rdS20_u8 (g:=g) (F:=F) (key:=0) h.u8 (nSec g)
   have hG:=(rdS20_good (g:=g) (F:=F) (key:=0) (hg_nil _) h.good (nSec g)).1
   rcases hr with ⟨h0,v,hv,rfl⟩ | ⟨_,rfl⟩
   ·have hlen:=rdS20_len (g:=g) (F:=F) (key:=0) (d:=R.S.d) (nSec g) h0
    have hvo : VOk g v:=openV_vok h.ok.gv hn hlen (fun k xs hk=>rdS20_bytes h.u8 (nSec g) k xs hk) hv
    refine ⟨hvo,hU,hG,?_,h.hl,h.fl,by simp only; omega,by simp only; rw [hL]; omega,fun l hl=>by have:=hhn l hl; omega⟩
    obtain ⟨L,L0,_,_,e⟩:=hv.ex
    simp only
    rw [e]; simp only
    exact entAll_len n L
   ·exact ⟨h.ok,hU,hG,h.es,h.hl,h.fl,by simp only; omega,by simp only; rw [hL]; omega,fun l hl=>by have:=hhn l hl; omega⟩
 ·obtain ⟨rfl,_⟩:=hr
  exact ⟨h.ok,h.u8,h.good,h.es,h.hl,h.fl,by omega,by omega,fun l hl=>by have:=hhn l hl; omega⟩
end Go.Proofs.YtggkengmlkhdiaaGreat
namespace Go.Proofs.YtggkengmlkhdiaaGreat
set_option linter.unusedVariables false
open Go.RowKit
section
variable {w w' : World} {B C : Bd} {p q pw : Nat} {g : Geo} {F : List Flt} {key : Int} {S : ST} {ea ec : Nat} {BA : Option Addr} {bc : Nat}
theorem Cac.keptNil {m1 b1 m2 b2 : Nat} {A : Option Addr} {c : Nat} {G : List Value} {LM : List Sec} {ts : List TypeId} (h : Cac w B p g LM [] m1 b1 m2 b2 A c G) (hk : KeptT ts C w w') (ht : ∀ t,t ∈ [166,162,196,173,5] → t ∉ ts) : Cac w' B p g LM [] m1 b1 m2 b2 A c G:=
 ⟨own_kept h.obj hk (fun k e=>by simp [Value.ownBlock] at e; subst e; exact KeptT.no h.typ (ht _ (by simp))),h.px,h.ax,h.lb1,h.lb2,h.ne,
   h.med1.keptT hk (ht _ (by simp)) (ht _ (by simp)) (ht _ (by simp)),h.med2.keptT hk (ht _ (by simp)) (ht _ (by simp)) (ht _ (by simp)),
   own_kept h.own hk (fun k hk'=>KeptT.no (h.typA k hk').1 (ht _ (by simp))),fun i o ho=>by simp at ho⟩
theorem Drv.keptInt (h : Drv w B p q pw g F key S ea ec BA bc) (hO : S.d.O = []) (hk : KeptT [3] C w w') : Drv w' B p q pw g F key S ea ec BA bc:=by
 obtain ⟨h1,h2,h3,h4,h5,h6⟩:=h
 refine ⟨own_ty h1 hk (by decide),h2,own_ty h3 hk (by decide),h4,h5.kept hk (KeptT.free (by decide)),?_⟩
 obtain ⟨⟨pc,FA,fc,hd⟩,hp,hf,hsb,hB⟩:=h6
 show DPm w' B q pw g F S.d.s S.d.P S.d.L S.d.O
 rw [hO] at hd ⊢
 obtain ⟨d1,d2,⟨m1,b1,m2,b2,A,c,G,hc⟩,d4⟩:=hd
 exact ⟨⟨pc,FA,fc,own_kept d1 hk (fun k e=>by simp [Value.ownBlock] at e; subst e; exact KeptT.no (IsT.own d1) (by decide)),d2,⟨m1,b1,m2,b2,A,c,G,hc.keptNil hk (by decide)⟩,d4.kept hk (KeptT.free (by decide))⟩,hp.keptT hk (by decide),hf,hsb,Nat.le_trans hB hk.size⟩
end
def Bd.out (N : Nat) (X : Nat → Prop) (top : Nat) (hx : ∀ k,X k → k < top) (hN : N ≤ top) : Bd:=⟨N,X,top,hx,hN⟩
theorem DM.apart {w : World} {N q pw : Nat} {g : Geo} {F : List Flt} {d : DC} {X : Nat → Prop} (h : DM w (Bd.of N) q pw g F d) (hX : ∀ k,X k → HasT [87,84] w k) (hx : ∀ k,X k → k < w.heap.size) (hN : N ≤ w.heap.size) :
  DM w (Bd.out N X w.heap.size hx hN) q pw g F d:=by
 have hno : ∀ {t : TypeId} {k : Nat},IsT t w k → t ∉ [(87 : TypeId),84] → ¬ X k:=fun hk ht hXk=>HasT.no hk ht (hX _ hXk)
 obtain ⟨⟨pc,FA,fc,d1,d2,⟨m1,b1,m2,b2,A,c,G,hc⟩,d4⟩,⟨p1,p2⟩,hf,hsb,hB⟩:=h
 refine ⟨⟨pc,FA,fc,d1,hno (IsT.own d1) (by decide),⟨m1,b1,m2,b2,A,c,G,?_⟩,d4⟩,⟨p1,hno (IsT.own p1) (by decide)⟩,hf,hsb,Nat.le_refl _⟩
 exact ⟨hc.obj,hno hc.typ (by decide),fun k hk=>hno (hc.typA k hk).1 (by decide),⟨hc.lb1.1,hno hc.med1.types.2 (by decide)⟩,⟨hc.lb2.1,hno hc.med2.types.2 (by decide)⟩,hc.ne,hc.med1,hc.med2,hc.own,hc.fn⟩
theorem DM.back {w : World} {N q pw : Nat} {g : Geo} {F : List Flt} {d : DC} {X : Nat → Prop} {top : Nat} {hx : ∀ k,X k → k < top} {hN : N ≤ top} (h : DM w (Bd.out N X top hx hN) q pw g F d) : DM w (Bd.of N) q pw g F d:=
 DPm.moveN h (Below.refl _ _) ⟨Nat.le_refl _,fun k _ hk=>⟨hk.1,fun h=>h⟩⟩ (Nat.le_trans hN h.B)
theorem DrvM.back {w : World} {N p q pw : Nat} {g : Geo} {F : List Flt} {key : Int} {S : ST} {X : Nat → Prop} {top : Nat} {hx : ∀ k,X k → k < top} {hN : N ≤ top} (h : DrvM w (Bd.out N X top hx hN) p q pw g F key S) : DrvM w (Bd.of N) p q pw g F key S:=by
 obtain ⟨ea,ec,BA,bc,h1,h2,h3,h4,h5,h6⟩:=h
 exact ⟨ea,ec,BA,bc,h1,fun h=>h,h3,fun h=>h,h5,DM.back h6⟩
theorem Drv.other {w w' : World} {N p q pw : Nat} {g : Geo} {F : List Flt} {key : Int} {S : ST} {ea ec : Nat} {BA : Option Addr} {bc : Nat} {top : Nat} {hx : ∀ k,(k = p ∨ k = ea) → k < top} {hN : N ≤ top} (h : Drv w (Bd.of N) p q pw g F key S ea ec BA bc) (hk : KeptT DRT (Bd.out N (fun k=>k = p ∨ k = ea) top hx hN) w w') {d : DC} (hd : DM w' (Bd.of N) q pw g F d) : Drv w' (Bd.of N) p q pw g F key ⟨S.v,d⟩ ea ec BA bc:=
 ⟨own_kept h.obj hk (fun k e hh=>by simp [Value.ownBlock] at e; subst e; exact hh.1.2 (.inl rfl)),h.px,own_kept h.es hk (fun k e hh=>by simp [Value.ownBlock] at e; subst e; exact hh.1.2 (.inr rfl)),h.ex,h.bs.kept hk (KeptT.free (by unfold DRT; decide)),hd⟩
def Wr.cells (x : Wr) : List Value:=.int .u64 x.ver :: (x.dt.map (Value.int .u8) ++ [.bool x.trim])
structure Wr.Ok (x : Wr) : Prop where
 len : x.dt.length = 8
def flatW (l : List Wr) : List Value:=l.flatMap Wr.cells
theorem wcells_len {x : Wr} (h : x.dt.length = 8) : x.cells.length = 10:=by simp [Wr.cells,h]
structure Hs where
 A : Option Addr
 xs : List Wr
 c : Nat
def Hs.v (h : Hs) : Value:=.slice h.A h.xs.length h.c
structure HistM (w : World) (n : Nat) (ha hc : Nat) (hs : List Hs) : Prop where
 own : w.ownsRow n 62 1 (.slice (some ⟨ha,0,none⟩) hs.length hc) hs.length (hs.map Hs.v)
 each : ∀ (i : Nat) (h : Hs),hs[i]? = some h → w.ownsRow n 64 10 h.v h.xs.length (flatW h.xs)
 apart : ∀ (i j : Nat) (h k : Hs),hs[i]? = some h → hs[j]? = some k → i ≠ j → h.v.ownBlock = none ∨ h.v.ownBlock ≠ k.v.ownBlock
 wok : ∀ (i : Nat) (h : Hs),hs[i]? = some h → ∀ x ∈ h.xs,x.dt.length = 8
section
variable {w w' : World} {ts : List TypeId} {B : Bd} {n ha hc : Nat} {hs : List Hs}
theorem HistM.types (h : HistM w n ha hc hs) (hk : KeptT ts B w w') (h1 : 62 ∉ ts) (h2 : 64 ∉ ts) : HistM w' n ha hc hs:=
 ⟨own_ty h.own hk h1,fun i k hi=>own_ty (h.each i k hi) hk h2,h.apart,h.wok⟩
theorem HistM.below (h : HistM w n ha hc hs) (hb : Below w.heap.size w w') : HistM w' n ha hc hs:=h.types (ts:=[]) (B:=Bd.of 0) (KeptT.bel hb) (by simp) (by simp)
theorem HistM.cell (h : HistM w n ha hc hs) {i : Nat} {k : Hs} (hi : hs[i]? = some k) : w.cell? ⟨ha,i,none⟩ = some k.v:=by
 have hl : i < hs.length:=(List.getElem?_eq_some_iff.1 hi).1
 rw [World.ownsRow.cellAt h.own i (by omega),List.getElem?_map,hi]; rfl
theorem HistM.free (h : HistM w n ha hc hs) (i : Nat) : w.frozen? ⟨ha,i,none⟩ = false:=h.own.frozenAt i
theorem HistM.low (h : HistM w n ha hc hs) : n ≤ ha:=drow_low h.own
theorem HistM.push {i : Nat} {k : Hs} {x : Wr} {gb cap H : Nat} (h : HistM w n ha hc hs) (hi : hs[i]? = some k) (hx : x.dt.length = 8) (hH : w.heap.size ≤ H)
  (hown : w'.ownsRow n 64 10 (.slice (some ⟨gb,0,none⟩) (k.xs.length + 1) cap) (k.xs.length + 1) (flatW k.xs ++ x.cells)) (hg : ∀ b,b < w.heap.size → some b ≠ k.v.ownBlock → w'.heap[b]? = w.heap[b]?) (hat : k.v.ownBlock = some gb ∨ gb = H) :
  HistM (w'.setCell ⟨ha,i,none⟩ (.slice (some ⟨gb,0,none⟩) (k.xs.length + 1) cap)) n ha hc (hs.set i ⟨some ⟨gb,0,none⟩,k.xs ++ [x],cap⟩):=by
 have hl : i < hs.length:=(List.getElem?_eq_some_iff.1 hi).1
 have hha : IsT 62 w ha:=IsT.own h.own
 have hkb : ∀ b,k.v.ownBlock = some b → IsT 64 w b:=fun b hb=>by
  rcases (h.each i k hi).2 with ⟨h2,_⟩ | ⟨g',cap,cur,h2,_,h4,_⟩
  ·rw [h2] at hb; cases hb
  ·rw [h2] at hb; injection hb with hb; subst hb; exact IsT.of h4
 have hne : some ha ≠ k.v.ownBlock:=fun e=>(hha.ne (hkb ha e.symm) (by decide)) rfl
 have hrow : ∀ {t : TypeId} {m : Nat} {v : Value} {l : Nat} {xs : List Value},w.ownsRow n t m v l xs → (v.ownBlock = none ∨ v.ownBlock ≠ k.v.ownBlock) → w'.ownsRow n t m v l xs:=by
  intro t m v l xs ho hb
  refine ⟨ho.1,?_⟩
  rcases ho.2 with h2 | ⟨g',cp,cur,h2,h3,h4,h5⟩
  ·exact .inl h2
  ·refine .inr ⟨g',cp,cur,h2,h3,?_,h5⟩
   rw [hg g' (lt_of_block h4) (fun e=>by
    rcases hb with hb | hb
    ·rw [h2] at hb; cases hb
    ·exact hb (by rw [h2]; exact e))]
   exact h4
 have ho':=hrow h.own (.inr (by simpa [Value.ownBlock] using hne))
 have hst:=(World.ownsRow.stored ho' i (.slice (some ⟨gb,0,none⟩) (k.xs.length + 1) cap)).1
 have hgb : ∀ {t : TypeId} {m : Nat} {v : Value} {l : Nat} {xs : List Value},w'.ownsRow n t m v l xs → v.ownBlock ≠ some ha → (w'.setCell ⟨ha,i,none⟩ (.slice (some ⟨gb,0,none⟩) (k.xs.length + 1) cap)).ownsRow n t m v l xs:=by
  intro t m v l xs ho hb
  exact own_kept ho ((Kept.refl (fun b=>b = ha) w').setCell (p:=⟨ha,i,none⟩) (fun _=>rfl) _) (fun b e hb'=>hb (by rw [e,hb']))
 have hgne : gb ≠ ha:=by
  rcases hat with e | e
  ·intro e'; subst e'; exact hne e.symm
  ·have:=hha.lt; omega
 refine ⟨?_,?_,?_,?_⟩
 ·have ev : Hs.v ⟨some ⟨gb,0,none⟩,k.xs ++ [x],cap⟩ = .slice (some ⟨gb,0,none⟩) (k.xs.length + 1) cap:=by simp [Hs.v]
  rw [List.length_set,List.map_set,ev]; exact hst
 ·intro j u hu
  by_cases e : i = j
  ·subst e
   rw [List.getElem?_set_self hl] at hu
   injection hu with hu; subst hu
   have:=hgb hown (by simpa [Value.ownBlock] using hgne)
   simp only [Hs.v,List.length_append,List.length_cons,List.length_nil,flatW,List.flatMap_append,List.flatMap_cons,List.flatMap_nil,List.append_nil]
   exact this
  ·rw [List.getElem?_set_ne e] at hu
   have h1:=h.each j u hu
   refine hgb (hrow h1 (h.apart j i u k hu hi (fun e'=>e e'.symm))) (fun e'=>?_)
   rcases h1.2 with ⟨h2,_⟩ | ⟨g',cp,cur,h2,_,h4,_⟩
   ·rw [h2] at e'; cases e'
   ·rw [h2] at e'; injection e' with e'; subst e'
    exact (hha.ne (IsT.of h4) (by decide)) rfl
 ·have hfar : ∀ (j : Nat) (u : Hs),hs[j]? = some u → j ≠ i → u.v.ownBlock = none ∨ u.v.ownBlock ≠ some gb:=fun j u hu hj=>by
   rcases hat with e | e
   ·rw [← e]; exact h.apart j i u k hu hi hj
   ·rcases (h.each j u hu).2 with ⟨h2,_⟩ | ⟨g',cp,cur,h2,_,h4,_⟩
    ·exact .inl (by rw [h2]; rfl)
    ·refine .inr (fun e'=>?_)
     rw [h2] at e'; injection e' with e'
     have e2 : g' = gb:=e'
     have:=lt_of_block h4; omega
  intro a b u v hu hv hab
  by_cases ea : i = a
  ·subst ea
   rw [List.getElem?_set_self hl] at hu
   injection hu with hu; subst hu
   rw [List.getElem?_set_ne hab] at hv
   rcases hfar b v hv (fun e=>hab e.symm) with e | e
   ·exact .inr (fun e'=>by rw [e] at e'; cases e')
   ·exact .inr (fun e'=>e (e'.symm))
  ·rw [List.getElem?_set_ne ea] at hu
   by_cases eb : i = b
   ·subst eb
    rw [List.getElem?_set_self hl] at hv
    injection hv with hv; subst hv
    exact hfar a u hu (fun e=>ea e.symm)
   ·rw [List.getElem?_set_ne eb] at hv
    exact h.apart a b u v hu hv hab
 ·intro j u hu
  by_cases e : i = j
  ·subst e
   rw [List.getElem?_set_self hl] at hu
   injection hu with hu; subst hu
   intro y hy
   rcases List.mem_append.1 hy with hy | hy
   ·exact h.wok i k hi y hy
   ·simp at hy; subst hy; exact hx
  ·rw [List.getElem?_set_ne e] at hu
   exact h.wok j u hu
end
def rObj (pw q p : Nat) (n : Nat) (ha hl hc fa fl fc : Nat) (next : Int) : List Value:=
 [.pointer (some ⟨pw,0,none⟩),.pointer (some ⟨q,0,none⟩),.pointer (some ⟨p,0,none⟩),.int .i64 n,.slice (some ⟨ha,0,none⟩) hl hc,.slice (some ⟨fa,0,none⟩) fl fc,.int .u64 next]
def RGT : List TypeId:=[196,166,173,109,132,87,84,58,62,64,3]
structure Rig (w : World) (N r p q pw ha hc fa fc : Nat) (g : Geo) (F : List Flt) (n : Nat) (R : RG) (hs : List Hs) : Prop where
 obj : w.ownsRow N 58 7 (.slice (some ⟨r,0,none⟩) 1 1) 1 (rObj pw q p n ha hs.length hc fa R.fl.length fc R.next)
 hist : HistM w N ha hc hs
 hh : hs.map Hs.xs = R.hist
 fl : w.ownsRow N 3 1 (.slice (some ⟨fa,0,none⟩) R.fl.length fc) R.fl.length (R.fl.map (Value.int .i64))
 drv : DrvM w (Bd.of N) p q pw g F 0 R.S
def RigM (w : World) (N r q pw : Nat) (g : Geo) (F : List Flt) (n : Nat) (R : RG) : Prop:=∃ p ha hc fa fc hs,Rig w N r p q pw ha hc fa fc g F n R hs
section
variable {w w' : World} {N r p q pw ha hc fa fc : Nat} {g : Geo} {F : List Flt} {n : Nat} {R : RG} {hs : List Hs} {C : Bd}
theorem Rig.cell (h : Rig w N r p q pw ha hc fa fc g F n R hs) (j : Nat) (hj : j < 7) : w.cell? ⟨r,j,none⟩ = (rObj pw q p n ha hs.length hc fa R.fl.length fc R.next)[j]?:=World.ownsRow.cellAt h.obj j (by omega)
theorem Rig.free (h : Rig w N r p q pw ha hc fa fc g F n R hs) (j : Nat) : w.frozen? ⟨r,j,none⟩ = false:=h.obj.frozenAt j
theorem Rig.cells (h : Rig w N r p q pw ha hc fa fc g F n R hs) : w.cell? ⟨r,0,none⟩ = some (.pointer (some ⟨pw,0,none⟩)) ∧ w.cell? ⟨r,1,none⟩ = some (.pointer (some ⟨q,0,none⟩)) ∧ w.cell? ⟨r,2,none⟩ = some (.pointer (some ⟨p,0,none⟩)) ∧ w.cell? ⟨r,3,none⟩ = some (.int .i64 n) ∧ w.cell? ⟨r,4,none⟩ = some (.slice (some ⟨ha,0,none⟩) hs.length hc) ∧ w.cell? ⟨r,5,none⟩ = some (.slice (some ⟨fa,0,none⟩) R.fl.length fc) ∧ w.cell? ⟨r,6,none⟩ = some (.int .u64 R.next):=
 ⟨(h.cell 0 (by decide)).trans rfl,(h.cell 1 (by decide)).trans rfl,(h.cell 2 (by decide)).trans rfl,(h.cell 3 (by decide)).trans rfl,(h.cell 4 (by decide)).trans rfl,(h.cell 5 (by decide)).trans rfl,(h.cell 6 (by decide)).trans rfl⟩
theorem Rig.low (h : Rig w N r p q pw ha hc fa fc g F n R hs) : N ≤ r:=row_low h.obj
theorem Rig.lowF (h : Rig w N r p q pw ha hc fa fc g F n R hs) : N ≤ fa:=drow_low h.fl
theorem Rig.lt (h : Rig w N r p q pw ha hc fa fc g F n R hs) : r < w.heap.size:=(IsT.own h.obj).lt
theorem Rig.hl (h : Rig w N r p q pw ha hc fa fc g F n R hs) : hs.length = R.hist.length:=by rw [← h.hh,List.length_map]
theorem Rig.below0 (h : Rig w N r p q pw ha hc fa fc g F n R hs) (hb : Below w.heap.size w w') : Rig w' N r p q pw ha hc fa fc g F n R hs:=
 ⟨own_ty (ts:=[]) (B:=Bd.of 0) h.obj (KeptT.bel hb) (by simp),h.hist.below hb,h.hh,own_ty (ts:=[]) (B:=Bd.of 0) h.fl (KeptT.bel hb) (by simp),h.drv.below0 hb⟩
theorem Rig.drive (h : Rig w N r p q pw ha hc fa fc g F n R hs) {S' : ST} (hd : DrvM w' (Bd.of N) p q pw g F 0 S') (hk : KeptT DRT C w w') : Rig w' N r p q pw ha hc fa fc g F n { R with S:=S' } hs:=
 ⟨own_ty h.obj hk (by unfold DRT; decide),h.hist.types hk (by unfold DRT; decide) (by unfold DRT; decide),h.hh,own_ty h.fl hk (by unfold DRT; decide),hd⟩
theorem Rig.store (h : Rig w N r p q pw ha hc fa fc g F n R hs) (j : Nat) (u : Value) : KeptT [58] (Bd.of N) w (w.setCell ⟨r,j,none⟩ u) ∧
  (w.setCell ⟨r,j,none⟩ u).ownsRow N 58 7 (.slice (some ⟨r,0,none⟩) 1 1) 1 ((rObj pw q p n ha hs.length hc fa R.fl.length fc R.next).set j u):=by
 have hk : Kept (fun k=>k = r) w (w.setCell ⟨r,j,none⟩ u):=(Kept.refl (fun k=>k = r) w).setCell (p:=⟨r,j,none⟩) (fun _=>rfl) _
 exact ⟨KeptT.of hk (fun k _ e=>by have e' : k = r:=e; subst e'; exact ⟨Bd.hasOf.2 h.low,HasT.mem (IsT.own h.obj) (by simp)⟩),(World.ownsRow.stored h.obj j u).1⟩
theorem Rig.rest (h : Rig w N r p q pw ha hc fa fc g F n R hs) (hk : KeptT [58] C w w') : HistM w' N ha hc hs ∧ w'.ownsRow N 3 1 (.slice (some ⟨fa,0,none⟩) R.fl.length fc) R.fl.length (R.fl.map (Value.int .i64)) ∧ (∀ {p S},DrvM w (Bd.of N) p q pw g F 0 S → DrvM w' (Bd.of N) p q pw g F 0 S):=
 ⟨h.hist.types hk (by decide) (by decide),own_ty h.fl hk (by decide),fun ⟨ea,ec,BA,bc,hd⟩=>⟨ea,ec,BA,bc,hd.types hk (by decide)⟩⟩
theorem Rig.setNext (h : Rig w N r p q pw ha hc fa fc g F n R hs) (t : Int) : Rig (w.setCell ⟨r,6,none⟩ (.int .u64 t)) N r p q pw ha hc fa fc g F n { R with next:=t } hs ∧ KeptT RGT (Bd.of N) w (w.setCell ⟨r,6,none⟩ (.int .u64 t)):=by
 obtain ⟨hk,ho⟩:=h.store 6 (.int .u64 t)
 obtain ⟨h1,h2,h3⟩:=h.rest hk
 exact ⟨⟨ho,h1,h.hh,h2,h3 h.drv⟩,hk.sub (by unfold RGT; decide)⟩
theorem Rig.setDrive (h : Rig w N r p q pw ha hc fa fc g F n R hs) {p' : Nat} {S' : ST} (hd : DrvM w (Bd.of N) p' q pw g F 0 S') : Rig (w.setCell ⟨r,2,none⟩ (.pointer (some ⟨p',0,none⟩))) N r p' q pw ha hc fa fc g F n { R with S:=S' } hs ∧ KeptT RGT (Bd.of N) w (w.setCell ⟨r,2,none⟩ (.pointer (some ⟨p',0,none⟩))):=by
 obtain ⟨hk,ho⟩:=h.store 2 (.pointer (some ⟨p',0,none⟩))
 obtain ⟨h1,h2,h3⟩:=h.rest hk
 exact ⟨⟨ho,h1,h.hh,h2,h3 hd⟩,hk.sub (by unfold RGT; decide)⟩
theorem Rig.setFl (h : Rig w N r p q pw ha hc fa fc g F n R hs) (hO : R.S.d.O = []) (j : Nat) (t : Int) : Rig (w.setCell ⟨fa,j,none⟩ (.int .i64 t)) N r p q pw ha hc fa fc g F n { R with fl:=R.fl.set j t } hs ∧ KeptT RGT (Bd.of N) w (w.setCell ⟨fa,j,none⟩ (.int .i64 t)):=by
 have hk0 : Kept (fun k=>k = fa) w (w.setCell ⟨fa,j,none⟩ (.int .i64 t)):=(Kept.refl (fun k=>k = fa) w).setCell (p:=⟨fa,j,none⟩) (fun _=>rfl) _
 have hk : KeptT [3] (Bd.of N) w (w.setCell ⟨fa,j,none⟩ (.int .i64 t)):=KeptT.of hk0 (fun k _ e=>by have e' : k = fa:=e; subst e'; exact ⟨Bd.hasOf.2 h.lowF,HasT.mem (IsT.own h.fl) (by simp)⟩)
 have hst:=(World.ownsRow.stored h.fl j (.int .i64 t)).1
 obtain ⟨ea,ec,BA,bc,hd⟩:=h.drv
 refine ⟨⟨?_,h.hist.types hk (by decide) (by decide),h.hh,?_,⟨ea,ec,BA,bc,hd.keptInt hO hk⟩⟩,hk.sub (by unfold RGT; decide)⟩
 ·simp only [List.length_set]; exact own_ty h.obj hk (by decide)
 ·simp only [List.length_set,List.map_set]; exact hst
theorem Rig.push (h : Rig w N r p q pw ha hc fa fc g F n R hs) {i : Nat} {k : Hs} {x : Wr} {gb cap H : Nat} (hi : hs[i]? = some k) (hx : x.dt.length = 8) (hH : w.heap.size ≤ H)
  (hown : w'.ownsRow N 64 10 (.slice (some ⟨gb,0,none⟩) (k.xs.length + 1) cap) (k.xs.length + 1) (flatW k.xs ++ x.cells)) (hg : w.grownBy w' k.v.ownBlock) (hat : k.v.ownBlock = some gb ∨ gb = H) :
  Rig (w'.setCell ⟨ha,i,none⟩ (.slice (some ⟨gb,0,none⟩) (k.xs.length + 1) cap)) N r p q pw ha hc fa fc g F n { R with hist:=addH R.hist i x } (hs.set i ⟨some ⟨gb,0,none⟩,k.xs ++ [x],cap⟩) ∧ KeptT RGT (Bd.of N) w (w'.setCell ⟨ha,i,none⟩ (.slice (some ⟨gb,0,none⟩) (k.xs.length + 1) cap)):=by
 have hkT : KeptT [62,64] (Bd.of N) w (w'.setCell ⟨ha,i,none⟩ (.slice (some ⟨gb,0,none⟩) (k.xs.length + 1) cap)):=by
  have h1 : Kept (fun b=>some b = k.v.ownBlock ∨ b = ha) w w':=(Kept.refl _ w).grown hg (fun b _ hb=>.inl hb.symm)
  refine KeptT.of (h1.setCell (p:=⟨ha,i,none⟩) (fun _=>.inr rfl) _) (fun b hb hS=>?_)
  rcases hS with hS | rfl
  ·rcases (h.hist.each i k hi).2 with ⟨h2,_⟩ | ⟨g',cp,cur,h2,h3,h4,_⟩
   ·rw [h2] at hS; cases hS
   ·rw [h2] at hS; injection hS with hS; subst hS
    exact ⟨Bd.hasOf.2 h3,HasT.mem (IsT.of h4) (by simp)⟩
  ·exact ⟨Bd.hasOf.2 h.hist.low,HasT.mem (IsT.own h.hist.own) (by simp)⟩
 obtain ⟨ea,ec,BA,bc,hd⟩:=h.drv
 refine ⟨⟨?_,h.hist.push hi hx hH hown (fun b hb hne=>hg.block b hb hne) hat,?_,own_ty h.fl hkT (by decide),⟨ea,ec,BA,bc,hd.types hkT (by decide)⟩⟩,hkT.sub (by unfold RGT; decide)⟩
 ·simp only [List.length_set]; exact own_ty h.obj hkT (by decide)
 ·simp only
  rw [List.map_set,h.hh,addH]
  simp only
  congr 2
  have : R.hist[i]? = some k.xs:=by rw [← h.hh,List.getElem?_map,hi]; rfl
  rw [List.getD,this]; rfl
end
end Go.Proofs.YtggkengmlkhdiaaGreat

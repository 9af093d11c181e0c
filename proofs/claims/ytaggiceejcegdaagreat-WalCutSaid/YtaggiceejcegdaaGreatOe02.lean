/-
  WHAT IS SHOWN: more: plain facts, of no program: what parse and payload compute is what strict reading says. plain facts: what is left to be read grows never. plain facts, of no program: records of which a sector is missing or changed. Conditions: as each theorem names them.
-/
import Derived.Test.YtaggiceejcegdaaGreatNc35
import Derived.BigQuiet
import Derived.ChangeKeysEq
import Derived.ChangeOld
import Derived.Deep.AppendLies
import Derived.Deep.DeepCutAuto
import Derived.Deep.Draws
import Derived.Deep.Fields
import Derived.Deep.QuietTactic
import Derived.Deep.RegionHeld3
import Derived.Deep.RegionLaw
import Derived.Deep.Slices
import Derived.Handy
import Derived.Laws.AppendOwnNone
import Derived.Laws.BytesArg
import Derived.Laws.Cover3
import Derived.Laws.MakeOwn
import Derived.Laws.OwnMore
import Derived.Laws.Rows
import Derived.Lib.ConvBytes
import Derived.Lib.Hide
import Derived.Lib.SmallJoins
import Derived.Lib.VarintBits
import Derived.Lib.Zigzag
import Derived.LoopIn
import Derived.LoopNIn
import Derived.Maps.AppendAt
import Derived.OpenShut
import Derived.OwnWalkIn
import Derived.ProofKit
import Derived.RangeFuncBox
import Derived.RangeFuncLeaves
import Derived.Shelf.Abstract
import Derived.Sort.QuietIn
import Derived.TacticsInMore
import Derived.WalkKit
import Derived.WalkLawsBesides
import Derived.WalkMore
import Derived.WalkSpells
import Derived.Test.YtaggiceejcegdaaGreatOe01
namespace Go.Proofs.YtaggiceejcegdaaGreat
set_option linter.unusedVariables false
theorem c3_fail {b : List Int} (h : (c2 b).2.2 = Rdr.fail) : (c3 b).2.2 = Rdr.fail:=by unfold c3; rw [h,count_fail]
theorem c4_fail {b : List Int} (h : (c3 b).2.2 = Rdr.fail) : (c4 b).2 = Rdr.fail:=by unfold c4; rw [h]; exact cN_fail cW_fail _
theorem c5_fail {b : List Int} (h : (c4 b).2 = Rdr.fail) : (c5 b).2.2 = Rdr.fail:=by unfold c5; rw [h,count_fail]
theorem c6_fail {b : List Int} (h : (c5 b).2.2 = Rdr.fail) : (c6 b).2 = Rdr.fail:=by unfold c6; rw [h]; exact cN_fail cM_fail _
theorem c7_fail {b : List Int} (h : (c6 b).2 = Rdr.fail) : (c7 b).2.2 = Rdr.fail:=by unfold c7; rw [h,bytes_fail]
theorem Vld.lims {r : Rec} (h : Vld r) : Lims r:=⟨h.nw,h.nm,fun x hx=>by have:=h.ws x hx; unfold limW; omega,fun x hx=>by have:=h.ms x hx; unfold limM; omega⟩
theorem sN_len {α : Type} {s : List Int → Option (α × List Int)} : ∀ {k : Nat} {l : List Int} {xs : List α} {l' : List Int},sN s k l = some (xs,l') → xs.length = k
 | 0,l,xs,l',h=>by unfold sN at h; injection h with h; injection h with h _; subst h; rfl
 | k + 1,l,xs,l',h=>by
   unfold sN at h
   split at h
   ·cases h
   ·rename_i ys l1 h1
    split at h
    ·cases h
    ·injection h with h; injection h with h _; subst h
     rw [List.length_append,sN_len h1]; rfl
theorem c_good {b : List Int} {r : Rec} (h : sRec b = some r) (hl : Lims r) : cRec b = r ∧ (c7 b).2.2.done = 0:=by
 unfold sRec at h
 split at h
 ·cases h
 rename_i gen l1 h1
 split at h
 ·cases h
 rename_i seq l2 h2
 split at h
 ·cases h
 rename_i n l3 h3
 split at h
 ·cases h
 rename_i ws l4 h4
 split at h
 ·cases h
 rename_i m l5 h5
 split at h
 ·cases h
 rename_i ms l6 h6
 split at h
 ·cases h
 rename_i k l7 h7
 split at h
 rotate_left
 ·cases h
 rename_i hk
 injection h with h
 subst h
 obtain ⟨a1,a2,a3,a4⟩:=hl
 simp only at a1 a2 a3 a4
 have e4l:=sN_len h4
 have e6l:=sN_len h6
 have e1 : c1 b = (gen,0,⟨l1,false⟩):=uint_good h1
 have e2 : c2 b = (seq,0,⟨l2,false⟩):=by unfold c2; rw [e1]; exact uint_good h2
 have e3 : c3 b = (n,0,⟨l3,false⟩):=by unfold c3; rw [e2]; exact count_good h3 (by omega)
 have e4 : c4 b = (ws,⟨l4,false⟩):=by
  unfold c4; rw [e3]
  rcases (cN_step cW_step n).2 l3 with ⟨xs,l',d1,d2,d3⟩ | ⟨d1,d2⟩
  ·rw [h4] at d1; injection d1 with d1; injection d1 with d1 d1'; subst d1; subst d1'; exact d3
  ·exact absurd a3 (d1 ws l4 h4)
 have e5 : c5 b = (m,0,⟨l5,false⟩):=by unfold c5; rw [e4]; exact count_good h5 (by omega)
 have e6 : c6 b = (ms,⟨l6,false⟩):=by
  unfold c6; rw [e5]
  rcases (cN_step cM_step m).2 l5 with ⟨xs,l',d1,d2,d3⟩ | ⟨d1,d2⟩
  ·rw [h6] at d1; injection d1 with d1; injection d1 with d1 d1'; subst d1; subst d1'; exact d3
  ·exact absurd a4 (d1 ms l6 h6)
 have e7 : c7 b = (l7,0,⟨[],false⟩):=by
  unfold c7; rw [e6,bytes_good h7 (by omega),← hk]; simp
 refine ⟨by unfold cRec; rw [e1,e2,e4,e6,e7],by rw [e7]; rfl⟩
theorem c_back {b : List Int} (h : (c7 b).2.2.done = 0) : sRec b = some (cRec b):=by
 have hf : ¬ (c7 b).2.2 = Rdr.fail:=fun e=>by rw [e,done_fail] at h; omega
 have g6 : ¬ (c6 b).2 = Rdr.fail:=fun e=>hf (c7_fail e)
 have g5 : ¬ (c5 b).2.2 = Rdr.fail:=fun e=>g6 (c6_fail e)
 have g4 : ¬ (c4 b).2 = Rdr.fail:=fun e=>g5 (c5_fail e)
 have g3 : ¬ (c3 b).2.2 = Rdr.fail:=fun e=>g4 (c4_fail e)
 have g2 : ¬ (c2 b).2.2 = Rdr.fail:=fun e=>g3 (c3_fail e)
 have g1 : ¬ (c1 b).2.2 = Rdr.fail:=fun e=>g2 (c2_fail e)
 cases h1 : uintD b with
 | none=>exact absurd (by unfold c1; rw [uint_none h1]) g1
 | some x1=>
 obtain ⟨gen,l1⟩:=x1
 have e1 : c1 b = (gen,0,⟨l1,false⟩):=uint_good h1
 cases h2 : uintD l1 with
 | none=>exact absurd (by unfold c2; rw [e1]; show (Rdr.uint _).2.2 = _; rw [uint_none h2]) g2
 | some x2=>
 obtain ⟨seq,l2⟩:=x2
 have e2 : c2 b = (seq,0,⟨l2,false⟩):=by unfold c2; rw [e1]; exact uint_good h2
 cases h3 : uintD l2 with
 | none=>exact absurd (by unfold c3; rw [e2]; show (Rdr.count _ _).2.2 = _; rw [count_none h3]) g3
 | some x3=>
 obtain ⟨n,l3⟩:=x3
 by_cases hn : n ≤ 64
 rotate_left
 ·exact absurd (by unfold c3; rw [e2]; show (Rdr.count _ _).2.2 = _; rw [count_high h3 (by omega)]) g3
 have e3 : c3 b = (n,0,⟨l3,false⟩):=by unfold c3; rw [e2]; exact count_good h3 (by omega)
 rcases (cN_step cW_step n).2 l3 with ⟨ws,l4,d1,d2,d3⟩ | ⟨d1,d2⟩
 rotate_left
 ·exact absurd (by unfold c4; rw [e3]; exact d2) g4
 have e4 : c4 b = (ws,⟨l4,false⟩):=by unfold c4; rw [e3]; exact d3
 cases h5 : uintD l4 with
 | none=>exact absurd (by unfold c5; rw [e4]; show (Rdr.count _ _).2.2 = _; rw [count_none h5]) g5
 | some x5=>
 obtain ⟨m,l5⟩:=x5
 by_cases hm : m ≤ 64
 rotate_left
 ·exact absurd (by unfold c5; rw [e4]; show (Rdr.count _ _).2.2 = _; rw [count_high h5 (by omega)]) g5
 have e5 : c5 b = (m,0,⟨l5,false⟩):=by unfold c5; rw [e4]; exact count_good h5 (by omega)
 rcases (cN_step cM_step m).2 l5 with ⟨ms,l6,k1,k2,k3⟩ | ⟨k1,k2⟩
 rotate_left
 ·exact absurd (by unfold c6; rw [e5]; exact k2) g6
 have e6 : c6 b = (ms,⟨l6,false⟩):=by unfold c6; rw [e5]; exact k3
 cases h7 : uintD l6 with
 | none=>exact absurd (by unfold c7; rw [e6]; show (Rdr.bytes _).2.2 = _; rw [bytes_none h7]) hf
 | some x7=>
 obtain ⟨k,l7⟩:=x7
 by_cases hk : k ≤ l7.length
 rotate_left
 ·exact absurd (by unfold c7; rw [e6]; show (Rdr.bytes _).2.2 = _; rw [bytes_short h7 (by omega)]) hf
 have e7 : c7 b = (l7.take k,0,⟨l7.drop k,false⟩):=by unfold c7; rw [e6]; exact bytes_good h7 hk
 rw [e7] at h
 have hz:=(done_zero h).2
 simp only at hz
 have hle : l7.length = k:=by have:=congrArg List.length hz; rw [List.length_drop] at this; simp at this; omega
 unfold sRec cRec
 rw [e1,e2,e4,e6,e7,h1]
 simp only [h2,h3,d1,h5,k1,h7,if_pos hle]
 rw [List.take_of_length_le (by omega)]
theorem c_rec (b : List Int) : cOk b = (recD b).isSome ∧ ∀ r,recD b = some r → cRec b = r:=by
 have h2 : ∀ r,recD b = some r → cRec b = r ∧ cOk b = true:=fun r h=>by
  unfold recD at h
  split at h
  ·cases h
  ·rename_i r' hs
   split at h
   ·rename_i hv
    injection h with h; subst h
    obtain ⟨e1,e2⟩:=c_good hs (validR_vld hv).lims
    refine ⟨e1,?_⟩
    unfold cOk; rw [e2,e1,hv]; rfl
   ·cases h
 refine ⟨?_,fun r h=>(h2 r h).1⟩
 cases hr : recD b with
 | some r=>exact (h2 r hr).2
 | none=>
   cases hc : cOk b with
   | false=>rfl
   | true=>
     unfold cOk at hc
     simp only [Bool.and_eq_true,beq_iff_eq] at hc
     have hs:=c_back hc.1
     unfold recD at hr
     rw [hs] at hr
     simp only [if_pos hc.2] at hr
     cases hr
end Go.Proofs.YtaggiceejcegdaaGreat
namespace Go.Proofs.YtaggiceejcegdaaGreat
set_option linter.unusedVariables false
theorem count_len' (r : Rdr) (m : Nat) : (r.count m).2.2.rest.length ≤ r.rest.length:=by
 unfold Rdr.count
 split
 ·exact Nat.zero_le _
 ·exact uint_len' r
theorem cW_rest (r : Rdr) : (cW r).2.rest.length ≤ r.rest.length:=
 Nat.le_trans (blk_len' _) (Nat.le_trans (uint_len' _) (Nat.le_trans (count_len' _ _) (count_len' _ _)))
theorem cM_rest (r : Rdr) : (cM r).2.rest.length ≤ r.rest.length:=
 Nat.le_trans (count_len' _ _) (Nat.le_trans (uint_len' _) (Nat.le_trans (count_len' _ _) (count_len' _ _)))
theorem c6_rest (b : List Int) : (c6 b).2.rest.length ≤ b.length:=
 Nat.le_trans (cN_rest cM_rest _ _) (Nat.le_trans (count_len' _ _) (Nat.le_trans (cN_rest cW_rest _ _) (Nat.le_trans (count_len' _ _) (Nat.le_trans (uint_len' _) (uint_len' _)))))
theorem c7_rest (b : List Int) : (c7 b).2.2.rest.length ≤ b.length ∧ (c7 b).1.length ≤ b.length:=
 ⟨Nat.le_trans (bytes_len' _).1 (c6_rest b),Nat.le_trans (bytes_len' _).2 (c6_rest b)⟩
end Go.Proofs.YtaggiceejcegdaaGreat
namespace Go.Proofs.YtaggiceejcegdaaGreat
set_option linter.unusedVariables false
theorem hdD_get {ls : List (List Int)} {b : List Int} (h : ls[0]? = some b) : hdD ls = insD b:=by
 unfold hdD
 cases ls with
 | nil=>cases h
 | cons a l=>simp at h; subst h; rfl
theorem enc_get {r : Rec} {k : Nat} (hk : k < (encR r).length) (hv : validR r = true) (hok : r.Ok) : ∃ s ch,(encR r)[k]? = some s ∧ insD s = ⟨r.gen,r.seq,k,(encR r).length,ch,0⟩ ∧ 0 < s.length:=by
 have hn : k < nCh (payR r).length:=by rw [← encR_len]; exact hk
 refine ⟨_,((payR r).drop (28 * k)).take 28,encR_get r hn,?_,?_⟩
 ·rw [encR_len]; exact ins_enc (validR_vld hv) hok hn
 ·unfold secB sealB; rw [List.length_append]; have : ∀ s,(be8 s).length = 8:=fun _=>rfl
  rw [this]; omega
end Go.Proofs.YtaggiceejcegdaaGreat

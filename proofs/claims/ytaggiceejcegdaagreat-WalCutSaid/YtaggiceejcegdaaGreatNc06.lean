/-
  WHAT IS SHOWN: what slices.Collect and Encode of record return. what Encode of tegularef27 returns. what slices.Equal returns for bytes; the plain answer of Inspect. plain facts, of no program, on reading records from bytes. plain facts, of no program: what parse and payload compute is what strict reading says. Conditions: as each theorem names them.
-/
import Derived.Test.YtaggiceejcegdaaGreatNc05
namespace Go.Proofs.YtaggiceejcegdaaGreat
set_option linter.unusedVariables false
open Go.RowKit
structure SlsO (w : World) (base : Nat) (A : Option Addr) (c : Nat) (ss : List Sl) : Prop where
 own : w.ownsRow base 26 1 (.slice A ss.length c) ss.length (ss.map Sl.v)
 each : ∀ s ∈ ss,w.ownsRow base 5 1 s.v s.xs.length (s.xs.map (Value.int .u8))
structure SlsR (w : World) (B : Nat) (A : Option Addr) (ss : List Sl) : Prop where
 rd : Rd w B A (ss.map Sl.v)
 each : ∀ s ∈ ss,Rd w B s.A (s.xs.map (Value.int .u8))
theorem SlsR.below {w w' : World} {B C : Nat} {A : Option Addr} {ss : List Sl} (h : SlsR w B A ss) (hb : Below C w w') (hC : B ≤ C) : SlsR w' B A ss:=⟨h.rd.below hb hC,fun s hs=>(h.each s hs).below hb hC⟩
theorem SlsR.more {w : World} {B B' : Nat} {A : Option Addr} {ss : List Sl} (h : SlsR w B A ss) (hB : B ≤ B') : SlsR w B' A ss:=⟨h.rd.more hB,fun s hs=>(h.each s hs).more hB⟩
theorem SlsR.up {w w' : World} {A : Option Addr} {ss : List Sl} (h : SlsR w w.heap.size A ss) (hb : Below w.heap.size w w') : SlsR w' w'.heap.size A ss:=(h.below hb (Nat.le_refl _)).more hb.size
theorem SlsO.rd {w : World} {base : Nat} {A : Option Addr} {c : Nat} {ss : List Sl} (h : SlsO w base A c ss) : SlsR w w.heap.size A ss:=⟨Rd.of_own h.own,fun s hs=>Rd.of_own (h.each s hs)⟩
theorem SlsO.below {w w' : World} {base : Nat} {A : Option Addr} {c : Nat} {ss : List Sl} (h : SlsO w base A c ss) (hb : Below w.heap.size w w') : SlsO w' base A c ss:=
 ⟨own_kept h.own (belKept0 (S:=fun _=>False) hb) (fun _ _ h=>h),fun s hs=>own_kept (h.each s hs) (belKept0 (S:=fun _=>False) hb) (fun _ _ h=>h)⟩
theorem SlsO.mono {w : World} {base base' : Nat} {A : Option Addr} {c : Nat} {ss : List Sl} (h : SlsO w base A c ss) (hb : base' ≤ base) : SlsO w base' A c ss:=⟨own_mono h.own hb,fun s hs=>own_mono (h.each s hs) hb⟩
theorem own_apart {w : World} {b1 b2 : Nat} {e1 e2 : TypeId} {s1 s2 n1 n2 : Nat} {v1 v2 : Value} {x1 x2 : List Value} (h1 : w.ownsRow b1 e1 s1 v1 n1 x1) (h2 : w.ownsRow b2 e2 s2 v2 n2 x2) (he : e1 ≠ e2) : v1.ownBlock = none ∨ v1.ownBlock ≠ v2.ownBlock:=by
 rcases h1.2 with ⟨e,_⟩ | ⟨g,cap,cur,e,_,hg,_⟩
 ·exact .inl (by rw [e]; rfl)
 ·refine .inr fun hh=>?_
  rcases h2.2 with ⟨e',_⟩ | ⟨g',cap',cur',e',_,hg',_⟩
  ·rw [e,e'] at hh; simp [Value.ownBlock] at hh
  ·rw [e,e'] at hh
   obtain rfl : g = g':=by simpa [Value.ownBlock] using hh
   rw [hg] at hg'; injection hg' with hg'; injection hg' with _ h3; exact he h3
theorem SlsO.push {w1 w' : World} {base : Nat} {A A' : Option Addr} {c c' : Nat} {ss : List Sl} {s : Sl} {tmp : Obj} (h : SlsO w1 base A c ss) (hs : w1.ownsRow base 5 1 s.v s.xs.length (s.xs.map (Value.int .u8)))
  (hown : w'.ownsRow base 26 1 (.slice A' (ss.length + 1) c') (ss.length + 1) (ss.map Sl.v ++ [s.v])) (hg : (w1.alloc tmp).grownBy w' (Value.slice A ss.length c).ownBlock) : SlsO w' base A' c' (ss ++ [s]):=by
 refine ⟨?_,fun t ht=>?_⟩
 ·rw [List.length_append,List.map_append]; exact hown
 ·have ht' : w1.ownsRow base 5 1 t.v t.xs.length (t.xs.map (Value.int .u8)):=by
   rcases List.mem_append.1 ht with ht | ht
   ·exact h.each t ht
   ·simp at ht; subst ht; exact hs
  exact (ht'.alloc tmp).kept hg (own_apart (ht'.alloc tmp) (h.own.alloc tmp) (by decide))
theorem Rd.dropk {w : World} {B b o : Nat} {xs : List Value} (h : Rd w B (some ⟨b,o,none⟩) xs) (n : Nat) : Rd w B (some ⟨b,o + n,none⟩) (xs.drop n):=fun j u hu=>by
 rw [List.getElem?_drop] at hu
 obtain ⟨g,o',e,hg,hc⟩:=h (n + j) u hu
 injection e with e; injection e with e1 e2; subst e1; subst e2
 exact ⟨b,o + n,rfl,hg,by rw [Nat.add_assoc]; exact hc⟩
def chunks (p : List Int) : List (List Int):=(List.range (nCh p.length)).map fun k=>(p.drop (28 * k)).take 28
def encR (r : Rec) : List (List Int):=(List.range (nCh (payR r).length)).map fun k=>secB r.gen r.seq k (nCh (payR r).length) (((payR r).drop (28 * k)).take 28)
def encL (r : Rec) : List (List Int):=if validR r then encR r else []
def encE (r : Rec) : Int:=if validR r then 0 else 1
def EncPost (w : World) (r : Rec) (e : Ending) (w' : World) : Prop:=∃ A c ss,e = .returned (.tuple #[.slice A ss.length c,.int .i64 (encE r)]) ∧ ss.map Sl.xs = encL r ∧ SlsO w' w.heap.size A c ss ∧ Below w.heap.size w w'
theorem collect_any (Bs Bn b off L c : Nat) (hL : L ≤ 100000) (hc : L ≤ c) (hcm : c ≤ 9223372036854775807) (w : World) (hBs : Bs < w.heap.size) (hBn : Bn < w.heap.size)
  (hs : w.cell? ⟨Bs,0,none⟩ = some (.slice (some ⟨b,off,none⟩) L c)) (hi : w.cell? ⟨Bn,0,none⟩ = some (.int .i64 28)) :
  Calls Tryz.prog 84 #[.func (.func 127) #[] #[.pointer (some ⟨Bs,0,none⟩),.pointer (some ⟨Bn,0,none⟩)]] w fun e W'=>∃ A c2,e = .returned (.slice A (nCh L) c2) ∧ W'.ownsRow w.heap.size 26 1 (.slice A (nCh L) c2) (nCh L) ((List.range (nCh L)).map (chV b off L)) ∧ Below w.heap.size w W':=by
 have HC:=Lib.hid (callsIn_wide.1 (appseq_in 3 (Nat.le_refl _) Bs Bn b off L c hL hc hcm w hBs hBn hs hi))
 go_enter Tryz.func84,Tryz.ntmps84
 go_wp2_with fail
 refine HC.out.mono ?_
 rintro e w1 ⟨v,rfl,ho,hb⟩
 rw [List.length_range] at ho
 obtain ⟨A,c2,rfl⟩:=own_form ho
 go_wp2
 go_ret
 exact ⟨A,c2,rfl,ho,hb⟩
set_option maxRecDepth 100000 in
set_option maxHeartbeats 1000000 in
theorem encode_any (r : Rec) (hok : r.Ok) (A D N : Option Addr) (c d n : Nat) (w : World) (h : RecR w w.heap.size r A c D d N n) (hw : r.ws.length ≤ 9223372036854775807) (hm : r.ms.length ≤ 9223372036854775807) (hn : r.note.length ≤ 9223372036854775807) :
  Calls Tryz.prog 50 #[.agg #[.int .u64 r.gen,.int .u64 r.seq,.slice A r.ws.length c,.slice D r.ms.length d,.slice N r.note.length n]] w (EncPost w r):=by
 have HB : Hid (∀ W,Below (w.heap.size + 1) (w.alloc (.cells #[.int .u64 r.gen,.int .u64 r.seq,.slice A r.ws.length c,.slice D r.ms.length d,.slice N r.note.length n] 28)) W → Below w.heap.size w W):=fun W hW=>((Below.refl w.heap.size w).alloc (Nat.le_refl _) _).trans (hW.mono (by omega))
 have HP0 : Hid (∀ W,Below (w.heap.size + 1) (w.alloc (.cells #[.int .u64 r.gen,.int .u64 r.seq,.slice A r.ws.length c,.slice D r.ms.length d,.slice N r.note.length n] 28)) W → Cells5 W w.heap.size (.int .u64 r.gen) (.int .u64 r.seq) (.slice A r.ws.length c) (.slice D r.ms.length d) (.slice N r.note.length n)):=fun W hW=>(Cells5.new w 28 _ _ _ _ _).below hW (by simp)
 have HH:=Lib.hid h
 have HC:=Lib.hid (rvalid_any r A D N c d n (w.alloc (.cells #[.int .u64 r.gen,.int .u64 r.seq,.slice A r.ws.length c,.slice D r.ms.length d,.slice N r.note.length n] 28)) ((h.below (HB.out _ (Below.refl _ _)) (Nat.le_refl _)).more (by simp)) hw hm hn)
 have HO:=Lib.hid hok
 obtain ⟨W0,hW0⟩ : ∃ W0,(w.alloc (.cells #[.int .u64 r.gen,.int .u64 r.seq,.slice A r.ws.length c,.slice D r.ms.length d,.slice N r.note.length n] 28)) = W0:=⟨_,rfl⟩
 rw [hW0] at HB HP0 HC
 have hzW0 : w.heap.size + 1 = W0.heap.size:=by rw [← hW0]; simp
 have HW0:=Lib.hid hW0
 clear hW0 h hok
 obtain hv | hv : validR r = false ∨ validR r = true:=by cases validR r <;> simp
 ·have HE : Hid (encE r = 1 ∧ encL r = []):=by unfold Hid encE encL; rw [hv]; exact ⟨rfl,rfl⟩
  rw [hv] at HC
  clear hv
  go_enter Tryz.func50,Tryz.ntmps50
  go_wp2_with fail
  rw [HW0.out]
  refine HC.out.mono ?_
  rintro e w1 ⟨rfl,hb1⟩
  go_wp2
  go_ret2
  exact ⟨none,0,[],by rw [HE.out.1]; rfl,by rw [HE.out.2]; rfl,⟨World.ownsRow_nil _ _ _ _,by simp⟩,HB.out _ (hb1.mono (by omega))⟩
 ·have HE : Hid (encE r = 0 ∧ encL r = encR r):=by unfold Hid encE encL; rw [hv]; exact ⟨rfl,rfl⟩
  have hvl:=validR_vld hv
  rw [hv] at HC
  clear hv
  have hpl:=payR_len hvl
  have hp0 : 0 < (payR r).length:=by unfold payR; have:=uintB_pos r.gen; simp only [List.length_append]; omega
  have HV:=Lib.hid hvl
  clear hvl
  go_enter Tryz.func50,Tryz.ntmps50
  go_wp2_with fail
  rw [HW0.out]
  refine HC.out.mono ?_
  rintro e w1 ⟨rfl,hb1⟩
  have PB:=HP0.out _ (hb1.mono (by omega))
  have q0:=PB.c0; have q1:=PB.c1; have q2:=PB.c2; have q3:=PB.c3; have q4:=PB.c4
  clear PB
  have HB1 : Hid (Below (w.heap.size + 1) W0 w1):=hb1.mono (by omega)
  clear hb1 HC
  have HP:=Lib.hid (payload_any r HV.out HO.out A D N c d n w1 ((HH.out.below (HB.out _ HB1.out) (Nat.le_refl _)).more (HB.out _ HB1.out).size))
  have HRE : Hid (encR r = (List.range (nCh (payR r).length)).map fun k=>secB r.gen r.seq k (nCh (payR r).length) (((payR r).drop (28 * k)).take 28)):=rfl
  generalize payR r = p at *
  go_wp2_with fail
  refine HP.out.mono ?_
  rintro e w2 ⟨A2,c2,rfl,ho2,hb2⟩
  clear q0 q1 q2 q3 q4
  obtain ⟨b,cap,he,hcap⟩:=own_cap ho2 hp0
  obtain ⟨hc2,hc3,_⟩:=own_cap0 ho2
  injection he with he1 he2 he3
  subst he1
  subst he3
  have HC4:=Lib.hid (callsIn_wide.1 (chunk_in 3 (some ⟨b,0,none⟩) p.length c2 w2))
  have HO2:=Lib.hid ho2
  have HB2 : Hid (Below (w.heap.size + 1) W0 w2):=HB1.out.trans (hb2.mono (by have:=HB1.out.size; omega))
  clear ho2 hb2
  go_wp2_with fail
  refine HC4.out.mono ?_
  rintro e w3 ⟨rfl,rfl⟩
  have hb3 : Below w2.heap.size w2 ((w2.alloc (.cells #[.slice (some ⟨b,0,none⟩) p.length c2] 26)).alloc (.cells #[.int .i64 28] 3)):=((Below.refl _ _).alloc (Nat.le_refl _) _).alloc (by simp) _
  have hz3 : w2.heap.size + 2 = ((w2.alloc (.cells #[.slice (some ⟨b,0,none⟩) p.length c2] 26)).alloc (.cells #[.int .i64 28] 3)).heap.size:=by simp
  have hy1 : ((w2.alloc (.cells #[.slice (some ⟨b,0,none⟩) p.length c2] 26)).alloc (.cells #[.int .i64 28] 3)).cell? ⟨w2.heap.size,0,none⟩ = some (.slice (some ⟨b,0,none⟩) p.length c2):=by
   rw [World.cell?_alloc_lt _ _ _ (by simp)]; simp
  have hy2 : ((w2.alloc (.cells #[.slice (some ⟨b,0,none⟩) p.length c2] 26)).alloc (.cells #[.int .i64 28] 3)).cell? ⟨w2.heap.size + 1,0,none⟩ = some (.int .i64 28):=by simp
  go_wp2_with fail
  generalize ((w2.alloc (.cells #[.slice (some ⟨b,0,none⟩) p.length c2] 26)).alloc (.cells #[.int .i64 28] 3)) = w3 at *
  refine (collect_any w2.heap.size (w2.heap.size + 1) b 0 p.length c2 (by omega) hc2 (by unfold maxLen at hc3; omega) w3 (by omega) (by omega) hy1 hy2).mono ?_
  rintro e w4 ⟨A4,c4,rfl,ho4,hb4⟩
  have HB4 : Hid (Below (w.heap.size + 1) W0 w4):=HB2.out.trans ((hb3.trans (hb4.mono hb3.size)).mono (by have:=HB2.out.size; omega))
  have HR4 : Hid (Rd w4 w4.heap.size A4 ((List.range (nCh p.length)).map (chV b 0 p.length))):=Rd.of_own ho4
  have HP4 : Hid (Rd w4 w4.heap.size (some ⟨b,0,none⟩) (p.map (Value.int .u8))):=((Rd.of_own HO2.out).below (hb3.trans (hb4.mono hb3.size)) (Nat.le_refl _)).more (hb3.trans (hb4.mono hb3.size)).size
  obtain ⟨i0,hi0,hz0,hz1,hz2⟩:=info_parts info_sl
  have hm215 : nCh p.length ≤ 300:=by unfold nCh; omega
  have HMM : Hid (nCh p.length = (p.length + 27) / 28):=rfl
  have HG:=Lib.hid HO.out.gen
  have HS:=Lib.hid HO.out.seq
  clear hy1 hy2 ho4 hb4 hb3 hz3 HC4 HO2 HP hc2 hc3 hcap
  go_wp2
  generalize nCh p.length = m at *
  go_loopw [5,18] (fun o i wr=>∃ (k : Nat) (ss : List Sl) (DA : Option Addr) (dc : Nat),k ≤ m ∧ i = .int .i64 k ∧ o = .slice DA ss.length dc ∧ Hid (ss.length = k) ∧ Hid (ss.map Sl.xs = (List.range k).map fun k=>secB r.gen r.seq k m ((p.drop (28 * k)).take 28)) ∧ Hid (SlsO wr w4.heap.size DA dc ss) ∧ Hid (Below w4.heap.size w4 wr)) (fun _ i _=>m - (intOf i).toNat)
  case atStart=>exact ⟨0,[],none,0,Nat.zero_le _,rfl,rfl,rfl,rfl,⟨World.ownsRow_nil _ _ _ _,by simp⟩,Below.refl _ _⟩
  case round=>
   obtain ⟨k,ss,DA,dc,hk,rfl,rfl,HSK,HSS,HSO,HBR⟩:=hrel
   by_cases hlt : k < m
   ·have hkL : 28 * k < p.length:=by have:=HMM.out; omega
    obtain ⟨g4,o4,rfl,hg4,hc4⟩:=HR4.out k (chV b 0 p.length k) (by rw [List.getElem?_map,List.getElem?_range hlt]; rfl)
    have hc4':=(HBR.out.cell (p:=⟨g4,o4 + k,none⟩) hg4).trans hc4
    have hRch : Rd wr wr.heap.size (some ⟨b,0 + 28 * k,none⟩) (((p.drop (28 * k)).take 28).map (Value.int .u8)):=by
     have:=(((HP4.out.below HBR.out (Nat.le_refl _)).more HBR.out.size).dropk (28 * k)).take 28
     rw [List.map_take,List.map_drop]; exact this
    rw [Nat.zero_add] at hRch
    have hlc : lCh p.length k = ((p.drop (28 * k)).take 28).length:=by unfold lCh; simp
    unfold chV at hc4'
    rw [hlc] at hc4'
    clear hc4 hlc
    have hchl : ((p.drop (28 * k)).take 28).length ≤ 28:=by rw [List.length_take]; omega
    have HSE : Hid ((ss.map Sl.xs) ++ [secB r.gen r.seq k m ((p.drop (28 * k)).take 28)] = (List.range (k + 1)).map fun k=>secB r.gen r.seq k m ((p.drop (28 * k)).take 28)):=by
     unfold Hid; rw [List.range_succ,List.map_append,HSS.out]; rfl
    generalize (p.drop (28 * k)).take 28 = ch at *
    have hzr:=HBR.out.size
    have hz4:=HB4.out.size
    have PB:=HP0.out _ (HB4.out.trans (HBR.out.mono (by omega)))
    have q0:=(World.cell?_alloc_lt wr (.cells #[.int .u8 82] 5) ⟨w.heap.size,0,none⟩ (by show w.heap.size < _; omega)).trans PB.c0
    have q1:=(World.cell?_alloc_lt wr (.cells #[.int .u8 82] 5) ⟨w.heap.size,1,none⟩ (by show w.heap.size < _; omega)).trans PB.c1
    clear PB
    have hE4 : [82] ++ numsB [r.gen,r.seq,k,m] = hdS r.gen r.seq k m:=by simp [numsB,hdS]
    have hN:=numbers_any [r.gen,r.seq,k,m] (by have:=HG.out; have:=HS.out; intro n hn; simp at hn; omega) (by simp) (some ⟨wr.heap.size + 1,0,none⟩) 4 [82] (some ⟨wr.heap.size,0,none⟩) 1 ((wr.alloc (.cells #[.int .u8 82] 5)).alloc (.cells #[.int .u64 r.gen,.int .u64 r.seq,.int .u64 (k : Nat),.int .u64 (m : Nat)] 23)) (((rd_new wr [.int .u8 82] 5).alloc (Nat.le_refl _) _).more (by simp)) (by simp) (by
     exact rd_new' [.int .u64 (r.gen : Nat),.int .u64 (r.seq : Nat),.int .u64 (k : Nat),.int .u64 (m : Nat)] 23 (by simp))
    rw [hE4] at hN
    have hl4:=hdS_len r.gen r.seq k m
    have hSB : secB r.gen r.seq k m ch = sealB (hdS r.gen r.seq k m ++ uintB ch.length ++ ch):=rfl
    have hly : (hdS r.gen r.seq k m ++ uintB ch.length ++ ch).length ≤ 700100:=by have:=uintB_len ch.length; simp only [List.length_append]; omega
    have hbN : Below wr.heap.size wr ((wr.alloc (.cells #[.int .u8 82] 5)).alloc (.cells #[.int .u64 r.gen,.int .u64 r.seq,.int .u64 (k : Nat),.int .u64 (m : Nat)] 23)):=((Below.refl _ _).alloc (Nat.le_refl _) _).alloc (by simp) _
    generalize secB r.gen r.seq k m ch = zz at *
    generalize hdS r.gen r.seq k m = g4 at *
    have HN:=Lib.hid hN
    have HSB:=Lib.hid hSB
    have HbN:=Lib.hid hbN
    have HRch:=Lib.hid hRch
    clear hN hE4 hSB hbN hRch
    go_wp2_with fail
    generalize ((wr.alloc (.cells #[.int .u8 82] 5)).alloc (.cells #[.int .u64 r.gen,.int .u64 r.seq,.int .u64 (k : Nat),.int .u64 (m : Nat)] 23)) = w5 at *
    refine HN.out.mono ?_
    rintro e w6 ⟨A6,c6,rfl,hr6,hb6⟩
    have HB6 : Hid (Below wr.heap.size wr w6):=HbN.out.trans (hb6.mono HbN.out.size)
    have HC6:=Lib.hid (appbytes_any g4 ch A6 (some ⟨b,28 * k,none⟩) c6 ch.length w6 hr6 (by omega) ((HRch.out.below HB6.out (Nat.le_refl _)).more HB6.out.size) (by omega))
    generalize g4 ++ uintB ch.length ++ ch = ys at *
    clear hr6 hb6 q0 q1 hc4' HN HbN
    go_wp2_with fail
    refine HC6.out.mono ?_
    rintro e w7 ⟨A7,c7,rfl,ho7,hb7⟩
    have HB7 : Hid (Below wr.heap.size wr w7):=HB6.out.trans (hb7.mono HB6.out.size)
    have HC7:=Lib.hid (sealed_any wr.heap.size ys A7 c7 w7 (own_mono ho7 HB6.out.size) HB7.out.size (by omega))
    rw [← HSB.out] at HC7
    clear ho7 hb7 HC6
    go_wp2_with fail
    refine HC7.out.mono ?_
    rintro e w8 ⟨A8,c8,rfl,ho8,hb8⟩
    have hB8 : Below wr.heap.size wr w8:=HB7.out.trans hb8
    have hO8 : SlsO w8 w4.heap.size DA dc ss:=HSO.out.below hB8
    have hS8 : w8.ownsRow w4.heap.size 5 1 (Sl.v ⟨A8,zz,c8⟩) zz.length (zz.map (Value.int .u8)):=own_mono ho8 hzr
    clear ho8 hb8 HC7
    have h8z:=hB8.size
    have HB8:=Lib.hid hB8
    clear hB8
    go_wp2_with (at_builtin; refine wpList_append_own _ rfl _ _ 49 rfl w4.heap.size 26 i0 _ 1 24 Tryz.underlying49 hi0 hz0 hz1 hz2 rfl (by decide) _ ss.length (ss.map Sl.v) rfl (hO8.own.alloc _) ⟨w8.heap.size,0,none⟩ 1 1 [.slice A8 zz.length c8] rfl rfl (World.news_of_block (heap_alloc_new _ _)) (by intro u hu; simp at hu; subst hu; rfl) ?c1 ?c2 ?c3 ?_)
    case c1=>have:=HSK.out; unfold maxLen; omega
    case c2=>have:=HSK.out; omega
    case c3=>simp; omega
    intro v' w9 hown hgrow hiff
    obtain ⟨DA',dc',hv⟩:=own_form hown
    subst hv
    have HO9 : Hid (SlsO w9 w4.heap.size DA' dc' (ss ++ [⟨A8,zz,c8⟩])):=hO8.push hS8 hown hgrow
    have HB9 : Hid (Below w4.heap.size w4 w9):=(((HBR.out.trans (HB8.out.mono hzr)).alloc (Nat.le_trans hzr h8z) _).grown hgrow (by simp; omega) (fun k hk=>own_low hO8.own hk))
    have HX9 : Hid ((ss ++ [(⟨A8,zz,c8⟩ : Sl)]).map Sl.xs = (List.range (k + 1)).map fun k=>secB r.gen r.seq k m ((p.drop (28 * k)).take 28)):=by
     unfold Hid; rw [← HSE.out,List.map_append]; rfl
    clear hown hgrow hiff hO8 hS8
    go_wp2
    go_roundw
    case rel=>exact ⟨k + 1,ss ++ [⟨A8,zz,c8⟩],DA',dc',hlt,by go_num,by rw [List.length_append]; rfl,by unfold Hid; rw [List.length_append,HSK.out]; rfl,HX9,HO9,HB9⟩
    case measure=>simp [intOf]; omega
   ·obtain rfl : k = m:=by omega
    have hzr:=HBR.out.size
    have hz4:=HB4.out.size
    go_wp2
    go_ret2
    exact ⟨DA,dc,ss,by rw [HE.out.1]; rfl,by rw [HSS.out,HE.out.2,HRE.out],HSO.out.mono (by omega),HB.out _ (HB4.out.trans (HBR.out.mono (by omega)))⟩
end Go.Proofs.YtaggiceejcegdaaGreat
namespace Go.Proofs.YtaggiceejcegdaaGreat
set_option linter.unusedVariables false
open Go.RowKit
set_option maxRecDepth 100000 in
set_option maxHeartbeats 1000000 in
theorem rencode_any (r : Rec) (hok : r.Ok) (A D N : Option Addr) (c d n : Nat) (w : World) (h : RecR w w.heap.size r A c D d N n) (hw : r.ws.length ≤ 9223372036854775807) (hm : r.ms.length ≤ 9223372036854775807) (hn : r.note.length ≤ 9223372036854775807) :
  Calls Tryz.prog 30 #[.agg #[.int .u64 r.gen,.int .u64 r.seq,.slice A r.ws.length c,.slice D r.ms.length d,.slice N r.note.length n]] w (EncPost w r):=by
 have HB : Hid (∀ W,Below (w.heap.size + 1) (w.alloc (.cells #[.int .u64 r.gen,.int .u64 r.seq,.slice A r.ws.length c,.slice D r.ms.length d,.slice N r.note.length n] 28)) W → Below w.heap.size w W):=fun W hW=>((Below.refl w.heap.size w).alloc (Nat.le_refl _) _).trans (hW.mono (by omega))
 have HP0 : Hid (∀ W,Below (w.heap.size + 1) (w.alloc (.cells #[.int .u64 r.gen,.int .u64 r.seq,.slice A r.ws.length c,.slice D r.ms.length d,.slice N r.note.length n] 28)) W → Cells5 W w.heap.size (.int .u64 r.gen) (.int .u64 r.seq) (.slice A r.ws.length c) (.slice D r.ms.length d) (.slice N r.note.length n)):=fun W hW=>(Cells5.new w 28 _ _ _ _ _).below hW (by simp)
 have HH:=Lib.hid h
 have HC:=Lib.hid (qvalid_any r A D N c d n (w.alloc (.cells #[.int .u64 r.gen,.int .u64 r.seq,.slice A r.ws.length c,.slice D r.ms.length d,.slice N r.note.length n] 28)) ((h.below (HB.out _ (Below.refl _ _)) (Nat.le_refl _)).more (by simp)) hw hm hn)
 have HO:=Lib.hid hok
 obtain ⟨W0,hW0⟩ : ∃ W0,(w.alloc (.cells #[.int .u64 r.gen,.int .u64 r.seq,.slice A r.ws.length c,.slice D r.ms.length d,.slice N r.note.length n] 28)) = W0:=⟨_,rfl⟩
 rw [hW0] at HB HP0 HC
 have hzW0 : w.heap.size + 1 = W0.heap.size:=by rw [← hW0]; simp
 have HW0:=Lib.hid hW0
 clear hW0 h hok
 obtain hv | hv : validR r = false ∨ validR r = true:=by cases validR r <;> simp
 ·have HE : Hid (encE r = 1 ∧ encL r = []):=by unfold Hid encE encL; rw [hv]; exact ⟨rfl,rfl⟩
  rw [hv] at HC
  clear hv
  go_enter Tryz.func30,Tryz.ntmps30
  go_wp2_with fail
  rw [HW0.out]
  refine HC.out.mono ?_
  rintro e w1 ⟨rfl,hb1⟩
  go_wp2
  go_ret2
  exact ⟨none,0,[],by rw [HE.out.1]; rfl,by rw [HE.out.2]; rfl,⟨World.ownsRow_nil _ _ _ _,by simp⟩,HB.out _ (hb1.mono (by omega))⟩
 ·have HE : Hid (encE r = 0 ∧ encL r = encR r):=by unfold Hid encE encL; rw [hv]; exact ⟨rfl,rfl⟩
  have hvl:=validR_vld hv
  rw [hv] at HC
  clear hv
  have hpl:=payR_len hvl
  have hp0 : 0 < (payR r).length:=by unfold payR; have:=uintB_pos r.gen; simp only [List.length_append]; omega
  have HV:=Lib.hid hvl
  clear hvl
  go_enter Tryz.func30,Tryz.ntmps30
  go_wp2_with fail
  rw [HW0.out]
  refine HC.out.mono ?_
  rintro e w1 ⟨rfl,hb1⟩
  have PB:=HP0.out _ (hb1.mono (by omega))
  have q0:=PB.c0; have q1:=PB.c1; have q2:=PB.c2; have q3:=PB.c3; have q4:=PB.c4
  clear PB
  have HB1 : Hid (Below (w.heap.size + 1) W0 w1):=hb1.mono (by omega)
  clear hb1 HC
  have HP:=Lib.hid (rpayload_any r HV.out HO.out A D N c d n w1 ((HH.out.below (HB.out _ HB1.out) (Nat.le_refl _)).more (HB.out _ HB1.out).size))
  have HRE : Hid (encR r = (List.range (nCh (payR r).length)).map fun k=>secB r.gen r.seq k (nCh (payR r).length) (((payR r).drop (28 * k)).take 28)):=rfl
  generalize payR r = p at *
  go_wp2_with fail
  refine HP.out.mono ?_
  rintro e w2 ⟨A2,c2,rfl,ho2,hb2⟩
  clear q0 q1 q2 q3 q4
  obtain ⟨b,cap,he,hcap⟩:=own_cap ho2 hp0
  obtain ⟨hc2,hc3,_⟩:=own_cap0 ho2
  injection he with he1 he2 he3
  subst he1
  subst he3
  have HO2:=Lib.hid ho2
  have HB2 : Hid (Below (w.heap.size + 1) W0 w2):=HB1.out.trans (hb2.mono (by have:=HB1.out.size; omega))
  have HP2 : Hid (Rd w2 w2.heap.size (some ⟨b,0,none⟩) (p.map (Value.int .u8))):=Rd.of_own ho2
  obtain ⟨i0,hi0,hz0,hz1,hz2⟩:=info_parts info_sl
  have hm215 : nCh p.length ≤ 300:=by unfold nCh; omega
  have HMM : Hid (nCh p.length = (p.length + 27) / 28):=rfl
  have HG:=Lib.hid HO.out.gen
  have HS:=Lib.hid HO.out.seq
  clear ho2 hb2 HO2 HP
  go_wp2
  rw [show (((p.length : Nat) : Int) + 27) / 28 = ((nCh p.length : Nat) : Int) by unfold nCh; omega]
  generalize nCh p.length = m at *
  go_loopw [6,7] (fun o i wr=>∃ (k : Nat) (ss : List Sl) (DA : Option Addr) (dc : Nat),k ≤ m ∧ i = .int .i64 k ∧ o = .slice DA ss.length dc ∧ Hid (ss.length = k) ∧ Hid (ss.map Sl.xs = (List.range k).map fun k=>secB r.gen r.seq k m ((p.drop (28 * k)).take 28)) ∧ Hid (SlsO wr w2.heap.size DA dc ss) ∧ Hid (Below w2.heap.size w2 wr)) (fun _ i _=>m - (intOf i).toNat)
  case atStart=>exact ⟨0,[],none,0,Nat.zero_le _,rfl,rfl,rfl,rfl,⟨World.ownsRow_nil _ _ _ _,by simp⟩,Below.refl _ _⟩
  case round=>
   obtain ⟨k,ss,DA,dc,hk,rfl,rfl,HSK,HSS,HSO,HBR⟩:=hrel
   have hzr:=HBR.out.size
   have hz4:=HB2.out.size
   by_cases hlt : k < m
   ·have hkL : 28 * k < p.length:=by have:=HMM.out; omega
    have hRch : Rd wr wr.heap.size (some ⟨b,0 + 28 * k,none⟩) (((p.drop (28 * k)).take 28).map (Value.int .u8)):=by
     have:=(((HP2.out.below HBR.out (Nat.le_refl _)).more HBR.out.size).dropk (28 * k)).take 28
     rw [List.map_take,List.map_drop]; exact this
    rw [Nat.zero_add] at hRch
    have hlc : ((p.drop (28 * k)).take 28).length = min 28 (p.length - 28 * k):=by rw [List.length_take,List.length_drop]
    have hchl : ((p.drop (28 * k)).take 28).length ≤ 28:=by rw [List.length_take]; omega
    have HSE : Hid ((ss.map Sl.xs) ++ [secB r.gen r.seq k m ((p.drop (28 * k)).take 28)] = (List.range (k + 1)).map fun k=>secB r.gen r.seq k m ((p.drop (28 * k)).take 28)):=by
     unfold Hid; rw [List.range_succ,List.map_append,HSS.out]; rfl
    have PB:=HP0.out _ (HB2.out.trans (HBR.out.mono (by omega)))
    have q0:=PB.c0; have q1:=PB.c1
    clear PB
    generalize (p.drop (28 * k)).take 28 = ch at *
    have e1 : (28 : Int) * (k : Int) = ((28 * k : Nat) : Int):=by omega
    have e2 : (28 : Int) * ((k : Int) + 1) = ((28 * k + 28 : Nat) : Int):=by omega
    generalize 28 * k = i at *
    have HRch:=Lib.hid hRch
    clear hRch
    have HC6:=Lib.hid (fun cc=>sector_any r.gen r.seq k m HG.out HS.out (by omega) (by omega) ch (some ⟨b,i,none⟩) cc wr.drew (rd_drew HRch.out) (by omega))
    generalize secB r.gen r.seq k m ch = zz at *
    by_cases h28 : i + 28 ≤ p.length
    ·have hcl : ch.length = 28:=by omega
     have eW : IntKind.i64.wrap (i : Int) = (i : Int):=by rw [IntKind.wrap_i64]; omega
     have eM : max ((i : Int) + 28) 0 = (i : Int) + 28:=by omega
     have k0 : 0 ≤ (i : Int) + 28:=by omega
     have k1 : (i : Int) + 28 ≤ (c2 : Int):=by omega
     have k2 : (i : Int) ≤ (i : Int) + 28:=by omega
     have k3 : ¬ c2 = i:=by omega
     have eT : ((i : Int) + 28).toNat = i + 28:=by omega
     have e3 : i + 28 - i = 28:=by omega
     have HC6 : Hid (∀ cc,Calls Tryz.prog 69 #[.agg #[.int .u64 r.gen,.int .u64 r.seq,.int .i64 k,.int .i64 m],.slice (some ⟨b,i,none⟩) (28) cc] wr.drew (NewO wr.drew zz)):=by
      intro cc; have:=HC6.out cc; rw [hcl] at this; exact this
     clear hcl hlc hchl
     go_wp2
     go_region_law (first
      | (refine qstep_append_own rfl (.tmp 32) (.tmp 46) 49 rfl w2.heap.size 26 i0 _ 1 24 Tryz.underlying49 hi0 hz0 hz1 hz2 rfl (by decide) (.slice DA ss.length dc) ss.length (ss.map Sl.v) rfl (hO8.own.alloc _) ⟨w8.heap.size,0,none⟩ 1 1 [.slice A8 zz.length c8] rfl rfl (World.news_of_block (heap_alloc_new _ _)) (by intro u hu; simp at hu; subst hu; rfl) ?c1 ?c2 ?c3 ?_
         case c1=>have:=HSK.out; unfold maxLen; omega
         case c2=>have:=HSK.out; omega
         case c3=>simp; omega
         intro v' w9 hown hgrow hiff
         obtain ⟨DA',dc',hv⟩:=own_form hown
         subst hv
         have HO9 : Hid (SlsO w9 w2.heap.size DA' dc' (ss ++ [⟨A8,zz,c8⟩])):=hO8.push hS8 hown hgrow
         have HB9 : Hid (Below w2.heap.size w2 w9):=(((HBR.out.trans (HB8.out.mono hzr)).alloc (Nat.le_trans hzr h8z) _).grown hgrow (by simp; omega) (fun k hk=>own_low hO8.own hk))
         have HX9 : Hid ((ss ++ [(⟨A8,zz,c8⟩ : Sl)]).map Sl.xs = (List.range (k + 1)).map fun k=>secB r.gen r.seq k m ((p.drop (28 * k)).take 28)):=(by unfold Hid; rw [← HSE.out,List.map_append]; rfl)
         clear hown hgrow hiff hO8 hS8)
      | (go_simp
         go_at_call 69
         refine (HC6.out _).mono ?_
         rintro e w8 ⟨A8,c8,rfl,ho8,hb8⟩
         have hB8 : Below wr.heap.size wr w8:=((Below.refl _ _).drew).trans hb8
         have hO8 : SlsO w8 w2.heap.size DA dc ss:=HSO.out.below hB8
         have hS8 : w8.ownsRow w2.heap.size 5 1 (Sl.v ⟨A8,zz,c8⟩) zz.length (zz.map (Value.int .u8)):=own_mono ho8 hzr
         have h8z:=hB8.size
         have HB8:=Lib.hid hB8
         clear ho8 hb8 hB8))
     all_goals go_wp2
     all_goals go_roundw
     all_goals first
      | exact ⟨k + 1,ss ++ [⟨A8,zz,c8⟩],DA',dc',hlt,by go_num,by rw [List.length_append]; rfl,by unfold Hid; rw [List.length_append,HSK.out]; rfl,HX9,HO9,HB9⟩
      | (simp [intOf]; omega)
    ·have hcl : ch.length = p.length - i:=by omega
     have eW : IntKind.i64.wrap (i : Int) = (i : Int):=by rw [IntKind.wrap_i64]; omega
     have k1 : (p.length : Int) ≤ (c2 : Int):=by omega
     have k2 : (i : Int) ≤ (p.length : Int):=by omega
     have k3 : ¬ c2 = i:=by omega
     have HC6 : Hid (∀ cc,Calls Tryz.prog 69 #[.agg #[.int .u64 r.gen,.int .u64 r.seq,.int .i64 k,.int .i64 m],.slice (some ⟨b,i,none⟩) (p.length - i) cc] wr.drew (NewO wr.drew zz)):=by
      intro cc; have:=HC6.out cc; rw [hcl] at this; exact this
     clear hcl hlc hchl
     go_wp2
     go_region_law (first
      | (refine qstep_append_own rfl (.tmp 32) (.tmp 46) 49 rfl w2.heap.size 26 i0 _ 1 24 Tryz.underlying49 hi0 hz0 hz1 hz2 rfl (by decide) (.slice DA ss.length dc) ss.length (ss.map Sl.v) rfl (hO8.own.alloc _) ⟨w8.heap.size,0,none⟩ 1 1 [.slice A8 zz.length c8] rfl rfl (World.news_of_block (heap_alloc_new _ _)) (by intro u hu; simp at hu; subst hu; rfl) ?c1 ?c2 ?c3 ?_
         case c1=>have:=HSK.out; unfold maxLen; omega
         case c2=>have:=HSK.out; omega
         case c3=>simp; omega
         intro v' w9 hown hgrow hiff
         obtain ⟨DA',dc',hv⟩:=own_form hown
         subst hv
         have HO9 : Hid (SlsO w9 w2.heap.size DA' dc' (ss ++ [⟨A8,zz,c8⟩])):=hO8.push hS8 hown hgrow
         have HB9 : Hid (Below w2.heap.size w2 w9):=(((HBR.out.trans (HB8.out.mono hzr)).alloc (Nat.le_trans hzr h8z) _).grown hgrow (by simp; omega) (fun k hk=>own_low hO8.own hk))
         have HX9 : Hid ((ss ++ [(⟨A8,zz,c8⟩ : Sl)]).map Sl.xs = (List.range (k + 1)).map fun k=>secB r.gen r.seq k m ((p.drop (28 * k)).take 28)):=(by unfold Hid; rw [← HSE.out,List.map_append]; rfl)
         clear hown hgrow hiff hO8 hS8)
      | (go_simp
         go_at_call 69
         refine (HC6.out _).mono ?_
         rintro e w8 ⟨A8,c8,rfl,ho8,hb8⟩
         have hB8 : Below wr.heap.size wr w8:=((Below.refl _ _).drew).trans hb8
         have hO8 : SlsO w8 w2.heap.size DA dc ss:=HSO.out.below hB8
         have hS8 : w8.ownsRow w2.heap.size 5 1 (Sl.v ⟨A8,zz,c8⟩) zz.length (zz.map (Value.int .u8)):=own_mono ho8 hzr
         have h8z:=hB8.size
         have HB8:=Lib.hid hB8
         clear ho8 hb8 hB8))
     all_goals go_wp2
     all_goals go_roundw
     all_goals first
      | exact ⟨k + 1,ss ++ [⟨A8,zz,c8⟩],DA',dc',hlt,by go_num,by rw [List.length_append]; rfl,by unfold Hid; rw [List.length_append,HSK.out]; rfl,HX9,HO9,HB9⟩
      | (simp [intOf]; omega)
   ·obtain rfl : k = m:=by omega
    go_wp2
    go_ret2
    exact ⟨DA,dc,ss,by rw [HE.out.1]; rfl,by rw [HSS.out,HE.out.2,HRE.out],HSO.out.mono (by omega),HB.out _ (HB2.out.trans (HBR.out.mono (by omega)))⟩
end Go.Proofs.YtaggiceejcegdaaGreat
namespace Go.Proofs.YtaggiceejcegdaaGreat
set_option linter.unusedVariables false
open Go.RowKit
structure Ins where
 gen : Nat
 seq : Nat
 part : Nat
 parts : Nat
 ch : List Int
 er : Int
def Ins.bad (e : Int) : Ins:=⟨0,0,0,0,[],e⟩
def rdK (b : List Int) : Nat → Rdr
 | 0=>⟨(b.take (b.length - 8)).drop 1,false⟩
 | k + 1=>(rdK b k).uint.2.2
def numK (b : List Int) (k : Nat) : Nat:=(rdK b k).uint.1
def insOk (b : List Int) : Bool:=(rdK b 4).bytes.2.2.done == 0 && decide (1 ≤ numK b 1) && decide (numK b 3 ≤ 4096) && decide (numK b 2 < numK b 3) && decide (1 ≤ (rdK b 4).bytes.1.length) && decide ((rdK b 4).bytes.1.length ≤ 28)
def insD (b : List Int) : Ins:=
 if b.length < 8 ∨ ¬ b.head? = some 82 then .bad 5
 else if ¬ sealB (b.take (b.length - 8)) = b then .bad 6
 else if b.length < 9 then .bad 5
 else if insOk b = true then ⟨numK b 0,numK b 1,numK b 2,numK b 3,(rdK b 4).bytes.1,0⟩ else .bad 5
def InsPost (w : World) (b : List Int) (e : Ending) (w' : World) : Prop:=∃ A c,e = .returned (.tuple #[.agg #[.int .u64 (insD b).gen,.int .u64 (insD b).seq,.int .i64 (insD b).part,.int .i64 (insD b).parts],.slice A (insD b).ch.length c,.int .i64 (insD b).er]) ∧ RdT w' 5 A ((insD b).ch.map (Value.int .u8)) ∧ Below w.heap.size w w'
theorem InsPost.bad {w w' : World} {b : List Int} {er : Int} {x : Ending} (h : insD b = .bad er) (he : x = .returned (.tuple #[.agg #[.int .u64 0,.int .u64 0,.int .i64 0,.int .i64 0],.slice none 0 0,.int .i64 er])) (hb : Below w.heap.size w w') : InsPost w b x w':=by
 unfold InsPost; rw [h]
 exact ⟨none,0,he,RdT.nil _ _ _,hb⟩
theorem cells4 {w : World} {b : Nat} {v0 v1 v2 v3 : Value} {t : TypeId} (h : w.heap[b]? = some (.cells #[v0,v1,v2,v3] t (0,0))) : w.cell? ⟨b,0,none⟩ = some v0 ∧ w.cell? ⟨b,1,none⟩ = some v1 ∧ w.cell? ⟨b,2,none⟩ = some v2 ∧ w.cell? ⟨b,3,none⟩ = some v3 ∧ w.frozen? ⟨b,0,none⟩ = false ∧ w.frozen? ⟨b,1,none⟩ = false ∧ w.frozen? ⟨b,2,none⟩ = false ∧ w.frozen? ⟨b,3,none⟩ = false:=by
 refine ⟨?_,?_,?_,?_,?_,?_,?_,?_⟩ <;> first | (simp [World.cell?,h]; done) | simp [World.frozen?,h]
theorem kept4 (w : World) (b : Nat) (v0 v1 v2 v3 : Value) : Kept (fun k=>k = b) w ((((w.setCell ⟨b,0,none⟩ v0).setCell ⟨b,1,none⟩ v1).setCell ⟨b,2,none⟩ v2).setCell ⟨b,3,none⟩ v3):=by
 repeat' apply Kept.setCell
 all_goals first | exact Kept.refl _ _ | exact fun _=>rfl
theorem below4 {w w3 : World} {B b : Nat} (h : Below B w w3) (hb : B ≤ b) (v0 v1 v2 v3 : Value) : Below B w ((((w3.setCell ⟨b,0,none⟩ v0).setCell ⟨b,1,none⟩ v1).setCell ⟨b,2,none⟩ v2).setCell ⟨b,3,none⟩ v3):=(((h.setCell (p:=⟨b,0,none⟩) hb v0).setCell (p:=⟨b,1,none⟩) hb v1).setCell (p:=⟨b,2,none⟩) hb v2).setCell (p:=⟨b,3,none⟩) hb v3
theorem free4 {w : World} {b : Nat} {cur : Array Value} {t t' : TypeId} (h : w.heap[b]? = some (.cells cur t (0,0))) (ht : t ≠ t') : Free w t' (fun k=>k = b):=fun k hk _ cur' fr e=>by
 have hk' : k = b:=hk
 subst hk'
 rw [h] at e; injection e with e; injection e with _ h2; exact ht h2
end Go.Proofs.YtaggiceejcegdaaGreat
namespace Go.Proofs.YtaggiceejcegdaaGreat
set_option linter.unusedVariables false
def sW (l : List Int) : Option (PW × List Int):=match uintD l with
 | none=>none
 | some (g,l1)=>match uintD l1 with
   | none=>none
   | some (p,l2)=>match uintD l2 with
     | none=>none
     | some (v,l3)=>if l3.length < 8 then none else some (⟨g,p,v,l3.getD 0 0,l3.getD 1 0,l3.getD 2 0,l3.getD 3 0,l3.getD 4 0,l3.getD 5 0,l3.getD 6 0,l3.getD 7 0⟩,l3.drop 8)
def sM (l : List Int) : Option (Mv × List Int):=match uintD l with
 | none=>none
 | some (g,l1)=>match uintD l1 with
   | none=>none
   | some (p,l2)=>match uintD l2 with
     | none=>none
     | some (k,l3)=>match uintD l3 with
       | none=>none
       | some (b,l4)=>some (⟨g,p,zagN k,b⟩,l4)
def sN {α : Type} (f : List Int → Option (α × List Int)) : Nat → List Int → Option (List α × List Int)
 | 0,l=>some ([],l)
 | k + 1,l=>match sN f k l with
   | none=>none
   | some (xs,l1)=>match f l1 with
     | none=>none
     | some (x,l2)=>some (xs ++ [x],l2)
def sRec (b : List Int) : Option Rec:=match uintD b with
 | none=>none
 | some (gen,l1)=>match uintD l1 with
   | none=>none
   | some (seq,l2)=>match uintD l2 with
     | none=>none
     | some (n,l3)=>match sN sW n l3 with
       | none=>none
       | some (ws,l4)=>match uintD l4 with
         | none=>none
         | some (m,l5)=>match sN sM m l5 with
           | none=>none
           | some (ms,l6)=>match uintD l6 with
             | none=>none
             | some (k,l7)=>if l7.length = k then some ⟨gen,seq,ws,ms,l7⟩ else none
def recD (b : List Int) : Option Rec:=match sRec b with
 | none=>none
 | some r=>if validR r = true then some r else none
theorem uint_good {l l' : List Int} {n : Nat} {b : Bool} (h : uintD l = some (n,l')) : (⟨l,b⟩ : Rdr).uint = (n,0,⟨l',b⟩):=by unfold Rdr.uint; rw [h]
theorem uint_none {l : List Int} {b : Bool} (h : uintD l = none) : (⟨l,b⟩ : Rdr).uint = (0,5,Rdr.fail):=by unfold Rdr.uint; rw [h]
theorem uintD_nil : uintD [] = none:=uintGo_nil 0 0
theorem uint_fail : Rdr.fail.uint = (0,5,Rdr.fail):=uint_none uintD_nil
theorem take_fail (n : Nat) : Rdr.fail.take n = ([],5,Rdr.fail):=by unfold Rdr.take Rdr.fail; simp
theorem bytes_fail : Rdr.fail.bytes = ([],5,Rdr.fail):=by unfold Rdr.bytes; rw [uint_fail]; simp
theorem blk_fail : Rdr.fail.blk = ([0,0,0,0,0,0,0,0],5,Rdr.fail):=by unfold Rdr.blk; rw [take_fail]; simp
theorem done_fail : Rdr.fail.done = 5:=by unfold Rdr.done Rdr.fail; simp
theorem take_good {l : List Int} {n : Nat} (h : n ≤ l.length) : (⟨l,false⟩ : Rdr).take n = (l.take n,0,⟨l.drop n,false⟩):=by
 unfold Rdr.take; rw [if_neg]; simp; omega
theorem take_short {l : List Int} {n : Nat} (h : l.length < n) : (⟨l,false⟩ : Rdr).take n = ([],5,Rdr.fail):=by
 unfold Rdr.take; rw [if_pos]; exact .inr h
theorem take8 {l : List Int} (h : 8 ≤ l.length) : l.take 8 = [l.getD 0 0,l.getD 1 0,l.getD 2 0,l.getD 3 0,l.getD 4 0,l.getD 5 0,l.getD 6 0,l.getD 7 0]:=by
 match l,h with
 | a :: b :: c :: d :: e :: f :: g :: i :: r,_=>rfl
theorem blk_good {l : List Int} (h : 8 ≤ l.length) : (⟨l,false⟩ : Rdr).blk = ([l.getD 0 0,l.getD 1 0,l.getD 2 0,l.getD 3 0,l.getD 4 0,l.getD 5 0,l.getD 6 0,l.getD 7 0],0,⟨l.drop 8,false⟩):=by
 unfold Rdr.blk; rw [take_good h,take8 h]; simp
theorem blk_short {l : List Int} (h : l.length < 8) : (⟨l,false⟩ : Rdr).blk = ([0,0,0,0,0,0,0,0],5,Rdr.fail):=by
 unfold Rdr.blk; rw [take_short h]; simp
theorem bytes_good {l l' : List Int} {n : Nat} (h : uintD l = some (n,l')) (hn : n ≤ l'.length) : (⟨l,false⟩ : Rdr).bytes = (l'.take n,0,⟨l'.drop n,false⟩):=by
 unfold Rdr.bytes; rw [uint_good h]; simp [take_good hn]
theorem bytes_short {l l' : List Int} {n : Nat} (h : uintD l = some (n,l')) (hn : l'.length < n) : (⟨l,false⟩ : Rdr).bytes = ([],5,Rdr.fail):=by
 unfold Rdr.bytes; rw [uint_good h]; simp [take_short hn]
theorem bytes_none {l : List Int} (h : uintD l = none) : (⟨l,false⟩ : Rdr).bytes = ([],5,Rdr.fail):=by
 unfold Rdr.bytes; rw [uint_none h]; simp
def Rdr.std (r : Rdr) : Prop:=r.bad = false ∨ r = Rdr.fail
def cW (r : Rdr) : PW × Rdr:=
 let g:=r.count 4096
 let p:=g.2.2.count 16
 let v:=p.2.2.uint
 let d:=v.2.2.blk
 (⟨g.1,p.1,v.1,d.1.getD 0 0,d.1.getD 1 0,d.1.getD 2 0,d.1.getD 3 0,d.1.getD 4 0,d.1.getD 5 0,d.1.getD 6 0,d.1.getD 7 0⟩,d.2.2)
def cM (r : Rdr) : Mv × Rdr:=
 let g:=r.count 4096
 let p:=g.2.2.count 16
 let k:=p.2.2.uint
 let b:=k.2.2.count 65536
 (⟨g.1,p.1,zagN k.1,b.1⟩,b.2.2)
def cN {α : Type} (f : Rdr → α × Rdr) : Nat → Rdr → List α × Rdr
 | 0,r=>([],r)
 | k + 1,r=>((cN f k r).1 ++ [(f (cN f k r).2).1],(f (cN f k r).2).2)
theorem cN_len {α : Type} (f : Rdr → α × Rdr) : ∀ (k : Nat) (r : Rdr),(cN f k r).1.length = k
 | 0,_=>rfl
 | k + 1,r=>by
   show ((cN f k r).1 ++ [_]).length = k + 1
   rw [List.length_append,cN_len f k r]; rfl
def c1 (b : List Int) : Nat × Int × Rdr:=(⟨b,false⟩ : Rdr).uint
def c2 (b : List Int) : Nat × Int × Rdr:=(c1 b).2.2.uint
def c3 (b : List Int) : Nat × Int × Rdr:=(c2 b).2.2.count 64
def c4 (b : List Int) : List PW × Rdr:=cN cW (c3 b).1 (c3 b).2.2
def c5 (b : List Int) : Nat × Int × Rdr:=(c4 b).2.count 64
def c6 (b : List Int) : List Mv × Rdr:=cN cM (c5 b).1 (c5 b).2.2
def c7 (b : List Int) : List Int × Int × Rdr:=(c6 b).2.bytes
def cRec (b : List Int) : Rec:=⟨(c1 b).1,(c2 b).1,(c4 b).1,(c6 b).1,(c7 b).1⟩
def cOk (b : List Int) : Bool:=(c7 b).2.2.done == 0 && validR (cRec b)
def Step {α : Type} (f : Rdr → α × Rdr) (s : List Int → Option (α × List Int)) (lim : α → Prop) : Prop:=
 (f Rdr.fail).2 = Rdr.fail ∧ ∀ l,(∃ x l',s l = some (x,l') ∧ lim x ∧ f ⟨l,false⟩ = (x,⟨l',false⟩)) ∨ ((∀ x l',s l = some (x,l') → ¬ lim x) ∧ (f ⟨l,false⟩).2 = Rdr.fail)
def limW (x : PW) : Prop:=x.g ≤ 4096 ∧ x.p ≤ 16
def limM (x : Mv) : Prop:=x.g ≤ 4096 ∧ x.p ≤ 16 ∧ x.b ≤ 65536
theorem cN_fail {α : Type} {f : Rdr → α × Rdr} (h : (f Rdr.fail).2 = Rdr.fail) : ∀ k,(cN f k Rdr.fail).2 = Rdr.fail
 | 0=>rfl
 | k + 1=>by show (f (cN f k Rdr.fail).2).2 = _; rw [cN_fail h k,h]
theorem cN_step {α : Type} {f : Rdr → α × Rdr} {s : List Int → Option (α × List Int)} {lim : α → Prop} (h : Step f s lim) : ∀ k,Step (fun r=>cN f k r) (sN s k) (fun xs=>∀ x ∈ xs,lim x)
 | 0=>⟨rfl,fun l=>.inl ⟨[],l,rfl,by simp,rfl⟩⟩
 | k + 1=>by
   obtain ⟨hf,hs⟩:=cN_step h k
   refine ⟨cN_fail h.1 (k + 1),fun l=>?_⟩
   rcases hs l with ⟨xs,l1,e1,e2,e3⟩ | ⟨e1,e2⟩
   ·rcases h.2 l1 with ⟨x,l2,d1,d2,d3⟩ | ⟨d1,d2⟩
    ·left
     refine ⟨xs ++ [x],l2,by unfold sN; rw [e1]; simp only [d1],fun y hy=>?_,?_⟩
     ·rcases List.mem_append.1 hy with hy | hy
      ·exact e2 y hy
      ·simp at hy; subst hy; exact d2
     ·show (_ ++ [_],_) = _
      have e3' : cN f k ⟨l,false⟩ = (xs,⟨l1,false⟩):=e3
      rw [e3',d3]
    ·right
     refine ⟨fun ys l' hy hl=>?_,?_⟩
     ·unfold sN at hy; rw [e1] at hy; simp only at hy
      split at hy
      ·cases hy
      ·rename_i x l2 hx
       injection hy with hy; injection hy with hy _; subst hy
       exact d1 x l2 hx (hl x (by simp))
     ·have e3' : cN f k ⟨l,false⟩ = (xs,⟨l1,false⟩):=e3
      show (f (cN f k ⟨l,false⟩).2).2 = _
      rw [e3',d2]
   ·right
    refine ⟨fun ys l' hy hl=>?_,?_⟩
    ·unfold sN at hy
     split at hy
     ·cases hy
     ·rename_i xs l1 hx
      split at hy
      ·cases hy
      ·injection hy with hy; injection hy with hy _; subst hy
       exact e1 xs l1 hx (fun x hx=>hl x (by simp [hx]))
    ·have e2' : (cN f k ⟨l,false⟩).2 = Rdr.fail:=e2
     show (f (cN f k ⟨l,false⟩).2).2 = _
     rw [e2',h.1]
end Go.Proofs.YtaggiceejcegdaaGreat
namespace Go.Proofs.YtaggiceejcegdaaGreat
set_option linter.unusedVariables false
theorem c2_fail {b : List Int} (h : (c1 b).2.2 = Rdr.fail) : (c2 b).2.2 = Rdr.fail:=by unfold c2; rw [h,uint_fail]
theorem done_zero {r : Rdr} (h : r.done = 0) : r.bad = false ∧ r.rest = []:=by
 unfold Rdr.done at h
 split at h
 ·omega
 ·rename_i hc
  constructor
  ·cases hb : r.bad with
   | false=>rfl
   | true=>exact absurd (.inl hb) hc
  ·cases hr : r.rest with
   | nil=>rfl
   | cons a l=>exact absurd (.inr (by rw [hr]; simp)) hc
structure Lims (r : Rec) : Prop where
 nw : r.ws.length ≤ 64
 nm : r.ms.length ≤ 64
 ws : ∀ x ∈ r.ws,limW x
 ms : ∀ x ∈ r.ms,limM x
end Go.Proofs.YtaggiceejcegdaaGreat

/-
  WHAT IS SHOWN: what numbers of record returns. what payload of record returns. what Payload of tegularef27 returns. Conditions: as each theorem names them.
-/
import Derived.Test.YtaggiceejcegdaaGreatNc03
import Derived.Deep.RegionHeld3
namespace Go.Proofs.YtaggiceejcegdaaGreat
set_option linter.unusedVariables false
open Go.RowKit
def RdO (w : World) (xs : List Int) (e : Ending) (w' : World) : Prop:=∃ A c,e = .returned (.slice A xs.length c) ∧ Rd w' w'.heap.size A (xs.map (Value.int .u8)) ∧ Below w.heap.size w w'
def numsB (ns : List Nat) : List Int:=ns.flatMap uintB
theorem numsB_take {ns : List Nat} {k : Nat} (h : k < ns.length) : numsB (ns.take (k + 1)) = numsB (ns.take k) ++ uintB ns[k]:=by
 unfold numsB; rw [List.take_succ_eq_append_getElem h,List.flatMap_append]; simp
theorem numsB_len (ns : List Nat) : (numsB ns).length ≤ ns.length * 10:=by
 unfold numsB
 induction ns with
 | nil=>simp
 | cons n ns ih=>
   rw [List.flatMap_cons,List.length_append,List.length_cons]
   have:=uintB_len n
   omega
theorem num_at {w : World} {B : Nat} {A : Option Addr} {ns : List Nat} (h : Rd w B A (ns.map (fun n : Nat=>Value.int .u64 n))) {k : Nat} (hk : k < ns.length) : ∃ g o,A = some ⟨g,o,none⟩ ∧ g < B ∧ w.cell? ⟨g,o + k,none⟩ = some (.int .u64 (ns[k] : Nat)):=by
 obtain ⟨g,o,e,hg,hc⟩:=h k (.int .u64 (ns[k] : Nat)) (by simp [hk])
 exact ⟨g,o,e,hg,hc⟩
set_option maxRecDepth 100000 in
set_option maxHeartbeats 1000000 in
theorem numbers_any (ns : List Nat) (hns : ∀ n ∈ ns,n < 2 ^ 64) (hl : ns.length ≤ 100) (L : Option Addr) (lc : Nat) (xs : List Int) (A : Option Addr) (c : Nat) (w : World) (hr : Rd w w.heap.size A (xs.map (Value.int .u8))) (hx : xs.length ≤ 800000)
  (hL : Rd w w.heap.size L (ns.map (fun n : Nat=>Value.int .u64 n))) :
  Calls Tryz.prog 87 #[.slice A xs.length c,.slice L ns.length lc] w (RdO w (xs ++ numsB ns)):=by
 have HR:=Lib.hid hr
 have HL:=Lib.hid hL
 clear hr hL
 go_enter Tryz.func87,Tryz.ntmps87
 go_wp2
 go_loopw [0,9] (fun b i wr=>∃ (k : Nat) (ys : List Int) (DA : Option Addr) (dc : Nat),k ≤ ns.length ∧ i = .int .i64 k ∧ b = .slice DA ys.length dc ∧ Hid (ys = xs ++ numsB (ns.take k)) ∧ Hid (Rd wr wr.heap.size DA (ys.map (Value.int .u8))) ∧ Hid (Below w.heap.size w wr)) (fun _ i _=>ns.length - (intOf i).toNat)
 case atStart=>exact ⟨0,xs,A,c,Nat.zero_le _,rfl,rfl,by unfold Hid numsB; simp,HR,Below.refl _ _⟩
 case round=>
  obtain ⟨k,ys,DA,dc,hk,rfl,rfl,HY,HRY,HBR⟩:=hrel
  by_cases hlt : k < ns.length
  ·obtain ⟨g,o,rfl,hg,j0⟩:=num_at (HL.out.below HBR.out (Nat.le_refl _)) hlt
   have HT : Hid (ys ++ uintB ns[k] = xs ++ numsB (ns.take (k + 1))):=by unfold Hid; rw [numsB_take hlt,HY.out,List.append_assoc]
   have hyl : ys.length ≤ 900000:=by
    rw [HY.out,List.length_append]
    have h1:=numsB_len (ns.take k)
    rw [List.length_take] at h1
    omega
   have HC:=Lib.hid (appuint_any ns[k] (hns _ (List.getElem_mem hlt)) ys DA dc wr HRY.out hyl)
   generalize ys ++ uintB ns[k] = zs at *
   generalize ns[k] = m at *
   go_wp2_with fail
   refine HC.out.mono ?_
   rintro e w1 ⟨A1,c1,rfl,ho1,hb1⟩
   have HZ : Hid (Rd w1 w1.heap.size A1 (zs.map (Value.int .u8))):=Rd.of_own ho1
   have HB1:=Lib.hid (HBR.out.trans (hb1.mono HBR.out.size))
   clear ho1 hb1
   go_wp2
   go_roundw
   case rel=>exact ⟨k + 1,zs,A1,c1,by omega,by go_num,rfl,HT,HZ,HB1⟩
   case measure=>simp [intOf]; omega
  ·obtain rfl : k = ns.length:=by omega
   have HE : Hid (ys = xs ++ numsB ns):=by unfold Hid; have:=HY.out; rw [List.take_length] at this; exact this
   go_wp2
   go_ret
   exact ⟨DA,dc,by rw [← HE.out]; rfl,by rw [← HE.out]; exact HRY.out,HBR.out⟩
end Go.Proofs.YtaggiceejcegdaaGreat
namespace Go.Proofs.YtaggiceejcegdaaGreat
set_option linter.unusedVariables false
open Go.RowKit
theorem rd_new (w : World) (vs : List Value) (t : TypeId) : Rd (w.alloc (.cells vs.toArray t)) (w.alloc (.cells vs.toArray t)).heap.size (some ⟨w.heap.size,0,none⟩) vs:=fun j u hu=>
 ⟨w.heap.size,0,rfl,by simp,by rw [Nat.zero_add]; exact cell_new w _ _ _ _ _ rfl (by simpa using hu)⟩
theorem rd_new' {w : World} {q : Nat} (vs : List Value) (t : TypeId) (h : q = w.heap.size) : Rd (w.alloc (.cells vs.toArray t)) (w.alloc (.cells vs.toArray t)).heap.size (some ⟨q,0,none⟩) vs:=by subst h; exact rd_new w vs t
theorem wrapNat {g : Int} (h0 : 0 ≤ g) (h1 : g < 9223372036854775808) : IntKind.u64.wrap g = ((g.toNat : Nat) : Int):=by rw [IntKind.wrap_u64]; omega
theorem rd_drew {w : World} {A : Option Addr} {xs : List Value} (h : Rd w w.heap.size A xs) : Rd w.drew w.drew.heap.size A xs:=h
def hdE (r : Rec) : List Int:=uintB r.gen ++ uintB r.seq ++ uintB r.ws.length
theorem hdE_len (r : Rec) : (hdE r).length ≤ 30:=by
 unfold hdE
 have u1:=uintB_len r.gen; have u2:=uintB_len r.seq; have u3:=uintB_len r.ws.length
 simp; omega
set_option maxRecDepth 100000 in
set_option maxHeartbeats 1000000 in
theorem payload_any (r : Rec) (hv : Vld r) (hok : r.Ok) (A D N : Option Addr) (c d n : Nat) (w : World) (h : RecR w w.heap.size r A c D d N n) :
  Calls Tryz.prog 86 #[.agg #[.int .u64 r.gen,.int .u64 r.seq,.slice A r.ws.length c,.slice D r.ms.length d,.slice N r.note.length n]] w (NewO w (payR r)):=by
 have HB : Hid (∀ W,Below (w.heap.size + 1) (w.alloc (.cells #[.int .u64 r.gen,.int .u64 r.seq,.slice A r.ws.length c,.slice D r.ms.length d,.slice N r.note.length n] 28)) W → Below w.heap.size w W):=fun W hW=>((Below.refl w.heap.size w).alloc (Nat.le_refl _) _).trans (hW.mono (by omega))
 have HP0 : Hid (∀ W,Below (w.heap.size + 1) (w.alloc (.cells #[.int .u64 r.gen,.int .u64 r.seq,.slice A r.ws.length c,.slice D r.ms.length d,.slice N r.note.length n] 28)) W → Cells5 W w.heap.size (.int .u64 r.gen) (.int .u64 r.seq) (.slice A r.ws.length c) (.slice D r.ms.length d) (.slice N r.note.length n)):=fun W hW=>(Cells5.new w 28 _ _ _ _ _).below hW (by simp)
 have HH:=Lib.hid h
 have HV:=Lib.hid hv
 have HO:=Lib.hid hok
 have hg1:=hok.gen
 have hs1:=hok.seq
 have hnw:=hv.nw
 clear h hv hok
 go_enter Tryz.func86,Tryz.ntmps86
 go_wp2_with fail
 refine (numbers_any [r.gen,r.seq,r.ws.length] (by simp; omega) (by simp) _ _ [] none 0 _ (Rd.nil_ _ _ _) (by simp) (rd_new' [.int .u64 r.gen,.int .u64 r.seq,.int .u64 r.ws.length] 23 (by simp))).mono ?_
 rintro e w1 ⟨A1,c1,rfl,hr1,hb1⟩
 have hE : [] ++ numsB [r.gen,r.seq,r.ws.length] = hdE r:=by unfold numsB hdE; simp
 rw [hE] at hr1 ⊢
 have HR1:=Lib.hid hr1
 have HB1 : Hid (Below (w.heap.size + 1) (w.alloc (.cells #[.int .u64 r.gen,.int .u64 r.seq,.slice A r.ws.length c,.slice D r.ms.length d,.slice N r.note.length n] 28)) w1):=(((Below.refl _ _).alloc (by simp) _)).trans (hb1.mono (by simp))
 clear hE hr1 hb1
 have PB:=HP0.out _ HB1.out
 have q2:=PB.c2
 clear PB
 go_wp2
 clear q2
 go_loopw [3,21] (fun b i wr=>∃ (k : Nat) (ys : List Int) (DA : Option Addr) (dc : Nat),k ≤ r.ws.length ∧ i = .int .i64 k ∧ b = .slice DA ys.length dc ∧ Hid (ys = hdE r ++ wsE (r.ws.take k)) ∧ Hid (Rd wr wr.heap.size DA (ys.map (Value.int .u8))) ∧ Hid (Below (w.heap.size + 1) (w.alloc (.cells #[.int .u64 r.gen,.int .u64 r.seq,.slice A r.ws.length c,.slice D r.ms.length d,.slice N r.note.length n] 28)) wr)) (fun _ i _=>r.ws.length - (intOf i).toNat)
 case atStart=>exact ⟨0,_,A1,c1,Nat.zero_le _,rfl,rfl,by unfold Hid wsE; simp,HR1,HB1⟩
 case round=>
  obtain ⟨k,ys,DA,dc,hk,rfl,rfl,HY,HRY,HBR⟩:=hrel
  have HBW : Hid (∀ W,Below wr.heap.size wr W → Below (w.heap.size + 1) (w.alloc (.cells #[.int .u64 r.gen,.int .u64 r.seq,.slice A r.ws.length c,.slice D r.ms.length d,.slice N r.note.length n] 28)) W):=fun W hW=>HBR.out.trans (hW.mono (by have:=HBR.out.size; simp at this; omega))
  by_cases hlt : k < r.ws.length
  ·obtain ⟨ga,oa,rfl,hga,j0,j1,j2,j3,j4,j5,j6,j7,j8,j9,j10⟩:=(HH.out.below (HB.out _ HBR.out) (Nat.le_refl _)).ws.pw hlt
   have hyl : ys.length ≤ 3000:=by
    rw [HY.out,List.length_append]
    have h1:=wsE_len (r.ws.take k)
    have h2:=hdE_len r
    rw [List.length_take] at h1
    omega
   obtain ⟨x0,x1,x2,x3⟩:=HV.out.ws _ (List.getElem_mem hlt)
   have x4:=(HO.out.ws _ (List.getElem_mem hlt)).v
   have HRD1 : Hid (∀ W,Below wr.heap.size wr W → Rd W W.heap.size DA (ys.map (Value.int .u8))):=fun W hW=>(HRY.out.below hW (Nat.le_refl _)).more hW.size
   have hb1 : Below wr.heap.size wr (wr.alloc (.cells #[.int .i64 r.ws[k].g,.int .i64 r.ws[k].p,.int .u64 r.ws[k].v,.int .u8 r.ws[k].d0,.int .u8 r.ws[k].d1,.int .u8 r.ws[k].d2,.int .u8 r.ws[k].d3,.int .u8 r.ws[k].d4,.int .u8 r.ws[k].d5,.int .u8 r.ws[k].d6,.int .u8 r.ws[k].d7] 151)):=(Below.refl _ _).alloc (Nat.le_refl _) _
   have z0 : (wr.alloc (.cells #[.int .i64 r.ws[k].g,.int .i64 r.ws[k].p,.int .u64 r.ws[k].v,.int .u8 r.ws[k].d0,.int .u8 r.ws[k].d1,.int .u8 r.ws[k].d2,.int .u8 r.ws[k].d3,.int .u8 r.ws[k].d4,.int .u8 r.ws[k].d5,.int .u8 r.ws[k].d6,.int .u8 r.ws[k].d7] 151)).cell? ⟨wr.heap.size,0,none⟩ = some (.int .i64 r.ws[k].g):=by simp
   have z1 : (wr.alloc (.cells #[.int .i64 r.ws[k].g,.int .i64 r.ws[k].p,.int .u64 r.ws[k].v,.int .u8 r.ws[k].d0,.int .u8 r.ws[k].d1,.int .u8 r.ws[k].d2,.int .u8 r.ws[k].d3,.int .u8 r.ws[k].d4,.int .u8 r.ws[k].d5,.int .u8 r.ws[k].d6,.int .u8 r.ws[k].d7] 151)).cell? ⟨wr.heap.size,1,none⟩ = some (.int .i64 r.ws[k].p):=by simp
   have z2 : (wr.alloc (.cells #[.int .i64 r.ws[k].g,.int .i64 r.ws[k].p,.int .u64 r.ws[k].v,.int .u8 r.ws[k].d0,.int .u8 r.ws[k].d1,.int .u8 r.ws[k].d2,.int .u8 r.ws[k].d3,.int .u8 r.ws[k].d4,.int .u8 r.ws[k].d5,.int .u8 r.ws[k].d6,.int .u8 r.ws[k].d7] 151)).cell? ⟨wr.heap.size,2,none⟩ = some (.int .u64 r.ws[k].v):=by simp
   have z3 : (wr.alloc (.cells #[.int .i64 r.ws[k].g,.int .i64 r.ws[k].p,.int .u64 r.ws[k].v,.int .u8 r.ws[k].d0,.int .u8 r.ws[k].d1,.int .u8 r.ws[k].d2,.int .u8 r.ws[k].d3,.int .u8 r.ws[k].d4,.int .u8 r.ws[k].d5,.int .u8 r.ws[k].d6,.int .u8 r.ws[k].d7] 151)).cell? ⟨wr.heap.size,3,none⟩ = some (.int .u8 r.ws[k].d0):=by simp
   have z4 : (wr.alloc (.cells #[.int .i64 r.ws[k].g,.int .i64 r.ws[k].p,.int .u64 r.ws[k].v,.int .u8 r.ws[k].d0,.int .u8 r.ws[k].d1,.int .u8 r.ws[k].d2,.int .u8 r.ws[k].d3,.int .u8 r.ws[k].d4,.int .u8 r.ws[k].d5,.int .u8 r.ws[k].d6,.int .u8 r.ws[k].d7] 151)).cell? ⟨wr.heap.size,4,none⟩ = some (.int .u8 r.ws[k].d1):=by simp
   have z5 : (wr.alloc (.cells #[.int .i64 r.ws[k].g,.int .i64 r.ws[k].p,.int .u64 r.ws[k].v,.int .u8 r.ws[k].d0,.int .u8 r.ws[k].d1,.int .u8 r.ws[k].d2,.int .u8 r.ws[k].d3,.int .u8 r.ws[k].d4,.int .u8 r.ws[k].d5,.int .u8 r.ws[k].d6,.int .u8 r.ws[k].d7] 151)).cell? ⟨wr.heap.size,5,none⟩ = some (.int .u8 r.ws[k].d2):=by simp
   have z6 : (wr.alloc (.cells #[.int .i64 r.ws[k].g,.int .i64 r.ws[k].p,.int .u64 r.ws[k].v,.int .u8 r.ws[k].d0,.int .u8 r.ws[k].d1,.int .u8 r.ws[k].d2,.int .u8 r.ws[k].d3,.int .u8 r.ws[k].d4,.int .u8 r.ws[k].d5,.int .u8 r.ws[k].d6,.int .u8 r.ws[k].d7] 151)).cell? ⟨wr.heap.size,6,none⟩ = some (.int .u8 r.ws[k].d3):=by simp
   have z7 : (wr.alloc (.cells #[.int .i64 r.ws[k].g,.int .i64 r.ws[k].p,.int .u64 r.ws[k].v,.int .u8 r.ws[k].d0,.int .u8 r.ws[k].d1,.int .u8 r.ws[k].d2,.int .u8 r.ws[k].d3,.int .u8 r.ws[k].d4,.int .u8 r.ws[k].d5,.int .u8 r.ws[k].d6,.int .u8 r.ws[k].d7] 151)).cell? ⟨wr.heap.size,7,none⟩ = some (.int .u8 r.ws[k].d4):=by simp
   have z8 : (wr.alloc (.cells #[.int .i64 r.ws[k].g,.int .i64 r.ws[k].p,.int .u64 r.ws[k].v,.int .u8 r.ws[k].d0,.int .u8 r.ws[k].d1,.int .u8 r.ws[k].d2,.int .u8 r.ws[k].d3,.int .u8 r.ws[k].d4,.int .u8 r.ws[k].d5,.int .u8 r.ws[k].d6,.int .u8 r.ws[k].d7] 151)).cell? ⟨wr.heap.size,8,none⟩ = some (.int .u8 r.ws[k].d5):=by simp
   have z9 : (wr.alloc (.cells #[.int .i64 r.ws[k].g,.int .i64 r.ws[k].p,.int .u64 r.ws[k].v,.int .u8 r.ws[k].d0,.int .u8 r.ws[k].d1,.int .u8 r.ws[k].d2,.int .u8 r.ws[k].d3,.int .u8 r.ws[k].d4,.int .u8 r.ws[k].d5,.int .u8 r.ws[k].d6,.int .u8 r.ws[k].d7] 151)).cell? ⟨wr.heap.size,9,none⟩ = some (.int .u8 r.ws[k].d6):=by simp
   have z10 : (wr.alloc (.cells #[.int .i64 r.ws[k].g,.int .i64 r.ws[k].p,.int .u64 r.ws[k].v,.int .u8 r.ws[k].d0,.int .u8 r.ws[k].d1,.int .u8 r.ws[k].d2,.int .u8 r.ws[k].d3,.int .u8 r.ws[k].d4,.int .u8 r.ws[k].d5,.int .u8 r.ws[k].d6,.int .u8 r.ws[k].d7] 151)).cell? ⟨wr.heap.size,10,none⟩ = some (.int .u8 r.ws[k].d7):=by simp
   have hz1 : wr.heap.size < (wr.alloc (.cells #[.int .i64 r.ws[k].g,.int .i64 r.ws[k].p,.int .u64 r.ws[k].v,.int .u8 r.ws[k].d0,.int .u8 r.ws[k].d1,.int .u8 r.ws[k].d2,.int .u8 r.ws[k].d3,.int .u8 r.ws[k].d4,.int .u8 r.ws[k].d5,.int .u8 r.ws[k].d6,.int .u8 r.ws[k].d7] 151)).heap.size:=by simp
   go_wp2_with fail
   generalize (wr.alloc (.cells #[.int .i64 r.ws[k].g,.int .i64 r.ws[k].p,.int .u64 r.ws[k].v,.int .u8 r.ws[k].d0,.int .u8 r.ws[k].d1,.int .u8 r.ws[k].d2,.int .u8 r.ws[k].d3,.int .u8 r.ws[k].d4,.int .u8 r.ws[k].d5,.int .u8 r.ws[k].d6,.int .u8 r.ws[k].d7] 151)) = W1 at *
   have hE2 : ys ++ numsB [r.ws[k].g.toNat,r.ws[k].p.toNat,r.ws[k].v] ++ (r.ws[k]).data = hdE r ++ wsE (r.ws.take (k + 1)):=by
    rw [wsE_take hlt,HY.out]; unfold PW.enc numsB; simp
   have hl3 : (ys ++ numsB [r.ws[k].g.toNat,r.ws[k].p.toNat,r.ws[k].v]).length ≤ 4000:=by
    have:=numsB_len [r.ws[k].g.toNat,r.ws[k].p.toNat,r.ws[k].v]
    rw [List.length_append]; simp at this; omega
   have hC1:=numbers_any [r.ws[k].g.toNat,r.ws[k].p.toNat,r.ws[k].v] (by intro n hn; simp at hn; omega) (by simp) (some ⟨W1.heap.size,0,none⟩) 3 ys DA dc ((W1.alloc (.cells #[.int .u64 (IntKind.u64.wrap r.ws[k].g),.int .u64 (IntKind.u64.wrap r.ws[k].p),.int .u64 r.ws[k].v] 23)).drew) (HRD1.out _ (hb1.trans (((Below.refl W1.heap.size W1).alloc (Nat.le_refl _) _).drew.mono (Nat.le_of_lt hz1)))) (by omega)
    (rd_drew (by rw [wrapNat x0 (by omega),wrapNat x2 (by omega)]; exact rd_new' [.int .u64 ((r.ws[k].g.toNat : Nat) : Int),.int .u64 ((r.ws[k].p.toNat : Nat) : Int),.int .u64 (r.ws[k].v : Nat)] 23 rfl))
   generalize ys ++ numsB [r.ws[k].g.toNat,r.ws[k].p.toNat,r.ws[k].v] = zs at *
   have HE2:=Lib.hid hE2
   have HC1:=Lib.hid hC1
   have HHb1:=Lib.hid hb1
   clear hE2 hC1 hb1
   go_region_held3 (fun W=>W.cell? ⟨wr.heap.size,0,none⟩ = some (.int .i64 r.ws[k].g) ∧ W.cell? ⟨wr.heap.size,1,none⟩ = some (.int .i64 r.ws[k].p) ∧ W.cell? ⟨wr.heap.size,2,none⟩ = some (.int .u64 r.ws[k].v) ∧ W.cell? ⟨wr.heap.size,3,none⟩ = some (.int .u8 r.ws[k].d0) ∧ W.cell? ⟨wr.heap.size,4,none⟩ = some (.int .u8 r.ws[k].d1) ∧ W.cell? ⟨wr.heap.size,5,none⟩ = some (.int .u8 r.ws[k].d2) ∧ W.cell? ⟨wr.heap.size,6,none⟩ = some (.int .u8 r.ws[k].d3) ∧ W.cell? ⟨wr.heap.size,7,none⟩ = some (.int .u8 r.ws[k].d4) ∧ W.cell? ⟨wr.heap.size,8,none⟩ = some (.int .u8 r.ws[k].d5) ∧ W.cell? ⟨wr.heap.size,9,none⟩ = some (.int .u8 r.ws[k].d6) ∧ W.cell? ⟨wr.heap.size,10,none⟩ = some (.int .u8 r.ws[k].d7))
    (first | (refine ⟨?_,?_,?_,?_,?_,?_,?_,?_,?_,?_,?_⟩ <;> assumption) | (simp (maxDischargeDepth:=20) [World.cell?_alloc_some, *]; done))
    ((first
      | (go_at_call 87
         refine HC1.out.mono ?_
         rintro e w2 ⟨A2,c2,rfl,hr2,hb2⟩
         have hw2 : Below W1.heap.size W1 w2:=(((Below.refl W1.heap.size W1).alloc (Nat.le_refl _) _).drew).trans (hb2.mono (by simp))
         have HR2:=Lib.hid hr2
         have HW2:=Lib.hid hw2
         have y0:=(hw2.cell (p:=⟨wr.heap.size,0,none⟩) hz1).trans z0
         have y1:=(hw2.cell (p:=⟨wr.heap.size,1,none⟩) hz1).trans z1
         have y2:=(hw2.cell (p:=⟨wr.heap.size,2,none⟩) hz1).trans z2
         have y3:=(hw2.cell (p:=⟨wr.heap.size,3,none⟩) hz1).trans z3
         have y4:=(hw2.cell (p:=⟨wr.heap.size,4,none⟩) hz1).trans z4
         have y5:=(hw2.cell (p:=⟨wr.heap.size,5,none⟩) hz1).trans z5
         have y6:=(hw2.cell (p:=⟨wr.heap.size,6,none⟩) hz1).trans z6
         have y7:=(hw2.cell (p:=⟨wr.heap.size,7,none⟩) hz1).trans z7
         have y8:=(hw2.cell (p:=⟨wr.heap.size,8,none⟩) hz1).trans z8
         have y9:=(hw2.cell (p:=⟨wr.heap.size,9,none⟩) hz1).trans z9
         have y10:=(hw2.cell (p:=⟨wr.heap.size,10,none⟩) hz1).trans z10
         clear hr2 hb2 hw2)
      | (go_at_call 128
         refine (appblk_any _ _ _ _ _ _ _ _ zs A2 c2 _ HR2.out (by omega)).mono ?_
         rintro e w3 ⟨A3,c3,rfl,ho3,hb3⟩
         have HR3:=Lib.hid (Rd.of_own ho3)
         have hz2 : wr.heap.size < w2.heap.size:=Nat.lt_of_lt_of_le hz1 HW2.out.size
         have t0:=(hb3.cell (p:=⟨wr.heap.size,0,none⟩) hz2).trans y0
         have t1:=(hb3.cell (p:=⟨wr.heap.size,1,none⟩) hz2).trans y1
         have t2:=(hb3.cell (p:=⟨wr.heap.size,2,none⟩) hz2).trans y2
         have t3:=(hb3.cell (p:=⟨wr.heap.size,3,none⟩) hz2).trans y3
         have t4:=(hb3.cell (p:=⟨wr.heap.size,4,none⟩) hz2).trans y4
         have t5:=(hb3.cell (p:=⟨wr.heap.size,5,none⟩) hz2).trans y5
         have t6:=(hb3.cell (p:=⟨wr.heap.size,6,none⟩) hz2).trans y6
         have t7:=(hb3.cell (p:=⟨wr.heap.size,7,none⟩) hz2).trans y7
         have t8:=(hb3.cell (p:=⟨wr.heap.size,8,none⟩) hz2).trans y8
         have t9:=(hb3.cell (p:=⟨wr.heap.size,9,none⟩) hz2).trans y9
         have t10:=(hb3.cell (p:=⟨wr.heap.size,10,none⟩) hz2).trans y10
         have HB3:=Lib.hid (HBW.out _ (HHb1.out.trans ((HW2.out.trans (hb3.mono HW2.out.size)).mono (Nat.le_of_lt hz1))))
         clear ho3 hb3)))
   rw [show zs ++ [r.ws[k].d0,r.ws[k].d1,r.ws[k].d2,r.ws[k].d3,r.ws[k].d4,r.ws[k].d5,r.ws[k].d6,r.ws[k].d7] = hdE r ++ wsE (r.ws.take (k + 1)) from HE2.out] at HR3
   have HL3 : Hid (zs.length + 8 = (hdE r ++ wsE (r.ws.take (k + 1))).length):=by unfold Hid; rw [← HE2.out]; simp [PW.data]
   clear z0 z1 z2 z3 z4 z5 z6 z7 z8 z9 z10 y0 y1 y2 y3 y4 y5 y6 y7 y8 y9 y10 t0 t1 t2 t3 t4 t5 t6 t7 t8 t9 t10
   go_wp2
   go_roundw
   case rel=>exact ⟨k + 1,hdE r ++ wsE (r.ws.take (k + 1)),A3,c3,by omega,by go_num,by rw [HL3.out],rfl,HR3,HB3⟩
   case measure=>simp [intOf]; omega
  ·obtain rfl : k = r.ws.length:=by omega
   rw [List.take_length] at HY
   rename World=>wa
   have PB:=HP0.out _ HBR.out
   have q3:=PB.c3
   have hlm:=HV.out.nm
   clear PB
   have HRD1 : Hid (∀ W,Below wa.heap.size wa W → Rd W W.heap.size DA (ys.map (Value.int .u8))):=fun W hW=>(HRY.out.below hW (Nat.le_refl _)).more hW.size
   have hyl : ys.length ≤ 3000:=by
    rw [HY.out,List.length_append]
    have h1:=wsE_len r.ws
    have h2:=hdE_len r
    omega
   go_wp2_with fail
   refine (numbers_any [r.ms.length] (by simp; omega) (by simp) _ _ ys DA dc _ (HRD1.out _ ((Below.refl _ _).alloc (Nat.le_refl _) _)) (by omega) (rd_new' [.int .u64 r.ms.length] 23 rfl)).mono ?_
   rintro e w2 ⟨A2,c2,rfl,hr2,hb2⟩
   have HR2:=Lib.hid hr2
   have HB2 : Hid (Below (w.heap.size + 1) (w.alloc (.cells #[.int .u64 r.gen,.int .u64 r.seq,.slice A r.ws.length c,.slice D r.ms.length d,.slice N r.note.length n] 28)) w2):=HBR.out.trans ((((Below.refl wa.heap.size wa).alloc (Nat.le_refl _) _).trans (hb2.mono (by simp))).mono (by have:=HBR.out.size; simp at this; omega))
   have HY2 : Hid (ys ++ numsB [r.ms.length] = hdE r ++ wsE r.ws ++ uintB r.ms.length):=by unfold Hid numsB; rw [HY.out]; simp
   have hzl : (ys ++ numsB [r.ms.length]).length ≤ 3010:=by
    have:=numsB_len [r.ms.length]; rw [List.length_append]; simp at this; omega
   generalize ys ++ numsB [r.ms.length] = zs at *
   clear hr2 hb2 q3
   have PB:=HP0.out _ HB2.out
   have q3:=PB.c3
   clear PB
   go_wp2
   clear q3
   go_loopw [3,50] (fun b i wr=>∃ (k : Nat) (ys : List Int) (DA : Option Addr) (dc : Nat),k ≤ r.ms.length ∧ i = .int .i64 k ∧ b = .slice DA ys.length dc ∧ Hid (ys = hdE r ++ wsE r.ws ++ uintB r.ms.length ++ msE (r.ms.take k)) ∧ Hid (Rd wr wr.heap.size DA (ys.map (Value.int .u8))) ∧ Hid (Below (w.heap.size + 1) (w.alloc (.cells #[.int .u64 r.gen,.int .u64 r.seq,.slice A r.ws.length c,.slice D r.ms.length d,.slice N r.note.length n] 28)) wr)) (fun _ i _=>r.ms.length - (intOf i).toNat)
   case atStart=>exact ⟨0,zs,A2,c2,Nat.zero_le _,rfl,rfl,by unfold Hid msE; rw [HY2.out]; simp,HR2,HB2⟩
   case round=>
    clear HY2 hzl
    obtain ⟨k,ys,DA,dc,hk,rfl,rfl,HY,HRY,HBR⟩:=hrel
    have HBW : Hid (∀ W,Below wr.heap.size wr W → Below (w.heap.size + 1) (w.alloc (.cells #[.int .u64 r.gen,.int .u64 r.seq,.slice A r.ws.length c,.slice D r.ms.length d,.slice N r.note.length n] 28)) W):=fun W hW=>HBR.out.trans (hW.mono (by have:=HBR.out.size; simp at this; omega))
    have HRD1 : Hid (∀ W,Below wr.heap.size wr W → Rd W W.heap.size DA (ys.map (Value.int .u8))):=fun W hW=>(HRY.out.below hW (Nat.le_refl _)).more hW.size
    have hyl : ys.length ≤ 6000:=by
     rw [HY.out]
     have h1:=wsE_len r.ws
     have h2:=hdE_len r
     have h3:=msE_len (r.ms.take k)
     have h4:=uintB_len r.ms.length
     rw [List.length_take] at h3
     simp only [List.length_append]
     omega
    by_cases hlt : k < r.ms.length
    ·obtain ⟨ga,oa,rfl,hga,j0,j1,j2,j3⟩:=(HH.out.below (HB.out _ HBR.out) (Nat.le_refl _)).ms.mv hlt
     obtain ⟨⟨x0,x1,x2,x3⟩,x4,x5,x6,x7⟩:=HV.out.ms _ (List.getElem_mem hlt)
     have hb1 : Below wr.heap.size wr (wr.alloc (.cells #[.int .i64 r.ms[k].g,.int .i64 r.ms[k].p,.int .i64 r.ms[k].k,.int .i64 r.ms[k].b] 156)):=(Below.refl _ _).alloc (Nat.le_refl _) _
     have z0 : (wr.alloc (.cells #[.int .i64 r.ms[k].g,.int .i64 r.ms[k].p,.int .i64 r.ms[k].k,.int .i64 r.ms[k].b] 156)).cell? ⟨wr.heap.size,0,none⟩ = some (.int .i64 r.ms[k].g):=by simp
     have z1 : (wr.alloc (.cells #[.int .i64 r.ms[k].g,.int .i64 r.ms[k].p,.int .i64 r.ms[k].k,.int .i64 r.ms[k].b] 156)).cell? ⟨wr.heap.size,1,none⟩ = some (.int .i64 r.ms[k].p):=by simp
     have z2 : (wr.alloc (.cells #[.int .i64 r.ms[k].g,.int .i64 r.ms[k].p,.int .i64 r.ms[k].k,.int .i64 r.ms[k].b] 156)).cell? ⟨wr.heap.size,2,none⟩ = some (.int .i64 r.ms[k].k):=by simp
     have z3 : (wr.alloc (.cells #[.int .i64 r.ms[k].g,.int .i64 r.ms[k].p,.int .i64 r.ms[k].k,.int .i64 r.ms[k].b] 156)).cell? ⟨wr.heap.size,3,none⟩ = some (.int .i64 r.ms[k].b):=by simp
     have hz1 : wr.heap.size < (wr.alloc (.cells #[.int .i64 r.ms[k].g,.int .i64 r.ms[k].p,.int .i64 r.ms[k].k,.int .i64 r.ms[k].b] 156)).heap.size:=by simp
     go_wp2_with fail
     generalize (wr.alloc (.cells #[.int .i64 r.ms[k].g,.int .i64 r.ms[k].p,.int .i64 r.ms[k].k,.int .i64 r.ms[k].b] 156)) = W1 at *
     have hE2 : ys ++ numsB [r.ms[k].g.toNat,r.ms[k].p.toNat] ++ uintB (zigN r.ms[k].k) ++ numsB [r.ms[k].b.toNat] = hdE r ++ wsE r.ws ++ uintB r.ms.length ++ msE (r.ms.take (k + 1)):=by
      rw [msE_take hlt,HY.out]; unfold Mv.enc numsB; simp
     have hl3 : (ys ++ numsB [r.ms[k].g.toNat,r.ms[k].p.toNat]).length ≤ 7000:=by
      have:=numsB_len [r.ms[k].g.toNat,r.ms[k].p.toNat]
      rw [List.length_append]; simp at this; omega
     have hl4 : (ys ++ numsB [r.ms[k].g.toNat,r.ms[k].p.toNat] ++ uintB (zigN r.ms[k].k)).length ≤ 7100:=by
      have:=uintB_len (zigN r.ms[k].k)
      rw [List.length_append]; omega
     have hC1:=numbers_any [r.ms[k].g.toNat,r.ms[k].p.toNat] (by intro n hn; simp at hn; omega) (by simp) (some ⟨W1.heap.size,0,none⟩) 2 ys DA dc ((W1.alloc (.cells #[.int .u64 (IntKind.u64.wrap r.ms[k].g),.int .u64 (IntKind.u64.wrap r.ms[k].p)] 23)).drew) (HRD1.out _ (hb1.trans (((Below.refl W1.heap.size W1).alloc (Nat.le_refl _) _).drew.mono (Nat.le_of_lt hz1)))) (by omega)
      (rd_drew (by rw [wrapNat x0 (by omega),wrapNat x2 (by omega)]; exact rd_new' [.int .u64 ((r.ms[k].g.toNat : Nat) : Int),.int .u64 ((r.ms[k].p.toNat : Nat) : Int)] 23 rfl))
     generalize ys ++ numsB [r.ms[k].g.toNat,r.ms[k].p.toNat] = zs at *
     have hC2:=fun (A2 : Option Addr) (c2 : Nat) (W : World) (hR : Rd W W.heap.size A2 (zs.map (Value.int .u8)))=>appint_any r.ms[k].k (by omega) (by omega) zs A2 c2 W hR (by omega)
     generalize zs ++ uintB (zigN r.ms[k].k) = us at *
     have HE2:=Lib.hid hE2
     have HC1:=Lib.hid hC1
     have HC2:=Lib.hid hC2
     have HHb1:=Lib.hid hb1
     clear hE2 hC1 hC2 hb1
     go_region_held3 (fun W=>W.cell? ⟨wr.heap.size,0,none⟩ = some (.int .i64 r.ms[k].g) ∧ W.cell? ⟨wr.heap.size,1,none⟩ = some (.int .i64 r.ms[k].p) ∧ W.cell? ⟨wr.heap.size,2,none⟩ = some (.int .i64 r.ms[k].k) ∧ W.cell? ⟨wr.heap.size,3,none⟩ = some (.int .i64 r.ms[k].b))
      (first | (refine ⟨?_,?_,?_,?_⟩ <;> assumption) | (simp (maxDischargeDepth:=20) [World.cell?_alloc_some, *]; done))
      ((first
        | (go_at_call 87
           refine HC1.out.mono ?_
           rintro e w2 ⟨A2,c2,rfl,hr2,hb2⟩
           have hw2 : Below W1.heap.size W1 w2:=(((Below.refl W1.heap.size W1).alloc (Nat.le_refl _) _).drew).trans (hb2.mono (by simp))
           have HR2:=Lib.hid hr2
           have HW2:=Lib.hid hw2
           have y0:=(hw2.cell (p:=⟨wr.heap.size,0,none⟩) hz1).trans z0
           have y1:=(hw2.cell (p:=⟨wr.heap.size,1,none⟩) hz1).trans z1
           have y2:=(hw2.cell (p:=⟨wr.heap.size,2,none⟩) hz1).trans z2
           have y3:=(hw2.cell (p:=⟨wr.heap.size,3,none⟩) hz1).trans z3
           clear hr2 hb2 hw2)
        | (go_at_call 129
           refine (HC2.out A2 c2 _ HR2.out).mono ?_
           rintro e w3 ⟨A3,c3,rfl,ho3,hb3⟩
           have HR3:=Lib.hid (Rd.of_own ho3)
           have hz2 : wr.heap.size < w2.heap.size:=Nat.lt_of_lt_of_le hz1 HW2.out.size
           have t0:=(hb3.cell (p:=⟨wr.heap.size,0,none⟩) hz2).trans y0
           have t1:=(hb3.cell (p:=⟨wr.heap.size,1,none⟩) hz2).trans y1
           have t2:=(hb3.cell (p:=⟨wr.heap.size,2,none⟩) hz2).trans y2
           have t3:=(hb3.cell (p:=⟨wr.heap.size,3,none⟩) hz2).trans y3
           have HB3:=Lib.hid (HHb1.out.trans ((HW2.out.trans (hb3.mono HW2.out.size)).mono (Nat.le_of_lt hz1)))
           clear ho3 hb3)))
     clear z0 z1 z2 z3 y0 y1 y2 y3 t0 t1 t2
     have HRD3 : Hid (∀ W,Below w3.heap.size w3 W → Rd W W.heap.size A3 (us.map (Value.int .u8))):=fun W hW=>(HR3.out.below hW (Nat.le_refl _)).more hW.size
     go_wp2_with fail
     refine (numbers_any [r.ms[k].b.toNat] (by intro n hn; simp at hn; omega) (by simp) _ _ us A3 c3 _ (HRD3.out _ ((Below.refl _ _).alloc (Nat.le_refl _) _)) (by omega) (by
      rw [show [r.ms[k].b.toNat].map (fun n : Nat=>Value.int .u64 n) = [.int .u64 r.ms[k].b] from by simp; omega]; exact rd_new' [.int .u64 r.ms[k].b] 23 rfl)).mono ?_
     rintro e w4 ⟨A4,c4,rfl,hr4,hb4⟩
     rw [HE2.out] at hr4 ⊢
     have HR4:=Lib.hid hr4
     have HB4:=Lib.hid (HBW.out _ (HB3.out.trans ((((Below.refl w3.heap.size w3).alloc (Nat.le_refl _) _).trans (hb4.mono (by simp))).mono HB3.out.size)))
     clear hr4 hb4 t3
     go_wp2
     go_roundw
     case rel=>exact ⟨k + 1,_,A4,c4,by omega,by go_num,by simp,rfl,HR4,HB4⟩
     case measure=>simp [intOf]; omega
    ·obtain rfl : k = r.ms.length:=by omega
     rw [List.take_length] at HY
     have PB:=HP0.out _ HBR.out
     have q4:=PB.c4
     have hln:=HV.out.nn
     clear PB
     have hE : ys ++ uintB r.note.length ++ r.note = payR r:=by rw [HY.out]; unfold payR hdE; simp
     have HC:=Lib.hid (appbytes_any ys r.note DA N dc n wr HRY.out (by omega) ((HH.out.below (HB.out _ HBR.out) (Nat.le_refl _)).more (HB.out _ HBR.out).size).note (by omega))
     rw [hE] at HC
     go_wp2_with fail
     refine HC.out.mono ?_
     rintro e w5 ⟨A5,c5,rfl,ho5,hb5⟩
     go_wp2
     go_ret
     exact ⟨A5,c5,rfl,own_mono ho5 (HB.out _ (HBW.out _ (Below.refl _ _))).size,HB.out _ (HBW.out _ hb5)⟩
end Go.Proofs.YtaggiceejcegdaaGreat
namespace Go.Proofs.YtaggiceejcegdaaGreat
set_option linter.unusedVariables false
open Go.RowKit
set_option maxRecDepth 100000 in
set_option maxHeartbeats 2000000 in
theorem rpayload_any (r : Rec) (hv : Vld r) (hok : r.Ok) (A D N : Option Addr) (c d n : Nat) (w : World) (h : RecR w w.heap.size r A c D d N n) :
  Calls Tryz.prog 68 #[.agg #[.int .u64 r.gen,.int .u64 r.seq,.slice A r.ws.length c,.slice D r.ms.length d,.slice N r.note.length n]] w (NewO w (payR r)):=by
 have HB : Hid (∀ W,Below (w.heap.size + 1) (w.alloc (.cells #[.int .u64 r.gen,.int .u64 r.seq,.slice A r.ws.length c,.slice D r.ms.length d,.slice N r.note.length n] 28)) W → Below w.heap.size w W):=fun W hW=>((Below.refl w.heap.size w).alloc (Nat.le_refl _) _).trans (hW.mono (by omega))
 have HP0 : Hid (∀ W,Below (w.heap.size + 1) (w.alloc (.cells #[.int .u64 r.gen,.int .u64 r.seq,.slice A r.ws.length c,.slice D r.ms.length d,.slice N r.note.length n] 28)) W → Cells5 W w.heap.size (.int .u64 r.gen) (.int .u64 r.seq) (.slice A r.ws.length c) (.slice D r.ms.length d) (.slice N r.note.length n)):=fun W hW=>(Cells5.new w 28 _ _ _ _ _).below hW (by simp)
 have HH:=Lib.hid h
 have HV:=Lib.hid hv
 have HO:=Lib.hid hok
 have hg1:=hok.gen
 have hs1:=hok.seq
 have hnw:=hv.nw
 clear h hv hok
 obtain ⟨W0,hW0⟩ : ∃ W0,(w.alloc (.cells #[.int .u64 r.gen,.int .u64 r.seq,.slice A r.ws.length c,.slice D r.ms.length d,.slice N r.note.length n] 28)) = W0:=⟨_,rfl⟩
 rw [hW0] at HB HP0
 have hzW0 : w.heap.size < W0.heap.size:=by rw [← hW0]; simp
 have HW0:=Lib.hid hW0
 clear hW0
 have PB:=HP0.out _ (Below.refl _ _)
 have q0:=PB.c0
 have q1:=PB.c1
 clear PB
 have HC1:=Lib.hid (show Calls Tryz.prog 105 #[.slice none 0 0,.int .u64 r.gen] W0.drew (NewO W0.drew ([] ++ uintB r.gen)) from rappuint_any r.gen hg1 [] none 0 W0.drew (Rd.nil_ _ _ _) (by simp))
 have hC2:=fun (A2 : Option Addr) (c2 : Nat) (W : World) (hR : Rd W W.heap.size A2 (([] ++ uintB r.gen).map (Value.int .u8)))=>rappuint_any r.seq hs1 ([] ++ uintB r.gen) A2 c2 W hR (by have:=uintB_len r.gen; simp; omega)
 have hE0 : [] ++ uintB r.gen ++ uintB r.seq ++ uintB r.ws.length = hdE r:=by unfold hdE; simp
 have hl0 : ([] ++ uintB r.gen ++ uintB r.seq).length ≤ 30:=by have:=uintB_len r.gen; have:=uintB_len r.seq; simp; omega
 generalize [] ++ uintB r.gen = g0 at *
 generalize g0 ++ uintB r.seq = g1 at *
 have HE0:=Lib.hid hE0
 have HC2:=Lib.hid hC2
 clear hC2 hE0
 go_enter Tryz.func68,Tryz.ntmps68
 go_wp2_with fail
 rw [HW0.out]
 clear HW0
 go_region_held3 (fun W=>W.cell? ⟨w.heap.size,0,none⟩ = some (.int .u64 r.gen) ∧ W.cell? ⟨w.heap.size,1,none⟩ = some (.int .u64 r.seq))
  (first | (refine ⟨?_,?_⟩ <;> assumption) | (simp (maxDischargeDepth:=20) [World.cell?_alloc_some, *]; done))
  ((first
    | (go_at_call 105
       (with_reducible refine HC1.out.mono ?_)
       clear HC1
       rintro e w1 ⟨Aw1,cw1,rfl,how1,hbw1⟩
       have HRw1:=Lib.hid (Rd.of_own how1)
       have HWw1 : Hid (Below W0.heap.size W0 w1):=((Below.refl _ _).drew).trans hbw1
       have u0:=(HWw1.out.cell (p:=⟨w.heap.size,0,none⟩) hzW0).trans q0
       have u1:=(HWw1.out.cell (p:=⟨w.heap.size,1,none⟩) hzW0).trans q1
       have hzw1 : w.heap.size < w1.heap.size:=Nat.lt_of_lt_of_le hzW0 HWw1.out.size
       clear how1 hbw1)
    | (go_at_call 105
       (with_reducible refine (HC2.out Aw1 cw1 _ HRw1.out).mono ?_)
       rintro e w2 ⟨Aw2,cw2,rfl,how2,hbw2⟩
       have HRw2:=Lib.hid (Rd.of_own how2)
       have HWw2 : Hid (Below W0.heap.size W0 w2):=HWw1.out.trans (hbw2.mono HWw1.out.size)
       have v0:=(hbw2.cell (p:=⟨w.heap.size,0,none⟩) hzw1).trans u0
       have v1:=(hbw2.cell (p:=⟨w.heap.size,1,none⟩) hzw1).trans u1
       have hzw2 : w.heap.size < w2.heap.size:=Nat.lt_of_lt_of_le hzW0 HWw2.out.size
       clear how2 hbw2)))
 clear HWw1 q0 q1 u0 u1
 have PB:=HP0.out _ (HWw2.out.mono hzW0)
 have p2:=PB.c2
 clear PB v0 v1
 go_wp2_with fail
 refine (rappuint_any r.ws.length (by omega) g1 Aw2 cw2 _ HRw2.out (by omega)).mono ?_
 rintro e w3 ⟨A3,c3,rfl,ho3,hb3⟩
 rw [HE0.out] at ho3 ⊢
 have HR3:=Lib.hid (Rd.of_own ho3)
 have HB3 : Hid (Below (w.heap.size + 1) W0 w3):=(HWw2.out.mono hzW0).trans (hb3.mono (Nat.lt_of_lt_of_le hzW0 HWw2.out.size))
 clear ho3 hb3 p2
 go_wp2
 go_loopw [3,4] (fun b i wr=>∃ (k : Nat) (ys : List Int) (DA : Option Addr) (dc : Nat),k ≤ r.ws.length ∧ i = .int .i64 k ∧ b = .slice DA ys.length dc ∧ Hid (ys = hdE r ++ wsE (r.ws.take k)) ∧ Hid (Rd wr wr.heap.size DA (ys.map (Value.int .u8))) ∧ Hid (Below (w.heap.size + 1) W0 wr)) (fun _ i _=>r.ws.length - (intOf i).toNat)
 case atStart=>exact ⟨0,hdE r,A3,c3,Nat.zero_le _,rfl,by simp,by unfold Hid wsE; simp,HR3,HB3⟩
 case round=>
  obtain ⟨k,ys,DA,dc,hk,rfl,rfl,HY,HRY,HBR⟩:=hrel
  have HBW : Hid (∀ W,Below wr.heap.size wr W → Below (w.heap.size + 1) W0 W):=fun W hW=>HBR.out.trans (hW.mono (by have:=HBR.out.size; omega))
  have HRD1 : Hid (∀ W,Below wr.heap.size wr W → Rd W W.heap.size DA (ys.map (Value.int .u8))):=fun W hW=>(HRY.out.below hW (Nat.le_refl _)).more hW.size
  have hzr : w.heap.size < wr.heap.size:=Nat.lt_of_lt_of_le hzW0 HBR.out.size
  have hyl : ys.length ≤ 3000:=by
   rw [HY.out,List.length_append]
   have h1:=wsE_len (r.ws.take k)
   have h2:=hdE_len r
   rw [List.length_take] at h1
   omega
  have PB:=HP0.out _ HBR.out
  have p2:=PB.c2
  have p3:=PB.c3
  clear PB
  by_cases hlt : k < r.ws.length
  ·obtain ⟨ga,oa,rfl,hga,j0,j1,j2,j3,j4,j5,j6,j7,j8,j9,j10⟩:=(HH.out.below (HB.out _ HBR.out) (Nat.le_refl _)).ws.pw hlt
   obtain ⟨x0,x1,x2,x3⟩:=HV.out.ws _ (List.getElem_mem hlt)
   have x4:=(HO.out.ws _ (List.getElem_mem hlt)).v
   have hb1 : Below wr.heap.size wr (wr.alloc (.cells #[.int .i64 r.ws[k].g,.int .i64 r.ws[k].p,.int .u64 r.ws[k].v,.int .u8 r.ws[k].d0,.int .u8 r.ws[k].d1,.int .u8 r.ws[k].d2,.int .u8 r.ws[k].d3,.int .u8 r.ws[k].d4,.int .u8 r.ws[k].d5,.int .u8 r.ws[k].d6,.int .u8 r.ws[k].d7] 151)):=(Below.refl _ _).alloc (Nat.le_refl _) _
   have z0 : (wr.alloc (.cells #[.int .i64 r.ws[k].g,.int .i64 r.ws[k].p,.int .u64 r.ws[k].v,.int .u8 r.ws[k].d0,.int .u8 r.ws[k].d1,.int .u8 r.ws[k].d2,.int .u8 r.ws[k].d3,.int .u8 r.ws[k].d4,.int .u8 r.ws[k].d5,.int .u8 r.ws[k].d6,.int .u8 r.ws[k].d7] 151)).cell? ⟨wr.heap.size,0,none⟩ = some (.int .i64 r.ws[k].g):=by simp
   have z1 : (wr.alloc (.cells #[.int .i64 r.ws[k].g,.int .i64 r.ws[k].p,.int .u64 r.ws[k].v,.int .u8 r.ws[k].d0,.int .u8 r.ws[k].d1,.int .u8 r.ws[k].d2,.int .u8 r.ws[k].d3,.int .u8 r.ws[k].d4,.int .u8 r.ws[k].d5,.int .u8 r.ws[k].d6,.int .u8 r.ws[k].d7] 151)).cell? ⟨wr.heap.size,1,none⟩ = some (.int .i64 r.ws[k].p):=by simp
   have z2 : (wr.alloc (.cells #[.int .i64 r.ws[k].g,.int .i64 r.ws[k].p,.int .u64 r.ws[k].v,.int .u8 r.ws[k].d0,.int .u8 r.ws[k].d1,.int .u8 r.ws[k].d2,.int .u8 r.ws[k].d3,.int .u8 r.ws[k].d4,.int .u8 r.ws[k].d5,.int .u8 r.ws[k].d6,.int .u8 r.ws[k].d7] 151)).cell? ⟨wr.heap.size,2,none⟩ = some (.int .u64 r.ws[k].v):=by simp
   have z3 : (wr.alloc (.cells #[.int .i64 r.ws[k].g,.int .i64 r.ws[k].p,.int .u64 r.ws[k].v,.int .u8 r.ws[k].d0,.int .u8 r.ws[k].d1,.int .u8 r.ws[k].d2,.int .u8 r.ws[k].d3,.int .u8 r.ws[k].d4,.int .u8 r.ws[k].d5,.int .u8 r.ws[k].d6,.int .u8 r.ws[k].d7] 151)).cell? ⟨wr.heap.size,3,none⟩ = some (.int .u8 r.ws[k].d0):=by simp
   have z4 : (wr.alloc (.cells #[.int .i64 r.ws[k].g,.int .i64 r.ws[k].p,.int .u64 r.ws[k].v,.int .u8 r.ws[k].d0,.int .u8 r.ws[k].d1,.int .u8 r.ws[k].d2,.int .u8 r.ws[k].d3,.int .u8 r.ws[k].d4,.int .u8 r.ws[k].d5,.int .u8 r.ws[k].d6,.int .u8 r.ws[k].d7] 151)).cell? ⟨wr.heap.size,4,none⟩ = some (.int .u8 r.ws[k].d1):=by simp
   have z5 : (wr.alloc (.cells #[.int .i64 r.ws[k].g,.int .i64 r.ws[k].p,.int .u64 r.ws[k].v,.int .u8 r.ws[k].d0,.int .u8 r.ws[k].d1,.int .u8 r.ws[k].d2,.int .u8 r.ws[k].d3,.int .u8 r.ws[k].d4,.int .u8 r.ws[k].d5,.int .u8 r.ws[k].d6,.int .u8 r.ws[k].d7] 151)).cell? ⟨wr.heap.size,5,none⟩ = some (.int .u8 r.ws[k].d2):=by simp
   have z6 : (wr.alloc (.cells #[.int .i64 r.ws[k].g,.int .i64 r.ws[k].p,.int .u64 r.ws[k].v,.int .u8 r.ws[k].d0,.int .u8 r.ws[k].d1,.int .u8 r.ws[k].d2,.int .u8 r.ws[k].d3,.int .u8 r.ws[k].d4,.int .u8 r.ws[k].d5,.int .u8 r.ws[k].d6,.int .u8 r.ws[k].d7] 151)).cell? ⟨wr.heap.size,6,none⟩ = some (.int .u8 r.ws[k].d3):=by simp
   have z7 : (wr.alloc (.cells #[.int .i64 r.ws[k].g,.int .i64 r.ws[k].p,.int .u64 r.ws[k].v,.int .u8 r.ws[k].d0,.int .u8 r.ws[k].d1,.int .u8 r.ws[k].d2,.int .u8 r.ws[k].d3,.int .u8 r.ws[k].d4,.int .u8 r.ws[k].d5,.int .u8 r.ws[k].d6,.int .u8 r.ws[k].d7] 151)).cell? ⟨wr.heap.size,7,none⟩ = some (.int .u8 r.ws[k].d4):=by simp
   have z8 : (wr.alloc (.cells #[.int .i64 r.ws[k].g,.int .i64 r.ws[k].p,.int .u64 r.ws[k].v,.int .u8 r.ws[k].d0,.int .u8 r.ws[k].d1,.int .u8 r.ws[k].d2,.int .u8 r.ws[k].d3,.int .u8 r.ws[k].d4,.int .u8 r.ws[k].d5,.int .u8 r.ws[k].d6,.int .u8 r.ws[k].d7] 151)).cell? ⟨wr.heap.size,8,none⟩ = some (.int .u8 r.ws[k].d5):=by simp
   have z9 : (wr.alloc (.cells #[.int .i64 r.ws[k].g,.int .i64 r.ws[k].p,.int .u64 r.ws[k].v,.int .u8 r.ws[k].d0,.int .u8 r.ws[k].d1,.int .u8 r.ws[k].d2,.int .u8 r.ws[k].d3,.int .u8 r.ws[k].d4,.int .u8 r.ws[k].d5,.int .u8 r.ws[k].d6,.int .u8 r.ws[k].d7] 151)).cell? ⟨wr.heap.size,9,none⟩ = some (.int .u8 r.ws[k].d6):=by simp
   have z10 : (wr.alloc (.cells #[.int .i64 r.ws[k].g,.int .i64 r.ws[k].p,.int .u64 r.ws[k].v,.int .u8 r.ws[k].d0,.int .u8 r.ws[k].d1,.int .u8 r.ws[k].d2,.int .u8 r.ws[k].d3,.int .u8 r.ws[k].d4,.int .u8 r.ws[k].d5,.int .u8 r.ws[k].d6,.int .u8 r.ws[k].d7] 151)).cell? ⟨wr.heap.size,10,none⟩ = some (.int .u8 r.ws[k].d7):=by simp
   have hzW1 : wr.heap.size < (wr.alloc (.cells #[.int .i64 r.ws[k].g,.int .i64 r.ws[k].p,.int .u64 r.ws[k].v,.int .u8 r.ws[k].d0,.int .u8 r.ws[k].d1,.int .u8 r.ws[k].d2,.int .u8 r.ws[k].d3,.int .u8 r.ws[k].d4,.int .u8 r.ws[k].d5,.int .u8 r.ws[k].d6,.int .u8 r.ws[k].d7] 151)).heap.size:=by simp
   go_wp2_with fail
   generalize (wr.alloc (.cells #[.int .i64 r.ws[k].g,.int .i64 r.ws[k].p,.int .u64 r.ws[k].v,.int .u8 r.ws[k].d0,.int .u8 r.ws[k].d1,.int .u8 r.ws[k].d2,.int .u8 r.ws[k].d3,.int .u8 r.ws[k].d4,.int .u8 r.ws[k].d5,.int .u8 r.ws[k].d6,.int .u8 r.ws[k].d7] 151)) = W1 at *
   have hE2 : ys ++ uintB r.ws[k].g.toNat ++ uintB r.ws[k].p.toNat ++ uintB r.ws[k].v ++ [r.ws[k].d0,r.ws[k].d1,r.ws[k].d2,r.ws[k].d3,r.ws[k].d4,r.ws[k].d5,r.ws[k].d6,r.ws[k].d7] = hdE r ++ wsE (r.ws.take (k + 1)):=by
    rw [wsE_take hlt,HY.out]; unfold PW.enc PW.data; simp
   have l1:=uintB_len r.ws[k].g.toNat
   have l2:=uintB_len r.ws[k].p.toNat
   have l3:=uintB_len r.ws[k].v
   have hl2 : (ys ++ uintB r.ws[k].g.toNat).length ≤ 3100:=by rw [List.length_append]; omega
   have hl3 : (ys ++ uintB r.ws[k].g.toNat ++ uintB r.ws[k].p.toNat).length ≤ 3200:=by simp only [List.length_append]; omega
   have hl4 : (ys ++ uintB r.ws[k].g.toNat ++ uintB r.ws[k].p.toNat ++ uintB r.ws[k].v).length ≤ 3300:=by simp only [List.length_append]; omega
   have hl5 : (ys ++ uintB r.ws[k].g.toNat ++ uintB r.ws[k].p.toNat ++ uintB r.ws[k].v ++ [r.ws[k].d0,r.ws[k].d1,r.ws[k].d2,r.ws[k].d3,r.ws[k].d4,r.ws[k].d5,r.ws[k].d6,r.ws[k].d7]).length = (ys ++ uintB r.ws[k].g.toNat ++ uintB r.ws[k].p.toNat ++ uintB r.ws[k].v).length + 8:=List.length_append
   have hC1:=rappuint_any r.ws[k].g.toNat (by omega) ys DA dc W1.drew (rd_drew (HRD1.out _ hb1)) (by omega)
   rw [← wrapNat x0 (by omega)] at hC1
   have hC2:=fun (A2 : Option Addr) (c2 : Nat) (W : World) (hR : Rd W W.heap.size A2 ((ys ++ uintB r.ws[k].g.toNat).map (Value.int .u8)))=>rappuint_any r.ws[k].p.toNat (by omega) (ys ++ uintB r.ws[k].g.toNat) A2 c2 W hR (by omega)
   rw [← wrapNat x2 (by omega)] at hC2
   have hC3:=fun (A2 : Option Addr) (c2 : Nat) (W : World) (hR : Rd W W.heap.size A2 ((ys ++ uintB r.ws[k].g.toNat ++ uintB r.ws[k].p.toNat).map (Value.int .u8)))=>rappuint_any r.ws[k].v x4 (ys ++ uintB r.ws[k].g.toNat ++ uintB r.ws[k].p.toNat) A2 c2 W hR (by omega)
   have hC4:=fun (A2 : Option Addr) (c2 : Nat) (W : World) (hR : Rd W W.heap.size A2 ((ys ++ uintB r.ws[k].g.toNat ++ uintB r.ws[k].p.toNat ++ uintB r.ws[k].v).map (Value.int .u8)))=>rappblk_any r.ws[k].d0 r.ws[k].d1 r.ws[k].d2 r.ws[k].d3 r.ws[k].d4 r.ws[k].d5 r.ws[k].d6 r.ws[k].d7 (ys ++ uintB r.ws[k].g.toNat ++ uintB r.ws[k].p.toNat ++ uintB r.ws[k].v) A2 c2 W hR (by omega)
   generalize ys ++ uintB r.ws[k].g.toNat = zs at *
   generalize zs ++ uintB r.ws[k].p.toNat = us at *
   generalize us ++ uintB r.ws[k].v = vs at *
   generalize vs ++ [r.ws[k].d0,r.ws[k].d1,r.ws[k].d2,r.ws[k].d3,r.ws[k].d4,r.ws[k].d5,r.ws[k].d6,r.ws[k].d7] = xs at *
   have HE2:=Lib.hid hE2
   have HL5:=Lib.hid hl5
   have HC1:=Lib.hid hC1
   have HC2:=Lib.hid hC2
   have HC3:=Lib.hid hC3
   have HC4:=Lib.hid hC4
   have HHb1:=Lib.hid hb1
   clear hE2 hC1 hC2 hC3 hC4 hb1 hl5 l1 l2 l3 p2 p3
   go_region_held3 (fun W=>W.cell? ⟨wr.heap.size,0,none⟩ = some (.int .i64 r.ws[k].g) ∧ W.cell? ⟨wr.heap.size,1,none⟩ = some (.int .i64 r.ws[k].p) ∧ W.cell? ⟨wr.heap.size,2,none⟩ = some (.int .u64 r.ws[k].v) ∧ W.cell? ⟨wr.heap.size,3,none⟩ = some (.int .u8 r.ws[k].d0) ∧ W.cell? ⟨wr.heap.size,4,none⟩ = some (.int .u8 r.ws[k].d1) ∧ W.cell? ⟨wr.heap.size,5,none⟩ = some (.int .u8 r.ws[k].d2) ∧ W.cell? ⟨wr.heap.size,6,none⟩ = some (.int .u8 r.ws[k].d3) ∧ W.cell? ⟨wr.heap.size,7,none⟩ = some (.int .u8 r.ws[k].d4) ∧ W.cell? ⟨wr.heap.size,8,none⟩ = some (.int .u8 r.ws[k].d5) ∧ W.cell? ⟨wr.heap.size,9,none⟩ = some (.int .u8 r.ws[k].d6) ∧ W.cell? ⟨wr.heap.size,10,none⟩ = some (.int .u8 r.ws[k].d7))
    (first | (refine ⟨?_,?_,?_,?_,?_,?_,?_,?_,?_,?_,?_⟩ <;> assumption) | (simp (maxDischargeDepth:=20) [World.cell?_alloc_some, *]; done))
    ((first
      | (go_at_call 105
         (with_reducible refine HC1.out.mono ?_)
         clear HC1
         rintro e w4 ⟨Aw4,cw4,rfl,how4,hbw4⟩
         have HRw4:=Lib.hid (Rd.of_own how4)
         have HWw4 : Hid (Below W1.heap.size W1 w4):=((Below.refl _ _).drew).trans hbw4
         have y0:=(HWw4.out.cell (p:=⟨wr.heap.size,0,none⟩) hzW1).trans z0
         have y1:=(HWw4.out.cell (p:=⟨wr.heap.size,1,none⟩) hzW1).trans z1
         have y2:=(HWw4.out.cell (p:=⟨wr.heap.size,2,none⟩) hzW1).trans z2
         have y3:=(HWw4.out.cell (p:=⟨wr.heap.size,3,none⟩) hzW1).trans z3
         have y4:=(HWw4.out.cell (p:=⟨wr.heap.size,4,none⟩) hzW1).trans z4
         have y5:=(HWw4.out.cell (p:=⟨wr.heap.size,5,none⟩) hzW1).trans z5
         have y6:=(HWw4.out.cell (p:=⟨wr.heap.size,6,none⟩) hzW1).trans z6
         have y7:=(HWw4.out.cell (p:=⟨wr.heap.size,7,none⟩) hzW1).trans z7
         have y8:=(HWw4.out.cell (p:=⟨wr.heap.size,8,none⟩) hzW1).trans z8
         have y9:=(HWw4.out.cell (p:=⟨wr.heap.size,9,none⟩) hzW1).trans z9
         have y10:=(HWw4.out.cell (p:=⟨wr.heap.size,10,none⟩) hzW1).trans z10
         have hzw4 : wr.heap.size < w4.heap.size:=Nat.lt_of_lt_of_le hzW1 HWw4.out.size
         clear how4 hbw4)
      | (go_at_call 105
         (with_reducible refine (HC2.out Aw4 cw4 _ HRw4.out).mono ?_)
         rintro e w5 ⟨Aw5,cw5,rfl,how5,hbw5⟩
         have HRw5:=Lib.hid (Rd.of_own how5)
         have HWw5 : Hid (Below W1.heap.size W1 w5):=HWw4.out.trans (hbw5.mono HWw4.out.size)
         have t0:=(hbw5.cell (p:=⟨wr.heap.size,0,none⟩) hzw4).trans y0
         have t1:=(hbw5.cell (p:=⟨wr.heap.size,1,none⟩) hzw4).trans y1
         have t2:=(hbw5.cell (p:=⟨wr.heap.size,2,none⟩) hzw4).trans y2
         have t3:=(hbw5.cell (p:=⟨wr.heap.size,3,none⟩) hzw4).trans y3
         have t4:=(hbw5.cell (p:=⟨wr.heap.size,4,none⟩) hzw4).trans y4
         have t5:=(hbw5.cell (p:=⟨wr.heap.size,5,none⟩) hzw4).trans y5
         have t6:=(hbw5.cell (p:=⟨wr.heap.size,6,none⟩) hzw4).trans y6
         have t7:=(hbw5.cell (p:=⟨wr.heap.size,7,none⟩) hzw4).trans y7
         have t8:=(hbw5.cell (p:=⟨wr.heap.size,8,none⟩) hzw4).trans y8
         have t9:=(hbw5.cell (p:=⟨wr.heap.size,9,none⟩) hzw4).trans y9
         have t10:=(hbw5.cell (p:=⟨wr.heap.size,10,none⟩) hzw4).trans y10
         have hzw5 : wr.heap.size < w5.heap.size:=Nat.lt_of_lt_of_le hzW1 HWw5.out.size
         clear how5 hbw5)))
   clear HWw4 z0 z1 z2 z3 z4 z5 z6 z7 z8 z9 z10 y0 y1 y2 y3 y4 y5 y6 y7 y8 y9 y10
   have HC3':=Lib.hid (HC3.out Aw5 cw5 _ (rd_drew HRw5.out))
   clear HC3
   go_wp2_with fail
   go_region_held3 (fun W=>W.cell? ⟨wr.heap.size,0,none⟩ = some (.int .i64 r.ws[k].g) ∧ W.cell? ⟨wr.heap.size,1,none⟩ = some (.int .i64 r.ws[k].p) ∧ W.cell? ⟨wr.heap.size,2,none⟩ = some (.int .u64 r.ws[k].v) ∧ W.cell? ⟨wr.heap.size,3,none⟩ = some (.int .u8 r.ws[k].d0) ∧ W.cell? ⟨wr.heap.size,4,none⟩ = some (.int .u8 r.ws[k].d1) ∧ W.cell? ⟨wr.heap.size,5,none⟩ = some (.int .u8 r.ws[k].d2) ∧ W.cell? ⟨wr.heap.size,6,none⟩ = some (.int .u8 r.ws[k].d3) ∧ W.cell? ⟨wr.heap.size,7,none⟩ = some (.int .u8 r.ws[k].d4) ∧ W.cell? ⟨wr.heap.size,8,none⟩ = some (.int .u8 r.ws[k].d5) ∧ W.cell? ⟨wr.heap.size,9,none⟩ = some (.int .u8 r.ws[k].d6) ∧ W.cell? ⟨wr.heap.size,10,none⟩ = some (.int .u8 r.ws[k].d7))
    (first | (refine ⟨?_,?_,?_,?_,?_,?_,?_,?_,?_,?_,?_⟩ <;> assumption) | (simp (maxDischargeDepth:=20) [World.cell?_alloc_some, *]; done))
    ((first
      | (go_at_call 105
         (with_reducible refine HC3'.out.mono ?_)
         clear HC3'
         rintro e w6 ⟨Aw6,cw6,rfl,how6,hbw6⟩
         have HRw6:=Lib.hid (Rd.of_own how6)
         have HWw6 : Hid (Below w5.heap.size w5 w6):=((Below.refl _ _).drew).trans hbw6
         have y0:=(HWw6.out.cell (p:=⟨wr.heap.size,0,none⟩) hzw5).trans t0
         have y1:=(HWw6.out.cell (p:=⟨wr.heap.size,1,none⟩) hzw5).trans t1
         have y2:=(HWw6.out.cell (p:=⟨wr.heap.size,2,none⟩) hzw5).trans t2
         have y3:=(HWw6.out.cell (p:=⟨wr.heap.size,3,none⟩) hzw5).trans t3
         have y4:=(HWw6.out.cell (p:=⟨wr.heap.size,4,none⟩) hzw5).trans t4
         have y5:=(HWw6.out.cell (p:=⟨wr.heap.size,5,none⟩) hzw5).trans t5
         have y6:=(HWw6.out.cell (p:=⟨wr.heap.size,6,none⟩) hzw5).trans t6
         have y7:=(HWw6.out.cell (p:=⟨wr.heap.size,7,none⟩) hzw5).trans t7
         have y8:=(HWw6.out.cell (p:=⟨wr.heap.size,8,none⟩) hzw5).trans t8
         have y9:=(HWw6.out.cell (p:=⟨wr.heap.size,9,none⟩) hzw5).trans t9
         have y10:=(HWw6.out.cell (p:=⟨wr.heap.size,10,none⟩) hzw5).trans t10
         have hzw6 : wr.heap.size < w6.heap.size:=Nat.lt_of_lt_of_le hzw5 HWw6.out.size
         clear how6 hbw6)
      | (go_at_call 106
         (with_reducible refine (HC4.out Aw6 cw6 _ HRw6.out).mono ?_)
         rintro e w7 ⟨Aw7,cw7,rfl,how7,hbw7⟩
         have HRw7:=Lib.hid (Rd.of_own how7)
         have HWw7 : Hid (Below w5.heap.size w5 w7):=HWw6.out.trans (hbw7.mono HWw6.out.size)
         have z0:=(hbw7.cell (p:=⟨wr.heap.size,0,none⟩) hzw6).trans y0
         have z1:=(hbw7.cell (p:=⟨wr.heap.size,1,none⟩) hzw6).trans y1
         have z2:=(hbw7.cell (p:=⟨wr.heap.size,2,none⟩) hzw6).trans y2
         have z3:=(hbw7.cell (p:=⟨wr.heap.size,3,none⟩) hzw6).trans y3
         have z4:=(hbw7.cell (p:=⟨wr.heap.size,4,none⟩) hzw6).trans y4
         have z5:=(hbw7.cell (p:=⟨wr.heap.size,5,none⟩) hzw6).trans y5
         have z6:=(hbw7.cell (p:=⟨wr.heap.size,6,none⟩) hzw6).trans y6
         have z7:=(hbw7.cell (p:=⟨wr.heap.size,7,none⟩) hzw6).trans y7
         have z8:=(hbw7.cell (p:=⟨wr.heap.size,8,none⟩) hzw6).trans y8
         have z9:=(hbw7.cell (p:=⟨wr.heap.size,9,none⟩) hzw6).trans y9
         have z10:=(hbw7.cell (p:=⟨wr.heap.size,10,none⟩) hzw6).trans y10
         have hzw7 : wr.heap.size < w7.heap.size:=Nat.lt_of_lt_of_le hzw5 HWw7.out.size
         clear how7 hbw7)))
   clear HWw6 t0 t1 t2 t3 t4 t5 t6 t7 t8 t9 t10 y0 y1 y2 y3 y4 y5 y6 y7 y8 y9 y10
   clear z0 z1 z2 z3 z4 z5 z6 z7 z8 z9 z10
   have HB7:=Lib.hid (HBW.out _ (HHb1.out.trans ((HWw5.out.trans (HWw7.out.mono HWw5.out.size)).mono (Nat.le_of_lt hzW1))))
   rw [HE2.out] at HRw7
   have HL7 : Hid (vs.length + 8 = (hdE r ++ wsE (r.ws.take (k + 1))).length):=by unfold Hid; rw [← HE2.out]; exact HL5.out.symm
   go_wp2
   go_roundw
   case rel=>exact ⟨k + 1,hdE r ++ wsE (r.ws.take (k + 1)),Aw7,cw7,by omega,by go_num,by first | rfl | (rw [HL7.out]) | (rw [← HL7.out,HL5.out]),rfl,HRw7,HB7⟩
   case measure=>simp [intOf]; omega
  ·obtain rfl : k = r.ws.length:=by omega
   rw [List.take_length] at HY
   rename World=>wa
   have hlm:=HV.out.nm
   go_wp2_with fail
   refine (rappuint_any r.ms.length (by omega) ys DA dc _ (HRD1.out _ (Below.refl _ _)) (by omega)).mono ?_
   rintro e w2 ⟨A2,c2,rfl,ho2,hb2⟩
   have HR2:=Lib.hid (Rd.of_own ho2)
   have HB2:=Lib.hid (HBW.out _ hb2)
   have HY2 : Hid (ys ++ uintB r.ms.length = hdE r ++ wsE r.ws ++ uintB r.ms.length):=by unfold Hid; rw [HY.out]
   generalize ys ++ uintB r.ms.length = zs at *
   clear ho2 hb2
   go_wp2
   clear p2 p3
   go_loopw [3,6] (fun b i wr=>∃ (k : Nat) (ys : List Int) (DA : Option Addr) (dc : Nat),k ≤ r.ms.length ∧ i = .int .i64 k ∧ b = .slice DA ys.length dc ∧ Hid (ys = hdE r ++ wsE r.ws ++ uintB r.ms.length ++ msE (r.ms.take k)) ∧ Hid (Rd wr wr.heap.size DA (ys.map (Value.int .u8))) ∧ Hid (Below (w.heap.size + 1) W0 wr)) (fun _ i _=>r.ms.length - (intOf i).toNat)
   case atStart=>exact ⟨0,zs,A2,c2,Nat.zero_le _,rfl,rfl,by unfold Hid msE; rw [HY2.out]; simp,HR2,HB2⟩
   case round=>
    clear HY2
    obtain ⟨k,ys,DA,dc,hk,rfl,rfl,HY,HRY,HBR⟩:=hrel
    have HBW : Hid (∀ W,Below wr.heap.size wr W → Below (w.heap.size + 1) W0 W):=fun W hW=>HBR.out.trans (hW.mono (by have:=HBR.out.size; omega))
    have HRD1 : Hid (∀ W,Below wr.heap.size wr W → Rd W W.heap.size DA (ys.map (Value.int .u8))):=fun W hW=>(HRY.out.below hW (Nat.le_refl _)).more hW.size
    have hzr : w.heap.size < wr.heap.size:=Nat.lt_of_lt_of_le hzW0 HBR.out.size
    have hyl : ys.length ≤ 6000:=by
     rw [HY.out]
     have h1:=wsE_len r.ws
     have h2:=hdE_len r
     have h3:=msE_len (r.ms.take k)
     have h4:=uintB_len r.ms.length
     rw [List.length_take] at h3
     simp only [List.length_append]
     omega
    have PB:=HP0.out _ HBR.out
    have p3:=PB.c3
    have p4:=PB.c4
    clear PB
    by_cases hlt : k < r.ms.length
    ·obtain ⟨ga,oa,rfl,hga,j0,j1,j2,j3⟩:=(HH.out.below (HB.out _ HBR.out) (Nat.le_refl _)).ms.mv hlt
     obtain ⟨⟨x0,x1,x2,x3⟩,x4,x5,x6,x7⟩:=HV.out.ms _ (List.getElem_mem hlt)
     have hb1 : Below wr.heap.size wr (wr.alloc (.cells #[.int .i64 r.ms[k].g,.int .i64 r.ms[k].p,.int .i64 r.ms[k].k,.int .i64 r.ms[k].b] 156)):=(Below.refl _ _).alloc (Nat.le_refl _) _
     have z0 : (wr.alloc (.cells #[.int .i64 r.ms[k].g,.int .i64 r.ms[k].p,.int .i64 r.ms[k].k,.int .i64 r.ms[k].b] 156)).cell? ⟨wr.heap.size,0,none⟩ = some (.int .i64 r.ms[k].g):=by simp
     have z1 : (wr.alloc (.cells #[.int .i64 r.ms[k].g,.int .i64 r.ms[k].p,.int .i64 r.ms[k].k,.int .i64 r.ms[k].b] 156)).cell? ⟨wr.heap.size,1,none⟩ = some (.int .i64 r.ms[k].p):=by simp
     have z2 : (wr.alloc (.cells #[.int .i64 r.ms[k].g,.int .i64 r.ms[k].p,.int .i64 r.ms[k].k,.int .i64 r.ms[k].b] 156)).cell? ⟨wr.heap.size,2,none⟩ = some (.int .i64 r.ms[k].k):=by simp
     have z3 : (wr.alloc (.cells #[.int .i64 r.ms[k].g,.int .i64 r.ms[k].p,.int .i64 r.ms[k].k,.int .i64 r.ms[k].b] 156)).cell? ⟨wr.heap.size,3,none⟩ = some (.int .i64 r.ms[k].b):=by simp
     have hzW1 : wr.heap.size < (wr.alloc (.cells #[.int .i64 r.ms[k].g,.int .i64 r.ms[k].p,.int .i64 r.ms[k].k,.int .i64 r.ms[k].b] 156)).heap.size:=by simp
     go_wp2_with fail
     generalize (wr.alloc (.cells #[.int .i64 r.ms[k].g,.int .i64 r.ms[k].p,.int .i64 r.ms[k].k,.int .i64 r.ms[k].b] 156)) = W1 at *
     have hE2 : ys ++ uintB r.ms[k].g.toNat ++ uintB r.ms[k].p.toNat ++ uintB (zigN r.ms[k].k) ++ uintB r.ms[k].b.toNat = hdE r ++ wsE r.ws ++ uintB r.ms.length ++ msE (r.ms.take (k + 1)):=by
      rw [msE_take hlt,HY.out]; unfold Mv.enc; simp
     have l1:=uintB_len r.ms[k].g.toNat
     have l2:=uintB_len r.ms[k].p.toNat
     have l3:=uintB_len (zigN r.ms[k].k)
     have hl2 : (ys ++ uintB r.ms[k].g.toNat).length ≤ 6100:=by rw [List.length_append]; omega
     have hl3 : (ys ++ uintB r.ms[k].g.toNat ++ uintB r.ms[k].p.toNat).length ≤ 6200:=by simp only [List.length_append]; omega
     have hl4 : (ys ++ uintB r.ms[k].g.toNat ++ uintB r.ms[k].p.toNat ++ uintB (zigN r.ms[k].k)).length ≤ 6300:=by simp only [List.length_append]; omega
     have hC1:=rappuint_any r.ms[k].g.toNat (by omega) ys DA dc W1.drew (rd_drew (HRD1.out _ hb1)) (by omega)
     rw [← wrapNat x0 (by omega)] at hC1
     have hC2:=fun (A2 : Option Addr) (c2 : Nat) (W : World) (hR : Rd W W.heap.size A2 ((ys ++ uintB r.ms[k].g.toNat).map (Value.int .u8)))=>rappuint_any r.ms[k].p.toNat (by omega) (ys ++ uintB r.ms[k].g.toNat) A2 c2 W hR (by omega)
     rw [← wrapNat x2 (by omega)] at hC2
     have hC3:=fun (A2 : Option Addr) (c2 : Nat) (W : World) (hR : Rd W W.heap.size A2 ((ys ++ uintB r.ms[k].g.toNat ++ uintB r.ms[k].p.toNat).map (Value.int .u8)))=>rappint_any r.ms[k].k (by omega) (by omega) (ys ++ uintB r.ms[k].g.toNat ++ uintB r.ms[k].p.toNat) A2 c2 W hR (by omega)
     have hC4:=fun (A2 : Option Addr) (c2 : Nat) (W : World) (hR : Rd W W.heap.size A2 ((ys ++ uintB r.ms[k].g.toNat ++ uintB r.ms[k].p.toNat ++ uintB (zigN r.ms[k].k)).map (Value.int .u8)))=>rappuint_any r.ms[k].b.toNat (by omega) (ys ++ uintB r.ms[k].g.toNat ++ uintB r.ms[k].p.toNat ++ uintB (zigN r.ms[k].k)) A2 c2 W hR (by omega)
     rw [← wrapNat x6 (by omega)] at hC4
     generalize ys ++ uintB r.ms[k].g.toNat = zs at *
     generalize zs ++ uintB r.ms[k].p.toNat = us at *
     generalize us ++ uintB (zigN r.ms[k].k) = vs at *
     generalize vs ++ uintB r.ms[k].b.toNat = xs at *
     have HE2:=Lib.hid hE2
     have HC1:=Lib.hid hC1
     have HC2:=Lib.hid hC2
     have HC3:=Lib.hid hC3
     have HC4:=Lib.hid hC4
     have HHb1:=Lib.hid hb1
     clear hE2 hC1 hC2 hC3 hC4 hb1 l1 l2 l3 p3 p4
     go_region_held3 (fun W=>W.cell? ⟨wr.heap.size,0,none⟩ = some (.int .i64 r.ms[k].g) ∧ W.cell? ⟨wr.heap.size,1,none⟩ = some (.int .i64 r.ms[k].p) ∧ W.cell? ⟨wr.heap.size,2,none⟩ = some (.int .i64 r.ms[k].k) ∧ W.cell? ⟨wr.heap.size,3,none⟩ = some (.int .i64 r.ms[k].b))
      (first | (refine ⟨?_,?_,?_,?_⟩ <;> assumption) | (simp (maxDischargeDepth:=20) [World.cell?_alloc_some, *]; done))
      ((first
        | (go_at_call 105
           (with_reducible refine HC1.out.mono ?_)
           clear HC1
           rintro e w4 ⟨Aw4,cw4,rfl,how4,hbw4⟩
           have HRw4:=Lib.hid (Rd.of_own how4)
           have HWw4 : Hid (Below W1.heap.size W1 w4):=((Below.refl _ _).drew).trans hbw4
           have y0:=(HWw4.out.cell (p:=⟨wr.heap.size,0,none⟩) hzW1).trans z0
           have y1:=(HWw4.out.cell (p:=⟨wr.heap.size,1,none⟩) hzW1).trans z1
           have y2:=(HWw4.out.cell (p:=⟨wr.heap.size,2,none⟩) hzW1).trans z2
           have y3:=(HWw4.out.cell (p:=⟨wr.heap.size,3,none⟩) hzW1).trans z3
           have hzw4 : wr.heap.size < w4.heap.size:=Nat.lt_of_lt_of_le hzW1 HWw4.out.size
           clear how4 hbw4)
        | (go_at_call 105
           (with_reducible refine (HC2.out Aw4 cw4 _ HRw4.out).mono ?_)
           rintro e w5 ⟨Aw5,cw5,rfl,how5,hbw5⟩
           have HRw5:=Lib.hid (Rd.of_own how5)
           have HWw5 : Hid (Below W1.heap.size W1 w5):=HWw4.out.trans (hbw5.mono HWw4.out.size)
           have t0:=(hbw5.cell (p:=⟨wr.heap.size,0,none⟩) hzw4).trans y0
           have t1:=(hbw5.cell (p:=⟨wr.heap.size,1,none⟩) hzw4).trans y1
           have t2:=(hbw5.cell (p:=⟨wr.heap.size,2,none⟩) hzw4).trans y2
           have t3:=(hbw5.cell (p:=⟨wr.heap.size,3,none⟩) hzw4).trans y3
           have hzw5 : wr.heap.size < w5.heap.size:=Nat.lt_of_lt_of_le hzW1 HWw5.out.size
           clear how5 hbw5)))
     clear HWw4 z0 z1 z2 z3 y0 y1 y2 y3
     have HC3':=Lib.hid (HC3.out Aw5 cw5 _ (rd_drew HRw5.out))
     clear HC3
     go_wp2_with fail
     go_region_held3 (fun W=>W.cell? ⟨wr.heap.size,0,none⟩ = some (.int .i64 r.ms[k].g) ∧ W.cell? ⟨wr.heap.size,1,none⟩ = some (.int .i64 r.ms[k].p) ∧ W.cell? ⟨wr.heap.size,2,none⟩ = some (.int .i64 r.ms[k].k) ∧ W.cell? ⟨wr.heap.size,3,none⟩ = some (.int .i64 r.ms[k].b))
      (first | (refine ⟨?_,?_,?_,?_⟩ <;> assumption) | (simp (maxDischargeDepth:=20) [World.cell?_alloc_some, *]; done))
      ((first
        | (go_at_call 107
           (with_reducible refine HC3'.out.mono ?_)
           clear HC3'
           rintro e w6 ⟨Aw6,cw6,rfl,how6,hbw6⟩
           have HRw6:=Lib.hid (Rd.of_own how6)
           have HWw6 : Hid (Below w5.heap.size w5 w6):=((Below.refl _ _).drew).trans hbw6
           have y0:=(HWw6.out.cell (p:=⟨wr.heap.size,0,none⟩) hzw5).trans t0
           have y1:=(HWw6.out.cell (p:=⟨wr.heap.size,1,none⟩) hzw5).trans t1
           have y2:=(HWw6.out.cell (p:=⟨wr.heap.size,2,none⟩) hzw5).trans t2
           have y3:=(HWw6.out.cell (p:=⟨wr.heap.size,3,none⟩) hzw5).trans t3
           have hzw6 : wr.heap.size < w6.heap.size:=Nat.lt_of_lt_of_le hzw5 HWw6.out.size
           clear how6 hbw6)
        | (go_at_call 105
           (with_reducible refine (HC4.out Aw6 cw6 _ HRw6.out).mono ?_)
           rintro e w7 ⟨Aw7,cw7,rfl,how7,hbw7⟩
           have HRw7:=Lib.hid (Rd.of_own how7)
           have HWw7 : Hid (Below w5.heap.size w5 w7):=HWw6.out.trans (hbw7.mono HWw6.out.size)
           have z0:=(hbw7.cell (p:=⟨wr.heap.size,0,none⟩) hzw6).trans y0
           have z1:=(hbw7.cell (p:=⟨wr.heap.size,1,none⟩) hzw6).trans y1
           have z2:=(hbw7.cell (p:=⟨wr.heap.size,2,none⟩) hzw6).trans y2
           have z3:=(hbw7.cell (p:=⟨wr.heap.size,3,none⟩) hzw6).trans y3
           have hzw7 : wr.heap.size < w7.heap.size:=Nat.lt_of_lt_of_le hzw5 HWw7.out.size
           clear how7 hbw7)))
     clear HWw6 t0 t1 t2 t3 y0 y1 y2 y3
     clear z0 z1 z2 z3
     have HB7:=Lib.hid (HBW.out _ (HHb1.out.trans ((HWw5.out.trans (HWw7.out.mono HWw5.out.size)).mono (Nat.le_of_lt hzW1))))
     go_wp2
     go_roundw
     case rel=>exact ⟨k + 1,xs,Aw7,cw7,by omega,by go_num,rfl,HE2,HRw7,HB7⟩
     case measure=>simp [intOf]; omega
    ·obtain rfl : k = r.ms.length:=by omega
     rw [List.take_length] at HY
     have hln:=HV.out.nn
     have hE : ys ++ uintB r.note.length ++ r.note = payR r:=by rw [HY.out]; unfold payR hdE; simp
     have hC:=rappbytes_any ys r.note DA N dc n wr HRY.out (by omega) ((HH.out.below (HB.out _ HBR.out) (Nat.le_refl _)).more (HB.out _ HBR.out).size).note (by omega)
     rw [hE] at hC
     have HC:=Lib.hid hC
     clear hE hC
     go_wp2_with fail
     refine HC.out.mono ?_
     rintro e w5 ⟨A5,c5,rfl,ho5,hb5⟩
     go_wp2
     go_ret
     exact ⟨A5,c5,rfl,own_mono ho5 (HB.out _ (HBW.out _ (Below.refl _ _))).size,HB.out _ (HBW.out _ hb5)⟩
end Go.Proofs.YtaggiceejcegdaaGreat

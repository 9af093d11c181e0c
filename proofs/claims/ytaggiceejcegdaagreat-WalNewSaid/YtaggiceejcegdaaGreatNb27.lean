/-
  WHAT IS SHOWN: what Append of wal returns and leaves. what Rewrite and New of wal return and leave. Conditions: as each theorem names them.
-/
import Derived.Test.YtaggiceejcegdaaGreatNb26
import Derived.Maps.AppendAt
namespace Go.Proofs.YtaggiceejcegdaaGreat
set_option linter.unusedVariables false
open Go.RowKit

/-- A log of small numbers. -/
structure LogS.Ok (S : LogS) : Prop where
  g : S.gen < 2 ^ 64
  f0 : 0 ≤ S.fr
  f1 : S.fr ≤ 1000
  u0 : 0 ≤ S.used
  u1 : S.used ≤ S.sec
  s1 : S.sec ≤ 1000
  l : S.l.length ≤ 100
  t : ∀ r ∈ S.l, Tiny r ∧ r.Ok
def appE (S : LogS) (r : Rec) : Int := if validR (S.num r) then (if ((encR (S.num r)).length : Int) ≤ S.sec - S.used then 0 else 11) else 1
def appS (S : LogS) (r : Rec) : LogS := if appE S r = 0 then ⟨S.gen, S.fr, S.sec, S.used + (encR (S.num r)).length, S.l ++ [S.num r]⟩ else S
def appM (g : Geo) (key : Int) (no : Nat → Bool) (S : LogS) (r : Rec) (m : MS) : MS × List Int := if appE S r = 0 then allD g key (S.fr + S.used) (encR (S.num r)) no m else (m, [])
/-- The types of the blocks that a log and its disks change. -/
def LDT : List TypeId := [216, 180, 182, 127, 120, 103]
theorem dat_ldt : ∀ t, t ∈ DAT → t ∈ LDT := by unfold DAT LDT; decide
def KeptA (n : Nat) (V : Option Nat) (w w' : World) : Prop := Kept (fun k => n ≤ k ∧ (HasT LDT w k ∨ V = some k)) w w'
def AppPost (w : World) (n b pw : Nat) (g : Geo) (qs : List Nat) (V : Option Nat) (S' : LogS) (x : MS × List Int) (er : Int) (e : Ending) (w' : World) : Prop :=
  ∃ A c V', e = .returned (.tuple #[.slice A x.2.length c, .int .i64 er]) ∧ w'.ownsRow w.heap.size 41 1 (.slice A x.2.length c) x.2.length (x.2.map (Value.int .i64)) ∧ (V' = V ∨ ∃ k, V' = some k ∧ w.heap.size ≤ k) ∧ LogM w' n b V' S' ∧ ManyM w' n pw g qs x.1 ∧ KeptA n V w w'
theorem box_five {w w3 : World} {v0 v1 v2 v3 v4 : Value} (u0 u1 u2 u3 u4 : Value) (h : w3.ownsRow w.heap.size 28 5 (.slice (some ⟨w.heap.size, 0, none⟩) 1 1) 1 [v0, v1, v2, v3, v4]) (hb : Below w.heap.size w w3) :
    (((((w3.setCell ⟨w.heap.size, 0, none⟩ u0).setCell ⟨w.heap.size, 1, none⟩ u1).setCell ⟨w.heap.size, 2, none⟩ u2).setCell ⟨w.heap.size, 3, none⟩ u3).setCell ⟨w.heap.size, 4, none⟩ u4).ownsRow w.heap.size 28 5 (.slice (some ⟨w.heap.size, 0, none⟩) 1 1) 1 [u0, u1, u2, u3, u4] ∧
    Kept (fun k => k = w.heap.size) w3 (((((w3.setCell ⟨w.heap.size, 0, none⟩ u0).setCell ⟨w.heap.size, 1, none⟩ u1).setCell ⟨w.heap.size, 2, none⟩ u2).setCell ⟨w.heap.size, 3, none⟩ u3).setCell ⟨w.heap.size, 4, none⟩ u4) ∧
    Below w.heap.size w (((((w3.setCell ⟨w.heap.size, 0, none⟩ u0).setCell ⟨w.heap.size, 1, none⟩ u1).setCell ⟨w.heap.size, 2, none⟩ u2).setCell ⟨w.heap.size, 3, none⟩ u3).setCell ⟨w.heap.size, 4, none⟩ u4) := by
  have s0 := (World.ownsRow.stored h 0 u0).1
  have s1 := (World.ownsRow.stored s0 1 u1).1
  have s2 := (World.ownsRow.stored s1 2 u2).1
  have s3 := (World.ownsRow.stored s2 3 u3).1
  have s4 := (World.ownsRow.stored s3 4 u4).1
  exact ⟨s4, (((((Kept.refl (fun k => k = w.heap.size) w3).setCell (p := ⟨w.heap.size, 0, none⟩) (fun _ => rfl) _).setCell (p := ⟨w.heap.size, 1, none⟩) (fun _ => rfl) _).setCell (p := ⟨w.heap.size, 2, none⟩) (fun _ => rfl) _).setCell (p := ⟨w.heap.size, 3, none⟩) (fun _ => rfl) _).setCell (p := ⟨w.heap.size, 4, none⟩) (fun _ => rfl) _,
    ((((hb.setCell (p := ⟨w.heap.size, 0, none⟩) (Nat.le_refl _) _).setCell (p := ⟨w.heap.size, 1, none⟩) (Nat.le_refl _) _).setCell (p := ⟨w.heap.size, 2, none⟩) (Nat.le_refl _) _).setCell (p := ⟨w.heap.size, 3, none⟩) (Nat.le_refl _) _).setCell (p := ⟨w.heap.size, 4, none⟩) (Nat.le_refl _) _⟩
theorem qstep_append_own_at {P : Program} {w : World} {ops : Array Oper} {o : Oper} {a : Act} {K : Act → World → Prop} {Q : Exit → Act → World → Prop} {E : Prop} (hgd : o.guard = none) (s x : Operand) (t : TypeId)
    (ho : o.op = .call { callee := .builtin .append, args := #[s, x], argTypes := #[t, t] })
    (base : Nat) (e : TypeId) (i : TypeInfo) (z : Value) (size bytes : Nat) (ht : P.underlying t = some (.slice e)) (hi : P.info? e = some i) (hz : i.zero = some z)
    (hsize : i.size = size) (hby : i.bytes = bytes) (hzs : z.cells.size = size) (hsz : 0 < size)
    (v : Value) (n : Nat) (xs : List Value) (hs : a.eval s = v) (hown : w.ownsRow base e size v n xs)
    (ad : Addr) (m c : Nat) (news : List Value) (hx : a.eval x = .slice (some ad) m c) (hl : news.length = m * size) (hnews : ∀ j u, news[j]? = some u → w.cell? (ad.add j) = some u) (h1 : ∀ u ∈ news, u.oneCell' = true)
    (h63 : n + m ≤ maxLen) (hbytes : (n + m) * bytes ≤ 140737488355328) (hbase : base ≤ w.heap.size)
    (h : ∀ v' w', w'.ownsRow base e size v' (n + m) (xs ++ news) → w.grownBy w' v.ownBlock → (v'.ownBlock = v.ownBlock ∨ v'.ownBlock = some w.heap.size) → K (a.put o.dst v') w') :
    if Region.wanted o (yielded ops a.tmps) = true then Oper.wp P o a w K Q else E := by
  have hw : Region.wanted o (yielded ops a.tmps) = true := by simp [Region.wanted, hgd]
  rw [if_pos hw]
  obtain ⟨v', w', hr, h2, h3, h4, h5⟩ := run_append_own_at (P := P) w base t o.type e i z size bytes ht hi hz hsize hby hzs hsz v n xs hown ad m c news hl hnews h1 h63 hbytes hbase
  unfold Oper.wp execOp
  simp only [ho, resolve, invoke, builtin, Sem.run_bind, Sem.run_pure, Result.andThen_ok, List.map_toArray, List.map_cons, List.map_nil, hs, hx, hr]
  exact h v' w' h2 h3 h5
theorem grown_ty {w w' : World} {t : TypeId} {base size m : Nat} {v : Value} {xs : List Value} (hg : w.grownBy w' v.ownBlock) (ho : w.ownsRow base t size v m xs) : KeptT [t] (Bd.of 0) w w' := by
  have hk : Kept (fun k => v.ownBlock = some k) w w' := ⟨hg.os, hg.tape, hg.output, hg.size, fun k hk hS => hg.block k hk (fun e => hS e.symm)⟩
  refine KeptT.of hk (fun k _ e => ⟨⟨Nat.zero_le _, fun h => h⟩, ?_⟩)
  rcases ho.2 with ⟨h2, _⟩ | ⟨g, cap, cur, h2, _, h4, _⟩
  · rw [h2] at e; cases e
  · rw [h2] at e
    obtain rfl : g = k := by simpa [Value.ownBlock] using e
    exact HasT.mem (IsT.of h4) (by simp)
theorem RecO.types {ts : List TypeId} {B : Bd} {w w' : World} {r : Rec} {A D N : Option Addr} {c d n : Nat} (h : RecO w r A c D d N n) (hk : KeptT ts B w w') (h2 : 151 ∉ ts) (h3 : 156 ∉ ts) (h4 : 5 ∉ ts) : RecO w' r A c D d N n :=
  ⟨own_ty h.ws hk h2, own_ty h.ms hk h3, h.note.kept hk (KeptT.free h4)⟩
theorem RcsO.types {ts : List TypeId} {B : Bd} {w w' : World} {base : Nat} {A : Option Addr} {c : Nat} {l : List RS} (h : RcsO w base A c l) (hk : KeptT ts B w w') (h1 : 28 ∉ ts) (h2 : 151 ∉ ts) (h3 : 156 ∉ ts) (h4 : 5 ∉ ts) : RcsO w' base A c l :=
  ⟨own_ty h.own hk h1, fun x hx => (h.each x hx).types hk h2 h3 h4⟩
theorem SlsO.types {ts : List TypeId} {B : Bd} {w w' : World} {base : Nat} {A : Option Addr} {c : Nat} {l : List Sl} (h : SlsO w base A c l) (hk : KeptT ts B w w') (h1 : 26 ∉ ts) (h2 : 5 ∉ ts) : SlsO w' base A c l :=
  ⟨own_ty h.own hk h1, fun x hx => own_ty (h.each x hx) hk h2⟩
theorem set_log {w : World} {b base : Nat} {xs : List Value} (h : w.ownsRow base 103 5 (.slice (some ⟨b, 0, none⟩) 1 1) 1 xs) (j : Nat) (v : Value) : KeptT [103] (Bd.of base) w (w.setCell ⟨b, j, none⟩ v) :=
  KeptT.of ((Kept.refl (fun k => k = b) w).setCell (p := ⟨b, j, none⟩) (fun _ => rfl) _) (fun k _ e => by have e' : k = b := e; subst e'; exact ⟨⟨row_low h, fun h => h⟩, HasT.mem (IsT.own h) (by simp)⟩)
theorem KeptA.trans {n : Nat} {V : Option Nat} {w w' w'' : World} (h : KeptA n V w w') (k : KeptT LDT (Bd.of n) w' w'') : KeptA n V w w'' :=
  Kept.trans h k (fun i hi hs => by
    by_cases hh : n ≤ i ∧ (HasT LDT w i ∨ V = some i)
    · exact hh
    · have e := h.block i hi hh
      obtain ⟨h1, t, ht, cur, fr, h2⟩ := hs
      exact ⟨h1.1, .inl ⟨t, ht, cur, fr, e.symm.trans h2⟩⟩)
theorem KeptA.grown {n base size m : Nat} {t : TypeId} {v : Value} {xs : List Value} {w w' w'' : World} (h : KeptA n v.ownBlock w w') (hg : w'.grownBy w'' v.ownBlock) (ho : w'.ownsRow base t size v m xs) (hb : n ≤ base) : KeptA n v.ownBlock w w'' := by
  have hk : Kept (fun k => v.ownBlock = some k) w' w'' := ⟨hg.os, hg.tape, hg.output, hg.size, fun k hk hS => hg.block k hk (fun e => hS e.symm)⟩
  exact Kept.trans h hk (fun i _ e => ⟨Nat.le_trans hb (own_low ho e), .inr e⟩)
/-- One more record. -/
theorem LogMem.push {W w9 : World} {n b : Nat} {A A' : Option Addr} {c c' : Nat} {xs : List RS} {S : LogS} {x : RS} {tmp : Obj} (h : LogMem W n b A c xs S) (hx : RecO W x.r x.A x.c x.D x.d x.N x.n)
    (hown : w9.ownsRow n 28 5 (.slice A' (xs.length + 1) c') (xs.length + 1) (flatR xs ++ x.cells)) (hg : (W.alloc tmp).grownBy w9 (Value.slice A xs.length c).ownBlock) :
    LogMem (w9.setCell ⟨b, 3, none⟩ (.slice A' (xs.length + 1) c')) n b A' c' (xs ++ [x]) ⟨S.gen, S.fr, S.sec, S.used, S.l ++ [x.r]⟩ ∧ w9.ownsRow n 103 5 (.slice (some ⟨b, 0, none⟩) 1 1) 1 (logObj S A xs.length c) := by
  have o9 := (h.obj.alloc tmp).kept hg (own_apart (h.obj.alloc tmp) (h.own.own.alloc tmp) (by decide))
  have hp := h.own.push hx hown hg
  have hk := set_log o9 3 (.slice A' (xs.length + 1) c')
  have hst := (World.ownsRow.stored o9 3 (.slice A' (xs.length + 1) c')).1
  refine ⟨⟨?_, by rw [List.map_append, h.rec_]; rfl, hp.types hk (by decide) (by decide) (by decide) (by decide)⟩, o9⟩
  rw [List.length_append]
  exact hst
theorem LogMem.spent {W : World} {n b : Nat} {A : Option Addr} {c : Nat} {xs : List RS} {S : LogS} (h : LogMem W n b A c xs S) (u : Int) : LogMem (W.setCell ⟨b, 4, none⟩ (.int .i64 u)) n b A c xs ⟨S.gen, S.fr, S.sec, u, S.l⟩ :=
  ⟨(World.ownsRow.stored h.obj 4 (.int .i64 u)).1, h.rec_, h.own.types (set_log h.obj 4 (.int .i64 u)) (by decide) (by decide) (by decide) (by decide)⟩
section
variable {w w' : World} {n b pw : Nat} {S : LogS} {V : Option Nat} {g : Geo} {qs : List Nat} {m : MS}
set_option maxRecDepth 100000 in
set_option maxHeartbeats 8000000 in
theorem wappend_any {key : Int} {no : Nat → Bool} {PA : Option Addr} {pc N : Nat} (r : Rec) (hok : r.Ok) (A1 D1 N1 : Option Addr) (c1 d1 n1 : Nat) (hr : RecR w w.heap.size r A1 c1 D1 d1 N1 n1) (ht : Tiny r) (h : LogM w n b V S) (hS : S.Ok)
    (hm : ManyM w n pw g qs m) (hmo : m.Ok N) (hN : N ≤ 80000) (hp : RdT w 52 PA (ptrs qs no)) (hq : qs.length ≤ 1000) :
    Calls Tryz.prog 13 #[.pointer (some ⟨b, 0, none⟩), .slice PA qs.length pc, .int .u64 key, .agg #[.int .u64 r.gen, .int .u64 r.seq, .slice A1 r.ws.length c1, .slice D1 r.ms.length d1, .slice N1 r.note.length n1]] w (AppPost w n b pw g qs V (appS S r) (appM g key no S r m) (appE S r)) := by
  have hb0 : Below w.heap.size w (w.alloc (.cells #[.int .u64 r.gen, .int .u64 r.seq, .slice A1 r.ws.length c1, .slice D1 r.ms.length d1, .slice N1 r.note.length n1] 28)) := (Below.refl _ _).alloc (Nat.le_refl _) _
  obtain ⟨q, hq0⟩ : ∃ q : Nat, q = S.l.length + 1 := ⟨_, rfl⟩
  have hln := hS.l
  have HNB := Lib.hid (wnumbered_any (w := (w.alloc (.cells #[.int .u64 r.gen, .int .u64 r.seq, .slice A1 r.ws.length c1, .slice D1 r.ms.length d1, .slice N1 r.note.length n1] 28))) r A1 D1 N1 c1 d1 n1 (h.below0 hb0) (by omega) q hq0)
  have HCP : Hid (∀ W, Below w.heap.size w W → Calls Tryz.prog 48 #[.agg #[.int .u64 S.gen, .int .u64 q, .slice A1 r.ws.length c1, .slice D1 r.ms.length d1, .slice N1 r.note.length n1]] W fun e w' => ∃ (A : Option Addr) (c : Nat) (D : Option Addr) (d : Nat) (N : Option Addr) (n : Nat), e = .returned (.agg #[.int .u64 S.gen, .int .u64 q, .slice A r.ws.length c, .slice D r.ms.length d, .slice N r.note.length n]) ∧ RecO w' (S.num r) A c D d N n ∧ Below W.heap.size W w') := by
    unfold Hid; intro W hW
    have := copied_any (S.num r) A1 D1 N1 c1 d1 n1 W ⟨(hr.up hW).ws, (hr.up hW).ms, (hr.up hW).note⟩ ⟨ht.ws, ht.ms, ht.note⟩
    subst hq0
    exact this
  have HROW : Hid (∀ W, Below (w.heap.size + 1) (w.alloc (.cells #[.int .u64 r.gen, .int .u64 r.seq, .slice A1 r.ws.length c1, .slice D1 r.ms.length d1, .slice N1 r.note.length n1] 28)) W → W.ownsRow w.heap.size 28 5 (.slice (some ⟨w.heap.size, 0, none⟩) 1 1) 1 [.int .u64 r.gen, .int .u64 r.seq, .slice A1 r.ws.length c1, .slice D1 r.ms.length d1, .slice N1 r.note.length n1]) := by
    unfold Hid; intro W hW
    have o1 := World.ownsRow_lit (base := w.heap.size) (e := 28) (size := 5) w #[.int .u64 r.gen, .int .u64 r.seq, .slice A1 r.ws.length c1, .slice D1 r.ms.length d1, .slice N1 r.note.length n1] 1 (Nat.le_refl _) (by decide) rfl
    exact own_kept o1 (belKept hW) (fun k e => by simp [Value.ownBlock] at e; subst e; show ¬ (w.heap.size + 1 ≤ w.heap.size); omega)
  have PB := Cells5.new w 28 (.int .u64 r.gen) (.int .u64 r.seq) (.slice A1 r.ws.length c1) (.slice D1 r.ms.length d1) (.slice N1 r.note.length n1)
  have p0 := PB.c0; have p1 := PB.c1; have p2 := PB.c2; have p3 := PB.c3; have p4 := PB.c4
  have HB0 := Lib.hid hb0
  have hz0 : ((w.alloc (.cells #[.int .u64 r.gen, .int .u64 r.seq, .slice A1 r.ws.length c1, .slice D1 r.ms.length d1, .slice N1 r.note.length n1] 28))).heap.size = w.heap.size + 1 := by simp
  have HL := Lib.hid h
  have HM := Lib.hid hm
  have HP := Lib.hid hp
  have HS := Lib.hid hS
  have HMO := Lib.hid hmo
  have hok2 : (S.num r).Ok := ⟨hS.g, by show S.l.length + 1 < 2 ^ 64; omega, hok.ws, hok.ms, hok.note⟩
  have HOK2 := Lib.hid hok2
  have HT := Lib.hid ht
  have HQ := Lib.hid hq0
  clear PB hb0 h hm hp hS hmo hok2 hr hok ht hq0 hln
  go_enter Tryz.func13, Tryz.ntmps13
  go_wp2_with fail
  refine HNB.out.mono ?_
  rintro e w2 ⟨rfl, hb2⟩
  rw [hz0] at hb2
  have hz2 : w.heap.size + 1 ≤ w2.heap.size := by have := hb2.size; rw [hz0] at this; exact this
  have HB2 := Lib.hid hb2
  clear p0 p1 p2 p3 p4 hb2
  go_wp2_with fail
  refine (HCP.out w2 (HB0.out.trans (HB2.out.mono (by omega)))).mono ?_
  rintro e w3 ⟨A3, c3, D3, d3, N3, n3, rfl, ho3, hb3⟩
  have HB3 := Lib.hid (HB2.out.trans (hb3.mono hz2))
  have hz3 : w.heap.size + 1 ≤ w3.heap.size := Nat.le_trans hz2 hb3.size
  have HO3 := Lib.hid ho3
  have hrow := HROW.out w3 HB3.out
  have p0 := (World.ownsRow.cellAt hrow 0 (by decide)).trans (show _ = some _ from rfl)
  have p1 := (World.ownsRow.cellAt hrow 1 (by decide)).trans (show _ = some _ from rfl)
  have p2 := (World.ownsRow.cellAt hrow 2 (by decide)).trans (show _ = some _ from rfl)
  have p3 := (World.ownsRow.cellAt hrow 3 (by decide)).trans (show _ = some _ from rfl)
  have p4 := (World.ownsRow.cellAt hrow 4 (by decide)).trans (show _ = some _ from rfl)
  have f0 := hrow.frozenAt 0
  have f1 := hrow.frozenAt 1
  have f2 := hrow.frozenAt 2
  have f3 := hrow.frozenAt 3
  have f4 := hrow.frozenAt 4
  obtain ⟨o4, k4, b4⟩ := box_five (.int .u64 S.gen) (.int .u64 q) (.slice A3 r.ws.length c3) (.slice D3 r.ms.length d3) (.slice N3 r.note.length n3) hrow (HB0.out.trans (HB3.out.mono (by omega)))
  obtain ⟨cur, hcur⟩ := qown_type hrow
  have r4 := HO3.out.kept k4 hcur
  have HENC : Hid (∀ W, RecO W (S.num r) A3 c3 D3 d3 N3 n3 → Calls Tryz.prog 50 #[.agg #[.int .u64 S.gen, .int .u64 q, .slice A3 r.ws.length c3, .slice D3 r.ms.length d3, .slice N3 r.note.length n3]] W (EncPost W (S.num r))) := by
    unfold Hid; intro W hW
    have hw := HT.out.ws; have hm := HT.out.ms; have hn := HT.out.note
    have := encode_any (S.num r) HOK2.out A3 D3 N3 c3 d3 n3 W hW.rec_ (by show r.ws.length ≤ _; omega) (by show r.ms.length ≤ _; omega) (by show r.note.length ≤ _; omega)
    rw [HQ.out]
    exact this
  clear ho3 hb3 HNB HCP hcur k4 hrow
  go_upto_region 4 with (fail)
  generalize (((((w3.setCell ⟨w.heap.size, 0, none⟩ (.int .u64 S.gen)).setCell ⟨w.heap.size, 1, none⟩ (.int .u64 q)).setCell ⟨w.heap.size, 2, none⟩ (.slice A3 r.ws.length c3)).setCell ⟨w.heap.size, 3, none⟩ (.slice D3 r.ms.length d3)).setCell ⟨w.heap.size, 4, none⟩ (.slice N3 r.note.length n3)) = W4 at *
  have HO4 := Lib.hid o4
  have HR4 := Lib.hid r4
  have HB4 := Lib.hid b4
  have HEN := Lib.hid (HENC.out W4 r4)
  clear p0 p1 p2 p3 p4 f0 f1 f2 f3 f4
  have p0 := (World.ownsRow.cellAt o4 0 (by decide)).trans (show _ = some _ from rfl)
  have p1 := (World.ownsRow.cellAt o4 1 (by decide)).trans (show _ = some _ from rfl)
  have p2 := (World.ownsRow.cellAt o4 2 (by decide)).trans (show _ = some _ from rfl)
  have p3 := (World.ownsRow.cellAt o4 3 (by decide)).trans (show _ = some _ from rfl)
  have p4 := (World.ownsRow.cellAt o4 4 (by decide)).trans (show _ = some _ from rfl)
  clear o4 r4 b4 HENC
  go_wp2_with fail
  refine HEN.out.mono ?_
  rintro e w5 ⟨A5, c5, ss, rfl, hss, ho5, hb5⟩
  have HB5 := Lib.hid (HB4.out.trans (hb5.mono HB4.out.size))
  have HSS5 := Lib.hid ho5
  have HR5 := Lib.hid (HR4.out.below0 hb5)
  have HO5 := Lib.hid (own_kept HO4.out (belKept0 (S := fun _ => False) hb5) (fun _ _ h => h))
  have HXS := Lib.hid hss
  have HL5 := Lib.hid (HL.out.below0 HB5.out)
  have HM5 := Lib.hid (HM.out.below0 HB5.out)
  have HP5 := Lib.hid (HP.out.below0 HB5.out)
  clear p0 p1 p2 p3 p4 ho5 hb5 hss HEN HR4 HO4 HROW HO3 HB3 HB2 hz2 hz3
  cases hv : validR (S.num r)
  · have HE : Hid (encE (S.num r) = 1) := by unfold Hid encE; rw [hv]; rfl
    have HAE : Hid (appE S r = 1) := by unfold Hid appE; rw [hv]; rfl
    have HD : Hid (AppPost w n b pw g qs V (appS S r) (appM g key no S r m) (appE S r) (.returned (.tuple #[.slice none 0 0, .int .i64 1])) w5) := by
      unfold Hid appS appM
      rw [HAE.out]
      exact ⟨none, 0, V, rfl, World.ownsRow_nil _ _ _ _, .inl rfl, HL5.out, HM5.out, belKept0 HB5.out⟩
    rw [HE.out]
    clear hv
    go_wp2
    go_ret2
    exact HD.out
  · have HE : Hid (encE (S.num r) = 0) := by unfold Hid encE; rw [hv]; rfl
    have HEL : Hid (ss.map Sl.xs = encR (S.num r)) := by unfold Hid; rw [HXS.out]; unfold encL; rw [hv]; rfl
    have hsl : (encR (S.num r)).length = ss.length := by rw [← HEL.out, List.length_map]
    obtain ⟨A6, c6, xs, hlm, hV⟩ := HL5.out
    obtain ⟨l0, l1, l2, l3, l4⟩ := hlm.cells
    have hs0 := HS.out.u0
    have hs1 := HS.out.u1
    have hs2 := HS.out.s1
    have hw1 : IntKind.i64.wrap (S.sec - S.used) = S.sec - S.used := by rw [IntKind.wrap_i64]; omega
    rw [HE.out]
    by_cases hle : (ss.length : Int) ≤ S.sec - S.used
    · have HAE : Hid (appE S r = 0) := by unfold Hid appE; rw [hv, hsl, if_pos hle]; rfl
      have hs3 := HS.out.f0
      have hs4 := HS.out.f1
      have hw2 : IntKind.i64.wrap (S.fr + S.used) = S.fr + S.used := by rw [IntKind.wrap_i64]; omega
      have hxl : xs.length ≤ 100 := by have := hlm.len; have := HS.out.l; omega
      have HLM := Lib.hid hlm
      have HV := Lib.hid hV
      clear hv hlm hV
      have HCE : Hid (∀ W, Below w5.heap.size w5 W → LogMem W n b A6 c6 xs S ∧ RecO W (S.num r) A3 c3 D3 d3 N3 n3 ∧ W.ownsRow w.heap.size 28 5 (.slice (some ⟨w.heap.size, 0, none⟩) 1 1) 1 [.int .u64 S.gen, .int .u64 q, .slice A3 r.ws.length c3, .slice D3 r.ms.length d3, .slice N3 r.note.length n3] ∧ SlsO W w.heap.size A5 c5 ss ∧ ManyM W n pw g qs m ∧ RdT W 52 PA (ptrs qs no) ∧ Below w.heap.size w W) := by
        unfold Hid; intro W hW
        exact ⟨HLM.out.kept (belKept0 (S := fun _ => False) hW) (fun h => h) (fun _ _ h => h) (Free.none _ _) (Free.none _ _) (Free.none _ _), HR5.out.below0 hW, own_kept HO5.out (belKept0 (S := fun _ => False) hW) (fun _ _ h => h), (HSS5.out.below hW).mono HB4.out.size, HM5.out.below0 hW, HP5.out.below0 hW, HB5.out.trans (hW.mono HB5.out.size)⟩
      go_wp2
      go_quiet (fail)
      have hb6 : Below w5.heap.size w5 (w5.drewN nq) := below_drewN' (Below.refl _ _) _
      generalize w5.drewN nq = w6 at *
      clear l0 l1 l2 l3 l4
      obtain ⟨l0, l1, l2, l3, l4⟩ := (HCE.out _ hb6).1.cells
      go_wp2
      go_quiet (fail)
      have hb7 : Below w5.heap.size w5 (w6.drewN nq) := below_drewN' hb6 _
      generalize w6.drewN nq = w7 at *
      clear l0 l1 l2 l3 l4 hb6
      go_upto_region 10 with (fail)
      obtain ⟨hlm7, hr7, ho7, hs7, hm7, hp7, hb0⟩ := HCE.out _ hb7
      have HHH := Lib.hid (HCE.out _ hb7)
      obtain ⟨l0, l1, l2, l3, l4⟩ := hlm7.cells
      have p0 := (World.ownsRow.cellAt ho7 0 (by decide)).trans (show _ = some _ from rfl)
      have p1 := (World.ownsRow.cellAt ho7 1 (by decide)).trans (show _ = some _ from rfl)
      have p2 := (World.ownsRow.cellAt ho7 2 (by decide)).trans (show _ = some _ from rfl)
      have p3 := (World.ownsRow.cellAt ho7 3 (by decide)).trans (show _ = some _ from rfl)
      have p4 := (World.ownsRow.cellAt ho7 4 (by decide)).trans (show _ = some _ from rfl)
      have hown7 : w7.drew.ownsRow n 28 5 (.slice A6 xs.length c6) xs.length (flatR xs) := hlm7.own.own
      have hown8 := hown7.alloc (.cells #[.int .u64 S.gen, .int .u64 q, .slice A3 r.ws.length c3, .slice D3 r.ms.length d3, .slice N3 r.note.length n3] 28)
      have l3a := ((((Below.refl w7.heap.size w7).alloc (Nat.le_refl _) (.cells #[.int .u64 S.gen, .int .u64 q, .slice A3 r.ws.length c3, .slice D3 r.ms.length d3, .slice N3 r.note.length n3] 28)).cell (p := ⟨b, 3, none⟩) (IsT.own hlm7.obj).lt)).trans l3
      have hnz : n ≤ w7.heap.size := by have := row_low hlm7.obj; have := (IsT.own hlm7.obj).lt; omega
      obtain ⟨i0, hi, hz0', hz1, hz2⟩ := info_parts info_rec
      clear hlm7 hr7 ho7 hs7 hm7 hp7
      go_cut [] from 47 to 56 (fun wx => Hid (∃ (A9 : Option Addr) (c9 : Nat), LogMem wx n b A9 c9 (xs ++ [(⟨S.num r, A3, c3, D3, d3, N3, n3⟩ : RS)]) ⟨S.gen, S.fr, S.sec, S.used, S.l ++ [S.num r]⟩ ∧ (((Value.slice A9 (xs.length + 1) c9).ownBlock = V) ∨ ∃ k, (Value.slice A9 (xs.length + 1) c9).ownBlock = some k ∧ w.heap.size ≤ k) ∧
        SlsO wx w.heap.size A5 c5 ss ∧ ManyM wx n pw g qs m ∧ RdT wx 52 PA (ptrs qs no) ∧ KeptA n V w wx ∧ w.heap.size ≤ wx.heap.size))
      case first =>
        go_region_law (
          (refine qstep_append_own_at rfl (.tmp 51) (.tmp 53) 22 rfl n 28 i0 _ 5 88 Tryz.underlying22 hi hz0' hz1 hz2 rfl (by decide) (.slice A6 xs.length c6) xs.length (flatR xs) rfl hown8 ⟨w7.heap.size, 0, none⟩ 1 1 [.int .u64 S.gen, .int .u64 q, .slice A3 r.ws.length c3, .slice D3 r.ms.length d3, .slice N3 r.note.length n3] rfl rfl (World.news_of_block (heap_alloc_new _ _)) (RS.one ⟨⟨S.gen, q, r.ws, r.ms, r.note⟩, A3, c3, D3, d3, N3, n3⟩) ?d1 ?d2 ?d3 ?_
           case d1 => unfold maxLen; omega
           case d2 => omega
           case d3 => first | (simp; omega) | omega
           intro v' w9 hown hgrow hat
           obtain ⟨A9, c9, hv⟩ := own_form hown
           subst hv
           rw [HQ.out] at hown
           have hba : Below w7.heap.size w7 (w7.alloc (.cells #[.int .u64 S.gen, .int .u64 q, .slice A3 r.ws.length c3, .slice D3 r.ms.length d3, .slice N3 r.note.length n3] 28)) := (Below.refl _ _).alloc (Nat.le_refl _) _
           have hg : (w7.alloc (.cells #[.int .u64 S.gen, .int .u64 q, .slice A3 r.ws.length c3, .slice D3 r.ms.length d3, .slice N3 r.note.length n3] 28)).grownBy w9 (Value.slice A6 xs.length c6).ownBlock := ⟨hgrow.os, hgrow.tape, hgrow.output, hgrow.size, hgrow.block⟩
           obtain ⟨hpm, ho9⟩ := HHH.out.1.push (x := ⟨S.num r, A3, c3, D3, d3, N3, n3⟩) HHH.out.2.1 hown hg
           have fz := ho9.frozenAt 3
           have cz := (World.ownsRow.cellAt ho9 3 (by decide)).trans (show _ = some _ from rfl)
           have HFIN : Hid (∃ (A9' : Option Addr) (c9' : Nat), LogMem (w9.setCell ⟨b, 3, none⟩ (.slice A9 (xs.length + 1) c9)) n b A9' c9' (xs ++ [(⟨S.num r, A3, c3, D3, d3, N3, n3⟩ : RS)]) ⟨S.gen, S.fr, S.sec, S.used, S.l ++ [S.num r]⟩ ∧ (((Value.slice A9' (xs.length + 1) c9').ownBlock = V) ∨ ∃ k, (Value.slice A9' (xs.length + 1) c9').ownBlock = some k ∧ w.heap.size ≤ k) ∧
               SlsO (w9.setCell ⟨b, 3, none⟩ (.slice A9 (xs.length + 1) c9)) w.heap.size A5 c5 ss ∧ ManyM (w9.setCell ⟨b, 3, none⟩ (.slice A9 (xs.length + 1) c9)) n pw g qs m ∧ RdT (w9.setCell ⟨b, 3, none⟩ (.slice A9 (xs.length + 1) c9)) 52 PA (ptrs qs no) ∧ KeptA n V w (w9.setCell ⟨b, 3, none⟩ (.slice A9 (xs.length + 1) c9)) ∧ w.heap.size ≤ (w9.setCell ⟨b, 3, none⟩ (.slice A9 (xs.length + 1) c9)).heap.size) := by
             obtain ⟨hlm7, hr7, ho7, hs7, hm7, hp7, hbb⟩ := HHH.out
             have own8 := hlm7.own.own.alloc (.cells #[.int .u64 S.gen, .int .u64 q, .slice A3 r.ws.length c3, .slice D3 r.ms.length d3, .slice N3 r.note.length n3] 28)
             have kg := grown_ty hg own8
             have ks := set_log ho9 3 (.slice A9 (xs.length + 1) c9)
             have hka : KeptA n (Value.slice A6 xs.length c6).ownBlock w w9 := KeptA.grown (belKept0 (hbb.trans (hba.mono hbb.size))) hg own8 (Nat.le_refl _)
             rw [HV.out] at hka
             refine ⟨A9, c9, hpm, ?_, ((hs7.below hba).types kg (by decide) (by decide)).types ks (by decide) (by decide), ((hm7.below0 hba).types kg (by decide) (by decide) (by decide) (by decide)).types ks (by decide) (by decide) (by decide) (by decide),
               ((hp7.below0 hba).kept kg (KeptT.free (by decide))).kept ks (KeptT.free (by decide)), hka.trans (ks.sub (by unfold LDT; decide)), ?_⟩
             · rcases hat with h | h
               · left; exact h.trans HV.out
               · right; exact ⟨_, h, by have := hbb.size; have := hba.size; first | omega | (simp; omega)⟩
             · have := hka.size; simpa using this
           clear hown hgrow hat hba hg hpm ho9))
        all_goals
          go_wp2_with fail
          go_meet
          exact HFIN.out
      case rest =>
        obtain ⟨A9, c9, hlm9, hV9, hs9, hm9, hp9, hka9, hz9⟩ := hcut.out
        have HC9 := Lib.hid hcut.out
        obtain ⟨l0, l1, l2, l3, l4⟩ := hlm9.cells
        have fz := hlm9.obj.frozenAt 4
        have hl10 := hlm9.spent (S.used + ss.length)
        have ks := set_log hlm9.obj 4 (.int .i64 (S.used + ss.length))
        have hs10 := hs9.types ks (by decide) (by decide)
        have hm10 := hm9.types ks (by decide) (by decide) (by decide) (by decide)
        have hp10 := hp9.kept ks (KeptT.free (by decide))
        have hka10 := hka9.trans (ks.sub (us := LDT) (by unfold LDT; decide))
        have hss : ∀ s ∈ ss, s.xs.length ≤ 100000 ∧ s.xs.length ≤ s.c := fun s hs => by
          have h1 : s.xs ∈ encR (S.num r) := by rw [← HEL.out]; exact List.mem_map.2 ⟨s, hs, rfl⟩
          have h2 := encR_1k _ h1
          exact ⟨by omega, (own_cap0 (hs10.each s hs)).1⟩
        have hal := wall_any (key := key) (c := c5) hm10 HMO.out (by omega) (show -1000000 ≤ S.fr + S.used by omega) (by omega) (fun W hW => (hp10.kept hW (KeptT.free (by unfold DAT; decide))).rd) hq (pc := pc) (fun W hW => (hs10.types hW (by unfold DAT; decide) (by unfold DAT; decide)).rd) hss (by omega)
        rw [HEL.out] at hal
        have HAL := Lib.hid hal
        have HFN : Hid (∀ W A' c' es m', W.ownsRow (wc.setCell ⟨b, 4, none⟩ (.int .i64 (S.used + ss.length))).heap.size 41 1 (.slice A' es.length c') es.length (es.map (Value.int .i64)) → ManyM W n pw g qs m' → KeptT DAT (Bd.of n) (wc.setCell ⟨b, 4, none⟩ (.int .i64 (S.used + ss.length))) W → allD g key (S.fr + S.used) (encR (S.num r)) no m = (m', es) →
            AppPost w n b pw g qs V (appS S r) (appM g key no S r m) (appE S r) (.returned (.tuple #[.slice A' es.length c', .int .i64 0])) W) := by
          unfold Hid
          intro W A' c' es m' h1 h2 h3 h4
          unfold appS appM
          rw [HAE.out, if_pos rfl, if_pos rfl, h4, hsl]
          refine ⟨A', c', _, rfl, own_mono h1 (by have := hka10.size; exact this), ?_, LogM.types ⟨A9, c9, _, hl10, rfl⟩ h3 (by unfold DAT; decide) (by unfold DAT; decide) (by unfold DAT; decide) (by unfold DAT; decide) (by unfold DAT; decide), h2, hka10.trans (h3.sub dat_ldt)⟩
          rw [List.length_append]
          exact hV9
        clear hcut hlm9 hV9 hs9 hm9 hp9 hka9 hl10 ks hs10 hm10 hp10 hka10 hss hal
        have hw3 : IntKind.i64.wrap (S.used + (ss.length : Int)) = S.used + ss.length := by rw [IntKind.wrap_i64]; omega
        generalize allD g key (S.fr + S.used) (encR (S.num r)) no m = X at *
        go_wp2_with fail
        refine HAL.out.mono ?_
        rintro e w12 ⟨A12, c12, rfl, ho12, hm12, hk12⟩
        obtain ⟨m', es⟩ := X
        simp only at *
        have HD := Lib.hid (HFN.out w12 A12 c12 es m' ho12 hm12 hk12 rfl)
        clear ho12 hm12 hk12 HFN
        go_wp2
        go_ret2
        exact HD.out
    · have HAE : Hid (appE S r = 11) := by unfold Hid appE; rw [hv, hsl, if_neg hle]; rfl
      have HD : Hid (∀ k, AppPost w n b pw g qs V (appS S r) (appM g key no S r m) (appE S r) (.returned (.tuple #[.slice none 0 0, .int .i64 11])) (w5.drewN k)) := by
        unfold Hid appS appM
        intro k
        rw [HAE.out]
        have hbd : Below w5.heap.size w5 (w5.drewN k) := below_drewN' (Below.refl _ _) k
        exact ⟨none, 0, V, rfl, World.ownsRow_nil _ _ _ _, .inl rfl, HL5.out.below0 hbd, HM5.out.below0 hbd, belKept0 (HB5.out.trans (hbd.mono HB5.out.size))⟩
      clear hv hsl hlm hV
      go_wp2
      go_quiet (fail)
      go_wp2
      go_ret2
      exact HD.out _
end
end Go.Proofs.YtaggiceejcegdaaGreat
namespace Go.Proofs.YtaggiceejcegdaaGreat
set_option linter.unusedVariables false
open Go.RowKit

section
variable {w w' : World} {n b pw : Nat} {S : LogS} {V : Option Nat} {g : Geo} {qs : List Nat} {m : MS}
/-- Whether New makes a log. -/
def newB (gen : Nat) (fr sec : Int) (l : List Rec) : Bool := decide (0 ≤ fr) && decide (0 ≤ sec) && logV l && decide (((secsL l).length : Int) ≤ sec) && (decide (l.length = 0) || decide ((l.headD zRec).gen = gen))
def NewPostW (w : World) (gen : Nat) (fr sec : Int) (l : List Rec) (e : Ending) (w' : World) : Prop :=
  if newB gen fr sec l then ∃ b V, e = .returned (.tuple #[.pointer (some ⟨b, 0, none⟩), .int .i64 0]) ∧ LogM w' w.heap.size b V ⟨gen, fr, sec, (secsL l).length, l⟩ ∧ Below w.heap.size w w'
  else e = .returned (.tuple #[.pointer none, .int .i64 1]) ∧ Below w.heap.size w w'
theorem newB_no {gen : Nat} {fr sec : Int} {l : List Rec} {w w' : World} (h : newB gen fr sec l = false) (hb : Below w.heap.size w w') : NewPostW w gen fr sec l (.returned (.tuple #[.pointer none, .int .i64 1])) w' := by
  unfold NewPostW; rw [h]; exact ⟨rfl, hb⟩
set_option maxRecDepth 100000 in
set_option maxHeartbeats 8000000 in
theorem wnew_any (gen : Nat) (fr sec : Int) (l : List RS) (A : Option Addr) (c : Nat) (w : World) (h : RcsR w w.heap.size A l) (ht : ∀ x ∈ l, Tiny x.r) (hok : ∀ x ∈ l, x.r.Ok) (hl : l.length ≤ 100) :
    Calls Tryz.prog 12 #[.int .u64 gen, .int .i64 fr, .int .i64 sec, .slice A l.length c] w (NewPostW w gen fr sec (l.map RS.r)) := by
  obtain ⟨i0, hi, hz0', hz1, hz2⟩ := info_parts info_rec
  have HSC := Lib.hid (sectors_any l ht hok A c w h (by omega))
  have HH := Lib.hid h
  have HT := Lib.hid ht
  clear h ht hok
  go_enter Tryz.func12, Tryz.ntmps12
  go_wp2_with fail
  refine HSC.out.mono ?_
  rintro e w1 ⟨A1, c1, ss, rfl, hss, ho1, hb1⟩
  have HB1 := Lib.hid hb1
  have HNO := Lib.hid (fun h => newB_no (gen := gen) (fr := fr) (sec := sec) (l := l.map RS.r) h hb1)
  have HXS := Lib.hid hss
  have hh1 := HH.out.up hb1
  have HH1 := Lib.hid hh1
  clear ho1 hb1 hss HSC hh1
  by_cases hf : fr < 0
  · have HN : Hid (newB gen fr sec (l.map RS.r) = false) := by unfold Hid newB; rw [decide_eq_false (by omega : ¬ 0 ≤ fr)]; rfl
    go_wp2
    go_ret2
    exact HNO.out HN.out
  · have d1 : decide (fr < 0) = false := decide_eq_false hf
    by_cases hs : sec < 0
    · have HN : Hid (newB gen fr sec (l.map RS.r) = false) := by unfold Hid newB; rw [decide_eq_false (by omega : ¬ 0 ≤ sec), Bool.and_false]; rfl
      go_wp2
      go_ret2
      exact HNO.out HN.out
    · have d2 : decide (sec < 0) = false := decide_eq_false hs
      cases hv : logV (l.map RS.r)
      · have HN : Hid (newB gen fr sec (l.map RS.r) = false) := by unfold Hid newB; rw [hv, Bool.and_false]; rfl
        have HSE : Hid (secE (l.map RS.r) = 1) := by unfold Hid secE; rw [hv]; rfl
        rw [HSE.out]
        clear hv
        go_wp2
        go_ret2
        exact HNO.out HN.out
      · have HSE : Hid (secE (l.map RS.r) = 0) := by unfold Hid secE; rw [hv]; rfl
        have HSL : Hid (ss.length = (secsL (l.map RS.r)).length) := by unfold Hid; have := congrArg List.length HXS.out; rw [List.length_map] at this; rw [this]; unfold secLs; rw [hv]; rfl
        rw [HSE.out]
        by_cases hle : (ss.length : Int) ≤ sec
        · have hN4 : newB gen fr sec (l.map RS.r) = (decide ((l.map RS.r).length = 0) || decide (((l.map RS.r).headD zRec).gen = gen)) := by
            unfold newB
            rw [hv, decide_eq_true (by omega : 0 ≤ fr), decide_eq_true (by omega : 0 ≤ sec), ← HSL.out, decide_eq_true hle]; rfl
          have HN4 := Lib.hid hN4
          have HV := Lib.hid hv
          clear hv hN4
          by_cases h0 : l.length = 0
          · have HN : Hid (newB gen fr sec (l.map RS.r) = true) := by unfold Hid; rw [HN4.out, List.length_map, decide_eq_true h0]; rfl
            have d3 : decide ((0 : Int) < (l.length : Int)) = false := decide_eq_false (by omega)
            have hbz := HB1.out.size
            have hrl := World.ownsRow_lit (base := w.heap.size) (e := 103) (size := 5) w1 #[.int .u64 gen, .int .i64 fr, .int .i64 sec, .slice none 0 0, .int .i64 (ss.length : Int)] 1 hbz (by decide) rfl
            have H0 : Hid (∃ (A9 : Option Addr) (c9 : Nat) (ys : List RS), LogMem (w1.alloc (.cells #[.int .u64 gen, .int .i64 fr, .int .i64 sec, .slice none 0 0, .int .i64 (ss.length : Int)] 103)) w.heap.size w1.heap.size A9 c9 ys ⟨gen, fr, sec, ss.length, (l.map RS.r).take 0⟩ ∧ Below w.heap.size w (w1.alloc (.cells #[.int .u64 gen, .int .i64 fr, .int .i64 sec, .slice none 0 0, .int .i64 (ss.length : Int)] 103))) := ⟨none, 0, [], ⟨hrl, rfl, RcsO.nil _ _⟩, HB1.out.alloc hbz _⟩
            clear hrl
            go_wp2
            go_loopw [58] (fun i wr => ∃ k : Nat, k ≤ l.length ∧ i = .int .i64 k ∧ Hid (∃ (A9 : Option Addr) (c9 : Nat) (ys : List RS), LogMem wr w.heap.size w1.heap.size A9 c9 ys ⟨gen, fr, sec, ss.length, (l.map RS.r).take k⟩ ∧ Below w.heap.size w wr)) (fun i _ => l.length - (intOf i).toNat)
            case atStart => exact ⟨0, Nat.zero_le _, rfl, H0⟩
            case round =>
              obtain ⟨k, hk, rfl, HW⟩ := hrel
              obtain rfl : k = l.length := by omega
              have HD : Hid (NewPostW w gen fr sec (l.map RS.r) (.returned (.tuple #[.pointer (some ⟨w1.heap.size, 0, none⟩), .int .i64 0])) wr) := by
                obtain ⟨A9, c9, ys, hlm, hbw⟩ := HW.out
                rw [List.take_of_length_le (by simp), HSL.out] at hlm
                unfold Hid NewPostW
                rw [HN.out]
                exact ⟨w1.heap.size, _, rfl, ⟨A9, c9, ys, hlm, rfl⟩, hbw⟩
              go_wp2
              go_ret2
              exact HD.out
          · have hh2 := HH1.out
            obtain ⟨g0, o0, rfl, hg0, j0, _, _, _, _⟩ := hh2.rd.rs (show 0 < l.length by omega)
            simp only [Nat.zero_mul, Nat.add_zero] at j0
            have hhd : (l.map RS.r).headD zRec = l[0].r := by cases l with | nil => simp at h0 | cons x l => rfl
            have d3 : decide ((0 : Int) < (l.length : Int)) = true := decide_eq_true (by omega)
            clear hh2
            by_cases hg : l[0].r.gen = gen
            · have HN : Hid (newB gen fr sec (l.map RS.r) = true) := by unfold Hid; rw [HN4.out, hhd, decide_eq_true hg, Bool.or_true]
              rw [hg] at j0
              clear hhd
              have hbz := HB1.out.size
              have hrl := World.ownsRow_lit (base := w.heap.size) (e := 103) (size := 5) w1 #[.int .u64 gen, .int .i64 fr, .int .i64 sec, .slice none 0 0, .int .i64 (ss.length : Int)] 1 hbz (by decide) rfl
              have H0 : Hid (∃ (A9 : Option Addr) (c9 : Nat) (ys : List RS), LogMem (w1.alloc (.cells #[.int .u64 gen, .int .i64 fr, .int .i64 sec, .slice none 0 0, .int .i64 (ss.length : Int)] 103)) w.heap.size w1.heap.size A9 c9 ys ⟨gen, fr, sec, ss.length, (l.map RS.r).take 0⟩ ∧ Below w.heap.size w (w1.alloc (.cells #[.int .u64 gen, .int .i64 fr, .int .i64 sec, .slice none 0 0, .int .i64 (ss.length : Int)] 103))) := ⟨none, 0, [], ⟨hrl, rfl, RcsO.nil _ _⟩, HB1.out.alloc hbz _⟩
              clear hrl
              go_wp2
              go_loopw [58] (fun i wr => ∃ k : Nat, k ≤ l.length ∧ i = .int .i64 k ∧ Hid (∃ (A9 : Option Addr) (c9 : Nat) (ys : List RS), LogMem wr w.heap.size w1.heap.size A9 c9 ys ⟨gen, fr, sec, ss.length, (l.map RS.r).take k⟩ ∧ Below w.heap.size w wr)) (fun i _ => l.length - (intOf i).toNat)
              case atStart => exact ⟨0, Nat.zero_le _, rfl, H0⟩
              case round =>
                obtain ⟨k, hk, rfl, HW⟩ := hrel
                by_cases hlt : k < l.length
                · obtain ⟨A9, c9, ys, hlm, hbw⟩ := HW.out
                  have hyb : ys.length ≤ 100 := by rw [hlm.len]; simp; omega
                  have hXW := HH.out.up hbw
                  obtain ⟨g7, o7, rA, hg7, j0', j1, j2, j3, j4⟩ := hXW.rd.rs hlt
                  injection rA with rA
                  injection rA with r1 r2
                  subst r1
                  subst r2
                  clear j0
                  have hxr := hXW.each _ (List.getElem_mem hlt)
                  have hbx : Below wr.heap.size wr (wr.alloc (.cells #[.int .u64 l[k].r.gen, .int .u64 l[k].r.seq, .slice l[k].A l[k].r.ws.length l[k].c, .slice l[k].D l[k].r.ms.length l[k].d, .slice l[k].N l[k].r.note.length l[k].n] 28)).drew := ((Below.refl _ _).alloc (Nat.le_refl _) _).drew
                  have htk := HT.out _ (List.getElem_mem hlt)
                  have HC := Lib.hid (copied_any l[k].r l[k].A l[k].D l[k].N l[k].c l[k].d l[k].n (wr.alloc (.cells #[.int .u64 l[k].r.gen, .int .u64 l[k].r.seq, .slice l[k].A l[k].r.ws.length l[k].c, .slice l[k].D l[k].r.ms.length l[k].d, .slice l[k].N l[k].r.note.length l[k].n] 28)).drew (hxr.up hbx) htk)
                  have HE : Hid ((l.map RS.r).take (k + 1) = (l.map RS.r).take k ++ [l[k].r]) := by
                    unfold Hid
                    rw [List.take_succ_eq_append_getElem (by simpa using hlt)]; simp
                  have PB := (Cells5.new wr 28 (.int .u64 l[k].r.gen) (.int .u64 l[k].r.seq) (.slice l[k].A l[k].r.ws.length l[k].c) (.slice l[k].D l[k].r.ms.length l[k].d) (.slice l[k].N l[k].r.note.length l[k].n))
                  have p0 := PB.c0; have p1 := PB.c1; have p2 := PB.c2; have p3 := PB.c3; have p4 := PB.c4
                  have HLM := Lib.hid hlm
                  have HBX := Lib.hid hbx
                  have HBW := Lib.hid hbw
                  have hll := (IsT.own hlm.obj).lt
                  have l3 := (((Below.refl wr.heap.size wr).alloc (Nat.le_refl _) (.cells #[.int .u64 l[k].r.gen, .int .u64 l[k].r.seq, .slice l[k].A l[k].r.ws.length l[k].c, .slice l[k].D l[k].r.ms.length l[k].d, .slice l[k].N l[k].r.note.length l[k].n] 28)).cell (p := ⟨w1.heap.size, 3, none⟩) hll).trans hlm.cells.2.2.2.1
                  generalize l[k] = x at *
                  clear hXW hxr PB hbx hlm hbw HW
                  go_upto_region 8 with (fail)
                  go_region_law (first
                    | (refine qstep_append_own_at rfl (.tmp 66) (.tmp 69) 22 rfl w.heap.size 28 i0 _ 5 88 Tryz.underlying22 hi hz0' hz1 hz2 rfl (by decide) (.slice A9 ys.length c9) ys.length (flatR ys) rfl (HLM3.out.own.own.alloc _) ⟨w3.heap.size, 0, none⟩ 1 1 [.int .u64 x.r.gen, .int .u64 x.r.seq, .slice A3 x.r.ws.length c3, .slice D3 x.r.ms.length d3, .slice N3 x.r.note.length n3] rfl rfl (World.news_of_block (heap_alloc_new _ _)) (RS.one ⟨x.r, A3, c3, D3, d3, N3, n3⟩) ?d1 ?d2 ?d3 ?_
                       case d1 => unfold maxLen; omega
                       case d2 => omega
                       case d3 => first | (simp; omega) | omega
                       intro v' w9 hown hgrow hat
                       obtain ⟨A10, c10, hv⟩ := own_form hown
                       subst hv
                       have hba : Below w3.heap.size w3 (w3.alloc (.cells #[.int .u64 x.r.gen, .int .u64 x.r.seq, .slice A3 x.r.ws.length c3, .slice D3 x.r.ms.length d3, .slice N3 x.r.note.length n3] 28)) := (Below.refl _ _).alloc (Nat.le_refl _) _
                       have hg : (w3.alloc (.cells #[.int .u64 x.r.gen, .int .u64 x.r.seq, .slice A3 x.r.ws.length c3, .slice D3 x.r.ms.length d3, .slice N3 x.r.note.length n3] 28)).grownBy w9 (Value.slice A9 ys.length c9).ownBlock := ⟨hgrow.os, hgrow.tape, hgrow.output, hgrow.size, hgrow.block⟩
                       obtain ⟨hpm, ho9⟩ := HLM3.out.push (x := ⟨x.r, A3, c3, D3, d3, N3, n3⟩) HO3.out hown hg
                       have fz := ho9.frozenAt 3
                       have cz := (World.ownsRow.cellAt ho9 3 (by decide)).trans (show _ = some _ from rfl)
                       have HFIN : Hid (∃ (A9' : Option Addr) (c9' : Nat) (ys' : List RS), LogMem (w9.setCell ⟨w1.heap.size, 3, none⟩ (.slice A10 (ys.length + 1) c10)) w.heap.size w1.heap.size A9' c9' ys' ⟨gen, fr, sec, ss.length, (l.map RS.r).take (k + 1)⟩ ∧ Below w.heap.size w (w9.setCell ⟨w1.heap.size, 3, none⟩ (.slice A10 (ys.length + 1) c10))) := by
                         rw [HE.out]
                         refine ⟨A10, c10, _, hpm, ?_⟩
                         have h1 := HBW3.out.trans (hba.mono HBW3.out.size)
                         exact (h1.grown hg (Nat.le_trans HBW3.out.size hba.size) (fun k hk => own_low (HLM3.out.own.own) hk)).setCell (p := ⟨w1.heap.size, 3, none⟩) hbz _
                       clear hown hgrow hat hba hg hpm ho9)
                    | (go_simp
                       go_at_call 48
                       refine HC.out.mono ?_
                       rintro e w3 ⟨A3, c3, D3, d3, N3, n3, rfl, ho3, hb3⟩
                       have HO3 := Lib.hid ho3
                       have HB3 := Lib.hid (HBX.out.trans (hb3.mono HBX.out.size))
                       have HBW3 := Lib.hid (HBW.out.trans (HB3.out.mono HBW.out.size))
                       have HLM3 := Lib.hid (HLM.out.kept (belKept0 (S := fun _ => False) HB3.out) (fun h => h) (fun _ _ h => h) (Free.none _ _) (Free.none _ _) (Free.none _ _))
                       have l3' := HLM3.out.cells.2.2.2.1
                       have l3a := ((((Below.refl w3.heap.size w3).alloc (Nat.le_refl _) (.cells #[.int .u64 x.r.gen, .int .u64 x.r.seq, .slice A3 x.r.ws.length c3, .slice D3 x.r.ms.length d3, .slice N3 x.r.note.length n3] 28)).cell (p := ⟨w1.heap.size, 3, none⟩) (IsT.own HLM3.out.obj).lt)).trans l3'
                       have hzz3 : w.heap.size ≤ w3.heap.size := HBW3.out.size
                       clear ho3 hb3))
                  all_goals
                    go_wp2
                    go_roundw
                    case rel => exact ⟨k + 1, hlt, by go_num, HFIN.out⟩
                    case measure => simp [intOf]; omega
                · obtain rfl : k = l.length := by omega
                  have HD : Hid (NewPostW w gen fr sec (l.map RS.r) (.returned (.tuple #[.pointer (some ⟨w1.heap.size, 0, none⟩), .int .i64 0])) wr) := by
                    obtain ⟨A9, c9, ys, hlm, hbw⟩ := HW.out
                    rw [List.take_of_length_le (by simp), HSL.out] at hlm
                    unfold Hid NewPostW
                    rw [HN.out]
                    exact ⟨w1.heap.size, _, rfl, ⟨A9, c9, ys, hlm, rfl⟩, hbw⟩
                  go_wp2
                  go_ret2
                  exact HD.out
            · have HN : Hid (newB gen fr sec (l.map RS.r) = false) := by unfold Hid; rw [HN4.out, hhd, decide_eq_false hg, List.length_map, decide_eq_false h0]; rfl
              have e9 : (((l[0].r.gen : Nat) : Int) != (gen : Int)) = true := by simpa using fun h => hg (by omega)
              clear hhd
              go_wp2
              go_ret2
              exact HNO.out HN.out
        · have HN : Hid (newB gen fr sec (l.map RS.r) = false) := by unfold Hid newB; rw [← HSL.out, decide_eq_false hle, Bool.and_false]; rfl
          clear hv
          go_wp2
          go_ret2
          exact HNO.out HN.out
end
end Go.Proofs.YtaggiceejcegdaaGreat

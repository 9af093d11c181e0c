/-
  WHAT IS SHOWN: what New of the reference's disk returns and leaves. plain facts on memory, of no program: two disks of the reference that share a power supply. plain facts on memory, of no program: several disks of the reference that share a power supply. what Read of wal returns and leaves. Conditions: as each theorem names them.
-/
import Derived.Test.YtaggiceejcegdaaGreatNb32
import Derived.Deep.RegionHeld3
import Derived.Test.YtaggiceejcegdaaGreatNb26
namespace Go.Proofs.YtaggiceejcegdaaGreat
set_option linter.unusedVariables false
open Go.RowKit

theorem step_append_own {P : Program} {w : World} {ops : Array Oper} {o : Oper} {a : Act} {K : Act → World → Prop} {Q : Exit → Act → World → Prop} {E : Prop} (hgd : o.guard = none) (s x : Operand) (t : TypeId)
    (ho : o.op = .call { callee := .builtin .append, args := #[s, x], argTypes := #[t, t] })
    (base : Nat) (e : TypeId) (i : TypeInfo) (z : Value) (size bytes : Nat) (ht : P.underlying t = some (.slice e)) (hi : P.info? e = some i) (hz : i.zero = some z)
    (hsize : i.size = size) (hby : i.bytes = bytes) (hzs : z.cells.size = size) (hsz : 0 < size)
    (v : Value) (n : Nat) (xs : List Value) (hs : a.eval s = v) (hown : w.ownsRow base e size v n xs)
    (ad : Addr) (m c : Nat) (news : List Value) (hx : a.eval x = .slice (some ad) m c) (hl : news.length = m * size) (hnews : ∀ j u, news[j]? = some u → w.cell? (ad.add j) = some u) (h1 : ∀ u ∈ news, u.oneCell' = true)
    (h63 : n + m ≤ maxLen) (hbytes : (n + m) * bytes ≤ 140737488355328) (hbase : base ≤ w.heap.size)
    (h : ∀ v' w', w'.ownsRow base e size v' (n + m) (xs ++ news) → w.grownBy w' v.ownBlock → (v' = .slice none 0 0 ↔ v = .slice none 0 0 ∧ m = 0) → K (a.put o.dst v') w') :
    if Region.wanted o (yielded ops a.tmps) = true then Oper.wp P o a w K Q else E := by
  have hw : Region.wanted o (yielded ops a.tmps) = true := by simp [Region.wanted, hgd]
  rw [if_pos hw]
  exact wp_append_own w s x t ho base e i z size bytes ht hi hz hsize hby hzs hsz v n xs hs hown ad m c news hx hl hnews h1 h63 hbytes hbase h
theorem rcache_grown {w w' : World} {B : Bd} {p b base : Nat} {g : Geo} {LM : List Sec} {O : List OpV} (h : RCacheM w B p g LM O) (hg : w.grownBy w' (Value.slice (some ⟨b, 0, none⟩) 0 0).ownBlock) (hr : w.ownsRow base 138 3 (.slice (some ⟨b, 0, none⟩) 0 0) 0 []) : RCacheM w' B p g LM O := by
  have hk := (Kept.refl (fun k => k = b) w).grown hg (fun i _ e => by simp [Value.ownBlock] at e; omega)
  exact h.keptT (ts := [138]) (B' := Bd.of 0) (KeptT.of hk (fun k _ e => by have e' : k = b := e; subst e'; exact ⟨⟨Nat.zero_le _, fun h => h⟩, HasT.mem (IsT.own hr) (by simp)⟩)) (by decide)
def RDNewPost (w : World) (B : Bd) (pw : Nat) (g : Geo) (F : List Flt) (P : Pow) (e : Ending) (w' : World) : Prop :=
  ∃ q, e = .returned (.tuple #[.pointer (some ⟨q, 0, none⟩), .int .i64 0]) ∧ RDPm w' B q pw g F (newS P) P (blankL g) [] ∧ Below w.heap.size w w'
section
variable {w w' : World} {B : Bd} {pw : Nat} {g : Geo} {P R : Pow}
set_option maxRecDepth 100000 in
set_option maxHeartbeats 4000000 in
theorem rdnew_yes (l : List Flt) (A : Option Addr) (c : Nat) (hv : validG g = true) (hvl : validF l = true) (hr : Rd w w.heap.size A (flatF l)) (hn : l.length * 24 ≤ 140737488355328) (hp : RPow w B pw R) (hrel : RelP P R) (hB : B.top ≤ w.heap.size) :
    Calls Tryz.prog 46 #[.agg #[.int .i64 g.random, .int .i64 g.bands, .int .i64 g.tracks, .int .i64 g.sectors, .int .i64 g.overlap], .slice A l.length c, .pointer (some ⟨pw, 0, none⟩)] w (RDNewPost w B pw g l P) := by
  have HF := Lib.hid (blank_fit ((validG_iff g).1 hv))
  have HN := Lib.hid (fun W => rnew_yes g hv W)
  have hb0 : Below w.heap.size w (w.alloc (.cells #[.int .i64 g.random, .int .i64 g.bands, .int .i64 g.tracks, .int .i64 g.sectors, .int .i64 g.overlap] 97)) := (Below.refl _ _).alloc (Nat.le_refl _) _
  have HFV : Hid (∀ W, Below w.heap.size w W → Calls Tryz.prog 53 #[.slice A l.length c] W fun e w' => e = .returned (.bool true) ∧ Below W.heap.size W w') := by
    unfold Hid; intro W hW; have := rfvalid_any l A c W ((hr.below hW (Nat.le_refl _)).more hW.size) (by omega); rw [hvl] at this; exact this
  have HPW : Hid (∀ W, Below w.heap.size w W → RPow W B pw R ∧ W.cell? ⟨pw, 3, none⟩ = some (.int .i64 R.fails)) := by
    unfold Hid; intro W hW; exact ⟨hp.below0 hW, (hp.below0 hW).cells.2.2.2⟩
  have HRD := Lib.hid hr
  have HRL := Lib.hid hrel
  have hlp := (IsT.own hp.obj).lt
  have pw0 := hp.cells.2.2.2
  clear hv hvl hr hp hrel
  go_enter Tryz.func46, Tryz.ntmps46
  go_wp2_with fail
  refine (HN.out _).mono ?_
  rintro e w1 ⟨m, bs, rfl, hm, hmb, hbb, hb1⟩
  have HM := Lib.hid hm
  have PG := (Cells5.new w 97 (.int .i64 g.random) (.int .i64 g.bands) (.int .i64 g.tracks) (.int .i64 g.sectors) (.int .i64 g.overlap)).below hb1 (by simp)
  have hbl1 := hb0.trans (hb1.mono hb0.size)
  clear hm
  go_wp2_with fail
  refine (HFV.out _ hbl1).mono ?_
  rintro e w2 ⟨rfl, hb2⟩
  have hbl2 := hbl1.trans (hb2.mono hbl1.size)
  have hz1 : w.heap.size < w1.heap.size := by have := hb1.size; simp at this; omega
  have PG2 := PG.below hb2 hz1
  have hz2 : w.heap.size < w2.heap.size := Nat.lt_of_lt_of_le hz1 hb2.size
  have HM2 := Lib.hid (HM.out.below0 hb2)
  have p0 := PG2.c0; have p1 := PG2.c1; have p2 := PG2.c2; have p3 := PG2.c3; have p4 := PG2.c4
  have r3 := (HPW.out w2 hbl2).2
  have hlp2 : pw < w2.heap.size := Nat.lt_of_lt_of_le hlp hbl2.size
  have HCN : Hid (∀ W, Below w2.heap.size w2 W → Calls Tryz.prog 78 #[.pointer (some ⟨m, 0, none⟩)] W (RCNewPost W g (blankL g) [])) := by
    unfold Hid; intro W hW; exact rcnew_any (HM2.out.below0 hW) HF.out
  have hA0 : Below w2.heap.size w2 w2.drew := (Below.refl _ _).drew
  have hB0 : Below w2.heap.size w2 (w2.drew.alloc (.cells #[] 138)) := ((Below.refl w2.heap.size w2).drew).alloc (Nat.le_refl _) _
  have HFIN : Hid (∀ W p A4 c4, RCacheM W (Bd.of w2.heap.size) p g (blankL g) [] → RdT W 138 A4 (flatF l) → Below w2.heap.size w2 W →
      RDPm (W.alloc (.cells #[.int .i64 g.random, .int .i64 g.bands, .int .i64 g.tracks, .int .i64 g.sectors, .int .i64 g.overlap, .pointer (some ⟨p, 0, none⟩), .slice A4 l.length c4, .pointer (some ⟨pw, 0, none⟩), .int .u64 0, .bool false, .int .i64 R.fails, .int .i64 0, .int .i64 0, .int .i64 0, .int .i64 0, .int .i64 0] 145)) B W.heap.size pw g l (newS P) P (blankL g) [] ∧
      Below w.heap.size w (W.alloc (.cells #[.int .i64 g.random, .int .i64 g.bands, .int .i64 g.tracks, .int .i64 g.sectors, .int .i64 g.overlap, .pointer (some ⟨p, 0, none⟩), .slice A4 l.length c4, .pointer (some ⟨pw, 0, none⟩), .int .u64 0, .bool false, .int .i64 R.fails, .int .i64 0, .int .i64 0, .int .i64 0, .int .i64 0, .int .i64 0] 145))) := by
    unfold Hid; intro W p A4 c4 hc hr4 hW
    have hw24 : Below w.heap.size w W := hbl2.trans (hW.mono hbl2.size)
    have hfe : R.fails = P.fails := HRL.out.2.2.1.symm
    rw [hfe]
    have hb9 : Below W.heap.size W (W.alloc (.cells #[.int .i64 g.random, .int .i64 g.bands, .int .i64 g.tracks, .int .i64 g.sectors, .int .i64 g.overlap, .pointer (some ⟨p, 0, none⟩), .slice A4 l.length c4, .pointer (some ⟨pw, 0, none⟩), .int .u64 0, .bool false, .int .i64 P.fails, .int .i64 0, .int .i64 0, .int .i64 0, .int .i64 0, .int .i64 0] 145)) := (Below.refl _ _).alloc (Nat.le_refl _) _
    refine ⟨⟨⟨p, A4, c4, ⟨?_, Bd.nx (Nat.le_trans hB hw24.size), ?_, hr4.below0 hb9⟩⟩, ⟨R, HRL.out, (HPW.out W hw24).1.below0 hb9⟩, HF.out, short_blank _, Nat.le_trans hB (hw24.trans (hb9.mono hw24.size)).size⟩, hw24.alloc hw24.size _⟩
    · exact World.ownsRow_lit (base := B.n) (e := 145) (size := 16) W _ 1 (Nat.le_trans B.le (Nat.le_trans hB hw24.size)) (by decide) rfl
    · exact (hc.below0 hb9).mono (Bd.subOf (Nat.le_trans hB hbl2.size))
  clear PG PG2 pw0
  obtain ⟨i0, hi0, hy0, hy1, hy2⟩ := info_parts info_flt
  cases A with
  | none =>
    have hx := HRD.out.at_none
    obtain rfl : l = [] := by cases l; rfl; simp [flatF, Flt.cells] at hx
    clear hx
    go_wp2
    go_region_held3 (fun W => W.cell? ⟨w.heap.size, 0, none⟩ = some (.int .i64 g.random) ∧ W.cell? ⟨w.heap.size, 1, none⟩ = some (.int .i64 g.bands) ∧ W.cell? ⟨w.heap.size, 2, none⟩ = some (.int .i64 g.tracks) ∧ W.cell? ⟨w.heap.size, 3, none⟩ = some (.int .i64 g.sectors) ∧ W.cell? ⟨w.heap.size, 4, none⟩ = some (.int .i64 g.overlap) ∧ W.cell? ⟨pw, 3, none⟩ = some (.int .i64 R.fails))
      (first | (refine ⟨?_, ?_, ?_, ?_, ?_, ?_⟩ <;> assumption) | (simp (maxDischargeDepth := 20) [World.cell?_alloc_some, *]; done))
      ((go_at_call 78; first | (refine (HCN.out _ hA0).mono ?_; rintro e w3 ⟨p, rfl, hp3, hb3⟩; have hw3 : Below w2.heap.size w2 w3 := hA0.trans hb3; have q0_w3 := (hw3.cell (p := ⟨w.heap.size, 0, none⟩) hz2).trans p0; have q1_w3 := (hw3.cell (p := ⟨w.heap.size, 1, none⟩) hz2).trans p1; have q2_w3 := (hw3.cell (p := ⟨w.heap.size, 2, none⟩) hz2).trans p2; have q3_w3 := (hw3.cell (p := ⟨w.heap.size, 3, none⟩) hz2).trans p3; have q4_w3 := (hw3.cell (p := ⟨w.heap.size, 4, none⟩) hz2).trans p4; have q5_w3 := (hw3.cell (p := ⟨pw, 3, none⟩) hlp2).trans r3; have HP3 : Hid (RCacheM w3 (Bd.of w2.heap.size) p g (blankL g) []) := hp3; clear hp3) | (refine (HCN.out _ hB0).mono ?_; rintro e w3 ⟨p, rfl, hp3, hb3⟩; have hw3 : Below w2.heap.size w2 w3 := hB0.trans (hb3.mono (by simp)); have q0_w3 := (hw3.cell (p := ⟨w.heap.size, 0, none⟩) hz2).trans p0; have q1_w3 := (hw3.cell (p := ⟨w.heap.size, 1, none⟩) hz2).trans p1; have q2_w3 := (hw3.cell (p := ⟨w.heap.size, 2, none⟩) hz2).trans p2; have q3_w3 := (hw3.cell (p := ⟨w.heap.size, 3, none⟩) hz2).trans p3; have q4_w3 := (hw3.cell (p := ⟨w.heap.size, 4, none⟩) hz2).trans p4; have q5_w3 := (hw3.cell (p := ⟨pw, 3, none⟩) hlp2).trans r3; have HP3 : Hid (RCacheM w3 (Bd.of w2.heap.size) p g (blankL g) []) := hp3.mono ⟨by show w2.heap.size ≤ _; simp [Bd.of], fun k _ hk => ⟨Nat.le_trans (by show w2.heap.size ≤ _; simp [Bd.of]) hk.1, fun h => h⟩⟩; clear hp3)))
    · have hbA : Below w3.heap.size w3 (w3.alloc (.cells #[] 138)) := (Below.refl _ _).alloc (Nat.le_refl _) _
      have HG := Lib.hid (HFIN.out (w3.alloc (.cells #[] 138)) p (some ⟨w3.heap.size, 0, none⟩) 0 (HP3.out.below0 hbA) (RdT.nil _ _ _) (hw3.trans (hbA.mono hw3.size)))
      rw [World.size_alloc] at HG
      rename_i hheld
      clear hheld
      go_wp2
      go_ret2
      exact ⟨_, rfl, HG.out⟩
    · have HG := Lib.hid (HFIN.out w3 p (some ⟨w2.heap.size, 0, none⟩) 0 HP3.out (RdT.nil _ _ _) hw3)
      rename_i hheld
      clear hheld
      go_wp2
      go_ret2
      exact ⟨_, rfl, HG.out⟩
  | some a =>
    have hroA := World.ownsRow_lit (base := w2.heap.size) (e := 138) (size := 3) w2.drew #[] 0 (Nat.le_refl _) (by decide) rfl
    have HRO := Lib.hid hroA
    have HLA := Lib.hid (fun W (hW : Below w2.heap.size w2 W) => ((HRD.out.below (hbl2.trans (hW.mono hbl2.size)) (Nat.le_refl _)).at_add))
    clear hroA
    go_wp2
    go_region_held3 (fun W => W.cell? ⟨w.heap.size, 0, none⟩ = some (.int .i64 g.random) ∧ W.cell? ⟨w.heap.size, 1, none⟩ = some (.int .i64 g.bands) ∧ W.cell? ⟨w.heap.size, 2, none⟩ = some (.int .i64 g.tracks) ∧ W.cell? ⟨w.heap.size, 3, none⟩ = some (.int .i64 g.sectors) ∧ W.cell? ⟨w.heap.size, 4, none⟩ = some (.int .i64 g.overlap) ∧ W.cell? ⟨pw, 3, none⟩ = some (.int .i64 R.fails))
      (first | (refine ⟨?_, ?_, ?_, ?_, ?_, ?_⟩ <;> assumption) | (simp (maxDischargeDepth := 20) [World.cell?_alloc_some, *]; done))
      ((first
      | (go_at_call 78; first
        | (refine (HCN.out _ hA0).mono ?_; rintro e w3 ⟨p, rfl, hp3, hb3⟩; have hw3 : Below w2.heap.size w2 w3 := hA0.trans hb3; have q0_w3 := (hw3.cell (p := ⟨w.heap.size, 0, none⟩) hz2).trans p0; have q1_w3 := (hw3.cell (p := ⟨w.heap.size, 1, none⟩) hz2).trans p1; have q2_w3 := (hw3.cell (p := ⟨w.heap.size, 2, none⟩) hz2).trans p2; have q3_w3 := (hw3.cell (p := ⟨w.heap.size, 3, none⟩) hz2).trans p3; have q4_w3 := (hw3.cell (p := ⟨w.heap.size, 4, none⟩) hz2).trans p4; have q5_w3 := (hw3.cell (p := ⟨pw, 3, none⟩) hlp2).trans r3; have HP3 : Hid (RCacheM w3 (Bd.of w2.heap.size) p g (blankL g) []) := hp3; have HRB := Lib.hid (World.ownsRow_lit (base := w3.heap.size) (e := 138) (size := 3) w3 #[] 0 (Nat.le_refl _) (by decide) rfl); clear hp3)
        | (refine (HCN.out _ hB0).mono ?_; rintro e w3 ⟨p, rfl, hp3, hb3⟩; have hw3 : Below w2.heap.size w2 w3 := hB0.trans (hb3.mono (by simp)); have q0_w3 := (hw3.cell (p := ⟨w.heap.size, 0, none⟩) hz2).trans p0; have q1_w3 := (hw3.cell (p := ⟨w.heap.size, 1, none⟩) hz2).trans p1; have q2_w3 := (hw3.cell (p := ⟨w.heap.size, 2, none⟩) hz2).trans p2; have q3_w3 := (hw3.cell (p := ⟨w.heap.size, 3, none⟩) hz2).trans p3; have q4_w3 := (hw3.cell (p := ⟨w.heap.size, 4, none⟩) hz2).trans p4; have q5_w3 := (hw3.cell (p := ⟨pw, 3, none⟩) hlp2).trans r3; have HP3 : Hid (RCacheM w3 (Bd.of w2.heap.size) p g (blankL g) []) := hp3.mono ⟨by show w2.heap.size ≤ _; simp [Bd.of], fun k _ hk => ⟨Nat.le_trans (by show w2.heap.size ≤ _; simp [Bd.of]) hk.1, fun h => h⟩⟩; have HRB := Lib.hid (own_kept HRO.out (belKept0 (S := fun _ => False) hb3) (fun _ _ h => h)); clear hp3)
        | (refine (HCN.out _ hw4).mono ?_; rintro e w3 ⟨p, rfl, hp3, hb3⟩; have hw3 : Below w2.heap.size w2 w3 := hw4.trans (hb3.mono hw4.size); have q0_w3 := (hw3.cell (p := ⟨w.heap.size, 0, none⟩) hz2).trans p0; have q1_w3 := (hw3.cell (p := ⟨w.heap.size, 1, none⟩) hz2).trans p1; have q2_w3 := (hw3.cell (p := ⟨w.heap.size, 2, none⟩) hz2).trans p2; have q3_w3 := (hw3.cell (p := ⟨w.heap.size, 3, none⟩) hz2).trans p3; have q4_w3 := (hw3.cell (p := ⟨w.heap.size, 4, none⟩) hz2).trans p4; have q5_w3 := (hw3.cell (p := ⟨pw, 3, none⟩) hlp2).trans r3; have HGG := Lib.hid (HFIN.out w3 p A4 c4 (hp3.mono ⟨hw4.size, fun k _ hk => ⟨Nat.le_trans hw4.size hk.1, fun h => h⟩⟩) (HR4.out.below0 hb3) hw3); clear hp3))
      | (refine step_append_own rfl _ _ 48 rfl w2.heap.size 138 i0 _ 3 24 Tryz.underlying48 hi0 hy0 hy1 hy2 rfl (by decide) (.slice (some ⟨w2.heap.size, 0, none⟩) 0 0) 0 [] rfl HRO.out a l.length c (flatF l) rfl (flatF_len l) (HLA.out _ hB0) (flatF_one l) (by unfold maxLen; omega) (by omega) (by simp) ?_
         intro v4 w4 hown hgrow _
         try simp only [Nat.zero_add, List.nil_append] at hown
         obtain ⟨A4, c4, hv⟩ := own_form hown
         subst hv
         have hw4 : Below w2.heap.size w2 w4 := hB0.grown hgrow (by simp) (fun k hk => by simp [Value.ownBlock] at hk; omega)
         have q0_w4 := (hw4.cell (p := ⟨w.heap.size, 0, none⟩) hz2).trans p0; have q1_w4 := (hw4.cell (p := ⟨w.heap.size, 1, none⟩) hz2).trans p1; have q2_w4 := (hw4.cell (p := ⟨w.heap.size, 2, none⟩) hz2).trans p2; have q3_w4 := (hw4.cell (p := ⟨w.heap.size, 3, none⟩) hz2).trans p3; have q4_w4 := (hw4.cell (p := ⟨w.heap.size, 4, none⟩) hz2).trans p4; have q5_w4 := (hw4.cell (p := ⟨pw, 3, none⟩) hlp2).trans r3
         have HR4 := Lib.hid (RdT.of_own hown)
         clear hown hgrow)
      | (refine step_append_own rfl _ _ 48 rfl w3.heap.size 138 i0 _ 3 24 Tryz.underlying48 hi0 hy0 hy1 hy2 rfl (by decide) (.slice (some ⟨w3.heap.size, 0, none⟩) 0 0) 0 [] rfl HRB.out a l.length c (flatF l) rfl (flatF_len l) (HLA.out _ (hw3.alloc hw3.size _)) (flatF_one l) (by unfold maxLen; omega) (by omega) (by simp) ?_
         intro v4 w4 hown hgrow _
         try simp only [Nat.zero_add, List.nil_append] at hown
         obtain ⟨A4, c4, hv⟩ := own_form hown
         subst hv
         have hb4 : Below w3.heap.size w3 w4 := ((Below.refl _ _).alloc (Nat.le_refl _) _).grown hgrow (by simp) (fun k hk => by simp [Value.ownBlock] at hk; omega)
         have hw4 : Below w2.heap.size w2 w4 := hw3.trans (hb4.mono hw3.size)
         have q0_w4 := (hw4.cell (p := ⟨w.heap.size, 0, none⟩) hz2).trans p0; have q1_w4 := (hw4.cell (p := ⟨w.heap.size, 1, none⟩) hz2).trans p1; have q2_w4 := (hw4.cell (p := ⟨w.heap.size, 2, none⟩) hz2).trans p2; have q3_w4 := (hw4.cell (p := ⟨w.heap.size, 3, none⟩) hz2).trans p3; have q4_w4 := (hw4.cell (p := ⟨w.heap.size, 4, none⟩) hz2).trans p4; have q5_w4 := (hw4.cell (p := ⟨pw, 3, none⟩) hlp2).trans r3
         have HGG := Lib.hid (HFIN.out w4 p A4 c4 (HP3.out.below0 hb4) (RdT.of_own hown) hw4)
         clear hown hgrow)
      | (refine step_append_own rfl _ _ 48 rfl w2.heap.size 138 i0 _ 3 24 Tryz.underlying48 hi0 hy0 hy1 hy2 rfl (by decide) (.slice (some ⟨w2.heap.size, 0, none⟩) 0 0) 0 [] rfl HRB.out a l.length c (flatF l) rfl (flatF_len l) (HLA.out _ hw3) (flatF_one l) (by unfold maxLen; omega) (by omega) hw3.size ?_
         intro v4 w4 hown hgrow _
         try simp only [Nat.zero_add, List.nil_append] at hown
         obtain ⟨A4, c4, hv⟩ := own_form hown
         subst hv
         have hw4 : Below w2.heap.size w2 w4 := hw3.grown hgrow hw3.size (fun k hk => by simp [Value.ownBlock] at hk; omega)
         have q0_w4 := (hw4.cell (p := ⟨w.heap.size, 0, none⟩) hz2).trans p0; have q1_w4 := (hw4.cell (p := ⟨w.heap.size, 1, none⟩) hz2).trans p1; have q2_w4 := (hw4.cell (p := ⟨w.heap.size, 2, none⟩) hz2).trans p2; have q3_w4 := (hw4.cell (p := ⟨w.heap.size, 3, none⟩) hz2).trans p3; have q4_w4 := (hw4.cell (p := ⟨w.heap.size, 4, none⟩) hz2).trans p4; have q5_w4 := (hw4.cell (p := ⟨pw, 3, none⟩) hlp2).trans r3
         have hk4 : RCacheM w4 (Bd.of w2.heap.size) p g (blankL g) [] := rcache_grown HP3.out hgrow HRB.out
         have HGG := Lib.hid (HFIN.out w4 p A4 c4 hk4 (RdT.of_own hown) hw4)
         clear hown hgrow hk4)))
    all_goals (rename_i hheld; clear hheld; go_wp2; go_ret2; exact ⟨_, rfl, HGG.out⟩)
end
end Go.Proofs.YtaggiceejcegdaaGreat
namespace Go.Proofs.YtaggiceejcegdaaGreat
set_option linter.unusedVariables false
open Go.RowKit

section
variable {w w' : World} {B C D : Bd} {q pw p : Nat} {g : Geo} {F : List Flt} {s : DS} {P P' R : Pow} {LM : List Sec} {O : List OpV} {FA : Option Addr} {fc : Nat}
theorem RPow.lt (h : RPow w B pw R) : pw < w.heap.size := (IsT.own h.obj).lt
theorem RPow.low (h : RPow w B pw R) : B.has pw := ⟨row_low h.obj, h.px⟩
theorem RPow.mono (h : RPow w B pw R) (hs : Bd.Sub w.heap.size B C) : RPow w C pw R := ⟨own_mono h.obj hs.1, (hs.2 _ h.lt h.low).2⟩
theorem RDsk.mono (h : RDsk w B q pw g F s LM O p FA fc) (hs : Bd.Sub w.heap.size B C) : RDsk w C q pw g F s LM O p FA fc :=
  ⟨own_mono h.obj hs.1, (hs.2 _ (IsT.own h.obj).lt ⟨row_low h.obj, h.px⟩).2, h.c.mono hs, h.fl⟩
theorem RDPm.mono (h : RDPm w B q pw g F s P LM O) (hs : Bd.Sub w.heap.size B C) (hC : C.top ≤ w.heap.size) : RDPm w C q pw g F s P LM O := by
  obtain ⟨⟨p, FA, fc, hd⟩, ⟨R, hr, hp⟩, hf, hb, _⟩ := h
  exact ⟨⟨p, FA, fc, hd.mono hs⟩, ⟨R, hr, hp.mono hs⟩, hf, hb, hC⟩
theorem RDPm.move (h : RDPm w B q pw g F s P LM O) (hb : Below w.heap.size w w') (hs : Bd.Sub w.heap.size B C) (hC : C.top ≤ w'.heap.size) : RDPm w' C q pw g F s P LM O := by
  obtain ⟨⟨p, FA, fc, hd⟩, ⟨R, hr, hp⟩, hf, hsb, hB⟩ := h
  exact ⟨⟨p, FA, fc, (hd.mono hs).below0 hb⟩, ⟨R, hr, (hp.mono hs).below0 hb⟩, hf, hsb, hC⟩
theorem RDPm.types {ts : List TypeId} (h : RDPm w B q pw g F s P LM O) (hk : KeptT ts C w w') (ht : ∀ t, t ∈ [204, 200, 234, 172, 5] → t ∉ ts) (h1 : 145 ∉ ts) (h2 : 138 ∉ ts) (h3 : 131 ∉ ts) : RDPm w' B q pw g F s P LM O := by
  obtain ⟨⟨p, FA, fc, hd⟩, ⟨R, hr, hp⟩, hf, hs, hB⟩ := h
  exact ⟨⟨p, FA, fc, hd.keptT hk ht h1 h2⟩, ⟨R, hr, hp.keptT hk h3⟩, hf, hs, Nat.le_trans hB hk.size⟩
theorem RCacheM.shut (h : RCacheM w B p g LM O) {ts : List TypeId} (hk : KeptT ts C w w') (ht : 200 ∉ ts ∧ 172 ∉ ts ∧ 5 ∉ ts) (tp : IsT 131 w pw) (hd : ∀ k, k < w.heap.size → B.has k → C.has k → k = pw) : RCacheM w' B p g LM O := by
  obtain ⟨l, m, b, A, c, e, h⟩ := h
  have no : ∀ {k : Nat} {t : TypeId}, IsT t w k → t ≠ 131 → B.has k → ¬ (C.has k ∧ HasT ts w k) := fun hk' hne hB hC => (hk'.ne tp hne) (hd _ hk'.lt hB hC.1)
  exact ⟨l, m, b, A, c, e, h.kept hk (no h.typ (by decide) h.low) (KeptT.no h.med.types.1 ht.1) (no h.med.types.2 (by decide) h.lb) (KeptT.free ht.2.1) (KeptT.free ht.2.2)⟩
theorem RDsk.shut (h : RDsk w B q pw g F s LM O p FA fc) (hk : KeptT RDT C w w') (tp : IsT 131 w pw) (hd : ∀ k, k < w.heap.size → B.has k → C.has k → k = pw) : RDsk w' B q pw g F s LM O p FA fc :=
  ⟨own_kept h.obj hk (fun k e => by
      simp [Value.ownBlock] at e; subst e
      exact fun hC => ((IsT.own h.obj).ne tp (by decide)) (hd _ (IsT.own h.obj).lt ⟨row_low h.obj, h.px⟩ hC.1)), h.px, h.c.shut hk (by unfold RDT; decide) tp hd, h.fl.kept hk (KeptT.free (by unfold RDT; decide))⟩
theorem RDPm.other (h : RDPm w B q pw g F s P LM O) (hp : ∃ R', RelP P' R' ∧ RPow w' C pw R') (hk : KeptT RDT C w w') (hs : Bd.Sub w.heap.size B D) (hn : C.n = D.n) (hD : D.top ≤ w'.heap.size) (hd : ∀ k, k < w.heap.size → D.has k → C.has k → k = pw) : RDPm w' D q pw g F s P' LM O := by
  obtain ⟨⟨p, FA, fc, hd'⟩, ⟨R, hr, hp'⟩, hf, hb, hB⟩ := h
  obtain ⟨R', hr', hp2⟩ := hp
  exact ⟨⟨p, FA, fc, (hd'.mono hs).shut hk (IsT.own hp'.obj) hd⟩, ⟨R', hr', by rw [← hn]; exact hp2.obj, (hp'.mono hs).px⟩, hf, hb, hD⟩
end
structure RTwo (w : World) (n pw q0 q1 : Nat) (g : Geo) (F0 F1 : List Flt) (s0 s1 : DS) (P : Pow) (L0 L1 : List Sec) (O0 O1 : List OpV) (S0 S1 : Nat → Prop) (hn : n ≤ w.heap.size) : Prop where
  a : RDPm w (Bd.on n w.heap.size S0 hn) q0 pw g F0 s0 P L0 O0
  b : RDPm w (Bd.on n w.heap.size S1 hn) q1 pw g F1 s1 P L1 O1
  no : ∀ k, k < w.heap.size → S0 k → S1 k → k = pw
def RTwoM (w : World) (n pw q0 q1 : Nat) (g : Geo) (F0 F1 : List Flt) (s0 s1 : DS) (P : Pow) (L0 L1 : List Sec) (O0 O1 : List OpV) : Prop := ∃ S0 S1 hn, RTwo w n pw q0 q1 g F0 F1 s0 s1 P L0 L1 O0 O1 S0 S1 hn
section
variable {w w' : World} {n pw q0 q1 : Nat} {g : Geo} {F0 F1 : List Flt} {s0 s1 : DS} {P : Pow} {L0 L1 : List Sec} {O0 O1 : List OpV} {S0 S1 : Nat → Prop} {hn : n ≤ w.heap.size}
theorem RTwo.step {s' : DS} {P' : Pow} {L' : List Sec} {O' : List OpV} (h : RTwo w n pw q0 q1 g F0 F1 s0 s1 P L0 L1 O0 O1 S0 S1 hn) (ha : RDPm w' (Bd.on n w.heap.size S0 hn) q0 pw g F0 s' P' L' O') (hk : KeptT RDT (Bd.on n w.heap.size S0 hn) w w') :
    ∃ S0' S1' hn', RTwo w' n pw q0 q1 g F0 F1 s' s1 P' L' L1 O' O1 S0' S1' hn' := by
  have hsz := hk.size
  refine ⟨fun k => S0 k ∨ w.heap.size ≤ k, fun k => S1 k ∧ k < w.heap.size, Nat.le_trans hn hsz, ?_, ?_, ?_⟩
  · refine ha.mono ⟨Nat.le_refl _, fun k hk' hh => ?_⟩ (Nat.le_refl _)
    refine (Bd.on_has hk').2 ⟨hh.1, ?_⟩
    by_cases h2 : k < w.heap.size
    · exact .inl ((Bd.on_has h2).1 hh).2
    · exact .inr (by omega)
  · refine h.b.other ha.p hk ⟨Nat.le_refl _, fun k hk' hh => ?_⟩ rfl (Nat.le_refl _) (fun k hk' h1 h0 => ?_)
    · exact (Bd.on_has (by omega)).2 ⟨hh.1, ((Bd.on_has hk').1 hh).2, hk'⟩
    · exact h.no k hk' ((Bd.on_has hk').1 h0).2 ((Bd.on_has (by omega)).1 h1).2.1
  · rintro k hk' (h0 | h0) ⟨h1, h2⟩
    · exact h.no k h2 h0 h1
    · omega
theorem RTwoM.below (h : RTwoM w n pw q0 q1 g F0 F1 s0 s1 P L0 L1 O0 O1) (hb : Below w.heap.size w w') : RTwoM w' n pw q0 q1 g F0 F1 s0 s1 P L0 L1 O0 O1 := by
  obtain ⟨S0, S1, hn, h⟩ := h
  have hz := hb.size
  refine ⟨fun k => S0 k ∧ k < w.heap.size, fun k => S1 k ∧ k < w.heap.size, Nat.le_trans hn hz, ⟨h.a.move hb ⟨Nat.le_refl _, fun k hk hh => ?_⟩ (Nat.le_refl _), h.b.move hb ⟨Nat.le_refl _, fun k hk hh => ?_⟩ (Nat.le_refl _), fun k hk h0 h1 => h.no k h0.2 h0.1 h1.1⟩⟩
  · have := (Bd.on_has hk).1 hh
    exact (Bd.on_has (by omega)).2 ⟨this.1, this.2, hk⟩
  · have := (Bd.on_has hk).1 hh
    exact (Bd.on_has (by omega)).2 ⟨this.1, this.2, hk⟩
theorem RTwoM.low (h : RTwoM w n pw q0 q1 g F0 F1 s0 s1 P L0 L1 O0 O1) : n ≤ w.heap.size := by
  obtain ⟨S0, S1, hn, h⟩ := h; exact hn
/-- Blocks of other types have changed, and some are new. -/
theorem RTwoM.typed {ts : List TypeId} {C : Bd} (h : RTwoM w n pw q0 q1 g F0 F1 s0 s1 P L0 L1 O0 O1) (hk : KeptT ts C w w')
    (ht : ∀ t, t ∈ [204, 200, 234, 172, 5] → t ∉ ts) (h1 : 145 ∉ ts) (h2 : 138 ∉ ts) (h3 : 131 ∉ ts) : RTwoM w' n pw q0 q1 g F0 F1 s0 s1 P L0 L1 O0 O1 := by
  obtain ⟨S0, S1, hn, h⟩ := h
  have hz := hk.size
  have ha := h.a.d
  have go : ∀ {q : Nat} {F : List Flt} {s : DS} {L : List Sec} {O : List OpV} {S : Nat → Prop}, RDPm w (Bd.on n w.heap.size S hn) q pw g F s P L O → RDPm w' (Bd.on n w'.heap.size (fun k => S k ∧ k < w.heap.size) (Nat.le_trans hn hz)) q pw g F s P L O := by
    intro q F s L O S hh
    have hs : Bd.Sub w.heap.size (Bd.on n w.heap.size S hn) (Bd.on n w'.heap.size (fun k => S k ∧ k < w.heap.size) (Nat.le_trans hn hz)) := ⟨Nat.le_refl _, fun k hk hh => (Bd.on_has (by omega)).2 ⟨((Bd.on_has hk).1 hh).1, ((Bd.on_has hk).1 hh).2, hk⟩⟩
    obtain ⟨⟨p, FA, fc, hd⟩, ⟨R, hr, hp⟩, hf, hb, hB⟩ := hh
    exact ⟨⟨p, FA, fc, (hd.mono hs).keptT hk ht h1 h2⟩, ⟨R, hr, (hp.mono hs).keptT hk h3⟩, hf, hb, Nat.le_refl _⟩
  exact ⟨_, _, _, go h.a, go h.b, fun k hk h0 h1 => h.no k h0.2 h0.1 h1.1⟩
theorem TwoM.typed {ts : List TypeId} {C : Bd} (h : TwoM w n pw q0 q1 g F0 F1 s0 s1 P L0 L1 O0 O1) (hk : KeptT ts C w w')
    (ht : ∀ t, t ∈ [180, 197, 216, 182, 3, 26, 5] → t ∉ ts) (h1 : 127 ∉ ts) (h2 : 138 ∉ ts) (h3 : 120 ∉ ts) : TwoM w' n pw q0 q1 g F0 F1 s0 s1 P L0 L1 O0 O1 := by
  obtain ⟨S0, S1, hn, h⟩ := h
  have hz := hk.size
  have go : ∀ {q : Nat} {F : List Flt} {s : DS} {L : List Sec} {O : List OpV} {S : Nat → Prop}, DPm w (Bd.on n w.heap.size S hn) q pw g F s P L O → DPm w' (Bd.on n w'.heap.size (fun k => S k ∧ k < w.heap.size) (Nat.le_trans hn hz)) q pw g F s P L O := by
    intro q F s L O S hh
    have hs : Bd.Sub w.heap.size (Bd.on n w.heap.size S hn) (Bd.on n w'.heap.size (fun k => S k ∧ k < w.heap.size) (Nat.le_trans hn hz)) := ⟨Nat.le_refl _, fun k hk hh => (Bd.on_has (by omega)).2 ⟨((Bd.on_has hk).1 hh).1, ((Bd.on_has hk).1 hh).2, hk⟩⟩
    obtain ⟨⟨p, FA, fc, hd⟩, hp, hf, hb, hB⟩ := hh
    exact ⟨⟨p, FA, fc, (hd.mono hs).keptT hk ht h1 h2⟩, (hp.mono hs).keptT hk h3, hf, hb, Nat.le_refl _⟩
  exact ⟨_, _, _, go h.a, go h.b, fun k hk h0 h1 => h.no k h0.2 h0.1 h1.1⟩
end
end Go.Proofs.YtaggiceejcegdaaGreat
namespace Go.Proofs.YtaggiceejcegdaaGreat
set_option linter.unusedVariables false
open Go.RowKit

/-- A disk of the reference in memory, its state as one value. -/
abbrev RDM (w : World) (B : Bd) (q pw : Nat) (g : Geo) (F : List Flt) (d : DC) : Prop := RDPm w B q pw g F d.s d.P d.L d.O
structure RMany (w : World) (n pw : Nat) (g : Geo) (qs : List Nat) (m : MS) (S : Nat → Nat → Prop) (hn : n ≤ w.heap.size) : Prop where
  disk : ∀ (i : Nat) (v : DX) (q : Nat), m.ds[i]? = some v → qs[i]? = some q → RDM w (Bd.on n w.heap.size (S i) hn) q pw g v.F (m.dc v)
  pow : ∃ R, RelP m.P R ∧ RPow w (Bd.of n) pw R
  no : ∀ i j k, i < m.ds.length → j < m.ds.length → i ≠ j → k < w.heap.size → S i k → S j k → k = pw
  len : qs.length = m.ds.length
/-- Disks that share a power supply. -/
def RManyM (w : World) (n pw : Nat) (g : Geo) (qs : List Nat) (m : MS) : Prop := ∃ S hn, RMany w n pw g qs m S hn
section
variable {w w' : World} {B C D : Bd} {n q pw : Nat} {g : Geo} {qs : List Nat} {m : MS} {F : List Flt} {s : DS} {P P' : Pow} {L : List Sec} {O : List OpV} {S : Nat → Nat → Prop} {hn : n ≤ w.heap.size}
theorem RDPm.moveT {ts : List TypeId} (h : RDPm w B q pw g F s P L O) (hk : KeptT ts D w w') (ht : ∀ t, t ∈ [204, 200, 234, 172, 5] → t ∉ ts) (h1 : 145 ∉ ts) (h2 : 138 ∉ ts) (h3 : 131 ∉ ts) (hs : Bd.Sub w.heap.size B C) (hC : C.top ≤ w'.heap.size) : RDPm w' C q pw g F s P L O := by
  obtain ⟨⟨p, FA, fc, hd⟩, ⟨R, hr, hp⟩, hf, hsb, hB⟩ := h
  exact ⟨⟨p, FA, fc, (hd.mono hs).keptT hk ht h1 h2⟩, ⟨R, hr, (hp.mono hs).keptT hk h3⟩, hf, hsb, hC⟩
/-- One of them has worked. -/
theorem RMany.step {i : Nat} {v : DX} {d : DC} (h : RMany w n pw g qs m S hn) (hv : m.ds[i]? = some v) (hq : qs[i]? = some q) (ha : RDM w' (Bd.on n w.heap.size (S i) hn) q pw g v.F d) (hk : KeptT RDT (Bd.on n w.heap.size (S i) hn) w w') :
    RManyM w' n pw g qs (m.put i v.F d) := by
  have hsz := hk.size
  have hi : i < m.ds.length := (List.getElem?_eq_some_iff.1 hv).1
  have hP := ha.p
  refine ⟨fun j k => if j = i then (S i k ∨ w.heap.size ≤ k) else (S j k ∧ k < w.heap.size), Nat.le_trans hn hsz, ?_, ?_, ?_, by rw [h.len]; simp [MS.put]⟩
  · intro j u r hu hr
    by_cases hj : j = i
    · subst hj
      unfold MS.put at hu
      rw [List.getElem?_set_self hi] at hu
      injection hu with hu
      subst hu
      rw [hq] at hr
      injection hr with hr
      subst hr
      refine RDPm.mono ha ⟨Nat.le_refl _, fun k hk' hh => ?_⟩ (Nat.le_refl _)
      refine (Bd.on_has hk').2 ⟨hh.1, ?_⟩
      rw [if_pos rfl]
      by_cases h2 : k < w.heap.size
      · exact .inl ((Bd.on_has h2).1 hh).2
      · exact .inr (by omega)
    · unfold MS.put at hu
      rw [List.getElem?_set_ne (Ne.symm hj)] at hu
      have hjl : j < m.ds.length := (List.getElem?_eq_some_iff.1 hu).1
      refine RDPm.other (h.disk j u r hu hr) hP hk ⟨Nat.le_refl _, fun k hk' hh => ?_⟩ rfl (Nat.le_refl _) (fun k hk' h1 h0 => ?_)
      · refine (Bd.on_has (by omega)).2 ⟨hh.1, ?_⟩
        rw [if_neg hj]
        exact ⟨((Bd.on_has hk').1 hh).2, hk'⟩
      · have h1' := ((Bd.on_has (by omega)).1 h1).2
        rw [if_neg hj] at h1'
        exact h.no j i k hjl hi hj hk' h1'.1 ((Bd.on_has hk').1 h0).2
  · obtain ⟨R, hr, hp⟩ := hP
    exact ⟨R, hr, hp.obj, fun h => h⟩
  · intro a b k ha' hb' hab hk' h1 h2
    unfold MS.put at ha' hb'
    rw [List.length_set] at ha' hb'
    by_cases haI : a = i
    · subst haI
      rw [if_pos rfl] at h1
      rw [if_neg (fun e => hab e.symm)] at h2
      rcases h1 with h1 | h1
      · exact h.no a b k ha' hb' hab h2.2 h1 h2.1
      · omega
    · rw [if_neg haI] at h1
      by_cases hbI : b = i
      · subst hbI
        rw [if_pos rfl] at h2
        rcases h2 with h2 | h2
        · exact h.no a b k ha' hb' hab h1.2 h1.1 h2
        · omega
      · rw [if_neg hbI] at h2
        exact h.no a b k ha' hb' hab h1.2 h1.1 h2.1
/-- One of them. -/
theorem RManyM.at_ {i : Nat} {v : DX} (h : RManyM w n pw g qs m) (hv : m.ds[i]? = some v) (hq : qs[i]? = some q) : ∃ B : Bd, B.n = n ∧ RDM w B q pw g v.F (m.dc v) ∧ ∀ w' d, RDM w' B q pw g v.F d → KeptT RDT B w w' → RManyM w' n pw g qs (m.put i v.F d) := by
  obtain ⟨S, hn, h⟩ := h
  exact ⟨_, rfl, h.disk i v q hv hq, fun w' d hd hk => h.step hv hq hd hk⟩
/-- One more disk. -/
theorem RMany.add (h : RMany w n pw g qs m S hn) (hb : Below w.heap.size w w') (ha : RDPm w' (Bd.on n w.heap.size (fun k => k = pw) hn) q pw g F s m.P L O) : RManyM w' n pw g (qs ++ [q]) ⟨m.ds ++ [⟨F, s, L, O⟩], m.P⟩ := by
  have hsz := hb.size
  refine ⟨fun j k => if j < m.ds.length then (S j k ∧ k < w.heap.size) else (k = pw ∨ w.heap.size ≤ k), Nat.le_trans hn hsz, ?_, ?_, ?_, by simp [h.len]⟩
  · intro j u r hu hr
    by_cases hj : j < m.ds.length
    · simp only at hu
      rw [List.getElem?_append_left hj] at hu
      rw [List.getElem?_append_left (by rw [h.len]; exact hj)] at hr
      refine RDPm.move (h.disk j u r hu hr) hb ⟨Nat.le_refl _, fun k hk' hh => ?_⟩ (Nat.le_refl _)
      refine (Bd.on_has (by omega)).2 ⟨hh.1, ?_⟩
      rw [if_pos hj]
      exact ⟨((Bd.on_has hk').1 hh).2, hk'⟩
    · have hj2 : j = m.ds.length := by
        have := (List.getElem?_eq_some_iff.1 hu).1
        simp only [List.length_append, List.length_singleton] at this
        omega
      subst hj2
      simp only at hu
      rw [List.getElem?_append_right (Nat.le_refl _), Nat.sub_self] at hu
      rw [List.getElem?_append_right (by rw [h.len]; exact Nat.le_refl _), h.len, Nat.sub_self] at hr
      injection hu with hu
      subst hu
      injection hr with hr
      subst hr
      refine RDPm.mono ha ⟨Nat.le_refl _, fun k hk' hh => ?_⟩ (Nat.le_refl _)
      refine (Bd.on_has hk').2 ⟨hh.1, ?_⟩
      rw [if_neg (Nat.lt_irrefl _)]
      by_cases h2 : k < w.heap.size
      · exact .inl ((Bd.on_has h2).1 hh).2
      · exact .inr (by omega)
  · obtain ⟨R, hr, hp⟩ := h.pow
    exact ⟨R, hr, hp.below0 hb⟩
  · intro a b k ha' hb' hab hk' h1 h2
    simp only [List.length_append, List.length_singleton] at ha' hb'
    by_cases haI : a < m.ds.length
    · rw [if_pos haI] at h1
      by_cases hbI : b < m.ds.length
      · rw [if_pos hbI] at h2
        exact h.no a b k haI hbI hab h1.2 h1.1 h2.1
      · rw [if_neg hbI] at h2
        rcases h2 with h2 | h2
        · exact h2
        · omega
    · rw [if_neg haI] at h1
      by_cases hbI : b < m.ds.length
      · rw [if_pos hbI] at h2
        rcases h1 with h1 | h1
        · exact h1
        · omega
      · omega
/-- A bound for a new disk. -/
theorem RManyM.new (h : RManyM w n pw g qs m) : ∃ (B : Bd) (R : Pow), B.top ≤ w.heap.size ∧ RelP m.P R ∧ RPow w B pw R ∧ ∀ w' q F s L O, Below w.heap.size w w' → RDPm w' B q pw g F s m.P L O → RManyM w' n pw g (qs ++ [q]) ⟨m.ds ++ [⟨F, s, L, O⟩], m.P⟩ := by
  obtain ⟨S, hn, h⟩ := h
  obtain ⟨R, hr, hp⟩ := h.pow
  refine ⟨Bd.on n w.heap.size (fun k => k = pw) hn, R, Nat.le_refl _, hr, ⟨hp.obj, fun hh => hh.2 rfl⟩, fun w' q F s L O hb hd => h.add hb hd⟩
/-- Memory was made. -/
theorem RManyM.below0 (h : RManyM w n pw g qs m) (hb : Below w.heap.size w w') : RManyM w' n pw g qs m := by
  obtain ⟨S, hn, h⟩ := h
  refine ⟨fun j k => S j k ∧ k < w.heap.size, Nat.le_trans hn hb.size, ?_, (by obtain ⟨R, hr, hp⟩ := h.pow; exact ⟨R, hr, hp.below0 hb⟩), fun i j k hi hj hij _ h1 h2 => h.no i j k hi hj hij h1.2 h1.1 h2.1, h.len⟩
  intro j u r hu hr
  refine RDPm.move (h.disk j u r hu hr) hb ⟨Nat.le_refl _, fun k hk' hh => ?_⟩ (Nat.le_refl _)
  exact (Bd.on_has (by have := hb.size; omega)).2 ⟨hh.1, ((Bd.on_has hk').1 hh).2, hk'⟩
/-- Blocks of other types have changed. -/
theorem RManyM.types {ts : List TypeId} (h : RManyM w n pw g qs m) (hk : KeptT ts C w w') (ht : ∀ t, t ∈ [204, 200, 234, 172, 5] → t ∉ ts) (h1 : 145 ∉ ts) (h2 : 138 ∉ ts) (h3 : 131 ∉ ts) : RManyM w' n pw g qs m := by
  obtain ⟨S, hn, h⟩ := h
  refine ⟨fun j k => S j k ∧ k < w.heap.size, Nat.le_trans hn hk.size, ?_, (by obtain ⟨R, hr, hp⟩ := h.pow; exact ⟨R, hr, hp.keptT hk h3⟩), fun i j k hi hj hij _ h1 h2 => h.no i j k hi hj hij h1.2 h1.1 h2.1, h.len⟩
  intro j u r hu hr
  refine RDPm.moveT (h.disk j u r hu hr) hk ht h1 h2 h3 ⟨Nat.le_refl _, fun k hk' hh => ?_⟩ (Nat.le_refl _)
  exact (Bd.on_has (by have := hk.size; omega)).2 ⟨hh.1, ((Bd.on_has hk').1 hh).2, hk'⟩
/-- No disks. -/
theorem RManyM.none_ (h : ∃ R, RelP P R ∧ RPow w (Bd.of n) pw R) (hn : n ≤ w.heap.size) : RManyM w n pw g [] ⟨[], P⟩ :=
  ⟨fun _ _ => False, hn, fun i v q hv => by simp at hv, h, fun i j k hi => by simp at hi, rfl⟩
theorem RManyM.low (h : RManyM w n pw g qs m) : n ≤ w.heap.size := by obtain ⟨_, hn, _⟩ := h; exact hn
theorem RManyM.len (h : RManyM w n pw g qs m) : qs.length = m.ds.length := by obtain ⟨_, _, h⟩ := h; exact h.len
end
end Go.Proofs.YtaggiceejcegdaaGreat
namespace Go.Proofs.YtaggiceejcegdaaGreat
set_option linter.unusedVariables false
open Go.RowKit

set_option maxRecDepth 100000 in
set_option maxHeartbeats 4000000 in
theorem tryread_any {w : World} (bd bk ba bi bb : Nat) (J : Nat → World → Prop) (er : Nat → Int) (h0 : J 0 w) (HC : ∀ n W, n ≤ 8 → J n W → Calls Tryz.prog 61 #[.pointer (some ⟨bd, 0, none⟩), .pointer (some ⟨bk, 0, none⟩), .pointer (some ⟨ba, 0, none⟩), .pointer (some ⟨bi, 0, none⟩), .pointer (some ⟨bb, 0, none⟩)] W fun e w' => e = .returned (.int .i64 (er n)) ∧ J (n + 1) w') :
    Calls Tryz.prog 54 #[.func (.func 61) #[] #[.pointer (some ⟨bd, 0, none⟩), .pointer (some ⟨bk, 0, none⟩), .pointer (some ⟨ba, 0, none⟩), .pointer (some ⟨bi, 0, none⟩), .pointer (some ⟨bb, 0, none⟩)]] w fun e w' => ∃ k, e = .returned (.int .i64 (er k)) ∧ J (k + 1) w' ∧ (∀ j, j < k → er j = 16) ∧ (k = 8 ∨ (k ≤ 8 ∧ ¬ er k = 16)) := by
  have HC' := Lib.hid HC
  clear HC
  go_enter Tryz.func54, Tryz.ntmps54
  go_wp2_with fail
  refine (HC'.out 0 w (by omega) h0).mono ?_
  rintro e w1 ⟨rfl, h1⟩
  go_wp2
  go_loopw [3, 4] (fun e n wr => ∃ k : Nat, k ≤ 8 ∧ e = .int .i64 (er k) ∧ n = .int .i64 ((k + 1 : Nat) : Int) ∧ J (k + 1) wr ∧ Hid (∀ j, j < k → er j = 16)) (fun _ n _ => 10 - (intOf n).toNat)
  case atStart => exact ⟨0, by omega, rfl, rfl, h1, by unfold Hid; intro j hj; omega⟩
  case round =>
    obtain ⟨k, hk, rfl, rfl, hJ, HJ⟩ := hrel
    generalize hE : er k = E at *
    by_cases h8 : k < 8
    · by_cases h16 : E = 16
      · subst h16
        have d1 : decide (((k + 1 : Nat) : Int) < 9) = true := decide_eq_true (by omega)
        have hw : IntKind.i64.wrap (((k + 1 : Nat) : Int) + 1) = ((k + 1 + 1 : Nat) : Int) := by rw [IntKind.wrap_i64]; omega
        have HJ2 : Hid (∀ j, j < k + 1 → er j = 16) := by
          unfold Hid; intro j hj
          by_cases e : j = k
          · subst e; exact hE
          · exact HJ.out j (by omega)
        go_wp2_with fail
        refine (HC'.out (k + 1) wr (by omega) hJ).mono ?_
        rintro e w2 ⟨rfl, h2⟩
        go_wp2
        go_roundw
        case rel => exact ⟨k + 1, by omega, rfl, by go_num, h2, HJ2⟩
        case measure => simp [intOf]; omega
      · have d1 : decide (((k + 1 : Nat) : Int) < 9) = true := decide_eq_true (by omega)
        have d2 : (E == 16) = false := by simpa using h16
        go_wp2
        go_ret
        exact ⟨k, by rw [hE]; rfl, hJ, HJ.out, .inr ⟨hk, by rw [hE]; exact h16⟩⟩
    · have d1 : decide (((k + 1 : Nat) : Int) < 9) = false := decide_eq_false (by omega)
      go_wp2
      go_ret
      exact ⟨k, by rw [hE]; rfl, hJ, HJ.out, .inl (by omega)⟩
/-- Slices of bytes whose list is owned. -/
structure SlsB (w : World) (base : Nat) (A : Option Addr) (c : Nat) (ss : List Sl) : Prop where
  own : w.ownsRow base 26 1 (.slice A ss.length c) ss.length (ss.map Sl.v)
  each : ∀ s ∈ ss, RdT w 5 s.A (s.xs.map (Value.int .u8)) ∧ CapOk s.A s.xs.length s.c
theorem SlsB.rd {w : World} {base : Nat} {A : Option Addr} {c : Nat} {ss : List Sl} (h : SlsB w base A c ss) : SlsR w w.heap.size A ss := ⟨Rd.of_own h.own, fun s hs => (h.each s hs).1.rd⟩
theorem SlsB.below {w w' : World} {base : Nat} {A : Option Addr} {c : Nat} {ss : List Sl} (h : SlsB w base A c ss) (hb : Below w.heap.size w w') : SlsB w' base A c ss :=
  ⟨own_kept h.own (belKept0 (S := fun _ => False) hb) (fun _ _ h => h), fun s hs => ⟨(h.each s hs).1.below0 hb, (h.each s hs).2⟩⟩
theorem SlsB.kept {ts : List TypeId} {B : Bd} {w w' : World} {base : Nat} {A : Option Addr} {c : Nat} {ss : List Sl} (h : SlsB w base A c ss) (hk : KeptT ts B w w') (h1 : 26 ∉ ts) (h2 : 5 ∉ ts) : SlsB w' base A c ss :=
  ⟨own_ty h.own hk h1, fun s hs => ⟨(h.each s hs).1.kept hk (KeptT.free h2), (h.each s hs).2⟩⟩
def RBT : List TypeId := [127, 120, 26]
theorem dpt_rbt : ∀ t, t ∈ DPT → t ∈ RBT := by unfold DPT RBT; decide
/-- Only box bb, and blocks of disks and power supplies, have changed. -/
def KB (bb : Nat) (w w' : World) : Prop := Kept (fun k => k = bb ∨ HasT DPT w k) w w'
theorem KB.refl (bb : Nat) (w : World) : KB bb w w := Kept.refl _ w
theorem KB.trans {bb : Nat} {w w' w'' : World} (h : KB bb w w') (k : KB bb w' w'') : KB bb w w'' :=
  Kept.trans h k (fun i hi hs => by
    by_cases hh : i = bb ∨ HasT DPT w i
    · exact hh
    · have e := h.block i hi hh
      rcases hs with h1 | ⟨t, ht, cur, fr, h2⟩
      · exact .inl h1
      · exact .inr ⟨t, ht, cur, fr, e.symm.trans h2⟩)
theorem KB.of {bb : Nat} {B : Bd} {w w' : World} (h : KeptT DPT B w w') : KB bb w w' := Kept.more h (fun _ _ h => .inr h.2)
theorem KB.set {bb : Nat} {w : World} (u : Value) : KB bb w (w.setCell ⟨bb, 0, none⟩ u) := Kept.more ((Kept.refl (fun k => k = bb) w).setCell (p := ⟨bb, 0, none⟩) (fun _ => rfl) u) (fun _ _ h => .inl h)
theorem KB.rbt {bb : Nat} {w w' : World} {v : Value} {fr : Nat × Nat} (h : KB bb w w') (hb : w.heap[bb]? = some (.cells #[v] 26 fr)) : KeptT RBT (Bd.of 0) w w' :=
  KeptT.of h (fun k _ e => ⟨⟨Nat.zero_le _, fun h => h⟩, by
    rcases e with e | ⟨t, ht, h2⟩
    · subst e; exact HasT.mem (IsT.of hb) (by simp [RBT])
    · exact ⟨t, dpt_rbt t ht, h2⟩⟩)
theorem SlsB.kb {bb : Nat} {w w' : World} {base : Nat} {A : Option Addr} {c : Nat} {ss : List Sl} (h : SlsB w base A c ss) (hk : KB bb w w') (hb : ∀ k, (Value.slice A ss.length c).ownBlock = some k → k ≠ bb) {v : Value} {fr : Nat × Nat} (ho : w.heap[bb]? = some (.cells #[v] 26 fr)) : SlsB w' base A c ss := by
  refine ⟨own_kept h.own hk (fun k e hh => ?_), fun s hs => ⟨(h.each s hs).1.kept (hk.rbt ho) (KeptT.free (by unfold RBT; decide)), (h.each s hs).2⟩⟩
  rcases hh with hh | hh
  · exact hb k e hh
  · rcases h.own.2 with ⟨h2, _⟩ | ⟨g, cap, cur, h2, _, h4, _⟩
    · rw [h2] at e; cases e
    · rw [h2] at e
      obtain rfl : g = k := by simpa [Value.ownBlock] using e
      exact HasT.no (IsT.of h4) (by unfold DPT; decide) hh
theorem SlsB.lt {w : World} {base : Nat} {A : Option Addr} {c : Nat} {ss : List Sl} (h : SlsB w base A c ss) : ∀ k, (Value.slice A ss.length c).ownBlock = some k → k < w.heap.size := fun k e => by
  rcases h.own.2 with ⟨h2, _⟩ | ⟨g, cap, cur, h2, _, h4, _⟩
  · rw [h2] at e; cases e
  · rw [h2] at e
    obtain rfl : g = k := by simpa [Value.ownBlock] using e
    exact lt_of_block h4
section
variable {w w' w0 : World} {B : Bd} {q pw p : Nat} {g : Geo} {F : List Flt} {s : DS} {P : Pow} {L : List Sec} {O : List OpV} {FA : Option Addr} {fc : Nat}
/-- A store into a box that is newer. -/
theorem Mid.box {bb n : Nat} {v u : Value} {fr : Nat × Nat} (h : Mid w0 w B q pw g n fc p FA s P) (hb : w0.heap.size ≤ bb) (ho : w.heap[bb]? = some (.cells #[v] 26 fr)) : Mid w0 (w.setCell ⟨bb, 0, none⟩ u) B q pw g n fc p FA s P := by
  have hk : Kept (fun k => k = bb) w (w.setCell ⟨bb, 0, none⟩ u) := (Kept.refl (fun k => k = bb) w).setCell (p := ⟨bb, 0, none⟩) (fun _ => rfl) _
  have hkT : KeptT [26] (Bd.of 0) w (w.setCell ⟨bb, 0, none⟩ u) := KeptT.of hk (fun k _ e => by have e' : k = bb := e; subst e'; exact ⟨⟨Nat.zero_le _, fun h => h⟩, HasT.mem (IsT.of ho) (by simp)⟩)
  exact ⟨own_ty h.o hkT (by decide), h.p.keptT hkT (by decide), Kept.trans h.k hk (fun i hi e => by have e' : i = bb := e; omega), h.x⟩
set_option maxRecDepth 100000 in
set_option maxHeartbeats 2000000 in
theorem rdcl_any {key at_ i : Int} {bd bk ba bi bb : Nat} {fd fk fa fi : Nat × Nat} {v0 : Value} (hm : Mid w0 w B q pw g F.length fc p FA s P) (hc : CacheM w0 B p g L O) (hfl : RdT w0 138 FA (flatF F)) (hf : Fit g L) (hsb : ShortB L) (hB : B.top ≤ w0.heap.size) (hn : F.length ≤ 9223372036854775807) (hai : I64 (at_ + i))
    (hd : w.heap[bd]? = some (.cells #[.pointer (some ⟨q, 0, none⟩)] 52 fd)) (hk : w.heap[bk]? = some (.cells #[.int .u64 key] 23 fk)) (ha : w.heap[ba]? = some (.cells #[.int .i64 at_] 3 fa)) (hi : w.heap[bi]? = some (.cells #[.int .i64 i] 3 fi)) (hb : w.heap[bb]? = some (.cells #[v0] 26 (0, 0))) (h0 : w0.heap.size ≤ bb) :
    Calls Tryz.prog 61 #[.pointer (some ⟨bd, 0, none⟩), .pointer (some ⟨bk, 0, none⟩), .pointer (some ⟨ba, 0, none⟩), .pointer (some ⟨bi, 0, none⟩), .pointer (some ⟨bb, 0, none⟩)] w fun e w' => e = .returned (.int .i64 (rOne g F key (at_ + i) ⟨s, P, L, O⟩).2.er) ∧
      Mid w0 w' B q pw g F.length fc p FA (rOne g F key (at_ + i) ⟨s, P, L, O⟩).1.s (rOne g F key (at_ + i) ⟨s, P, L, O⟩).1.P ∧ (∃ v, w'.heap[bb]? = some (.cells #[v] 26 (0, 0)) ∧ Bys 5 w' v (rOne g F key (at_ + i) ⟨s, P, L, O⟩).2.by_) ∧ KB bb w w' := by
  have c0 := cell_one hd
  have c1 := cell_one hk
  have c2 := cell_one ha
  have c3 := cell_one hi
  have hw : IntKind.i64.wrap (at_ + i) = at_ + i := by obtain ⟨h1, h2⟩ := hai; rw [IntKind.wrap_i64]; omega
  have HC := Lib.hid (dreadM_any key (at_ + i) (Dsk.of hm.o hm.x hc hfl hm.k) hm.p hf hsb (Nat.le_trans hB hm.k.size) hn)
  have HM : Hid (∀ W s' P' v, Mid w W B q pw g F.length fc p FA s' P' → Bys 5 W v (dRdB F s P L (playL g L O) key (at_ + i)) → W.heap[bb]? = some (.cells #[v0] 26 (0, 0)) ∧ Mid w0 (W.setCell ⟨bb, 0, none⟩ v) B q pw g F.length fc p FA s' P' ∧
      (∃ u, (W.setCell ⟨bb, 0, none⟩ v).heap[bb]? = some (.cells #[u] 26 (0, 0)) ∧ Bys 5 (W.setCell ⟨bb, 0, none⟩ v) u (dRdB F s P L (playL g L O) key (at_ + i))) ∧ KB bb w (W.setCell ⟨bb, 0, none⟩ v)) := by
    unfold Hid
    intro W s' P' v hW hv
    have hbW : W.heap[bb]? = some (.cells #[v0] 26 (0, 0)) := Kept.obj hW.k hb (KeptT.no (IsT.of hb) (by unfold DPT; decide))
    have hk : Kept (fun k => k = bb) W (W.setCell ⟨bb, 0, none⟩ v) := (Kept.refl (fun k => k = bb) W).setCell (p := ⟨bb, 0, none⟩) (fun _ => rfl) _
    refine ⟨hbW, Mid.box (⟨hW.o, hW.p, hm.k.trans hW.k, hW.x⟩ : Mid w0 W B q pw g F.length fc p FA s' P') h0 hbW, ⟨v, one_setCell hbW, hv.kept hk (Free.one hbW (by decide))⟩, (KB.of hW.k).trans (KB.set v)⟩
  clear hd hk ha hi hb hm hc hfl hf hsb hB hai
  have HR : Hid ((rOne g F key (at_ + i) ⟨s, P, L, O⟩).2.er = dRdE F s P L (playL g L O) key (at_ + i)) := rfl
  unfold rOne
  simp only
  go_enter Tryz.func61, Tryz.ntmps61
  go_wp2_with fail
  refine HC.out.mono ?_
  rintro e w1 ⟨v, rfl, hv, hm1⟩
  have HD := Lib.hid (HM.out w1 _ _ v hm1 hv)
  obtain ⟨A1, c1, rfl, _, _⟩ := hv
  have hfz := free_of_one HD.out.1
  have c8 := cell_one HD.out.1
  clear hm1 HC HM
  go_wp2
  go_ret
  exact ⟨rfl, HD.out.2⟩
theorem callN_eta {key a : Int} {d : DC} (n : Nat) : (⟨(callN (rOne g F key a) d n).s, (callN (rOne g F key a) d n).P, d.L, d.O⟩ : DC) = callN (rOne g F key a) d n := by
  have h := callN_r (g := g) (F := F) (key := key) (a := a) (d := d) n
  rw [← h.1, ← h.2]
/-- Reading one sector, as long as the disk is busy. -/
theorem tryrd_any {key at_ i : Int} {d : DC} {bd bk ba bi bb : Nat} {fd fk fa fi : Nat × Nat} {v0 : Value} (hm : Mid w0 w B q pw g F.length fc p FA d.s d.P) (hc : CacheM w0 B p g d.L d.O) (hfl : RdT w0 138 FA (flatF F)) (hf : Fit g d.L) (hsb : ShortB d.L) (hB : B.top ≤ w0.heap.size) (hn : F.length ≤ 9223372036854775807) (hai : I64 (at_ + i))
    (hd : w.heap[bd]? = some (.cells #[.pointer (some ⟨q, 0, none⟩)] 52 fd)) (hk : w.heap[bk]? = some (.cells #[.int .u64 key] 23 fk)) (ha : w.heap[ba]? = some (.cells #[.int .i64 at_] 3 fa)) (hi : w.heap[bi]? = some (.cells #[.int .i64 i] 3 fi)) (hb : w.heap[bb]? = some (.cells #[v0] 26 (0, 0))) (h0 : w0.heap.size ≤ bb) :
    Calls Tryz.prog 54 #[.func (.func 61) #[] #[.pointer (some ⟨bd, 0, none⟩), .pointer (some ⟨bk, 0, none⟩), .pointer (some ⟨ba, 0, none⟩), .pointer (some ⟨bi, 0, none⟩), .pointer (some ⟨bb, 0, none⟩)]] w fun e w' => e = .returned (.int .i64 (tryD (rOne g F key (at_ + i)) d).2.er) ∧
      Mid w0 w' B q pw g F.length fc p FA (tryD (rOne g F key (at_ + i)) d).1.s (tryD (rOne g F key (at_ + i)) d).1.P ∧ (∃ v, w'.heap[bb]? = some (.cells #[v] 26 (0, 0)) ∧ Bys 5 w' v (tryD (rOne g F key (at_ + i)) d).2.by_) ∧ KB bb w w' := by
  refine (tryread_any bd bk ba bi bb (fun n W => Mid w0 W B q pw g F.length fc p FA (callN (rOne g F key (at_ + i)) d n).s (callN (rOne g F key (at_ + i)) d n).P ∧ (∃ v, W.heap[bb]? = some (.cells #[v] 26 (0, 0)) ∧ (0 < n → Bys 5 W v (ansN (rOne g F key (at_ + i)) d (n - 1)).by_)) ∧ KB bb w W)
    (fun n => (ansN (rOne g F key (at_ + i)) d n).er) ⟨hm, ⟨v0, hb, fun h => absurd h (by omega)⟩, KB.refl _ w⟩ ?_).mono ?_
  · rintro n W hn8 ⟨hW, ⟨v, hv, _⟩, hkB⟩
    have hkW := hkB.rbt hb
    refine (rdcl_any hW hc hfl hf hsb hB hn hai (Kept.obj hkW hd (KeptT.no (IsT.of hd) (by unfold RBT; decide))) (Kept.obj hkW hk (KeptT.no (IsT.of hk) (by unfold RBT; decide)))
      (Kept.obj hkW ha (KeptT.no (IsT.of ha) (by unfold RBT; decide))) (Kept.obj hkW hi (KeptT.no (IsT.of hi) (by unfold RBT; decide))) hv h0).mono ?_
    rintro e w' ⟨rfl, hm', ⟨u, hu, hby⟩, hk'⟩
    rw [callN_eta] at hm' hby ⊢
    exact ⟨rfl, hm', ⟨u, hu, fun _ => hby⟩, hkB.trans hk'⟩
  · rintro e w' ⟨k, rfl, ⟨hm', ⟨u, hu, hby⟩, hk'⟩, hbz, hlast⟩
    rw [try_stop hbz hlast]
    exact ⟨rfl, hm', ⟨u, hu, hby (by omega)⟩, hk'⟩
theorem Mid.below0 {n : Nat} (h : Mid w0 w B q pw g n fc p FA s P) (hb : Below w.heap.size w w') : Mid w0 w' B q pw g n fc p FA s P :=
  ⟨own_kept h.o (belKept0 (S := fun _ => False) hb) (fun _ _ h => h), h.p.below0 hb, h.k.thenBelow hb, h.x⟩
theorem Mid.grown {n base m : Nat} {v : Value} {xs : List Value} (h : Mid w0 w B q pw g n fc p FA s P) (hg : w.grownBy w' v.ownBlock) (ho : w.ownsRow base 26 1 v m xs) (hb : w0.heap.size ≤ base) : Mid w0 w' B q pw g n fc p FA s P := by
  have hk : Kept (fun k => v.ownBlock = some k) w w' := ⟨hg.os, hg.tape, hg.output, hg.size, fun k hk hS => hg.block k hk (fun e => hS e.symm)⟩
  refine ⟨h.o.kept hg (own_apart h.o ho (by decide)), ⟨h.p.obj.kept hg (own_apart h.p.obj ho (by decide)), h.p.px⟩, Kept.trans h.k hk (fun i hi e => ?_), h.x⟩
  have := own_low ho e
  omega
theorem grown_rbt {base m : Nat} {v : Value} {xs : List Value} (hg : w.grownBy w' v.ownBlock) (ho : w.ownsRow base 26 1 v m xs) : KeptT RBT (Bd.of 0) w w' := by
  have hk : Kept (fun k => v.ownBlock = some k) w w' := ⟨hg.os, hg.tape, hg.output, hg.size, fun k hk hS => hg.block k hk (fun e => hS e.symm)⟩
  refine KeptT.of hk (fun k _ e => ⟨⟨Nat.zero_le _, fun h => h⟩, ?_⟩)
  rcases ho.2 with ⟨h2, _⟩ | ⟨g, cap, cur, h2, _, h4, _⟩
  · rw [h2] at e; cases e
  · rw [h2] at e
    obtain rfl : g = k := by simpa [Value.ownBlock] using e
    exact HasT.mem (IsT.of h4) (by simp [RBT])
theorem SlsB.push {base : Nat} {A A' : Option Addr} {c c' : Nat} {ss : List Sl} {x : Sl} {tmp : Obj} (h : SlsB w base A c ss) (hs : RdT w 5 x.A (x.xs.map (Value.int .u8)) ∧ CapOk x.A x.xs.length x.c)
    (hown : w'.ownsRow base 26 1 (.slice A' (ss.length + 1) c') (ss.length + 1) (ss.map Sl.v ++ [x.v])) (hg : (w.alloc tmp).grownBy w' (Value.slice A ss.length c).ownBlock) : SlsB w' base A' c' (ss ++ [x]) := by
  refine ⟨?_, fun t ht => ?_⟩
  · rw [List.length_append, List.map_append]; exact hown
  · have ht' : RdT w 5 t.A (t.xs.map (Value.int .u8)) ∧ CapOk t.A t.xs.length t.c := by
      rcases List.mem_append.1 ht with ht | ht
      · exact h.each t ht
      · simp at ht; subst ht; exact hs
    have ho := h.own.alloc tmp
    refine ⟨(ht'.1.below0 ((Below.refl _ _).alloc (Nat.le_refl _) tmp)).kept (S := fun k => (Value.slice A ss.length c).ownBlock = some k) ⟨hg.os, hg.tape, hg.output, hg.size, fun k hk hS => hg.block k hk (fun e => hS e.symm)⟩ (fun k hk _ cur fr e => ?_), ht'.2⟩
    have hk' : (Value.slice A ss.length c).ownBlock = some k := hk
    rcases ho.2 with ⟨e1, _⟩ | ⟨g', cap, cur2, e1, _, hgg, _⟩
    · rw [e1] at hk'; cases hk'
    · rw [e1] at hk'
      obtain rfl : g' = k := by simpa [Value.ownBlock] using hk'
      rw [hgg] at e; injection e with e; injection e with _ h3; exact absurd h3 (by decide)
theorem heap_new_set (w : World) (a : Addr) (v : Value) (o : Obj) : ((w.setCell a v).alloc o).heap[w.heap.size]? = some o := by
  have h := heap_alloc_new (w.setCell a v) o
  simpa using h
theorem box_int_nil (w : World) (i : Int) : ((w.alloc (.cells #[.int .i64 i] 3)).alloc (.cells #[.slice none 0 0] 26)).heap[w.heap.size]? = some (.cells #[.int .i64 i] 3 (0, 0)) ∧
    ((w.alloc (.cells #[.int .i64 i] 3)).alloc (.cells #[.slice none 0 0] 26)).heap[w.heap.size + 1]? = some (.cells #[.slice none 0 0] 26 (0, 0)) := box_int_sl w i none 0 0
def RdsPost (w : World) (B : Bd) (q pw : Nat) (g : Geo) (F : List Flt) (x : DC × List (List Int) × Int) (e : Ending) (w' : World) : Prop :=
  ∃ A c ss, e = .returned (.tuple #[.slice A ss.length c, .int .i64 x.2.2]) ∧ ss.map Sl.xs = x.2.1 ∧ SlsB w' w.heap.size A c ss ∧ DM w' B q pw g F x.1 ∧ KeptT DAT B w w'
set_option maxRecDepth 100000 in
set_option maxHeartbeats 4000000 in
theorem wread_pos {key at_ : Int} {d : DC} {N : Nat} (hN0 : 0 < N) (hNl : N ≤ 1000) (h : DM w B q pw g F d) (hn : F.length ≤ 9223372036854775807) (ha0 : -1000000 ≤ at_) (ha1 : at_ ≤ 1000000) :
    Calls Tryz.prog 20 #[.pointer (some ⟨q, 0, none⟩), .int .u64 key, .int .i64 at_, .int .i64 (N : Int)] w (RdsPost w B q pw g F (rdAll g F key at_ d N)) := by
  obtain ⟨i0, hi0, hz0, hz1, hz2⟩ := info_parts info_sl
  obtain ⟨⟨p, FA, fc, hd⟩, hp, hf, hs, hB⟩ := h
  have hb0 : Below w.heap.size w (((w.alloc (.cells #[.pointer (some ⟨q, 0, none⟩)] 52)).alloc (.cells #[.int .u64 key] 23)).alloc (.cells #[.int .i64 at_] 3)) := (((Below.refl _ _).alloc (Nat.le_refl _) _).alloc (by simp) _).alloc (by first | (simp; done) | (simp; omega)) _
  have hm0 : Mid w w B q pw g F.length fc p FA d.s d.P := ⟨hd.obj, hp, KeptT.refl _ _ _, hd.px⟩
  have HB3 := Lib.hid (Box3.new w q key at_)
  have HC := Lib.hid hd.c
  have HFL := Lib.hid hd.fl
  have HF := Lib.hid hf
  have HS := Lib.hid hs
  have HBt := Lib.hid hB
  generalize hW0 : (((w.alloc (.cells #[.pointer (some ⟨q, 0, none⟩)] 52)).alloc (.cells #[.int .u64 key] 23)).alloc (.cells #[.int .i64 at_] 3)) = W0 at *
  have H0 : Hid (Mid w W0 B q pw g F.length fc p FA (rdAll g F key at_ d 0).1.s (rdAll g F key at_ d 0).1.P ∧ (rdAll g F key at_ d 0).2.2 = 0 ∧ ([] : List Sl).map Sl.xs = (rdAll g F key at_ d 0).2.1 ∧ SlsB W0 w.heap.size none 0 [] ∧ KeptT RBT (Bd.of 0) W0 W0) :=
    ⟨hm0.below0 hb0, rfl, rfl, ⟨World.ownsRow_nil _ _ _ _, fun s hs => by simp at hs⟩, KeptT.refl _ _ _⟩
  subst hW0
  have HZ0 := Lib.hid hb0.size
  clear hd hp hf hs hB hb0 hm0
  go_enter Tryz.func20, Tryz.ntmps20
  go_wp2
  go_loopw [10, 18] (fun o i wr => ∃ (k : Nat) (A : Option Addr) (c : Nat) (ss : List Sl), k ≤ N ∧ o = .slice A ss.length c ∧ i = .int .i64 k ∧ Hid (Mid w wr B q pw g F.length fc p FA (rdAll g F key at_ d k).1.s (rdAll g F key at_ d k).1.P ∧ (rdAll g F key at_ d k).2.2 = 0 ∧ ss.map Sl.xs = (rdAll g F key at_ d k).2.1 ∧ SlsB wr w.heap.size A c ss ∧
      KeptT RBT (Bd.of 0) (((w.alloc (.cells #[.pointer (some ⟨q, 0, none⟩)] 52)).alloc (.cells #[.int .u64 key] 23)).alloc (.cells #[.int .i64 at_] 3)) wr)) (fun _ i _ => N - (intOf i).toNat)
  case atStart => exact ⟨0, none, 0, [], Nat.zero_le _, rfl, rfl, H0⟩
  case round =>
    obtain ⟨k, A, c, ss, hk, rfl, rfl, HW⟩ := hrel
    by_cases hlt : k < N
    · have hbW : Below wr.heap.size wr ((wr.alloc (.cells #[.int .i64 (k : Int)] 3)).alloc (.cells #[.slice none 0 0] 26)) := ((Below.refl _ _).alloc (Nat.le_refl _) _).alloc (by simp) _
      have hkB : KeptT RBT (Bd.of 0) wr ((wr.alloc (.cells #[.int .i64 (k : Int)] 3)).alloc (.cells #[.slice none 0 0] 26)) := KeptT.bel hbW
      have hnx := box_int_nil wr (k : Int)
      have hkA := HW.out.2.2.2.2.trans hkB
      have hb1 := Kept.obj hkA HB3.out.1 (KeptT.no (IsT.of HB3.out.1) (by unfold RBT; decide))
      have hb2 := Kept.obj hkA HB3.out.2.1 (KeptT.no (IsT.of HB3.out.2.1) (by unfold RBT; decide))
      have hb3 := Kept.obj hkA HB3.out.2.2 (KeptT.no (IsT.of HB3.out.2.2) (by unfold RBT; decide))
      have hLO := rdAll_r (g := g) (F := F) (key := key) (a := at_) (d := d) k
      have hwz := HW.out.1.k.size
      have HT := Lib.hid (tryrd_any (i := (k : Int)) (d := (rdAll g F key at_ d k).1) (HW.out.1.below0 hbW) (by rw [hLO.1, hLO.2]; exact HC.out) HFL.out (by rw [hLO.1]; exact HF.out) (by rw [hLO.1]; exact HS.out) HBt.out hn (by constructor <;> omega)
        hb1 hb2 hb3 hnx.1 hnx.2 (by omega))
      have HN := Lib.hid (rdAll_yes (g := g) (F := F) (key := key) (a := at_) (d := d) HW.out.2.1)
      have HSW := Lib.hid (HW.out.2.2.2.1.below hbW)
      have HXW := Lib.hid HW.out.2.2.1
      have HKA := Lib.hid hkA
      have HWZ := Lib.hid hwz
      have HNX := Lib.hid hnx
      have HLT := Lib.hid HW.out.2.2.2.1.lt
      have hbz : ((wr.alloc (.cells #[.int .i64 (k : Int)] 3)).alloc (.cells #[.slice none 0 0] 26)).heap.size = wr.heap.size + 2 := by simp
      have HBW := Lib.hid hbW
      have hsl : ss.length ≤ 1000 := by
        have := congrArg List.length HW.out.2.2.1
        rw [List.length_map, rdAll_len k HW.out.2.1] at this
        omega
      generalize tryD (rOne g F key (at_ + k)) (rdAll g F key at_ d k).1 = T at *
      clear hbW hkB hnx hkA hb1 hb2 hb3 hLO hwz
      go_wp2_with fail
      refine HT.out.mono ?_
      rintro e w2 ⟨rfl, hm2, ⟨v2, hv2, hby2⟩, hk2⟩
      obtain ⟨T1, ⟨er, by_⟩⟩ := T
      simp only at *
      obtain ⟨A1, c1, rfl, hr1, hA1⟩ := hby2
      have HR1 : Hid (RdT w2 5 A1 (by_.map (Value.int .u8)) ∧ CapOk A1 by_.length c1) := ⟨hr1, hA1⟩
      have HM2 := Lib.hid hm2
      have hbx0 := HNX.out.2
      have HK2 := Lib.hid (HKA.out.trans (hk2.rbt hbx0))
      have HS2 : Hid (SlsB w2 w.heap.size A c ss) := HSW.out.kb hk2 (fun k e => by have := HLT.out k e; omega) hbx0
      have HV2 := Lib.hid hv2
      have c2 := cell_one hv2
      have hfz := free_of_one hv2
      clear hm2 hk2 hr1 HT hA1 hbx0 hv2
      by_cases he : er = 0
      · subst he
        have HN2 : Hid (rdAll g F key at_ d (k + 1) = (T1, (rdAll g F key at_ d k).2.1 ++ [by_], 0)) := by
          unfold Hid; rw [HN.out]; unfold rdNext; rw [if_pos rfl]
        have hO := HS2.out.own
        go_wp2_with (at_builtin; go_loud (refine wpList_append_own _ rfl _ _ 49 rfl w.heap.size 26 i0 _ 1 24 Tryz.underlying49 hi0 hz0 hz1 hz2 rfl (by decide) (.slice A ss.length c) ss.length (ss.map Sl.v) rfl (hO.alloc _) ⟨(w2).heap.size, 0, none⟩ 1 1 [.slice A1 (by_).length c1] rfl rfl (World.news_of_block (by first | exact heap_alloc_new _ _ | exact heap_new_set _ _ _ _)) (by intro u hu; simp at hu; subst hu; rfl) ?c1 ?c2 ?c3 ?_))
        case c1 => unfold maxLen; omega
        case c2 => omega
        case c3 => have h71 := HM2.out.k.size; first | omega | (simp; omega)
        intro v' w9 hown hgrow hiff
        obtain ⟨A9, c9, hv⟩ := own_form hown
        subst hv
        have hba : Below (w2).heap.size (w2) ((w2).alloc (.cells #[.slice A1 (by_).length c1] 26)) := (Below.refl _ _).alloc (Nat.le_refl _) _
        have HW9 : Hid (Mid w w9 B q pw g F.length fc p FA (rdAll g F key at_ d (k + 1)).1.s (rdAll g F key at_ d (k + 1)).1.P ∧ (rdAll g F key at_ d (k + 1)).2.2 = 0 ∧ (ss ++ [(⟨A1, by_, c1⟩ : Sl)]).map Sl.xs = (rdAll g F key at_ d (k + 1)).2.1 ∧ SlsB w9 w.heap.size A9 c9 (ss ++ [(⟨A1, by_, c1⟩ : Sl)]) ∧ KeptT RBT (Bd.of 0) (((w.alloc (.cells #[.pointer (some ⟨q, 0, none⟩)] 52)).alloc (.cells #[.int .u64 key] 23)).alloc (.cells #[.int .i64 at_] 3)) w9) := by
          rw [HN2.out]
          refine ⟨(HM2.out.below0 hba).grown hgrow (hO.alloc _) (Nat.le_refl _), rfl, by rw [List.map_append, HXW.out]; rfl, HS2.out.push HR1.out hown hgrow, (HK2.out.trans (KeptT.bel hba)).trans (grown_rbt hgrow (hO.alloc _))⟩
        clear hown hgrow hiff hO hba
        go_wp2
        go_roundw
        case rel => exact ⟨k + 1, A9, c9, ss ++ [(⟨A1, by_, c1⟩ : Sl)], hlt, by rw [List.length_append]; rfl, by go_num, HW9⟩
        case measure => simp [intOf]; omega
      · by_cases h15 : er = 15
        · subst h15
          have HN2 : Hid (rdAll g F key at_ d (k + 1) = (T1, (rdAll g F key at_ d k).2.1 ++ [[]], 0)) := by
            unfold Hid; rw [HN.out]; unfold rdNext; rw [if_neg he, if_pos (.inl rfl)]
          skip
          have hW3k : KB (wr.heap.size + 1) w2 (w2.setCell ⟨wr.heap.size + 1, 0, none⟩ (.slice none 0 0)) := KB.set _
          have HM3 := Lib.hid (HM2.out.box (u := .slice none 0 0) (by have := HWZ.out; omega) HV2.out)
          have HS3 := Lib.hid (HS2.out.kb hW3k (fun k e => by have := HLT.out k e; omega) HV2.out)
          have HK3 := Lib.hid (HK2.out.trans (hW3k.rbt HV2.out))
          clear hW3k
          have hO := HS3.out.own
          go_wp2_with (at_builtin; go_loud (refine wpList_append_own _ rfl _ _ 49 rfl w.heap.size 26 i0 _ 1 24 Tryz.underlying49 hi0 hz0 hz1 hz2 rfl (by decide) (.slice A ss.length c) ss.length (ss.map Sl.v) rfl (hO.alloc _) ⟨(w2).heap.size, 0, none⟩ 1 1 [.slice none (([] : List Int)).length 0] rfl rfl (World.news_of_block (by first | exact heap_alloc_new _ _ | exact heap_new_set _ _ _ _)) (by intro u hu; simp at hu; subst hu; rfl) ?c1 ?c2 ?c3 ?_))
          case c1 => unfold maxLen; omega
          case c2 => omega
          case c3 => have h71 := HM2.out.k.size; first | omega | (simp; omega)
          intro v' w9 hown hgrow hiff
          obtain ⟨A9, c9, hv⟩ := own_form hown
          subst hv
          have hba : Below ((w2.setCell ⟨wr.heap.size + 1, 0, none⟩ (.slice none 0 0))).heap.size ((w2.setCell ⟨wr.heap.size + 1, 0, none⟩ (.slice none 0 0))) (((w2.setCell ⟨wr.heap.size + 1, 0, none⟩ (.slice none 0 0))).alloc (.cells #[.slice none (([] : List Int)).length 0] 26)) := (Below.refl _ _).alloc (Nat.le_refl _) _
          have HW9 : Hid (Mid w w9 B q pw g F.length fc p FA (rdAll g F key at_ d (k + 1)).1.s (rdAll g F key at_ d (k + 1)).1.P ∧ (rdAll g F key at_ d (k + 1)).2.2 = 0 ∧ (ss ++ [(⟨none, ([] : List Int), 0⟩ : Sl)]).map Sl.xs = (rdAll g F key at_ d (k + 1)).2.1 ∧ SlsB w9 w.heap.size A9 c9 (ss ++ [(⟨none, ([] : List Int), 0⟩ : Sl)]) ∧ KeptT RBT (Bd.of 0) (((w.alloc (.cells #[.pointer (some ⟨q, 0, none⟩)] 52)).alloc (.cells #[.int .u64 key] 23)).alloc (.cells #[.int .i64 at_] 3)) w9) := by
            rw [HN2.out]
            refine ⟨(HM3.out.below0 hba).grown hgrow (hO.alloc _) (Nat.le_refl _), rfl, by rw [List.map_append, HXW.out]; rfl, HS3.out.push ⟨RdT.nil _ _ _, CapOk.nil⟩ hown hgrow, (HK3.out.trans (KeptT.bel hba)).trans (grown_rbt hgrow (hO.alloc _))⟩
          clear hown hgrow hiff hO hba
          go_wp2
          go_roundw
          case rel => exact ⟨k + 1, A9, c9, ss ++ [(⟨none, ([] : List Int), 0⟩ : Sl)], hlt, by rw [List.length_append]; rfl, by go_num, HW9⟩
          case measure => simp [intOf]; omega
        · by_cases h16 : er = 16
          · subst h16
            have HN2 : Hid (rdAll g F key at_ d (k + 1) = (T1, (rdAll g F key at_ d k).2.1 ++ [[]], 0)) := by
              unfold Hid; rw [HN.out]; unfold rdNext; rw [if_neg he, if_pos (.inr rfl)]
            skip
            have hW3k : KB (wr.heap.size + 1) w2 (w2.setCell ⟨wr.heap.size + 1, 0, none⟩ (.slice none 0 0)) := KB.set _
            have HM3 := Lib.hid (HM2.out.box (u := .slice none 0 0) (by have := HWZ.out; omega) HV2.out)
            have HS3 := Lib.hid (HS2.out.kb hW3k (fun k e => by have := HLT.out k e; omega) HV2.out)
            have HK3 := Lib.hid (HK2.out.trans (hW3k.rbt HV2.out))
            clear hW3k
            have hO := HS3.out.own
            go_wp2_with (at_builtin; go_loud (refine wpList_append_own _ rfl _ _ 49 rfl w.heap.size 26 i0 _ 1 24 Tryz.underlying49 hi0 hz0 hz1 hz2 rfl (by decide) (.slice A ss.length c) ss.length (ss.map Sl.v) rfl (hO.alloc _) ⟨(w2).heap.size, 0, none⟩ 1 1 [.slice none (([] : List Int)).length 0] rfl rfl (World.news_of_block (by first | exact heap_alloc_new _ _ | exact heap_new_set _ _ _ _)) (by intro u hu; simp at hu; subst hu; rfl) ?c1 ?c2 ?c3 ?_))
            case c1 => unfold maxLen; omega
            case c2 => omega
            case c3 => have h71 := HM2.out.k.size; first | omega | (simp; omega)
            intro v' w9 hown hgrow hiff
            obtain ⟨A9, c9, hv⟩ := own_form hown
            subst hv
            have hba : Below ((w2.setCell ⟨wr.heap.size + 1, 0, none⟩ (.slice none 0 0))).heap.size ((w2.setCell ⟨wr.heap.size + 1, 0, none⟩ (.slice none 0 0))) (((w2.setCell ⟨wr.heap.size + 1, 0, none⟩ (.slice none 0 0))).alloc (.cells #[.slice none (([] : List Int)).length 0] 26)) := (Below.refl _ _).alloc (Nat.le_refl _) _
            have HW9 : Hid (Mid w w9 B q pw g F.length fc p FA (rdAll g F key at_ d (k + 1)).1.s (rdAll g F key at_ d (k + 1)).1.P ∧ (rdAll g F key at_ d (k + 1)).2.2 = 0 ∧ (ss ++ [(⟨none, ([] : List Int), 0⟩ : Sl)]).map Sl.xs = (rdAll g F key at_ d (k + 1)).2.1 ∧ SlsB w9 w.heap.size A9 c9 (ss ++ [(⟨none, ([] : List Int), 0⟩ : Sl)]) ∧ KeptT RBT (Bd.of 0) (((w.alloc (.cells #[.pointer (some ⟨q, 0, none⟩)] 52)).alloc (.cells #[.int .u64 key] 23)).alloc (.cells #[.int .i64 at_] 3)) w9) := by
              rw [HN2.out]
              refine ⟨(HM3.out.below0 hba).grown hgrow (hO.alloc _) (Nat.le_refl _), rfl, by rw [List.map_append, HXW.out]; rfl, HS3.out.push ⟨RdT.nil _ _ _, CapOk.nil⟩ hown hgrow, (HK3.out.trans (KeptT.bel hba)).trans (grown_rbt hgrow (hO.alloc _))⟩
            clear hown hgrow hiff hO hba
            go_wp2
            go_roundw
            case rel => exact ⟨k + 1, A9, c9, ss ++ [(⟨none, ([] : List Int), 0⟩ : Sl)], hlt, by rw [List.length_append]; rfl, by go_num, HW9⟩
            case measure => simp [intOf]; omega
          · have HD : Hid (RdsPost w B q pw g F (rdAll g F key at_ d N) (.returned (.tuple #[.slice none 0 0, .int .i64 er])) w2) := by
              have hN2 : rdAll g F key at_ d (k + 1) = (T1, [], er) := by rw [HN.out]; unfold rdNext; rw [if_neg he, if_neg (by rintro (h | h); exact h15 h; exact h16 h)]
              have hN3 : rdAll g F key at_ d N = (T1, [], er) := by
                have := rdAll_stay (g := g) (F := F) (key := key) (a := at_) (d := d) (k := k + 1) (by rw [hN2]; exact he) (N - (k + 1))
                rw [show k + 1 + (N - (k + 1)) = N by omega, hN2] at this
                exact this
              have hLO := rdAll_r (g := g) (F := F) (key := key) (a := at_) (d := d) N
              rw [hN3] at hLO ⊢
              have hm := HM2.out
              refine ⟨none, 0, [], rfl, rfl, ⟨World.ownsRow_nil _ _ _ _, fun s hs => by simp at hs⟩, ⟨⟨p, FA, fc, ?_⟩, hm.p, by rw [hLO.1]; exact HF.out, by rw [hLO.1]; exact HS.out, Nat.le_trans HBt.out hm.k.size⟩, hm.k.sub dpt_dat⟩
              rw [hLO.1, hLO.2]
              exact Dsk.of hm.o hm.x HC.out HFL.out hm.k
            have e0 : (er == 0) = false := by simpa using he
            have e15 : (er == 15) = false := by simpa using h15
            have e16 : (er == 16) = false := by simpa using h16
            go_wp2
            go_ret2
            exact HD.out
    · obtain rfl : k = N := by omega
      have HD : Hid (RdsPost w B q pw g F (rdAll g F key at_ d k) (.returned (.tuple #[.slice A ss.length c, .int .i64 0])) wr) := by
        have hLO := rdAll_r (g := g) (F := F) (key := key) (a := at_) (d := d) k
        obtain ⟨hm, h0, hx, hsb, _⟩ := HW.out
        refine ⟨A, c, ss, by rw [h0], hx, hsb, ⟨⟨p, FA, fc, ?_⟩, hm.p, by rw [hLO.1]; exact HF.out, by rw [hLO.1]; exact HS.out, Nat.le_trans HBt.out hm.k.size⟩, hm.k.sub dpt_dat⟩
        rw [hLO.1, hLO.2]
        exact Dsk.of hm.o hm.x HC.out HFL.out hm.k
      go_wp2
      go_ret2
      exact HD.out
end
end Go.Proofs.YtaggiceejcegdaaGreat

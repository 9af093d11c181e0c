/-
  WHAT IS SHOWN: what New of the reference's disk returns and leaves. plain facts on memory, of no program: two disks of the reference that share a power supply. what begin of tegulalaw14 returns and leaves: two new disks of the reference with one power supply. what same of tegulalaw14 returns: true where a disk and one of the reference agree. two disks and two of the reference side by side: an act on either, and what keeps the others. Conditions: as each theorem names them.
-/
import Derived.Test.YtckdhhadlemakaaGreatRkA
import Derived.Deep.RegionHeld3
import Derived.Test.YtckdhhadlemakaaGreatDisk10
import Derived.Test.YtckdhhadlemakaaGreatRkB
import Derived.Test.YtckdhhadlemakaaGreatDisk11
import Derived.Test.YtckdhhadlemakaaGreatRkC
namespace Go.Proofs.YtckdhhadlemakaaGreat
set_option linter.unusedVariables false
open Go.RowKit

theorem step_append_own {P : Program} {w : World} {ops : Array Oper} {o : Oper} {a : Act} {K : Act → World → Prop} {Q : Exit → Act → World → Prop} {E : Prop} (hgd : o.guard = none) (s x : Operand) (t : TypeId)
    (ho : o.op = .call { callee := .builtin .append, args := #[s, x], argTypes := #[t, t] })
    (base : Nat) (e : TypeId) (i : TypeInfo) (z : Value) (size bytes : Nat) (ht : P.underlying t = some (.slice e)) (hi : P.info? e = some i) (hz : i.zero = some z)
    (hsize : i.size = size) (hby : i.bytes = bytes) (hzs : z.cells.size = size) (hsz : 0 < size)
    (v : Value) (n : Nat) (xs : List Value) (hs : a.eval s = v) (hown : w.ownsRow base e size v n xs)
    (ad : Addr) (m c : Nat) (news : List Value) (hx : a.eval x = .slice (some ad) m c) (hl : news.length = m * size) (hnews : ∀ j u, news[j]? = some u → w.cell? (ad.add j) = some u) (h1 : ∀ u ∈ news, u.oneCell' = true)
    (h63 : n + m ≤ maxLen) (hbytes : (n + m) * bytes ≤ 140737488355328) (hbase : base ≤ w.heap.size)
    (h : ∀ v' w', w'.ownsRow base e size v' (n + m) (xs ++ news) → w.grownBy w' v.ownBlock → (v' = .slice none 0 0 ↔ v = .slice none 0 0 ∧ m = 0) → K (a.put o.dst v') w') :
    if Region.wanted o (yielded ops a.tmps) = true then Oper.wp P o a w K Q else E := by
  have hw : Region.wanted o (yielded ops a.tmps) = true := by simp [Region.wanted, hgd]
  rw [if_pos hw]
  exact wp_append_own w s x t ho base e i z size bytes ht hi hz hsize hby hzs hsz v n xs hs hown ad m c news hx hl hnews h1 h63 hbytes hbase h
theorem rcache_grown {w w' : World} {B : Bd} {p b base : Nat} {g : Geo} {LM : List Sec} {O : List OpV} (h : RCacheM w B p g LM O) (hg : w.grownBy w' (Value.slice (some ⟨b, 0, none⟩) 0 0).ownBlock) (hr : w.ownsRow base 64 3 (.slice (some ⟨b, 0, none⟩) 0 0) 0 []) : RCacheM w' B p g LM O := by
  have hk := (Kept.refl (fun k => k = b) w).grown hg (fun i _ e => by simp [Value.ownBlock] at e; omega)
  exact h.keptT (ts := [64]) (B' := Bd.of 0) (KeptT.of hk (fun k _ e => by have e' : k = b := e; subst e'; exact ⟨⟨Nat.zero_le _, fun h => h⟩, HasT.mem (IsT.own hr) (by simp)⟩)) (by decide)
def RDNewPost (w : World) (B : Bd) (pw : Nat) (g : Geo) (F : List Flt) (P : Pow) (e : Ending) (w' : World) : Prop :=
  ∃ q, e = .returned (.tuple #[.pointer (some ⟨q, 0, none⟩), .int .i64 0]) ∧ RDPm w' B q pw g F (newS P) P (blankL g) [] ∧ Below w.heap.size w w'
section
variable {w w' : World} {B : Bd} {pw : Nat} {g : Geo} {P R : Pow}
set_option maxRecDepth 100000 in
set_option maxHeartbeats 4000000 in
theorem rdnew_yes (l : List Flt) (A : Option Addr) (c : Nat) (hv : validG g = true) (hvl : validF l = true) (hr : Rd w w.heap.size A (flatF l)) (hn : l.length * 24 ≤ 140737488355328) (hp : RPow w B pw R) (hrel : RelP P R) (hB : B.top ≤ w.heap.size) :
    Calls Tryz.prog 26 #[.agg #[.int .i64 g.random, .int .i64 g.bands, .int .i64 g.tracks, .int .i64 g.sectors, .int .i64 g.overlap], .slice A l.length c, .pointer (some ⟨pw, 0, none⟩)] w (RDNewPost w B pw g l P) := by
  have HF := Lib.hid (blank_fit ((validG_iff g).1 hv))
  have HN := Lib.hid (fun W => rnew_yes g hv W)
  have hb0 : Below w.heap.size w (w.alloc (.cells #[.int .i64 g.random, .int .i64 g.bands, .int .i64 g.tracks, .int .i64 g.sectors, .int .i64 g.overlap] 23)) := (Below.refl _ _).alloc (Nat.le_refl _) _
  have HFV : Hid (∀ W, Below w.heap.size w W → Calls Tryz.prog 24 #[.slice A l.length c] W fun e w' => e = .returned (.bool true) ∧ Below W.heap.size W w') := by
    unfold Hid; intro W hW; have := rfvalid_any l A c W ((hr.below hW (Nat.le_refl _)).more hW.size) (by omega); rw [hvl] at this; exact this
  have HPW : Hid (∀ W, Below w.heap.size w W → RPow W B pw R ∧ W.cell? ⟨pw, 3, none⟩ = some (.int .i64 R.fails)) := by
    unfold Hid; intro W hW; exact ⟨hp.below0 hW, (hp.below0 hW).cells.2.2.2⟩
  have HRD := Lib.hid hr
  have HRL := Lib.hid hrel
  have hlp := (IsT.own hp.obj).lt
  have pw0 := hp.cells.2.2.2
  clear hv hvl hr hp hrel
  go_enter Tryz.func26, Tryz.ntmps26
  go_wp2_with fail
  refine (HN.out _).mono ?_
  rintro e w1 ⟨m, bs, rfl, hm, hmb, hbb, hb1⟩
  have HM := Lib.hid hm
  have PG := (Cells5.new w 23 (.int .i64 g.random) (.int .i64 g.bands) (.int .i64 g.tracks) (.int .i64 g.sectors) (.int .i64 g.overlap)).below hb1 (by simp)
  have hbl1 := hb0.trans (hb1.mono hb0.size)
  clear hm
  go_wp2_with fail
  refine (HFV.out _ hbl1).mono ?_
  rintro e w2 ⟨rfl, hb2⟩
  have hbl2 := hbl1.trans (hb2.mono hbl1.size)
  have hz1 : w.heap.size < w1.heap.size := by have := hb1.size; simp at this; omega
  have PG2 := PG.below hb2 hz1
  have hz2 : w.heap.size < w2.heap.size := Nat.lt_of_lt_of_le hz1 hb2.size
  have HM2 := Lib.hid (HM.out.below0 hb2)
  have p0 := PG2.c0; have p1 := PG2.c1; have p2 := PG2.c2; have p3 := PG2.c3; have p4 := PG2.c4
  have r3 := (HPW.out w2 hbl2).2
  have hlp2 : pw < w2.heap.size := Nat.lt_of_lt_of_le hlp hbl2.size
  have HCN : Hid (∀ W, Below w2.heap.size w2 W → Calls Tryz.prog 60 #[.pointer (some ⟨m, 0, none⟩)] W (RCNewPost W g (blankL g) [])) := by
    unfold Hid; intro W hW; exact rcnew_any (HM2.out.below0 hW) HF.out
  have hA0 : Below w2.heap.size w2 w2.drew := (Below.refl _ _).drew
  have hB0 : Below w2.heap.size w2 (w2.drew.alloc (.cells #[] 64)) := ((Below.refl w2.heap.size w2).drew).alloc (Nat.le_refl _) _
  have HFIN : Hid (∀ W p A4 c4, RCacheM W (Bd.of w2.heap.size) p g (blankL g) [] → RdT W 64 A4 (flatF l) → Below w2.heap.size w2 W →
      RDPm (W.alloc (.cells #[.int .i64 g.random, .int .i64 g.bands, .int .i64 g.tracks, .int .i64 g.sectors, .int .i64 g.overlap, .pointer (some ⟨p, 0, none⟩), .slice A4 l.length c4, .pointer (some ⟨pw, 0, none⟩), .int .u64 0, .bool false, .int .i64 R.fails, .int .i64 0, .int .i64 0, .int .i64 0, .int .i64 0, .int .i64 0] 48)) B W.heap.size pw g l (newS P) P (blankL g) [] ∧
      Below w.heap.size w (W.alloc (.cells #[.int .i64 g.random, .int .i64 g.bands, .int .i64 g.tracks, .int .i64 g.sectors, .int .i64 g.overlap, .pointer (some ⟨p, 0, none⟩), .slice A4 l.length c4, .pointer (some ⟨pw, 0, none⟩), .int .u64 0, .bool false, .int .i64 R.fails, .int .i64 0, .int .i64 0, .int .i64 0, .int .i64 0, .int .i64 0] 48))) := by
    unfold Hid; intro W p A4 c4 hc hr4 hW
    have hw24 : Below w.heap.size w W := hbl2.trans (hW.mono hbl2.size)
    have hfe : R.fails = P.fails := HRL.out.2.2.1.symm
    rw [hfe]
    have hb9 : Below W.heap.size W (W.alloc (.cells #[.int .i64 g.random, .int .i64 g.bands, .int .i64 g.tracks, .int .i64 g.sectors, .int .i64 g.overlap, .pointer (some ⟨p, 0, none⟩), .slice A4 l.length c4, .pointer (some ⟨pw, 0, none⟩), .int .u64 0, .bool false, .int .i64 P.fails, .int .i64 0, .int .i64 0, .int .i64 0, .int .i64 0, .int .i64 0] 48)) := (Below.refl _ _).alloc (Nat.le_refl _) _
    refine ⟨⟨⟨p, A4, c4, ⟨?_, Bd.nx (Nat.le_trans hB hw24.size), ?_, hr4.below0 hb9⟩⟩, ⟨R, HRL.out, (HPW.out W hw24).1.below0 hb9⟩, HF.out, short_blank _, Nat.le_trans hB (hw24.trans (hb9.mono hw24.size)).size⟩, hw24.alloc hw24.size _⟩
    · exact World.ownsRow_lit (base := B.n) (e := 48) (size := 16) W _ 1 (Nat.le_trans B.le (Nat.le_trans hB hw24.size)) (by decide) rfl
    · exact (hc.below0 hb9).mono (Bd.subOf (Nat.le_trans hB hbl2.size))
  clear PG PG2 pw0
  obtain ⟨i0, hi0, hy0, hy1, hy2⟩ := info_parts info_flt
  cases A with
  | none =>
    have hx := HRD.out.at_none
    obtain rfl : l = [] := by cases l; rfl; simp [flatF, Flt.cells] at hx
    clear hx
    go_wp2
    go_region_held3 (fun W => W.cell? ⟨w.heap.size, 0, none⟩ = some (.int .i64 g.random) ∧ W.cell? ⟨w.heap.size, 1, none⟩ = some (.int .i64 g.bands) ∧ W.cell? ⟨w.heap.size, 2, none⟩ = some (.int .i64 g.tracks) ∧ W.cell? ⟨w.heap.size, 3, none⟩ = some (.int .i64 g.sectors) ∧ W.cell? ⟨w.heap.size, 4, none⟩ = some (.int .i64 g.overlap) ∧ W.cell? ⟨pw, 3, none⟩ = some (.int .i64 R.fails))
      (first | (refine ⟨?_, ?_, ?_, ?_, ?_, ?_⟩ <;> assumption) | (simp (maxDischargeDepth := 20) [World.cell?_alloc_some, *]; done))
      ((go_at_call 60; first | (refine (HCN.out _ hA0).mono ?_; rintro e w3 ⟨p, rfl, hp3, hb3⟩; have hw3 : Below w2.heap.size w2 w3 := hA0.trans hb3; have q0_w3 := (hw3.cell (p := ⟨w.heap.size, 0, none⟩) hz2).trans p0; have q1_w3 := (hw3.cell (p := ⟨w.heap.size, 1, none⟩) hz2).trans p1; have q2_w3 := (hw3.cell (p := ⟨w.heap.size, 2, none⟩) hz2).trans p2; have q3_w3 := (hw3.cell (p := ⟨w.heap.size, 3, none⟩) hz2).trans p3; have q4_w3 := (hw3.cell (p := ⟨w.heap.size, 4, none⟩) hz2).trans p4; have q5_w3 := (hw3.cell (p := ⟨pw, 3, none⟩) hlp2).trans r3; have HP3 : Hid (RCacheM w3 (Bd.of w2.heap.size) p g (blankL g) []) := hp3; clear hp3) | (refine (HCN.out _ hB0).mono ?_; rintro e w3 ⟨p, rfl, hp3, hb3⟩; have hw3 : Below w2.heap.size w2 w3 := hB0.trans (hb3.mono (by simp)); have q0_w3 := (hw3.cell (p := ⟨w.heap.size, 0, none⟩) hz2).trans p0; have q1_w3 := (hw3.cell (p := ⟨w.heap.size, 1, none⟩) hz2).trans p1; have q2_w3 := (hw3.cell (p := ⟨w.heap.size, 2, none⟩) hz2).trans p2; have q3_w3 := (hw3.cell (p := ⟨w.heap.size, 3, none⟩) hz2).trans p3; have q4_w3 := (hw3.cell (p := ⟨w.heap.size, 4, none⟩) hz2).trans p4; have q5_w3 := (hw3.cell (p := ⟨pw, 3, none⟩) hlp2).trans r3; have HP3 : Hid (RCacheM w3 (Bd.of w2.heap.size) p g (blankL g) []) := hp3.mono ⟨by show w2.heap.size ≤ _; simp [Bd.of], fun k _ hk => ⟨Nat.le_trans (by show w2.heap.size ≤ _; simp [Bd.of]) hk.1, fun h => h⟩⟩; clear hp3)))
    · have hbA : Below w3.heap.size w3 (w3.alloc (.cells #[] 64)) := (Below.refl _ _).alloc (Nat.le_refl _) _
      have HG := Lib.hid (HFIN.out (w3.alloc (.cells #[] 64)) p (some ⟨w3.heap.size, 0, none⟩) 0 (HP3.out.below0 hbA) (RdT.nil _ _ _) (hw3.trans (hbA.mono hw3.size)))
      rw [World.size_alloc] at HG
      rename_i hheld
      clear hheld
      go_wp2
      go_ret2
      exact ⟨_, rfl, HG.out⟩
    · have HG := Lib.hid (HFIN.out w3 p (some ⟨w2.heap.size, 0, none⟩) 0 HP3.out (RdT.nil _ _ _) hw3)
      rename_i hheld
      clear hheld
      go_wp2
      go_ret2
      exact ⟨_, rfl, HG.out⟩
  | some a =>
    have hroA := World.ownsRow_lit (base := w2.heap.size) (e := 64) (size := 3) w2.drew #[] 0 (Nat.le_refl _) (by decide) rfl
    have HRO := Lib.hid hroA
    have HLA := Lib.hid (fun W (hW : Below w2.heap.size w2 W) => ((HRD.out.below (hbl2.trans (hW.mono hbl2.size)) (Nat.le_refl _)).at_add))
    clear hroA
    go_wp2
    go_region_held3 (fun W => W.cell? ⟨w.heap.size, 0, none⟩ = some (.int .i64 g.random) ∧ W.cell? ⟨w.heap.size, 1, none⟩ = some (.int .i64 g.bands) ∧ W.cell? ⟨w.heap.size, 2, none⟩ = some (.int .i64 g.tracks) ∧ W.cell? ⟨w.heap.size, 3, none⟩ = some (.int .i64 g.sectors) ∧ W.cell? ⟨w.heap.size, 4, none⟩ = some (.int .i64 g.overlap) ∧ W.cell? ⟨pw, 3, none⟩ = some (.int .i64 R.fails))
      (first | (refine ⟨?_, ?_, ?_, ?_, ?_, ?_⟩ <;> assumption) | (simp (maxDischargeDepth := 20) [World.cell?_alloc_some, *]; done))
      ((first
      | (go_at_call 60; first
        | (refine (HCN.out _ hA0).mono ?_; rintro e w3 ⟨p, rfl, hp3, hb3⟩; have hw3 : Below w2.heap.size w2 w3 := hA0.trans hb3; have q0_w3 := (hw3.cell (p := ⟨w.heap.size, 0, none⟩) hz2).trans p0; have q1_w3 := (hw3.cell (p := ⟨w.heap.size, 1, none⟩) hz2).trans p1; have q2_w3 := (hw3.cell (p := ⟨w.heap.size, 2, none⟩) hz2).trans p2; have q3_w3 := (hw3.cell (p := ⟨w.heap.size, 3, none⟩) hz2).trans p3; have q4_w3 := (hw3.cell (p := ⟨w.heap.size, 4, none⟩) hz2).trans p4; have q5_w3 := (hw3.cell (p := ⟨pw, 3, none⟩) hlp2).trans r3; have HP3 : Hid (RCacheM w3 (Bd.of w2.heap.size) p g (blankL g) []) := hp3; have HRB := Lib.hid (World.ownsRow_lit (base := w3.heap.size) (e := 64) (size := 3) w3 #[] 0 (Nat.le_refl _) (by decide) rfl); clear hp3)
        | (refine (HCN.out _ hB0).mono ?_; rintro e w3 ⟨p, rfl, hp3, hb3⟩; have hw3 : Below w2.heap.size w2 w3 := hB0.trans (hb3.mono (by simp)); have q0_w3 := (hw3.cell (p := ⟨w.heap.size, 0, none⟩) hz2).trans p0; have q1_w3 := (hw3.cell (p := ⟨w.heap.size, 1, none⟩) hz2).trans p1; have q2_w3 := (hw3.cell (p := ⟨w.heap.size, 2, none⟩) hz2).trans p2; have q3_w3 := (hw3.cell (p := ⟨w.heap.size, 3, none⟩) hz2).trans p3; have q4_w3 := (hw3.cell (p := ⟨w.heap.size, 4, none⟩) hz2).trans p4; have q5_w3 := (hw3.cell (p := ⟨pw, 3, none⟩) hlp2).trans r3; have HP3 : Hid (RCacheM w3 (Bd.of w2.heap.size) p g (blankL g) []) := hp3.mono ⟨by show w2.heap.size ≤ _; simp [Bd.of], fun k _ hk => ⟨Nat.le_trans (by show w2.heap.size ≤ _; simp [Bd.of]) hk.1, fun h => h⟩⟩; have HRB := Lib.hid (own_kept HRO.out (belKept0 (S := fun _ => False) hb3) (fun _ _ h => h)); clear hp3)
        | (refine (HCN.out _ hw4).mono ?_; rintro e w3 ⟨p, rfl, hp3, hb3⟩; have hw3 : Below w2.heap.size w2 w3 := hw4.trans (hb3.mono hw4.size); have q0_w3 := (hw3.cell (p := ⟨w.heap.size, 0, none⟩) hz2).trans p0; have q1_w3 := (hw3.cell (p := ⟨w.heap.size, 1, none⟩) hz2).trans p1; have q2_w3 := (hw3.cell (p := ⟨w.heap.size, 2, none⟩) hz2).trans p2; have q3_w3 := (hw3.cell (p := ⟨w.heap.size, 3, none⟩) hz2).trans p3; have q4_w3 := (hw3.cell (p := ⟨w.heap.size, 4, none⟩) hz2).trans p4; have q5_w3 := (hw3.cell (p := ⟨pw, 3, none⟩) hlp2).trans r3; have HGG := Lib.hid (HFIN.out w3 p A4 c4 (hp3.mono ⟨hw4.size, fun k _ hk => ⟨Nat.le_trans hw4.size hk.1, fun h => h⟩⟩) (HR4.out.below0 hb3) hw3); clear hp3))
      | (refine step_append_own rfl _ _ 24 rfl w2.heap.size 64 i0 _ 3 24 Tryz.underlying24 hi0 hy0 hy1 hy2 rfl (by decide) (.slice (some ⟨w2.heap.size, 0, none⟩) 0 0) 0 [] rfl HRO.out a l.length c (flatF l) rfl (flatF_len l) (HLA.out _ hB0) (flatF_one l) (by unfold maxLen; omega) (by omega) (by simp) ?_
         intro v4 w4 hown hgrow _
         try simp only [Nat.zero_add, List.nil_append] at hown
         obtain ⟨A4, c4, hv⟩ := own_form hown
         subst hv
         have hw4 : Below w2.heap.size w2 w4 := hB0.grown hgrow (by simp) (fun k hk => by simp [Value.ownBlock] at hk; omega)
         have q0_w4 := (hw4.cell (p := ⟨w.heap.size, 0, none⟩) hz2).trans p0; have q1_w4 := (hw4.cell (p := ⟨w.heap.size, 1, none⟩) hz2).trans p1; have q2_w4 := (hw4.cell (p := ⟨w.heap.size, 2, none⟩) hz2).trans p2; have q3_w4 := (hw4.cell (p := ⟨w.heap.size, 3, none⟩) hz2).trans p3; have q4_w4 := (hw4.cell (p := ⟨w.heap.size, 4, none⟩) hz2).trans p4; have q5_w4 := (hw4.cell (p := ⟨pw, 3, none⟩) hlp2).trans r3
         have HR4 := Lib.hid (RdT.of_own hown)
         clear hown hgrow)
      | (refine step_append_own rfl _ _ 24 rfl w3.heap.size 64 i0 _ 3 24 Tryz.underlying24 hi0 hy0 hy1 hy2 rfl (by decide) (.slice (some ⟨w3.heap.size, 0, none⟩) 0 0) 0 [] rfl HRB.out a l.length c (flatF l) rfl (flatF_len l) (HLA.out _ (hw3.alloc hw3.size _)) (flatF_one l) (by unfold maxLen; omega) (by omega) (by simp) ?_
         intro v4 w4 hown hgrow _
         try simp only [Nat.zero_add, List.nil_append] at hown
         obtain ⟨A4, c4, hv⟩ := own_form hown
         subst hv
         have hb4 : Below w3.heap.size w3 w4 := ((Below.refl _ _).alloc (Nat.le_refl _) _).grown hgrow (by simp) (fun k hk => by simp [Value.ownBlock] at hk; omega)
         have hw4 : Below w2.heap.size w2 w4 := hw3.trans (hb4.mono hw3.size)
         have q0_w4 := (hw4.cell (p := ⟨w.heap.size, 0, none⟩) hz2).trans p0; have q1_w4 := (hw4.cell (p := ⟨w.heap.size, 1, none⟩) hz2).trans p1; have q2_w4 := (hw4.cell (p := ⟨w.heap.size, 2, none⟩) hz2).trans p2; have q3_w4 := (hw4.cell (p := ⟨w.heap.size, 3, none⟩) hz2).trans p3; have q4_w4 := (hw4.cell (p := ⟨w.heap.size, 4, none⟩) hz2).trans p4; have q5_w4 := (hw4.cell (p := ⟨pw, 3, none⟩) hlp2).trans r3
         have HGG := Lib.hid (HFIN.out w4 p A4 c4 (HP3.out.below0 hb4) (RdT.of_own hown) hw4)
         clear hown hgrow)
      | (refine step_append_own rfl _ _ 24 rfl w2.heap.size 64 i0 _ 3 24 Tryz.underlying24 hi0 hy0 hy1 hy2 rfl (by decide) (.slice (some ⟨w2.heap.size, 0, none⟩) 0 0) 0 [] rfl HRB.out a l.length c (flatF l) rfl (flatF_len l) (HLA.out _ hw3) (flatF_one l) (by unfold maxLen; omega) (by omega) hw3.size ?_
         intro v4 w4 hown hgrow _
         try simp only [Nat.zero_add, List.nil_append] at hown
         obtain ⟨A4, c4, hv⟩ := own_form hown
         subst hv
         have hw4 : Below w2.heap.size w2 w4 := hw3.grown hgrow hw3.size (fun k hk => by simp [Value.ownBlock] at hk; omega)
         have q0_w4 := (hw4.cell (p := ⟨w.heap.size, 0, none⟩) hz2).trans p0; have q1_w4 := (hw4.cell (p := ⟨w.heap.size, 1, none⟩) hz2).trans p1; have q2_w4 := (hw4.cell (p := ⟨w.heap.size, 2, none⟩) hz2).trans p2; have q3_w4 := (hw4.cell (p := ⟨w.heap.size, 3, none⟩) hz2).trans p3; have q4_w4 := (hw4.cell (p := ⟨w.heap.size, 4, none⟩) hz2).trans p4; have q5_w4 := (hw4.cell (p := ⟨pw, 3, none⟩) hlp2).trans r3
         have hk4 : RCacheM w4 (Bd.of w2.heap.size) p g (blankL g) [] := rcache_grown HP3.out hgrow HRB.out
         have HGG := Lib.hid (HFIN.out w4 p A4 c4 hk4 (RdT.of_own hown) hw4)
         clear hown hgrow hk4)))
    all_goals (rename_i hheld; clear hheld; go_wp2; go_ret2; exact ⟨_, rfl, HGG.out⟩)
end
end Go.Proofs.YtckdhhadlemakaaGreat
namespace Go.Proofs.YtckdhhadlemakaaGreat
set_option linter.unusedVariables false
open Go.RowKit

section
variable {w w' : World} {B C D : Bd} {q pw p : Nat} {g : Geo} {F : List Flt} {s : DS} {P P' R : Pow} {LM : List Sec} {O : List OpV} {FA : Option Addr} {fc : Nat}
theorem RPow.lt (h : RPow w B pw R) : pw < w.heap.size := (IsT.own h.obj).lt
theorem RPow.low (h : RPow w B pw R) : B.has pw := ⟨row_low h.obj, h.px⟩
theorem RPow.mono (h : RPow w B pw R) (hs : Bd.Sub w.heap.size B C) : RPow w C pw R := ⟨own_mono h.obj hs.1, (hs.2 _ h.lt h.low).2⟩
theorem RPow.bound (h : RPow w B pw R) (hn : C.n ≤ B.n) (hx : ¬ C.X pw) : RPow w C pw R := ⟨own_mono h.obj hn, hx⟩
theorem RDsk.mono (h : RDsk w B q pw g F s LM O p FA fc) (hs : Bd.Sub w.heap.size B C) : RDsk w C q pw g F s LM O p FA fc :=
  ⟨own_mono h.obj hs.1, (hs.2 _ (IsT.own h.obj).lt ⟨row_low h.obj, h.px⟩).2, h.c.mono hs, h.fl⟩
theorem RDPm.mono (h : RDPm w B q pw g F s P LM O) (hs : Bd.Sub w.heap.size B C) (hC : C.top ≤ w.heap.size) : RDPm w C q pw g F s P LM O := by
  obtain ⟨⟨p, FA, fc, hd⟩, ⟨R, hr, hp⟩, hf, hb, _⟩ := h
  exact ⟨⟨p, FA, fc, hd.mono hs⟩, ⟨R, hr, hp.mono hs⟩, hf, hb, hC⟩
theorem RDPm.move (h : RDPm w B q pw g F s P LM O) (hb : Below w.heap.size w w') (hs : Bd.Sub w.heap.size B C) (hC : C.top ≤ w'.heap.size) : RDPm w' C q pw g F s P LM O := by
  obtain ⟨⟨p, FA, fc, hd⟩, ⟨R, hr, hp⟩, hf, hsb, hB⟩ := h
  exact ⟨⟨p, FA, fc, (hd.mono hs).below0 hb⟩, ⟨R, hr, (hp.mono hs).below0 hb⟩, hf, hsb, hC⟩
theorem RDPm.types {ts : List TypeId} (h : RDPm w B q pw g F s P LM O) (hk : KeptT ts C w w') (ht : ∀ t, t ∈ [90, 94, 123, 115, 5] → t ∉ ts) (h1 : 48 ∉ ts) (h2 : 64 ∉ ts) (h3 : 107 ∉ ts) : RDPm w' B q pw g F s P LM O := by
  obtain ⟨⟨p, FA, fc, hd⟩, ⟨R, hr, hp⟩, hf, hs, hB⟩ := h
  exact ⟨⟨p, FA, fc, hd.keptT hk ht h1 h2⟩, ⟨R, hr, hp.keptT hk h3⟩, hf, hs, Nat.le_trans hB hk.size⟩
theorem RCacheM.shut (h : RCacheM w B p g LM O) {ts : List TypeId} (hk : KeptT ts C w w') (ht : 94 ∉ ts ∧ 115 ∉ ts ∧ 5 ∉ ts) (tp : IsT 107 w pw) (hd : ∀ k, k < w.heap.size → B.has k → C.has k → k = pw) : RCacheM w' B p g LM O := by
  obtain ⟨l, m, b, A, c, e, h⟩ := h
  have no : ∀ {k : Nat} {t : TypeId}, IsT t w k → t ≠ 107 → B.has k → ¬ (C.has k ∧ HasT ts w k) := fun hk' hne hB hC => (hk'.ne tp hne) (hd _ hk'.lt hB hC.1)
  exact ⟨l, m, b, A, c, e, h.kept hk (no h.typ (by decide) h.low) (KeptT.no h.med.types.1 ht.1) (no h.med.types.2 (by decide) h.lb) (KeptT.free ht.2.1) (KeptT.free ht.2.2)⟩
theorem RDsk.shut (h : RDsk w B q pw g F s LM O p FA fc) (hk : KeptT RDT C w w') (tp : IsT 107 w pw) (hd : ∀ k, k < w.heap.size → B.has k → C.has k → k = pw) : RDsk w' B q pw g F s LM O p FA fc :=
  ⟨own_kept h.obj hk (fun k e => by
      simp [Value.ownBlock] at e; subst e
      exact fun hC => ((IsT.own h.obj).ne tp (by decide)) (hd _ (IsT.own h.obj).lt ⟨row_low h.obj, h.px⟩ hC.1)), h.px, h.c.shut hk (by unfold RDT; decide) tp hd, h.fl.kept hk (KeptT.free (by unfold RDT; decide))⟩
theorem RDPm.other (h : RDPm w B q pw g F s P LM O) (hp : ∃ R', RelP P' R' ∧ RPow w' C pw R') (hk : KeptT RDT C w w') (hs : Bd.Sub w.heap.size B D) (hn : C.n = D.n) (hD : D.top ≤ w'.heap.size) (hd : ∀ k, k < w.heap.size → D.has k → C.has k → k = pw) : RDPm w' D q pw g F s P' LM O := by
  obtain ⟨⟨p, FA, fc, hd'⟩, ⟨R, hr, hp'⟩, hf, hb, hB⟩ := h
  obtain ⟨R', hr', hp2⟩ := hp
  exact ⟨⟨p, FA, fc, (hd'.mono hs).shut hk (IsT.own hp'.obj) hd⟩, ⟨R', hr', by rw [← hn]; exact hp2.obj, (hp'.mono hs).px⟩, hf, hb, hD⟩
end
structure RTwo (w : World) (n pw q0 q1 : Nat) (g : Geo) (F0 F1 : List Flt) (s0 s1 : DS) (P : Pow) (L0 L1 : List Sec) (O0 O1 : List OpV) (S0 S1 : Nat → Prop) (hn : n ≤ w.heap.size) : Prop where
  a : RDPm w (Bd.on n w.heap.size S0 hn) q0 pw g F0 s0 P L0 O0
  b : RDPm w (Bd.on n w.heap.size S1 hn) q1 pw g F1 s1 P L1 O1
  no : ∀ k, k < w.heap.size → S0 k → S1 k → k = pw
def RTwoM (w : World) (n pw q0 q1 : Nat) (g : Geo) (F0 F1 : List Flt) (s0 s1 : DS) (P : Pow) (L0 L1 : List Sec) (O0 O1 : List OpV) : Prop := ∃ S0 S1 hn, RTwo w n pw q0 q1 g F0 F1 s0 s1 P L0 L1 O0 O1 S0 S1 hn
section
variable {w w' : World} {n pw q0 q1 : Nat} {g : Geo} {F0 F1 : List Flt} {s0 s1 : DS} {P : Pow} {L0 L1 : List Sec} {O0 O1 : List OpV} {S0 S1 : Nat → Prop} {hn : n ≤ w.heap.size}
theorem RTwo.step {s' : DS} {P' : Pow} {L' : List Sec} {O' : List OpV} (h : RTwo w n pw q0 q1 g F0 F1 s0 s1 P L0 L1 O0 O1 S0 S1 hn) (ha : RDPm w' (Bd.on n w.heap.size S0 hn) q0 pw g F0 s' P' L' O') (hk : KeptT RDT (Bd.on n w.heap.size S0 hn) w w') :
    ∃ S0' S1' hn', RTwo w' n pw q0 q1 g F0 F1 s' s1 P' L' L1 O' O1 S0' S1' hn' := by
  have hsz := hk.size
  refine ⟨fun k => S0 k ∨ w.heap.size ≤ k, fun k => S1 k ∧ k < w.heap.size, Nat.le_trans hn hsz, ?_, ?_, ?_⟩
  · refine ha.mono ⟨Nat.le_refl _, fun k hk' hh => ?_⟩ (Nat.le_refl _)
    refine (Bd.on_has hk').2 ⟨hh.1, ?_⟩
    by_cases h2 : k < w.heap.size
    · exact .inl ((Bd.on_has h2).1 hh).2
    · exact .inr (by omega)
  · refine h.b.other ha.p hk ⟨Nat.le_refl _, fun k hk' hh => ?_⟩ rfl (Nat.le_refl _) (fun k hk' h1 h0 => ?_)
    · exact (Bd.on_has (by omega)).2 ⟨hh.1, ((Bd.on_has hk').1 hh).2, hk'⟩
    · exact h.no k hk' ((Bd.on_has hk').1 h0).2 ((Bd.on_has (by omega)).1 h1).2.1
  · rintro k hk' (h0 | h0) ⟨h1, h2⟩
    · exact h.no k h2 h0 h1
    · omega
theorem RTwoM.first (h : RTwoM w n pw q0 q1 g F0 F1 s0 s1 P L0 L1 O0 O1) : ∃ B : Bd, B.n = n ∧ RDPm w B q0 pw g F0 s0 P L0 O0 ∧
    ∀ w' s' P' L' O', RDPm w' B q0 pw g F0 s' P' L' O' → KeptT RDT B w w' → RTwoM w' n pw q0 q1 g F0 F1 s' s1 P' L' L1 O' O1 := by
  obtain ⟨S0, S1, hn, h⟩ := h
  exact ⟨_, rfl, h.a, fun w' s' P' L' O' ha hk => h.step ha hk⟩
theorem RTwoM.swap (h : RTwoM w n pw q0 q1 g F0 F1 s0 s1 P L0 L1 O0 O1) : RTwoM w n pw q1 q0 g F1 F0 s1 s0 P L1 L0 O1 O0 := by
  obtain ⟨S0, S1, hn, h⟩ := h
  exact ⟨S1, S0, hn, h.b, h.a, fun k hk h1 h0 => h.no k hk h0 h1⟩
theorem RTwoM.second (h : RTwoM w n pw q0 q1 g F0 F1 s0 s1 P L0 L1 O0 O1) : ∃ B : Bd, B.n = n ∧ RDPm w B q1 pw g F1 s1 P L1 O1 ∧
    ∀ w' s' P' L' O', RDPm w' B q1 pw g F1 s' P' L' O' → KeptT RDT B w w' → RTwoM w' n pw q0 q1 g F0 F1 s0 s' P' L0 L' O0 O' := by
  obtain ⟨B, h1, h2, h3⟩ := h.swap.first
  exact ⟨B, h1, h2, fun w' s' P' L' O' ha hk => (h3 w' s' P' L' O' ha hk).swap⟩
theorem RTwoM.below (h : RTwoM w n pw q0 q1 g F0 F1 s0 s1 P L0 L1 O0 O1) (hb : Below w.heap.size w w') : RTwoM w' n pw q0 q1 g F0 F1 s0 s1 P L0 L1 O0 O1 := by
  obtain ⟨S0, S1, hn, h⟩ := h
  have hz := hb.size
  refine ⟨fun k => S0 k ∧ k < w.heap.size, fun k => S1 k ∧ k < w.heap.size, Nat.le_trans hn hz, ⟨h.a.move hb ⟨Nat.le_refl _, fun k hk hh => ?_⟩ (Nat.le_refl _), h.b.move hb ⟨Nat.le_refl _, fun k hk hh => ?_⟩ (Nat.le_refl _), fun k hk h0 h1 => h.no k h0.2 h0.1 h1.1⟩⟩
  · have := (Bd.on_has hk).1 hh
    exact (Bd.on_has (by omega)).2 ⟨this.1, this.2, hk⟩
  · have := (Bd.on_has hk).1 hh
    exact (Bd.on_has (by omega)).2 ⟨this.1, this.2, hk⟩
theorem RTwoM.low (h : RTwoM w n pw q0 q1 g F0 F1 s0 s1 P L0 L1 O0 O1) : n ≤ w.heap.size := by
  obtain ⟨S0, S1, hn, h⟩ := h; exact hn
/-- Blocks of other types have changed, and some are new. -/
theorem RTwoM.typed {ts : List TypeId} {C : Bd} (h : RTwoM w n pw q0 q1 g F0 F1 s0 s1 P L0 L1 O0 O1) (hk : KeptT ts C w w')
    (ht : ∀ t, t ∈ [90, 94, 123, 115, 5] → t ∉ ts) (h1 : 48 ∉ ts) (h2 : 64 ∉ ts) (h3 : 107 ∉ ts) : RTwoM w' n pw q0 q1 g F0 F1 s0 s1 P L0 L1 O0 O1 := by
  obtain ⟨S0, S1, hn, h⟩ := h
  have hz := hk.size
  have ha := h.a.d
  have go : ∀ {q : Nat} {F : List Flt} {s : DS} {L : List Sec} {O : List OpV} {S : Nat → Prop}, RDPm w (Bd.on n w.heap.size S hn) q pw g F s P L O → RDPm w' (Bd.on n w'.heap.size (fun k => S k ∧ k < w.heap.size) (Nat.le_trans hn hz)) q pw g F s P L O := by
    intro q F s L O S hh
    have hs : Bd.Sub w.heap.size (Bd.on n w.heap.size S hn) (Bd.on n w'.heap.size (fun k => S k ∧ k < w.heap.size) (Nat.le_trans hn hz)) := ⟨Nat.le_refl _, fun k hk hh => (Bd.on_has (by omega)).2 ⟨((Bd.on_has hk).1 hh).1, ((Bd.on_has hk).1 hh).2, hk⟩⟩
    obtain ⟨⟨p, FA, fc, hd⟩, ⟨R, hr, hp⟩, hf, hb, hB⟩ := hh
    exact ⟨⟨p, FA, fc, (hd.mono hs).keptT hk ht h1 h2⟩, ⟨R, hr, (hp.mono hs).keptT hk h3⟩, hf, hb, Nat.le_refl _⟩
  exact ⟨_, _, _, go h.a, go h.b, fun k hk h0 h1 => h.no k h0.2 h0.1 h1.1⟩
theorem TwoM.typed {ts : List TypeId} {C : Bd} (h : TwoM w n pw q0 q1 g F0 F1 s0 s1 P L0 L1 O0 O1) (hk : KeptT ts C w w')
    (ht : ∀ t, t ∈ [118, 126, 133, 120, 3, 53, 5] → t ∉ ts) (h1 : 79 ∉ ts) (h2 : 64 ∉ ts) (h3 : 83 ∉ ts) : TwoM w' n pw q0 q1 g F0 F1 s0 s1 P L0 L1 O0 O1 := by
  obtain ⟨S0, S1, hn, h⟩ := h
  have hz := hk.size
  have go : ∀ {q : Nat} {F : List Flt} {s : DS} {L : List Sec} {O : List OpV} {S : Nat → Prop}, DPm w (Bd.on n w.heap.size S hn) q pw g F s P L O → DPm w' (Bd.on n w'.heap.size (fun k => S k ∧ k < w.heap.size) (Nat.le_trans hn hz)) q pw g F s P L O := by
    intro q F s L O S hh
    have hs : Bd.Sub w.heap.size (Bd.on n w.heap.size S hn) (Bd.on n w'.heap.size (fun k => S k ∧ k < w.heap.size) (Nat.le_trans hn hz)) := ⟨Nat.le_refl _, fun k hk hh => (Bd.on_has (by omega)).2 ⟨((Bd.on_has hk).1 hh).1, ((Bd.on_has hk).1 hh).2, hk⟩⟩
    obtain ⟨⟨p, FA, fc, hd⟩, hp, hf, hb, hB⟩ := hh
    exact ⟨⟨p, FA, fc, (hd.mono hs).keptT hk ht h1 h2⟩, (hp.mono hs).keptT hk h3, hf, hb, Nat.le_refl _⟩
  exact ⟨_, _, _, go h.a, go h.b, fun k hk h0 h1 => h.no k h0.2 h0.1 h1.1⟩
end
end Go.Proofs.YtckdhhadlemakaaGreat
namespace Go.Proofs.YtckdhhadlemakaaGreat
set_option linter.unusedVariables false
open Go.RowKit

theorem setPairR {w : World} {r : Nat} {p0 p1 : Value} {base : Nat} (h : w.ownsRow base 40 2 (.slice (some ⟨r, 0, none⟩) 1 1) 1 [p0, p1]) (j : Nat) (v : Value) : KeptT [40] (Bd.of 0) w (w.setCell ⟨r, j, none⟩ v) :=
  KeptT.of ((Kept.refl (fun k => k = r) w).setCell (p := ⟨r, j, none⟩) (fun _ => rfl) _) (fun k _ e => by have e' : k = r := e; subst e'; exact ⟨⟨Nat.zero_le _, fun h => h⟩, HasT.mem (IsT.own h) (by simp)⟩)
/-- The boxes of start. -/
structure RBox (w wr : World) (X pw : Nat) (cs : List Value) (v0 v1 : Value) : Prop where
  bel : Below w.heap.size w wr
  box : wr.ownsRow 0 28 8 (.slice (some ⟨w.heap.size, 0, none⟩) 1 1) 1 cs
  res : wr.ownsRow 0 40 2 (.slice (some ⟨w.heap.size + 1, 0, none⟩) 1 1) 1 [.pointer none, .pointer none]
  var : wr.ownsRow 0 40 2 (.slice (some ⟨X, 0, none⟩) 1 1) 1 [v0, v1]
  lt : w.heap.size + 1 < X
theorem RBox.below {w wr w' : World} {X pw : Nat} {cs : List Value} {v0 v1 : Value} (h : RBox w wr X pw cs v0 v1) (hb : Below wr.heap.size wr w') : RBox w w' X pw cs v0 v1 :=
  ⟨h.bel.trans (hb.mono h.bel.size), own_kept h.box (belKept0 (S := fun _ => False) hb) (fun _ _ h => h), own_kept h.res (belKept0 (S := fun _ => False) hb) (fun _ _ h => h), own_kept h.var (belKept0 (S := fun _ => False) hb) (fun _ _ h => h), h.lt⟩
theorem RBox.store {w wr : World} {X pw : Nat} {cs : List Value} {v0 v1 v0' v1' : Value} (h : RBox w wr X pw cs v0 v1) (j : Nat) (v : Value) (e : [v0, v1].set j v = [v0', v1']) : RBox w (wr.setCell ⟨X, j, none⟩ v) X pw cs v0' v1' := by
  have hk : Kept (fun k => k = X) wr (wr.setCell ⟨X, j, none⟩ v) := (Kept.refl (fun k => k = X) wr).setCell (p := ⟨X, j, none⟩) (fun _ => rfl) _
  have hl := h.lt
  have := (World.ownsRow.stored h.var j v).1
  rw [e] at this
  exact ⟨h.bel.setCell (p := ⟨X, j, none⟩) (by show w.heap.size ≤ X; omega) v, own_kept h.box hk (fun k e => by simp [Value.ownBlock] at e; subst e; show ¬ (w.heap.size = X); omega), own_kept h.res hk (fun k e => by simp [Value.ownBlock] at e; subst e; show ¬ (w.heap.size + 1 = X); omega), this, hl⟩
theorem RBox.cells {w wr : World} {X pw : Nat} {v0 v1 c0 c1 c2 c3 c4 c5 c6 c7 : Value} (h : RBox w wr X pw [c0, c1, c2, c3, c4, c5, c6, c7] v0 v1) :
    (wr.cell? ⟨w.heap.size, 0, none⟩ = some c0 ∧ wr.cell? ⟨w.heap.size, 1, none⟩ = some c1 ∧ wr.cell? ⟨w.heap.size, 2, none⟩ = some c2 ∧ wr.cell? ⟨w.heap.size, 3, none⟩ = some c3 ∧ wr.cell? ⟨w.heap.size, 4, none⟩ = some c4 ∧ wr.cell? ⟨w.heap.size, 5, none⟩ = some c5 ∧ wr.cell? ⟨w.heap.size, 6, none⟩ = some c6) ∧
    (wr.cell? ⟨X, 0, none⟩ = some v0 ∧ wr.cell? ⟨X, 1, none⟩ = some v1) ∧ (wr.frozen? ⟨X, 0, none⟩ = false ∧ wr.frozen? ⟨X, 1, none⟩ = false) :=
  ⟨⟨(World.ownsRow.cellAt h.box 0 (by decide)).trans rfl, (World.ownsRow.cellAt h.box 1 (by decide)).trans rfl, (World.ownsRow.cellAt h.box 2 (by decide)).trans rfl, (World.ownsRow.cellAt h.box 3 (by decide)).trans rfl, (World.ownsRow.cellAt h.box 4 (by decide)).trans rfl, (World.ownsRow.cellAt h.box 5 (by decide)).trans rfl, (World.ownsRow.cellAt h.box 6 (by decide)).trans rfl⟩,
   ⟨(World.ownsRow.cellAt h.var 0 (by decide)).trans rfl, (World.ownsRow.cellAt h.var 1 (by decide)).trans rfl⟩, h.var.frozenAt 0, h.var.frozenAt 1⟩
def BeginPost (w : World) (g : Geo) (l0 l1 : List Flt) (e : Ending) (w' : World) : Prop :=
  ∃ pw q0 q1, e = .returned (.tuple #[.pointer (some ⟨pw, 0, none⟩), .agg #[.pointer (some ⟨q0, 0, none⟩), .pointer (some ⟨q1, 0, none⟩)]]) ∧ RTwoM w' w.heap.size pw q0 q1 g l0 l1 (newS P0) (newS P0) P0 (blankL g) (blankL g) [] [] ∧ Below w.heap.size w w'
/-- The rounds of start. -/
def RStAt (w : World) (g : Geo) (l0 l1 : List Flt) (X pw : Nat) (cs : List Value) (k : Nat) (wr : World) : Prop :=
  (k = 0 ∧ RBox w wr X pw cs (.pointer none) (.pointer none) ∧ RPow wr (Bd.of w.heap.size) pw P0) ∨
  (k = 1 ∧ ∃ q0 B, RBox w wr X pw cs (.pointer (some ⟨q0, 0, none⟩)) (.pointer none) ∧ B.n = w.heap.size ∧ RDPm wr B q0 pw g l0 (newS P0) P0 (blankL g) []) ∨
  (k = 2 ∧ ∃ q0 q1, RBox w wr X pw cs (.pointer (some ⟨q0, 0, none⟩)) (.pointer (some ⟨q1, 0, none⟩)) ∧ RTwoM wr w.heap.size pw q0 q1 g l0 l1 (newS P0) (newS P0) P0 (blankL g) (blankL g) [] [])
set_option maxRecDepth 100000 in
set_option maxHeartbeats 4000000 in
theorem begin14_any (g : Geo) (l0 l1 : List Flt) (A0 A1 AA : Option Addr) (c0 c1 na ca : Nat) (w : World) (h0 : Rd w w.heap.size A0 (flatF l0)) (h1 : Rd w w.heap.size A1 (flatF l1)) (hg : validG g = true) (hv0 : validF l0 = true) (hv1 : validF l1 = true) (n0 : l0.length * 24 ≤ 140737488355328) (n1 : l1.length * 24 ≤ 140737488355328) :
    Calls Tryz.prog 7 #[.agg #[.int .i64 g.random, .int .i64 g.bands, .int .i64 g.tracks, .int .i64 g.sectors, .int .i64 g.overlap, .slice A0 l0.length c0, .slice A1 l1.length c1, .slice AA na ca]] w (BeginPost w g l0 l1) := by
  have HN0 : Hid (∀ W B pw R, Below w.heap.size w W → RPow W B pw R → RelP P0 R → B.top ≤ W.heap.size → Calls Tryz.prog 26 #[.agg #[.int .i64 g.random, .int .i64 g.bands, .int .i64 g.tracks, .int .i64 g.sectors, .int .i64 g.overlap], .slice A0 l0.length c0, .pointer (some ⟨pw, 0, none⟩)] W (RDNewPost W B pw g l0 P0)) := by
    unfold Hid; intro W B pw R hW hp hrr hB; exact rdnew_yes l0 A0 c0 hg hv0 ((h0.below hW (Nat.le_refl _)).more hW.size) n0 hp hrr hB
  have HN1 : Hid (∀ W B pw R, Below w.heap.size w W → RPow W B pw R → RelP P0 R → B.top ≤ W.heap.size → Calls Tryz.prog 26 #[.agg #[.int .i64 g.random, .int .i64 g.bands, .int .i64 g.tracks, .int .i64 g.sectors, .int .i64 g.overlap], .slice A1 l1.length c1, .pointer (some ⟨pw, 0, none⟩)] W (RDNewPost W B pw g l1 P0)) := by
    unfold Hid; intro W B pw R hW hp hrr hB; exact rdnew_yes l1 A1 c1 hg hv1 ((h1.below hW (Nat.le_refl _)).more hW.size) n1 hp hrr hB
  have HNP := Lib.hid rnewpower_any
  clear h0 h1 hg hv0 hv1
  obtain ⟨cs, hcs⟩ : ∃ cs : List Value, cs = [.int .i64 g.random, .int .i64 g.bands, .int .i64 g.tracks, .int .i64 g.sectors, .int .i64 g.overlap, .slice A0 l0.length c0, .slice A1 l1.length c1, .slice AA na ca] := ⟨_, rfl⟩
  have HCS := Lib.hid hcs
  clear hcs
  have hbA : Below w.heap.size w ((w.alloc (.cells #[.int .i64 g.random, .int .i64 g.bands, .int .i64 g.tracks, .int .i64 g.sectors, .int .i64 g.overlap, .slice A0 l0.length c0, .slice A1 l1.length c1, .slice AA na ca] 28)).alloc (.cells #[.pointer none, .pointer none] 40)) := ((Below.refl _ _).alloc (Nat.le_refl _) _).alloc (by simp) _
  have hox : ((w.alloc (.cells #[.int .i64 g.random, .int .i64 g.bands, .int .i64 g.tracks, .int .i64 g.sectors, .int .i64 g.overlap, .slice A0 l0.length c0, .slice A1 l1.length c1, .slice AA na ca] 28)).alloc (.cells #[.pointer none, .pointer none] 40)).ownsRow 0 28 8 (.slice (some ⟨w.heap.size, 0, none⟩) 1 1) 1 cs := by
    have := World.ownsRow_lit (base := 0) (e := 28) (size := 8) w #[.int .i64 g.random, .int .i64 g.bands, .int .i64 g.tracks, .int .i64 g.sectors, .int .i64 g.overlap, .slice A0 l0.length c0, .slice A1 l1.length c1, .slice AA na ca] 1 (Nat.zero_le _) (by decide) rfl
    rw [HCS.out]
    exact this.alloc _
  have hor : ((w.alloc (.cells #[.int .i64 g.random, .int .i64 g.bands, .int .i64 g.tracks, .int .i64 g.sectors, .int .i64 g.overlap, .slice A0 l0.length c0, .slice A1 l1.length c1, .slice AA na ca] 28)).alloc (.cells #[.pointer none, .pointer none] 40)).ownsRow 0 40 2 (.slice (some ⟨w.heap.size + 1, 0, none⟩) 1 1) 1 [.pointer none, .pointer none] := by
    have := World.ownsRow_lit (base := 0) (e := 40) (size := 2) (w.alloc (.cells #[.int .i64 g.random, .int .i64 g.bands, .int .i64 g.tracks, .int .i64 g.sectors, .int .i64 g.overlap, .slice A0 l0.length c0, .slice A1 l1.length c1, .slice AA na ca] 28)) #[.pointer none, .pointer none] 1 (Nat.zero_le _) (by decide) rfl
    rw [World.size_alloc] at this
    exact this
  have HA := Lib.hid (And.intro hbA (And.intro hox hor))
  clear hbA hox hor
  go_enter Tryz.func7, Tryz.ntmps7
  go_wp2_with fail
  refine (HNP.out _).mono ?_
  rintro e w1 ⟨pw, rfl, hp1, hb1⟩
  obtain ⟨hbA, hox, hor⟩ := HA.out
  have hz0 : w.heap.size + 2 ≤ w1.heap.size := by have := hb1.size; simp at this; omega
  have hb2 : Below w1.heap.size w1 (w1.alloc (.cells #[.pointer none, .pointer none] 40)) := (Below.refl _ _).alloc (Nat.le_refl _) _
  have hs0 : RStAt w g l0 l1 w1.heap.size pw cs 0 (w1.alloc (.cells #[.pointer none, .pointer none] 40)) := by
    refine .inl ⟨rfl, ⟨(hbA.trans (hb1.mono hbA.size)).trans (hb2.mono (by omega)), own_kept (own_kept hox (belKept0 (S := fun _ => False) hb1) (fun _ _ h => h)) (belKept0 (S := fun _ => False) hb2) (fun _ _ h => h), own_kept (own_kept hor (belKept0 (S := fun _ => False) hb1) (fun _ _ h => h)) (belKept0 (S := fun _ => False) hb2) (fun _ _ h => h), World.ownsRow_lit (base := 0) (e := 40) (size := 2) w1 #[.pointer none, .pointer none] 1 (Nat.zero_le _) (by decide) rfl, by omega⟩, ?_⟩
    exact (hp1.bound (C := Bd.of w.heap.size) (by simp [Bd.of]; omega) (fun h => h)).below0 hb2
  have HS0 := Lib.hid hs0
  clear hs0 hp1 hbA hox hor
  generalize hX : w1.heap.size = X at *
  go_wp2
  generalize w1.alloc (.cells #[.pointer none, .pointer none] 40) = w2 at *
  go_loopw [6] (fun s5 wr => ∃ k : Nat, k ≤ 2 ∧ s5 = .int .i64 k ∧ Hid (RStAt w g l0 l1 X pw cs k wr)) (fun v _ => 2 - (intOf v).toNat)
  case atStart => exact ⟨0, by omega, rfl, HS0⟩
  case round =>
    obtain ⟨k, hk, rfl, hst⟩ := hrel
    rcases hst.out with ⟨rfl, hbx, hpw⟩ | ⟨rfl, q0, B, hbx, hBn, hd0⟩ | ⟨rfl, q0, q1, hbx, htw⟩
    · have HBX := Lib.hid hbx
      rw [HCS.out] at hbx
      obtain ⟨⟨b0, b1, b2, b3, b4, b5, b6⟩, ⟨x0, x1⟩, f0, f1⟩ := hbx.cells
      have hbl := hbx.bel
      have hXb : ¬ (X = w.heap.size) := by have := hbx.lt; omega
      have HNW := Lib.hid (HN0.out wr.drew (Bd.on w.heap.size wr.heap.size (fun k => k = pw) hbl.size) pw P0 hbl.drew ((hpw.bound (C := Bd.on w.heap.size wr.heap.size (fun k => k = pw) hbl.size) (Nat.le_refl _) (fun h => h.2 rfl)).below0 ((Below.refl _ _).drew)) (RelP.refl _) (Nat.le_refl _))
      have hbb : ∃ B : Bd, B = Bd.on w.heap.size wr.heap.size (fun k => k = pw) hbl.size := ⟨_, rfl⟩
      obtain ⟨B0, hB0⟩ := hbb
      rw [← hB0] at HNW
      have HBN : Hid (B0.n = w.heap.size) := by unfold Hid; rw [hB0]; rfl
      clear hst hbx hpw hB0
      go_wp2
      go_region_held3 (fun W => W.cell? ⟨w.heap.size, 0, none⟩ = some (.int .i64 g.random) ∧ W.cell? ⟨w.heap.size, 1, none⟩ = some (.int .i64 g.bands) ∧ W.cell? ⟨w.heap.size, 2, none⟩ = some (.int .i64 g.tracks) ∧ W.cell? ⟨w.heap.size, 3, none⟩ = some (.int .i64 g.sectors) ∧ W.cell? ⟨w.heap.size, 4, none⟩ = some (.int .i64 g.overlap) ∧ W.cell? ⟨w.heap.size, 5, none⟩ = some (.slice A0 l0.length c0) ∧ W.cell? ⟨w.heap.size, 6, none⟩ = some (.slice A1 l1.length c1))
        (first | (refine ⟨?_, ?_, ?_, ?_, ?_, ?_, ?_⟩ <;> assumption) | (simp (maxDischargeDepth := 20) [World.cell?_alloc_some, World.cell?_setCell_far, *]; done))
        ((go_at_call 26
          refine HNW.out.mono ?_
          rintro e w3 ⟨q0, rfl, hd3, hb3⟩
          have HDN := Lib.hid hd3
          have hb3' : Below wr.heap.size wr w3 := ((Below.refl wr.heap.size wr).drew).trans hb3
          have hbx3 := HBX.out.below hb3'
          rw [HCS.out] at hbx3
          obtain ⟨⟨e0, e1, e2, e3, e4, e5, e6⟩, ⟨y0, y1⟩, g0, g1⟩ := hbx3.cells
          clear hd3 hbx3))
      have hbx4 := HBX.out.below hb3'
      have HFS := Lib.hid (And.intro (hbx4.store 0 (.pointer (some ⟨q0, 0, none⟩)) (v0' := .pointer (some ⟨q0, 0, none⟩)) (v1' := .pointer none) rfl) (HDN.out.types (setPairR hbx4.var 0 (.pointer (some ⟨q0, 0, none⟩))) (by decide) (by decide) (by decide) (by decide)))
      clear hbx4 b0 b1 b2 b3 b4 b5 b6 x0 x1 f0 f1
      go_wp2
      go_roundw
      case rel => exact ⟨1, by omega, by go_num, Lib.hid (.inr (.inl ⟨rfl, q0, B0, HFS.out.1, HBN.out, HFS.out.2⟩))⟩
      case measure => simp [intOf]
    · have HBX := Lib.hid hbx
      rw [HCS.out] at hbx
      obtain ⟨⟨b0, b1, b2, b3, b4, b5, b6⟩, ⟨x0, x1⟩, f0, f1⟩ := hbx.cells
      have hbl := hbx.bel
      have hXb : ¬ (X = w.heap.size) := by have := hbx.lt; omega
      obtain ⟨R1, hrr1, hpw1⟩ := hd0.p
      have HNW := Lib.hid (HN1.out wr.drew (Bd.on w.heap.size wr.heap.size (fun k => k = pw) hbl.size) pw R1 hbl.drew ((hpw1.bound (C := Bd.on w.heap.size wr.heap.size (fun k => k = pw) hbl.size) (by rw [hBn]; exact Nat.le_refl _) (fun h => h.2 rfl)).below0 ((Below.refl _ _).drew)) hrr1 (Nat.le_refl _))
      have hbb : ∃ B : Bd, B = Bd.on w.heap.size wr.heap.size (fun k => k = pw) hbl.size := ⟨_, rfl⟩
      obtain ⟨B1, hB1⟩ := hbb
      rw [← hB1] at HNW
      have HBE := Lib.hid hB1
      have HD0 := Lib.hid hd0
      clear hst hbx hd0 hB1
      go_wp2
      go_region_held3 (fun W => W.cell? ⟨w.heap.size, 0, none⟩ = some (.int .i64 g.random) ∧ W.cell? ⟨w.heap.size, 1, none⟩ = some (.int .i64 g.bands) ∧ W.cell? ⟨w.heap.size, 2, none⟩ = some (.int .i64 g.tracks) ∧ W.cell? ⟨w.heap.size, 3, none⟩ = some (.int .i64 g.sectors) ∧ W.cell? ⟨w.heap.size, 4, none⟩ = some (.int .i64 g.overlap) ∧ W.cell? ⟨w.heap.size, 5, none⟩ = some (.slice A0 l0.length c0) ∧ W.cell? ⟨w.heap.size, 6, none⟩ = some (.slice A1 l1.length c1))
        (first | (refine ⟨?_, ?_, ?_, ?_, ?_, ?_, ?_⟩ <;> assumption) | (simp (maxDischargeDepth := 20) [World.cell?_alloc_some, World.cell?_setCell_far, *]; done))
        ((go_at_call 26
          refine HNW.out.mono ?_
          rintro e w3 ⟨q1, rfl, hd3, hb3⟩
          have HDN := Lib.hid hd3
          have hb3' : Below wr.heap.size wr w3 := ((Below.refl wr.heap.size wr).drew).trans hb3
          have hbx3 := HBX.out.below hb3'
          rw [HCS.out] at hbx3
          obtain ⟨⟨e0, e1, e2, e3, e4, e5, e6⟩, ⟨y0, y1⟩, g0, g1⟩ := hbx3.cells
          clear hd3 hbx3))
      have hbx4 := HBX.out.below hb3'
      have hn3 : w.heap.size ≤ w3.heap.size := Nat.le_trans hbl.size hb3'.size
      have htw : RTwoM w3 w.heap.size pw q0 q1 g l0 l1 (newS P0) (newS P0) P0 (blankL g) (blankL g) [] [] := by
        refine ⟨fun k => k < wr.heap.size, fun k => wr.heap.size ≤ k ∨ k = pw, hn3, ⟨HD0.out.move hb3' ⟨by rw [hBn]; exact Nat.le_refl _, fun k hk' hh => ?_⟩ (Nat.le_refl _), HDN.out.mono ⟨by rw [HBE.out]; exact Nat.le_refl _, fun k hk' hh => ?_⟩ (Nat.le_refl _), fun k hk' h0 h1 => ?_⟩⟩
        · have := hb3'.size
          exact (Bd.on_has (by omega)).2 ⟨by have := hh.1; rw [hBn] at this; exact this, hk'⟩
        · rw [HBE.out] at hh
          refine (Bd.on_has hk').2 ⟨hh.1, ?_⟩
          by_cases h2 : k < wr.heap.size
          · exact .inr ((Bd.on_has h2).1 hh).2
          · exact .inl (by omega)
        · rcases h1 with h1 | h1
          · omega
          · exact h1
      have HFS := Lib.hid (And.intro (hbx4.store 1 (.pointer (some ⟨q1, 0, none⟩)) (v0' := .pointer (some ⟨q0, 0, none⟩)) (v1' := .pointer (some ⟨q1, 0, none⟩)) rfl) (htw.typed (setPairR hbx4.var 1 (.pointer (some ⟨q1, 0, none⟩))) (by decide) (by decide) (by decide) (by decide)))
      clear hbx4 htw b0 b1 b2 b3 b4 b5 b6 x0 x1 f0 f1
      go_wp2
      go_roundw
      case rel => exact ⟨2, by omega, by go_num, Lib.hid (.inr (.inr ⟨rfl, q0, q1, HFS.out.1, HFS.out.2⟩))⟩
      case measure => simp [intOf]
    · have HBX := Lib.hid hbx
      rw [HCS.out] at hbx
      obtain ⟨_, ⟨x0, x1⟩, f0, f1⟩ := hbx.cells
      have r0 : wr.cell? ⟨w.heap.size + 1, 0, none⟩ = some (.pointer none) := (World.ownsRow.cellAt hbx.res 0 (by decide)).trans rfl
      have r1 : wr.cell? ⟨w.heap.size + 1, 1, none⟩ = some (.pointer none) := (World.ownsRow.cellAt hbx.res 1 (by decide)).trans rfl
      have h0' := hbx.res.frozenAt 0
      have h1' := hbx.res.frozenAt 1
      have k1 := setPairR hbx.res 0 (.pointer (some ⟨q0, 0, none⟩))
      have o1 := (World.ownsRow.stored hbx.res 0 (.pointer (some ⟨q0, 0, none⟩))).1
      have k2 := setPairR o1 1 (.pointer (some ⟨q1, 0, none⟩))
      have HTW := Lib.hid (htw.typed (k1.trans k2) (by decide) (by decide) (by decide) (by decide))
      have HBL := Lib.hid ((hbx.bel.setCell (p := ⟨w.heap.size + 1, 0, none⟩) (by show w.heap.size ≤ w.heap.size + 1; omega) (.pointer (some ⟨q0, 0, none⟩))).setCell (p := ⟨w.heap.size + 1, 1, none⟩) (by show w.heap.size ≤ w.heap.size + 1; omega) (.pointer (some ⟨q1, 0, none⟩)))
      clear hst hbx htw k1 k2 o1
      go_wp2
      go_region
      all_goals go_wp2
      all_goals exact bodyPost_ret (v := .tuple #[.pointer (some ⟨pw, 0, none⟩), .agg #[.pointer (some ⟨q0, 0, none⟩), .pointer (some ⟨q1, 0, none⟩)]]) (by simp [results, Tryz.results7, go_sem, *]) rfl ⟨pw, q0, q1, rfl, HTW.out.below ((Below.refl _ _).drew), HBL.out.drew⟩
end Go.Proofs.YtckdhhadlemakaaGreat
namespace Go.Proofs.YtckdhhadlemakaaGreat
set_option linter.unusedVariables false
open Go.RowKit

set_option maxRecDepth 100000 in
set_option maxHeartbeats 4000000 in
theorem same14_any {w : World} {B C : Bd} {q pw r rp : Nat} {g : Geo} {F F' : List Flt} {s : DS} {P P' : Pow} {LM : List Sec} {O : List OpV} (h : DPm w B q pw g F s P LM O) (hr : RDPm w C r rp g F' s P' LM O) (hn : O.length ≤ 99000) :
    Calls Tryz.prog 15 #[.pointer (some ⟨q, 0, none⟩), .pointer (some ⟨r, 0, none⟩)] w fun e w' => e = .returned (.bool true) ∧ Below w.heap.size w w' := by
  have HGE : Hid (∀ W, Below w.heap.size w W → Calls Tryz.prog 40 #[.pointer (some ⟨q, 0, none⟩)] W fun e w' => e = .returned (.agg #[.int .i64 g.random, .int .i64 g.bands, .int .i64 g.tracks, .int .i64 g.sectors, .int .i64 g.overlap]) ∧ Below W.heap.size W w') := by
    unfold Hid; intro W hW; exact dgeo_any (h.below0 hW)
  have HDE : Hid (∀ W, Below w.heap.size w W → Calls Tryz.prog 12 #[.pointer (some ⟨q, 0, none⟩)] W fun e w' => e = .returned (.bool s.dead) ∧ Below W.heap.size W w') := by
    unfold Hid; intro W hW; refine (ddead_any (h.below0 hW)).mono ?_; rintro e w' ⟨rfl, rfl⟩; exact ⟨rfl, Below.refl _ _⟩
  have HOP : Hid (∀ W, Below w.heap.size w W → Calls Tryz.prog 42 #[.pointer (some ⟨q, 0, none⟩)] W fun e w' => e = .returned (.int .i64 s.ops) ∧ Below W.heap.size W w') := by
    unfold Hid; intro W hW; refine (dops_any (h.below0 hW)).mono ?_; rintro e w' ⟨rfl, rfl⟩; exact ⟨rfl, Below.refl _ _⟩
  have HPE : Hid (∀ W, Below w.heap.size w W → Calls Tryz.prog 43 #[.pointer (some ⟨q, 0, none⟩)] W fun e w' => e = .returned (.int .i64 O.length) ∧ Below W.heap.size W w') := by
    unfold Hid; intro W hW; refine (dpending_any (h.below0 hW)).mono ?_; rintro e w' ⟨rfl, rfl⟩; exact ⟨rfl, Below.refl _ _⟩
  have HTE : Hid (∀ W, Below w.heap.size w W → Calls Tryz.prog 41 #[.pointer (some ⟨q, 0, none⟩)] W fun e w' => e = .returned (.agg #[.int .i64 s.r, .int .i64 s.w, .int .i64 s.e, .int .i64 s.f]) ∧ Below W.heap.size W w') := by
    unfold Hid; intro W hW; exact dstats_any (h.below0 hW)
  have HSE : Hid (∀ W a, Below w.heap.size w W → Calls Tryz.prog 45 #[.pointer (some ⟨q, 0, none⟩), .int .i64 a] W fun e w' => e = .returned (.int .i64 (stateN (playL g LM O) a)) ∧ W = w') := by
    unfold Hid; intro W a hW; exact dst_any a (h.below0 hW)
  have HF := Lib.hid (h.f.len (playL_len g O LM))
  obtain ⟨⟨p, FA, fc, hd⟩, _, hf, _, _⟩ := hr
  have HCT : Hid (∀ W, Below w.heap.size w W → Calls Tryz.prog 44 #[.pointer (some ⟨p, 0, none⟩)] W (RClonePost W g (playL g LM O))) := by
    unfold Hid; intro W hW; exact rcontents_any (hd.below0 hW).c hf (Nat.le_trans hn (by decide))
  have hql := (IsT.own hd.obj).lt
  have c0 := (hd.cell 0 (by decide)).trans (show _ = some (Value.int .i64 g.random) from rfl)
  have c1 := (hd.cell 1 (by decide)).trans (show _ = some (Value.int .i64 g.bands) from rfl)
  have c2 := (hd.cell 2 (by decide)).trans (show _ = some (Value.int .i64 g.tracks) from rfl)
  have c3 := (hd.cell 3 (by decide)).trans (show _ = some (Value.int .i64 g.sectors) from rfl)
  have c4 := (hd.cell 4 (by decide)).trans (show _ = some (Value.int .i64 g.overlap) from rfl)
  have c5 := (hd.cell 5 (by decide)).trans (show _ = some (Value.pointer (some ⟨p, 0, none⟩)) from rfl)
  have c9 := (hd.cell 9 (by decide)).trans (show _ = some (Value.bool s.dead) from rfl)
  have c11 := (hd.cell 11 (by decide)).trans (show _ = some (Value.int .i64 s.ops) from rfl)
  have c12 := (hd.cell 12 (by decide)).trans (show _ = some (Value.int .i64 s.r) from rfl)
  have c13 := (hd.cell 13 (by decide)).trans (show _ = some (Value.int .i64 s.w) from rfl)
  have c14 := (hd.cell 14 (by decide)).trans (show _ = some (Value.int .i64 s.e) from rfl)
  have c15 := (hd.cell 15 (by decide)).trans (show _ = some (Value.int .i64 s.f) from rfl)
  have hcache := hd.c
  obtain ⟨l, m0, b0, A, c, hbare, hrc⟩ := hcache
  have hll : l.length = O.length := by rw [← hbare]; simp
  have hpl := hrc.lt
  have p1 := hrc.cells.2
  rw [hll] at p1
  clear hrc hbare hll hd hf h
  have t0 := Held.cell c0 hql; have t1 := Held.cell c1 hql; have t2 := Held.cell c2 hql; have t3 := Held.cell c3 hql; have t4 := Held.cell c4 hql; have t5 := Held.cell c5 hql
  have t9 := Held.cell c9 hql; have t11 := Held.cell c11 hql; have t12 := Held.cell c12 hql; have t13 := Held.cell c13 hql; have t14 := Held.cell c14 hql; have t15 := Held.cell c15 hql
  have u1 := Held.cell p1 hpl
  generalize playL g LM O = X at *
  obtain ⟨sr, sw, se, sf, sops, sseen, skey, sdead⟩ := s
  simp only at *
  have C5 := Lib.hid c5
  clear c0 c1 c2 c3 c4 c5 c9 c11 c12 c13 c14 c15 p1
  cases sdead
  all_goals (
    go_enter Tryz.func15, Tryz.ntmps15
    go_wp2
    have hne : Nonempty (Held (Below w.heap.size w)) := ⟨⟨_, (Held.drew_below (Nat.le_refl _))⟩⟩
    refine wp_region_heldq (S := (Below w.heap.size w)) (by kernel_rfl) (by kernel_rfl) (Held.drew_below (Nat.le_refl _)) ?_
    repeat (go_big_quiet_step ((first
      | (go_at_call 40; exact Calls.held_below (Nat.le_refl _) (HGE.out _ (Held.h _)))
      | (go_at_call 12; exact Calls.held_below (Nat.le_refl _) (HDE.out _ (Held.h _)))
      | (go_at_call 42; exact Calls.held_below (Nat.le_refl _) (HOP.out _ (Held.h _)))
      | (go_at_call 43; exact Calls.held_below (Nat.le_refl _) (HPE.out _ (Held.h _)))
      | (go_at_call 41; exact Calls.held_below (Nat.le_refl _) (HTE.out _ (Held.h _))))))
    refine wpQuiet_nil ?_
    intro _ hw'
    obtain ⟨sq, hw''⟩ := hw'
    subst hw''
    clear hne
    obtain ⟨W0, hW0⟩ := sq
    simp only
    have x5 := (hW0.cell (p := ⟨r, 5, none⟩) hql).trans C5.out
    clear t0 t1 t2 t3 t4 t5 t9 t11 t12 t13 t14 t15 u1
    go_wp2_with fail
    refine (HCT.out W0 hW0).mono ?_
    rintro e w1 ⟨m, bs, rfl, hm, hmm, hbb, hb1⟩
    have hbl1 := hW0.trans (hb1.mono hW0.size)
    have HM := Lib.hid hm
    obtain ⟨cm, _, _, _, _, _, q5, _⟩ := hm.cells
    have hml := hm.lt.1
    have hle := HF.out.le
    clear hm x5
    go_wp2
    go_loopw [6] (fun v wr => ∃ k : Nat, k ≤ X.length + 2 ∧ v = .int .i64 ((k : Int) - 1) ∧ Below w1.heap.size w1 wr) (fun v _ => (X.length + 1 - intOf v).toNat)
    case atStart => exact ⟨0, by omega, rfl, Below.refl _ _⟩
    case round =>
      obtain ⟨k, hk, rfl, hbr⟩ := hrel
      have y5 := (hbr.cell (p := ⟨m, 5, none⟩) hml).trans q5
      by_cases hlt : k ≤ X.length + 1
      · have z1 : (k : Int) - 1 ≤ X.length := by omega
        have F1 := Lib.hid (HSE.out wr ((k : Int) - 1) (hbl1.trans (hbr.mono hbl1.size)))
        have F2 := Lib.hid (rstate_any ((k : Int) - 1) (HM.out.below0 hbr) HF.out)
        generalize stateN X ((k : Int) - 1) = T at *
        go_wp2_with fail
        refine F1.out.mono ?_
        rintro e w2 ⟨rfl, rfl⟩
        go_wp2_with fail
        refine F2.out.mono ?_
        rintro e w2 ⟨rfl, rfl⟩
        go_wp2
        go_roundw
        case rel => exact ⟨k + 1, by omega, by go_num, hbr⟩
        case measure => simp [intOf]; omega
      · have z1 : (X.length : Int) < (k : Int) - 1 := by omega
        go_wp2
        go_ret
        exact ⟨rfl, hbl1.trans (hbr.mono hbl1.size)⟩)
end Go.Proofs.YtckdhhadlemakaaGreat
namespace Go.Proofs.YtckdhhadlemakaaGreat
set_option linter.unusedVariables false
open Go.RowKit

/-- The state of two disks with their power supply. -/
structure TS where
  s0 : DS
  s1 : DS
  P : Pow
  L0 : List Sec
  L1 : List Sec
  O0 : List OpV
  O1 : List OpV
def TS.d0 (t : TS) : DC := ⟨t.s0, t.P, t.L0, t.O0⟩
def TS.d1 (t : TS) : DC := ⟨t.s1, t.P, t.L1, t.O1⟩
def TS.act (g : Geo) (F0 F1 : List Flt) (t : TS) (a : ActV) : TS :=
  if Int.tmod a.disk 2 = 0 then ⟨(doC g F0 t.d0 a).s, t.s1, (doC g F0 t.d0 a).P, (doC g F0 t.d0 a).L, t.L1, (doC g F0 t.d0 a).O, t.O1⟩
  else ⟨t.s0, (doC g F1 t.d1 a).s, (doC g F1 t.d1 a).P, t.L0, (doC g F1 t.d1 a).L, t.O0, (doC g F1 t.d1 a).O⟩
def TS.er (g : Geo) (F0 F1 : List Flt) (t : TS) (a : ActV) : Int := if Int.tmod a.disk 2 = 0 then doEr g F0 t.d0 a else doEr g F1 t.d1 a
def TS.by_ (g : Geo) (F0 F1 : List Flt) (t : TS) (a : ActV) : List Int := if Int.tmod a.disk 2 = 0 then doBy g F0 t.d0 a else doBy g F1 t.d1 a
theorem doC_len (g : Geo) (F : List Flt) (d : DC) (a : ActV) : (doC g F d a).O.length ≤ d.O.length + 1 := by
  unfold doC dWrO wrO dErO erO dFlO rstO
  repeat' split
  all_goals simp
theorem TS.act_len {g : Geo} {F0 F1 : List Flt} {t : TS} {a : ActV} {k : Nat} (h : t.O0.length ≤ k ∧ t.O1.length ≤ k) : (t.act g F0 F1 a).O0.length ≤ k + 1 ∧ (t.act g F0 F1 a).O1.length ≤ k + 1 := by
  have h0 := doC_len g F0 t.d0 a
  have h1 := doC_len g F1 t.d1 a
  have e0 : t.d0.O.length = t.O0.length := rfl
  have e1 : t.d1.O.length = t.O1.length := rfl
  unfold TS.act
  split <;> simp only <;> omega
/-- Disks and reference, side by side. -/
structure Duo (n0 : Nat) (wB wr : World) (X Y pw q0 q1 n rp r0 r1 m : Nat) (g : Geo) (F0 F1 : List Flt) (t u : TS) : Prop where
  st : StW n0 wB wr X pw q0 q1 n g F0 F1 t.s0 t.s1 t.P t.L0 t.L1 t.O0 t.O1
  out : wr.ownsRow 0 40 2 (.slice (some ⟨Y, 0, none⟩) 1 1) 1 [.pointer (some ⟨r0, 0, none⟩), .pointer (some ⟨r1, 0, none⟩)]
  ref : RTwoM wr m rp r0 r1 g F0 F1 u.s0 u.s1 u.P u.L0 u.L1 u.O0 u.O1
  le : n0 ≤ m
section
variable {n0 X Y pw q0 q1 n rp r0 r1 m : Nat} {wB wr w' : World} {g : Geo} {F0 F1 : List Flt} {t u : TS}
theorem Duo.real {s0 s1 : DS} {P : Pow} {L0 L1 : List Sec} {O0 O1 : List OpV} {B : Bd} (h : Duo n0 wB wr X Y pw q0 q1 n rp r0 r1 m g F0 F1 t u) (hs : StW n0 wB w' X pw q0 q1 n g F0 F1 s0 s1 P L0 L1 O0 O1) (hk : KeptT DAT B wr w') : Duo n0 wB w' X Y pw q0 q1 n rp r0 r1 m g F0 F1 ⟨s0, s1, P, L0, L1, O0, O1⟩ u :=
  ⟨hs, own_typed h.out hk (by unfold DAT; decide), h.ref.typed hk (by unfold DAT; decide) (by unfold DAT; decide) (by unfold DAT; decide) (by unfold DAT; decide), h.le⟩
theorem Duo.refs {s0 s1 : DS} {P : Pow} {L0 L1 : List Sec} {O0 O1 : List OpV} {C : Bd} (h : Duo n0 wB wr X Y pw q0 q1 n rp r0 r1 m g F0 F1 t u) (hC : C.n = m) (hr : RTwoM w' m rp r0 r1 g F0 F1 s0 s1 P L0 L1 O0 O1) (hk : KeptT RDT C wr w') : Duo n0 wB w' X Y pw q0 q1 n rp r0 r1 m g F0 F1 t ⟨s0, s1, P, L0, L1, O0, O1⟩ :=
  ⟨⟨h.st.box.trans ((hk.below (by rw [hC]; exact h.ref.low)).mono (by rw [hC]; exact h.le)), own_typed h.st.var hk (by unfold RDT; decide), h.st.two.typed hk (by unfold RDT; decide) (by unfold RDT; decide) (by unfold RDT; decide) (by unfold RDT; decide), h.st.le⟩, own_typed h.out hk (by unfold RDT; decide), hr, h.le⟩
theorem Duo.below (h : Duo n0 wB wr X Y pw q0 q1 n rp r0 r1 m g F0 F1 t u) (hb : Below wr.heap.size wr w') : Duo n0 wB w' X Y pw q0 q1 n rp r0 r1 m g F0 F1 t u :=
  ⟨h.st.below hb, own_kept h.out (belKept0 (S := fun _ => False) hb) (fun _ _ h => h), h.ref.below hb, h.le⟩
theorem Duo.cells (h : Duo n0 wB wr X Y pw q0 q1 n rp r0 r1 m g F0 F1 t u) : (wr.cell? ⟨X, 0, none⟩ = some (.pointer (some ⟨pw, 0, none⟩)) ∧ wr.cell? ⟨X, 1, none⟩ = some (.pointer (some ⟨q0, 0, none⟩)) ∧ wr.cell? ⟨X, 2, none⟩ = some (.pointer (some ⟨q1, 0, none⟩))) ∧ wr.cell? ⟨Y, 0, none⟩ = some (.pointer (some ⟨r0, 0, none⟩)) ∧ wr.cell? ⟨Y, 1, none⟩ = some (.pointer (some ⟨r1, 0, none⟩)) :=
  ⟨h.st.cells, (World.ownsRow.cellAt h.out 0 (by decide)).trans rfl, (World.ownsRow.cellAt h.out 1 (by decide)).trans rfl⟩
theorem Duo.power (h : Duo n0 wB wr X Y pw q0 q1 n rp r0 r1 m g F0 F1 t u) : wr.cell? ⟨rp, 0, none⟩ = some (.bool u.P.off) := by
  obtain ⟨C, _, hd, _⟩ := h.ref.first
  obtain ⟨R, hr, hp⟩ := hd.p
  rw [hr.1]; exact hp.cells.1
def actV (a : ActV) : Value := .agg #[.int .u8 a.disk, .int .u8 a.kind, .int .u64 a.key, .int .i64 a.at_, .slice a.A a.xs.length a.c, .bool a.force]
theorem Duo.do_ (h : Duo n0 wB wr X Y pw q0 q1 n rp r0 r1 m g F0 F1 t u) (a : ActV) (hF0 : ∀ f ∈ F0, I64 f.to_) (hF1 : ∀ f ∈ F1, I64 f.to_) (hn0 : F0.length ≤ 9223372036854775807) (hn1 : F1.length ≤ 9223372036854775807) (ho : t.O0.length ≤ 99000 ∧ t.O1.length ≤ 99000)
    (hdk : 0 ≤ a.disk ∧ a.disk ≤ 255) (ha : I64 a.at_) (hr : Rd wr n a.A (a.xs.map (Value.int .u8))) (hx : a.xs.length ≤ 100000) (hc : a.xs.length ≤ a.c) :
    Calls Tryz.prog 10 #[.agg #[.pointer (some ⟨pw, 0, none⟩), .pointer (some ⟨q0, 0, none⟩), .pointer (some ⟨q1, 0, none⟩)], .agg #[.int .u8 a.disk, .int .u8 a.kind, .int .u64 a.key, .int .i64 a.at_, .slice a.A a.xs.length a.c, .bool a.force]] wr
      (fun e w' => e = .returned (.tuple #[.string (strOfNums (t.by_ g F0 F1 a)), .int .i64 (t.er g F0 F1 a)]) ∧ Duo n0 wB w' X Y pw q0 q1 n rp r0 r1 m g F0 F1 (t.act g F0 F1 a) u) := by
  by_cases hm : Int.tmod a.disk 2 = 0
  · have e1 : t.by_ g F0 F1 a = doBy g F0 t.d0 a := by unfold TS.by_; rw [if_pos hm]
    have e2 : t.er g F0 F1 a = doEr g F0 t.d0 a := by unfold TS.er; rw [if_pos hm]
    have e3 : t.act g F0 F1 a = ⟨(doC g F0 t.d0 a).s, t.s1, (doC g F0 t.d0 a).P, (doC g F0 t.d0 a).L, t.L1, (doC g F0 t.d0 a).O, t.O1⟩ := by unfold TS.act; rw [if_pos hm]
    obtain ⟨B, hB, hd, hs⟩ := h.st.first
    refine (ddo_any (q0 := q0) (q1 := q1) (d := t.d0) a hd hF0 hn0 ho.1 (.inl ⟨hm, rfl⟩) ha (by rw [hB]; exact hr) hx hc).mono ?_
    rintro e w' ⟨he, hd', hk⟩
    rw [e1, e2, e3]
    exact ⟨he, h.real (hs w' _ _ _ _ hd' hk) hk⟩
  · have hm1 : Int.tmod a.disk 2 = 1 := by have := Int.tmod_nonneg 2 hdk.1; have := Int.tmod_lt_of_pos a.disk (show (0 : Int) < 2 by decide); omega
    have e1 : t.by_ g F0 F1 a = doBy g F1 t.d1 a := by unfold TS.by_; rw [if_neg hm]
    have e2 : t.er g F0 F1 a = doEr g F1 t.d1 a := by unfold TS.er; rw [if_neg hm]
    have e3 : t.act g F0 F1 a = ⟨t.s0, (doC g F1 t.d1 a).s, (doC g F1 t.d1 a).P, t.L0, (doC g F1 t.d1 a).L, t.O0, (doC g F1 t.d1 a).O⟩ := by unfold TS.act; rw [if_neg hm]
    obtain ⟨B, hB, hd, hs⟩ := h.st.swap0
    refine (ddo_any (q0 := q0) (q1 := q1) (d := t.d1) a hd hF1 hn1 ho.2 (.inr ⟨hm1, rfl⟩) ha (by rw [hB]; exact hr) hx hc).mono ?_
    rintro e w' ⟨he, hd', hk⟩
    rw [e1, e2, e3]
    exact ⟨he, h.real (hs w' _ _ _ _ hd' hk) hk⟩
theorem Duo.want (h : Duo n0 wB wr X Y pw q0 q1 n rp r0 r1 m g F0 F1 t u) (a : ActV) (hF0 : ∀ f ∈ F0, I64 f.to_) (hF1 : ∀ f ∈ F1, I64 f.to_) (hn0 : F0.length ≤ 9223372036854775807) (hn1 : F1.length ≤ 9223372036854775807) (ho : u.O0.length ≤ 99000 ∧ u.O1.length ≤ 99000)
    (pp : Option Addr) (hP : 7 ≤ a.kind → pp = some ⟨rp, 0, none⟩) (hdk : 0 ≤ a.disk ∧ a.disk ≤ 255) (ha : I64 a.at_) (hr : Rd wr m a.A (a.xs.map (Value.int .u8))) (hx : a.xs.length ≤ 100000) (hc : a.xs.length ≤ a.c) :
    Calls Tryz.prog 11 #[.pointer pp, .agg #[.pointer (some ⟨r0, 0, none⟩), .pointer (some ⟨r1, 0, none⟩)], .agg #[.int .u8 a.disk, .int .u8 a.kind, .int .u64 a.key, .int .i64 a.at_, .slice a.A a.xs.length a.c, .bool a.force]] wr
      (fun e w' => e = .returned (.tuple #[.string (strOfNums (u.by_ g F0 F1 a)), .int .i64 (u.er g F0 F1 a)]) ∧ Duo n0 wB w' X Y pw q0 q1 n rp r0 r1 m g F0 F1 t (u.act g F0 F1 a)) := by
  by_cases hm : Int.tmod a.disk 2 = 0
  · have e1 : u.by_ g F0 F1 a = doBy g F0 u.d0 a := by unfold TS.by_; rw [if_pos hm]
    have e2 : u.er g F0 F1 a = doEr g F0 u.d0 a := by unfold TS.er; rw [if_pos hm]
    have e3 : u.act g F0 F1 a = ⟨(doC g F0 u.d0 a).s, u.s1, (doC g F0 u.d0 a).P, (doC g F0 u.d0 a).L, u.L1, (doC g F0 u.d0 a).O, u.O1⟩ := by unfold TS.act; rw [if_pos hm]
    obtain ⟨B, hB, hd, hs⟩ := h.ref.first
    refine (rwant_any (q0 := r0) (q1 := r1) (d := u.d0) pp a hd hF0 hn0 ho.1 hP (.inl ⟨hm, rfl⟩) ha (by rw [hB]; exact hr) hx hc).mono ?_
    rintro e w' ⟨he, hd', hk⟩
    rw [e1, e2, e3]
    exact ⟨he, h.refs hB (hs w' _ _ _ _ hd' hk) hk⟩
  · have hm1 : Int.tmod a.disk 2 = 1 := by have := Int.tmod_nonneg 2 hdk.1; have := Int.tmod_lt_of_pos a.disk (show (0 : Int) < 2 by decide); omega
    have e1 : u.by_ g F0 F1 a = doBy g F1 u.d1 a := by unfold TS.by_; rw [if_neg hm]
    have e2 : u.er g F0 F1 a = doEr g F1 u.d1 a := by unfold TS.er; rw [if_neg hm]
    have e3 : u.act g F0 F1 a = ⟨u.s0, (doC g F1 u.d1 a).s, (doC g F1 u.d1 a).P, u.L0, (doC g F1 u.d1 a).L, u.O0, (doC g F1 u.d1 a).O⟩ := by unfold TS.act; rw [if_neg hm]
    obtain ⟨B, hB, hd, hs⟩ := h.ref.second
    refine (rwant_any (q0 := r0) (q1 := r1) (d := u.d1) pp a hd hF1 hn1 ho.2 hP (.inr ⟨hm1, rfl⟩) ha (by rw [hB]; exact hr) hx hc).mono ?_
    rintro e w' ⟨he, hd', hk⟩
    rw [e1, e2, e3]
    exact ⟨he, h.refs hB (hs w' _ _ _ _ hd' hk) hk⟩
end
end Go.Proofs.YtckdhhadlemakaaGreat

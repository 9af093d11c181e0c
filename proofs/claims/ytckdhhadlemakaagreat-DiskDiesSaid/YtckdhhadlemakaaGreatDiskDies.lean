/-
  WHAT IS SHOWN: tegulalaw14.DiskDies returns true for any case, and changes nothing. No condition.
-/
import Derived.Test.YtckdhhadlemakaaGreatRkD
namespace Go.Proofs.YtckdhhadlemakaaGreat
set_option linter.unusedVariables false
open Go.ChangeShapes Go.WideShapes Go.ChangeAt Go.RowKit

def TS.new (g : Geo) : TS := ⟨newS P0, newS P0, P0, blankL g, blankL g, [], []⟩
section
variable {n0 X Y pw q0 q1 n rp r0 r1 m : Nat} {wB wr w' : World} {g : Geo} {F0 F1 : List Flt} {t u : TS}
theorem Duo.doK (h : Duo n0 wB wr X Y pw q0 q1 n rp r0 r1 m g F0 F1 t u) (a : ActV) (hF0 : ∀ f ∈ F0, I64 f.to_) (hF1 : ∀ f ∈ F1, I64 f.to_) (hn0 : F0.length ≤ 9223372036854775807) (hn1 : F1.length ≤ 9223372036854775807) (ho : t.O0.length ≤ 99000 ∧ t.O1.length ≤ 99000)
    (hdk : 0 ≤ a.disk ∧ a.disk ≤ 255) (ha : I64 a.at_) (hr : Rd wr n a.A (a.xs.map (Value.int .u8))) (hx : a.xs.length ≤ 100000) (hc : a.xs.length ≤ a.c) :
    Calls Tryz.prog 10 #[.agg #[.pointer (some ⟨pw, 0, none⟩), .pointer (some ⟨q0, 0, none⟩), .pointer (some ⟨q1, 0, none⟩)], .agg #[.int .u8 a.disk, .int .u8 a.kind, .int .u64 a.key, .int .i64 a.at_, .slice a.A a.xs.length a.c, .bool a.force]] wr
      (fun e w' => e = .returned (.tuple #[.string (strOfNums (t.by_ g F0 F1 a)), .int .i64 (t.er g F0 F1 a)]) ∧ Duo n0 wB w' X Y pw q0 q1 n rp r0 r1 m g F0 F1 (t.act g F0 F1 a) u ∧ ∃ B : Bd, B.n = n ∧ KeptT DAT B wr w') := by
  by_cases hm : Int.tmod a.disk 2 = 0
  · have e1 : t.by_ g F0 F1 a = doBy g F0 t.d0 a := by unfold TS.by_; rw [if_pos hm]
    have e2 : t.er g F0 F1 a = doEr g F0 t.d0 a := by unfold TS.er; rw [if_pos hm]
    have e3 : t.act g F0 F1 a = ⟨(doC g F0 t.d0 a).s, t.s1, (doC g F0 t.d0 a).P, (doC g F0 t.d0 a).L, t.L1, (doC g F0 t.d0 a).O, t.O1⟩ := by unfold TS.act; rw [if_pos hm]
    obtain ⟨B, hB, hd, hs⟩ := h.st.first
    refine (ddo_any (q0 := q0) (q1 := q1) (d := t.d0) a hd hF0 hn0 ho.1 (.inl ⟨hm, rfl⟩) ha (by rw [hB]; exact hr) hx hc).mono ?_
    rintro e w' ⟨he, hd', hk⟩
    rw [e1, e2, e3]
    exact ⟨he, h.real (hs w' _ _ _ _ hd' hk) hk, B, hB, hk⟩
  · have hm1 : Int.tmod a.disk 2 = 1 := by have := Int.tmod_nonneg 2 hdk.1; have := Int.tmod_lt_of_pos a.disk (show (0 : Int) < 2 by decide); omega
    have e1 : t.by_ g F0 F1 a = doBy g F1 t.d1 a := by unfold TS.by_; rw [if_neg hm]
    have e2 : t.er g F0 F1 a = doEr g F1 t.d1 a := by unfold TS.er; rw [if_neg hm]
    have e3 : t.act g F0 F1 a = ⟨t.s0, (doC g F1 t.d1 a).s, (doC g F1 t.d1 a).P, t.L0, (doC g F1 t.d1 a).L, t.O0, (doC g F1 t.d1 a).O⟩ := by unfold TS.act; rw [if_neg hm]
    obtain ⟨B, hB, hd, hs⟩ := h.st.swap0
    refine (ddo_any (q0 := q0) (q1 := q1) (d := t.d1) a hd hF1 hn1 ho.2 (.inr ⟨hm1, rfl⟩) ha (by rw [hB]; exact hr) hx hc).mono ?_
    rintro e w' ⟨he, hd', hk⟩
    rw [e1, e2, e3]
    exact ⟨he, h.real (hs w' _ _ _ _ hd' hk) hk, B, hB, hk⟩
theorem Duo.wantK (h : Duo n0 wB wr X Y pw q0 q1 n rp r0 r1 m g F0 F1 t u) (a : ActV) (hF0 : ∀ f ∈ F0, I64 f.to_) (hF1 : ∀ f ∈ F1, I64 f.to_) (hn0 : F0.length ≤ 9223372036854775807) (hn1 : F1.length ≤ 9223372036854775807) (ho : u.O0.length ≤ 99000 ∧ u.O1.length ≤ 99000)
    (hdk : 0 ≤ a.disk ∧ a.disk ≤ 255) (ha : I64 a.at_) (hr : Rd wr m a.A (a.xs.map (Value.int .u8))) (hx : a.xs.length ≤ 100000) (hc : a.xs.length ≤ a.c) :
    Calls Tryz.prog 11 #[.pointer (some ⟨rp, 0, none⟩), .agg #[.pointer (some ⟨r0, 0, none⟩), .pointer (some ⟨r1, 0, none⟩)], .agg #[.int .u8 a.disk, .int .u8 a.kind, .int .u64 a.key, .int .i64 a.at_, .slice a.A a.xs.length a.c, .bool a.force]] wr
      (fun e w' => e = .returned (.tuple #[.string (strOfNums (u.by_ g F0 F1 a)), .int .i64 (u.er g F0 F1 a)]) ∧ Duo n0 wB w' X Y pw q0 q1 n rp r0 r1 m g F0 F1 t (u.act g F0 F1 a) ∧ ∃ C : Bd, C.n = m ∧ KeptT RDT C wr w') := by
  by_cases hm : Int.tmod a.disk 2 = 0
  · have e1 : u.by_ g F0 F1 a = doBy g F0 u.d0 a := by unfold TS.by_; rw [if_pos hm]
    have e2 : u.er g F0 F1 a = doEr g F0 u.d0 a := by unfold TS.er; rw [if_pos hm]
    have e3 : u.act g F0 F1 a = ⟨(doC g F0 u.d0 a).s, u.s1, (doC g F0 u.d0 a).P, (doC g F0 u.d0 a).L, u.L1, (doC g F0 u.d0 a).O, u.O1⟩ := by unfold TS.act; rw [if_pos hm]
    obtain ⟨B, hB, hd, hs⟩ := h.ref.first
    refine (rwant_any (q0 := r0) (q1 := r1) (d := u.d0) _ a hd hF0 hn0 ho.1 (fun _ => rfl) (.inl ⟨hm, rfl⟩) ha (by rw [hB]; exact hr) hx hc).mono ?_
    rintro e w' ⟨he, hd', hk⟩
    rw [e1, e2, e3]
    exact ⟨he, h.refs hB (hs w' _ _ _ _ hd' hk) hk, B, hB, hk⟩
  · have hm1 : Int.tmod a.disk 2 = 1 := by have := Int.tmod_nonneg 2 hdk.1; have := Int.tmod_lt_of_pos a.disk (show (0 : Int) < 2 by decide); omega
    have e1 : u.by_ g F0 F1 a = doBy g F1 u.d1 a := by unfold TS.by_; rw [if_neg hm]
    have e2 : u.er g F0 F1 a = doEr g F1 u.d1 a := by unfold TS.er; rw [if_neg hm]
    have e3 : u.act g F0 F1 a = ⟨u.s0, (doC g F1 u.d1 a).s, (doC g F1 u.d1 a).P, u.L0, (doC g F1 u.d1 a).L, u.O0, (doC g F1 u.d1 a).O⟩ := by unfold TS.act; rw [if_neg hm]
    obtain ⟨B, hB, hd, hs⟩ := h.ref.second
    refine (rwant_any (q0 := r0) (q1 := r1) (d := u.d1) _ a hd hF1 hn1 ho.2 (fun _ => rfl) (.inr ⟨hm1, rfl⟩) ha (by rw [hB]; exact hr) hx hc).mono ?_
    rintro e w' ⟨he, hd', hk⟩
    rw [e1, e2, e3]
    exact ⟨he, h.refs hB (hs w' _ _ _ _ hd' hk) hk, B, hB, hk⟩
theorem Duo.kill (h : Duo n0 wB wr X Y pw q0 q1 n rp r0 r1 m g F0 F1 t u) : Calls Tryz.prog 8 #[.pointer (some ⟨q0, 0, none⟩)] wr fun e w' => e = .returned (.tuple #[]) ∧ Duo n0 wB w' X Y pw q0 q1 n rp r0 r1 m g F0 F1 { t with s0 := { t.s0 with dead := true } } u := by
  obtain ⟨B, _, hd, hs⟩ := h.st.first
  exact (dkill_any hd).mono (fun e w' hh => ⟨hh.1, h.real (hs w' _ _ _ _ hh.2.1 hh.2.2) hh.2.2⟩)
theorem Duo.rkill (h : Duo n0 wB wr X Y pw q0 q1 n rp r0 r1 m g F0 F1 t u) : wr.cell? ⟨r0, 9, none⟩ = some (.bool u.s0.dead) ∧ wr.frozen? ⟨r0, 9, none⟩ = false ∧ Duo n0 wB (wr.setCell ⟨r0, 9, none⟩ (.bool true)) X Y pw q0 q1 n rp r0 r1 m g F0 F1 t { u with s0 := { u.s0 with dead := true } } := by
  obtain ⟨C, hC, hr, hs⟩ := h.ref.first
  have h' := hr.store 9 (.bool true) { u.s0 with dead := true } (fun _ _ _ => rfl)
  obtain ⟨_, _, _, ⟨_, _, c9, _⟩, _⟩ := hr.cells
  exact ⟨c9, hr.free 9, h.refs hC (hs _ _ _ _ _ h'.1 h'.2) h'.2⟩
theorem Duo.dead0 (h : Duo n0 wB wr X Y pw q0 q1 n rp r0 r1 m g F0 F1 t u) : Calls Tryz.prog 12 #[.pointer (some ⟨q0, 0, none⟩)] wr fun e w' => e = .returned (.bool t.s0.dead) ∧ wr = w' := by
  obtain ⟨B, _, hd, _⟩ := h.st.first; exact ddead_any hd
theorem Duo.acquire0 (h : Duo n0 wB wr X Y pw q0 q1 n rp r0 r1 m g F0 F1 t u) (key : Int) (hd : t.s0.dead = true) : Calls Tryz.prog 13 #[.pointer (some ⟨q0, 0, none⟩), .int .u64 key] wr fun e w' => e = .returned (.int .i64 14) ∧ Duo n0 wB w' X Y pw q0 q1 n rp r0 r1 m g F0 F1 t u := by
  have h14 : stE t.s0 t.P = 14 := by unfold stE; rw [hd]; rfl
  have ha : acqS t.s0 t.P key = t.s0 := by unfold acqS; rw [if_neg (by rw [h14]; decide)]
  obtain ⟨B, _, hd1, hs⟩ := h.st.first
  refine (dacquire_any key hd1).mono ?_
  rintro e w' ⟨he, hd', hk⟩
  rw [ha] at hd'
  rw [h14] at he
  exact ⟨he, h.real (hs w' _ _ _ _ hd' hk) hk⟩
theorem Duo.restart0 (h : Duo n0 wB wr X Y pw q0 q1 n rp r0 r1 m g F0 F1 t u) (k : Int) (hd : t.s0.dead = true) (ho : t.O0.length ≤ 100000) : Calls Tryz.prog 14 #[.pointer (some ⟨q0, 0, none⟩), .int .i64 k] wr fun e w' => e = .returned (.int .i64 14) ∧ Duo n0 wB w' X Y pw q0 q1 n rp r0 r1 m g F0 F1 t u := by
  have h14 : rstE t.s0 t.P = 14 := by unfold rstE; rw [hd]; rfl
  have h1 : rstS t.s0 t.P = t.s0 ∧ rstLM g t.s0 t.P t.L0 t.O0 k = t.L0 ∧ rstO t.s0 t.P t.O0 = t.O0 := by
    unfold rstS rstLM rstO; rw [h14]; exact ⟨rfl, rfl, rfl⟩
  obtain ⟨B, _, hd1, hs⟩ := h.st.first
  refine (drestart_any k hd1 ho).mono ?_
  rintro e w' ⟨he, hd', hk⟩
  rw [h1.1, h1.2.1, h1.2.2] at hd'
  rw [h14] at he
  exact ⟨he, h.real (hs w' _ _ _ _ hd' hk) hk⟩
end
theorem dies_step {g : Geo} {F0 F1 : List Flt} {t : TS} {a : ActV} (hd : t.s0.dead = true) (hk : 0 ≤ a.kind ∧ a.kind ≤ 3) : (t.act g F0 F1 a).s0.dead = true ∧ (Int.tmod a.disk 2 = 0 → t.er g F0 F1 a = 14) := by
  have hb : begD F0 t.s0 t.P a.key = ⟨14, t.s0, t.P, noF⟩ := by
    have h14 : stE t.s0 t.P = 14 := by unfold stE; rw [hd]; rfl
    unfold begD; rw [if_pos (by rw [h14]; decide), h14]
  have ho := op_err (g := g) (F := F0) (d := t.d0) (a := a) (E := 14) (s' := t.s0) (P' := t.P) (f := noF) hk hb (by decide)
  refine ⟨?_, fun hm => by unfold TS.er; rw [if_pos hm]; exact ho.1⟩
  unfold TS.act
  split
  · rw [ho.2]; exact hd
  · exact hd
set_option maxRecDepth 100000 in
set_option maxHeartbeats 8000000 in
theorem diskDies_walk (g : Geo) (A0 A1 AA : Option Addr) (l0 l1 : List Flt) (acts : List ActV) (c0 c1 ca : Nat) (w : World) (hc : CaseIn w g A0 A1 AA l0 l1 acts) :
    Calls Tryz.prog 3 #[.agg #[.int .i64 g.random, .int .i64 g.bands, .int .i64 g.tracks, .int .i64 g.sectors, .int .i64 g.overlap, .slice A0 l0.length c0, .slice A1 l1.length c1, .slice AA acts.length ca]] w fun e w' => e = .returned (.bool true) ∧ Below w.heap.size w w' := by
  have hb0 : Below w.heap.size w (w.alloc (.cells #[.int .i64 g.random, .int .i64 g.bands, .int .i64 g.tracks, .int .i64 g.sectors, .int .i64 g.overlap, .slice A0 l0.length c0, .slice A1 l1.length c1, .slice AA acts.length ca] 28)) := (Below.refl _ _).alloc (Nat.le_refl _) _
  have o0 := heap_alloc_new w (.cells #[.int .i64 g.random, .int .i64 g.bands, .int .i64 g.tracks, .int .i64 g.sectors, .int .i64 g.overlap, .slice A0 l0.length c0, .slice A1 l1.length c1, .slice AA acts.length ca] 28)
  have HBX : Hid (∀ W, Below (w.heap.size + 1) (w.alloc (.cells #[.int .i64 g.random, .int .i64 g.bands, .int .i64 g.tracks, .int .i64 g.sectors, .int .i64 g.overlap, .slice A0 l0.length c0, .slice A1 l1.length c1, .slice AA acts.length ca] 28)) W →
      Below w.heap.size w W ∧ (W.cell? ⟨w.heap.size, 0, none⟩ = some (.int .i64 g.random) ∧ W.cell? ⟨w.heap.size, 1, none⟩ = some (.int .i64 g.bands) ∧ W.cell? ⟨w.heap.size, 2, none⟩ = some (.int .i64 g.tracks) ∧ W.cell? ⟨w.heap.size, 3, none⟩ = some (.int .i64 g.sectors) ∧ W.cell? ⟨w.heap.size, 4, none⟩ = some (.int .i64 g.overlap) ∧
      W.cell? ⟨w.heap.size, 5, none⟩ = some (.slice A0 l0.length c0) ∧ W.cell? ⟨w.heap.size, 6, none⟩ = some (.slice A1 l1.length c1) ∧ W.cell? ⟨w.heap.size, 7, none⟩ = some (.slice AA acts.length ca)) ∧ w.heap.size + 1 ≤ W.heap.size) := by
    unfold Hid; intro W hW
    have q := belObj hW o0 (by omega)
    exact ⟨hb0.trans (hW.mono (by omega)), ⟨by rw [cell_of_row _ _ _ _ _ _ q]; rfl, by rw [cell_of_row _ _ _ _ _ _ q]; rfl, by rw [cell_of_row _ _ _ _ _ _ q]; rfl, by rw [cell_of_row _ _ _ _ _ _ q]; rfl, by rw [cell_of_row _ _ _ _ _ _ q]; rfl, by rw [cell_of_row _ _ _ _ _ _ q]; rfl, by rw [cell_of_row _ _ _ _ _ _ q]; rfl, by rw [cell_of_row _ _ _ _ _ _ q]; rfl⟩, by have := hW.size; simpa using this⟩
  have HFR : Hid (∀ W, Below w.heap.size w W → Calls Tryz.prog 5 #[.agg #[.int .i64 g.random, .int .i64 g.bands, .int .i64 g.tracks, .int .i64 g.sectors, .int .i64 g.overlap, .slice A0 l0.length c0, .slice A1 l1.length c1, .slice AA acts.length ca]] W fun e w' => e = .returned (.bool (fair14B g l0 l1 acts)) ∧ Below W.heap.size W w') := by
    unfold Hid; intro W hW
    exact fair14_any g l0 l1 acts A0 A1 AA c0 c1 ca W ((hc.f0.rd.below hW (Nat.le_refl _)).more hW.size) ((hc.f1.rd.below hW (Nat.le_refl _)).more hW.size) ((hc.a.rd.below hW (Nat.le_refl _)).more hW.size) hc.f0.n hc.f1.n hc.a.n (fun a ha => (hc.a.ok a ha).n)
  have hbc0 : Below (w.heap.size + 1) (w.alloc (.cells #[.int .i64 g.random, .int .i64 g.bands, .int .i64 g.tracks, .int .i64 g.sectors, .int .i64 g.overlap, .slice A0 l0.length c0, .slice A1 l1.length c1, .slice AA acts.length ca] 28)) (w.alloc (.cells #[.int .i64 g.random, .int .i64 g.bands, .int .i64 g.tracks, .int .i64 g.sectors, .int .i64 g.overlap, .slice A0 l0.length c0, .slice A1 l1.length c1, .slice AA acts.length ca] 28)) := Below.refl _ _
  have HC := Lib.hid hc
  clear hc o0
  cases hf : fair14B g l0 l1 acts
  · rw [hf] at HFR
    clear hf
    go_enter Tryz.func3, Tryz.ntmps3
    go_wp2_with fail
    refine (awake14_any _).mono ?_
    rintro e w1 ⟨rfl, hb1⟩
    have hbc1 := hb1
    rw [World.size_alloc] at hbc1
    obtain ⟨hbw1, ⟨x0, x1, x2, x3, x4, x5, x6, x7⟩, hz1⟩ := HBX.out w1 hbc1
    go_wp2_with fail
    refine (HFR.out _ hbw1).mono ?_
    rintro e w2 ⟨rfl, hb2⟩
    have hbc2 := hbc1.trans (hb2.mono hz1)
    try clear x0 x1 x2 x3 x4 x5 x6 x7
    obtain ⟨hbw2, ⟨x0, x1, x2, x3, x4, x5, x6, x7⟩, hz2⟩ := HBX.out w2 hbc2
    go_wp2_with fail
    refine (awake14_any _).mono ?_
    rintro e w3 ⟨rfl, hb3⟩
    have hbc3 := hbc2.trans (hb3.mono hz2)
    try clear x0 x1 x2 x3 x4 x5 x6 x7
    obtain ⟨hbw3, ⟨x0, x1, x2, x3, x4, x5, x6, x7⟩, hz3⟩ := HBX.out w3 hbc3
    go_wp2
    go_ret
    exact ⟨rfl, hbw3⟩
  · rw [hf] at HFR
    obtain ⟨pg, _, pa60, p20, p21, psh, pv0, pv1⟩ := fair14_parts hf
    have HST : Hid (∀ W, Below w.heap.size w W → Calls Tryz.prog 6 #[.agg #[.int .i64 g.random, .int .i64 g.bands, .int .i64 g.tracks, .int .i64 g.sectors, .int .i64 g.overlap, .slice A0 l0.length c0, .slice A1 l1.length c1, .slice AA acts.length ca]] W (StartPost W g l0 l1)) := by
      unfold Hid; intro W hW
      exact start14_any g l0 l1 A0 A1 AA c0 c1 acts.length ca W ((HC.out.f0.rd.below hW (Nat.le_refl _)).more hW.size) ((HC.out.f1.rd.below hW (Nat.le_refl _)).more hW.size) pg pv0 pv1 (by omega) (by omega)
    have HBG : Hid (∀ W, Below w.heap.size w W → Calls Tryz.prog 7 #[.agg #[.int .i64 g.random, .int .i64 g.bands, .int .i64 g.tracks, .int .i64 g.sectors, .int .i64 g.overlap, .slice A0 l0.length c0, .slice A1 l1.length c1, .slice AA acts.length ca]] W (BeginPost W g l0 l1)) := by
      unfold Hid; intro W hW
      exact begin14_any g l0 l1 A0 A1 AA c0 c1 acts.length ca W ((HC.out.f0.rd.below hW (Nat.le_refl _)).more hW.size) ((HC.out.f1.rd.below hW (Nat.le_refl _)).more hW.size) pg pv0 pv1 (by omega) (by omega)
    have HON : Hid (∀ W, Below w.heap.size w W → Calls Tryz.prog 9 #[.slice AA acts.length ca] W fun e w' => ∃ A' c', e = .returned (.slice A' (onlyA acts).length c') ∧ w'.ownsRow W.heap.size 55 6 (.slice A' (onlyA acts).length c') (onlyA acts).length (flatA (onlyA acts)) ∧ Below W.heap.size W w') := by
      unfold Hid; intro W hW; exact only_any acts AA ca W ((HC.out.a.rd.below hW (Nat.le_refl _)).more hW.size) (by omega)
    have HIN : Hid (∀ a ∈ onlyA acts, ActIn w a ∧ a.xs.length ≤ 100 ∧ a.kind ≤ 3 ∧ a.key = 0) := by
      unfold Hid; intro a ha; exact ⟨onlyA_in HC.out.a.ok ha, onlyA_short psh ha, (onlyA_mem ha).1, (onlyA_mem ha).2.1⟩
    have HOL := Lib.hid (onlyA_len acts)
    have HTO := Lib.hid (And.intro HC.out.f0.to_ (And.intro HC.out.f1.to_ (And.intro HC.out.f0.n HC.out.f1.n)))
    clear hf pg pv0 pv1 psh HC
    go_enter Tryz.func3, Tryz.ntmps3
    go_wp2_with fail
    refine (awake14_any _).mono ?_
    rintro e w1 ⟨rfl, hb1⟩
    have hbc1 := hb1
    rw [World.size_alloc] at hbc1
    obtain ⟨hbw1, ⟨x0, x1, x2, x3, x4, x5, x6, x7⟩, hz1⟩ := HBX.out w1 hbc1
    go_wp2_with fail
    refine (HFR.out _ hbw1).mono ?_
    rintro e w2 ⟨rfl, hb2⟩
    have hbc2 := hbc1.trans (hb2.mono hz1)
    try clear x0 x1 x2 x3 x4 x5 x6 x7
    obtain ⟨hbw2, ⟨x0, x1, x2, x3, x4, x5, x6, x7⟩, hz2⟩ := HBX.out w2 hbc2
    go_wp2_with fail
    refine (HST.out w2 hbw2).mono ?_
    rintro e w3 ⟨pw, q0, q1, rfl, htw, hb3⟩
    have hbc3 := hbc2.trans (hb3.mono hz2)
    have hz3 := hb3.size
    have hpb := (Below.refl w3.heap.size w3).alloc (Nat.le_refl _) (.cells #[.pointer (some ⟨pw, 0, none⟩), .pointer (some ⟨q0, 0, none⟩), .pointer (some ⟨q1, 0, none⟩)] 35)
    have hpo := World.ownsRow_lit (base := 0) (e := 35) (size := 3) w3 #[.pointer (some ⟨pw, 0, none⟩), .pointer (some ⟨q0, 0, none⟩), .pointer (some ⟨q1, 0, none⟩)] 1 (Nat.zero_le _) (by decide) rfl
    have hs4 : StW (w.heap.size + 1) (w.alloc (.cells #[.int .i64 g.random, .int .i64 g.bands, .int .i64 g.tracks, .int .i64 g.sectors, .int .i64 g.overlap, .slice A0 l0.length c0, .slice A1 l1.length c1, .slice AA acts.length ca] 28)) (w3.alloc (.cells #[.pointer (some ⟨pw, 0, none⟩), .pointer (some ⟨q0, 0, none⟩), .pointer (some ⟨q1, 0, none⟩)] 35)) w3.heap.size pw q0 q1 w2.heap.size g l0 l1 (newS P0) (newS P0) P0 (blankL g) (blankL g) [] [] := ⟨hbc3.trans (hpb.mono (by omega)), hpo, htw.below hpb, hz2⟩
    have HS4 := Lib.hid hs4
    clear htw hpo hs4 hpb hbc3 hb3 x0 x1 x2 x3 x4 x5 x6 x7
    obtain ⟨hbw4, ⟨x0, x1, x2, x3, x4, x5, x6, x7⟩, hz4⟩ := HBX.out _ HS4.out.box
    go_wp2_with fail
    refine (HBG.out _ hbw4).mono ?_
    rintro e w5 ⟨rp, r0, r1, rfl, hrt, hb5⟩
    generalize w3.heap.size = X at *
    generalize w3.alloc (.cells #[.pointer (some ⟨pw, 0, none⟩), .pointer (some ⟨q0, 0, none⟩), .pointer (some ⟨q1, 0, none⟩)] 35) = w4 at *
    have hz5 := hb5.size
    have hpb := (Below.refl w5.heap.size w5).alloc (Nat.le_refl _) (.cells #[.pointer (some ⟨r0, 0, none⟩), .pointer (some ⟨r1, 0, none⟩)] 40)
    have hpo := World.ownsRow_lit (base := 0) (e := 40) (size := 2) w5 #[.pointer (some ⟨r0, 0, none⟩), .pointer (some ⟨r1, 0, none⟩)] 1 (Nat.zero_le _) (by decide) rfl
    have hdu : Duo (w.heap.size + 1) (w.alloc (.cells #[.int .i64 g.random, .int .i64 g.bands, .int .i64 g.tracks, .int .i64 g.sectors, .int .i64 g.overlap, .slice A0 l0.length c0, .slice A1 l1.length c1, .slice AA acts.length ca] 28)) (w5.alloc (.cells #[.pointer (some ⟨r0, 0, none⟩), .pointer (some ⟨r1, 0, none⟩)] 40)) X w5.heap.size pw q0 q1 w2.heap.size rp r0 r1 w4.heap.size g l0 l1 (TS.new g) (TS.new g) := ⟨(HS4.out.below hb5).below hpb, hpo, hrt.below hpb, hz4⟩
    have HDU := Lib.hid hdu
    have hnn : w.heap.size ≤ w2.heap.size := hbw2.size
    have hmm : w.heap.size ≤ w4.heap.size := hbw4.size
    obtain ⟨⟨v0, v1, v2⟩, y0, y1⟩ := hdu.cells
    clear hrt hpo hpb hdu hb5 HS4 HST HBG HFR x0 x1 x2 x3 x4 x5 x6 x7
    have hes : (w.alloc (.cells #[.int .i64 g.random, .int .i64 g.bands, .int .i64 g.tracks, .int .i64 g.sectors, .int .i64 g.overlap, .slice A0 l0.length c0, .slice A1 l1.length c1, .slice AA acts.length ca] 28)).heap.size = w.heap.size + 1 := World.size_alloc _ _
    go_wp2_with fail
    refine HDU.out.kill.mono ?_
    rintro e w6 ⟨rfl, hd6⟩
    generalize w5.heap.size = Y at *
    obtain ⟨r9, rf9, hd7⟩ := hd6.rkill
    have HD7 := Lib.hid hd7
    obtain ⟨⟨v0, v1, v2⟩, y0, y1⟩ := hd6.cells
    obtain ⟨_, _, _⟩ := HBX.out w6 hd6.st.box
    obtain ⟨hbw7, ⟨x0, x1, x2, x3, x4, x5, x6, x7⟩, hz7⟩ := HBX.out _ hd7.st.box
    have HON7 := Lib.hid (HON.out _ hbw7)
    clear hd6 hd7 HDU
    go_wp2_with fail
    refine HON7.out.mono ?_
    rintro e w8 ⟨A', c', rfl, hrow, hb8⟩
    have HD8 := Lib.hid (HD7.out.below hb8)
    have HLP : Hid (LpW (w.alloc (.cells #[.int .i64 g.random, .int .i64 g.bands, .int .i64 g.tracks, .int .i64 g.sectors, .int .i64 g.overlap, .slice A0 l0.length c0, .slice A1 l1.length c1, .slice AA acts.length ca] 28)) w8 X pw q0 q1 (onlyA acts) A' c' 0) := by
      refine ⟨?_, HD8.out.st.var, _, own_mono hrow (by rw [hes]; exact hz7), fun _ _ => rfl⟩
      rw [hes]; exact HD8.out.st.box
    clear hrow x0 x1 x2 x3 x4 x5 x6 x7 v0 v1 v2 y0 y1 HD7 HON HON7 hb8 hbw7 hz7 r9 rf9
    have hol := HOL.out
    generalize hno : onlyA acts = l at *
    have hln : l.length ≤ 60 := by omega
    go_wp2
    go_loopw [8, 9, 10, 11, 12] (fun s8 s9 s10 s11 s12 wr => ∃ (k : Nat) (t : TS), k ≤ l.length ∧ s8 = .int .i64 k ∧ Hid (LpW (w.alloc (.cells #[.int .i64 g.random, .int .i64 g.bands, .int .i64 g.tracks, .int .i64 g.sectors, .int .i64 g.overlap, .slice A0 l0.length c0, .slice A1 l1.length c1, .slice AA acts.length ca] 28)) wr X pw q0 q1 l A' c' k) ∧ Hid (Duo (w.heap.size + 1) (w.alloc (.cells #[.int .i64 g.random, .int .i64 g.bands, .int .i64 g.tracks, .int .i64 g.sectors, .int .i64 g.overlap, .slice A0 l0.length c0, .slice A1 l1.length c1, .slice AA acts.length ca] 28)) wr X Y pw q0 q1 w2.heap.size rp r0 r1 w4.heap.size g l0 l1 t t) ∧ Hid (t.s0.dead = true ∧ t.O0.length ≤ k ∧ t.O1.length ≤ k)) (fun v _ _ _ _ _ => l.length - (intOf v).toNat)
    case atStart => exact ⟨0, { TS.new g with s0 := { newS P0 with dead := true } }, Nat.zero_le _, rfl, HLP, HD8, ⟨rfl, Nat.le_refl _, Nat.le_refl _⟩⟩
    case round =>
      obtain ⟨k, t, hk, rfl, HL, HD, HO⟩ := hrel
      obtain ⟨hbr, ⟨x0, x1, x2, x3, x4, x5, x6, x7⟩, hzr⟩ := HBX.out wr HD.out.st.box
      by_cases hlt : k < l.length
      · obtain ⟨ga, rfl, hca, _⟩ := HL.out.act hlt
        obtain ⟨hai, hax, hak, hkey⟩ := HIN.out l[k] (List.getElem_mem hlt)
        have hl3 := HL.out.below ((Below.refl _ _).drew)
        have HL2 := Lib.hid hl3
        have hga : ∀ (ts : List TypeId) (C : Bd) W, LpW (w.alloc (.cells #[.int .i64 g.random, .int .i64 g.bands, .int .i64 g.tracks, .int .i64 g.sectors, .int .i64 g.overlap, .slice A0 l0.length c0, .slice A1 l1.length c1, .slice AA acts.length ca] 28)) W X pw q0 q1 l (some ⟨ga, 0, none⟩) c' k → 55 ∉ ts → ¬ (C.has ga ∧ HasT ts W ga) := fun ts C W hW ht => KeptT.no hW.typ ht
        have HGA := Lib.hid hga
        have b0 := hca 0 _ rfl
        have b1 := hca 1 _ rfl
        have b2 := hca 2 _ rfl
        have b3 := hca 3 _ rfl
        have b4 := hca 4 _ rfl
        have b5 := hca 5 _ rfl
        simp only [Nat.add_zero] at b0
        have k0 : (0 : Int) ≤ k := by omega
        have k1 : (k : Int) < l.length := by omega
        generalize l[k] = a at *
        have hlo := HO.out
        have HDO := Lib.hid ((HD.out.below ((Below.refl _ _).drew)).doK a HTO.out.1 HTO.out.2.1 HTO.out.2.2.1 HTO.out.2.2.2 ⟨by omega, by omega⟩ hai.dk hai.at_ ((hai.rd.below hbr.drew (Nat.le_refl _)).more hnn) (by omega) hai.c)
        have HWA : Hid (∀ W t', Duo (w.heap.size + 1) (w.alloc (.cells #[.int .i64 g.random, .int .i64 g.bands, .int .i64 g.tracks, .int .i64 g.sectors, .int .i64 g.overlap, .slice A0 l0.length c0, .slice A1 l1.length c1, .slice AA acts.length ca] 28)) W X Y pw q0 q1 w2.heap.size rp r0 r1 w4.heap.size g l0 l1 t' t → Calls Tryz.prog 11 #[.pointer (some ⟨rp, 0, none⟩), .agg #[.pointer (some ⟨r0, 0, none⟩), .pointer (some ⟨r1, 0, none⟩)], .agg #[.int .u8 a.disk, .int .u8 a.kind, .int .u64 a.key, .int .i64 a.at_, .slice a.A a.xs.length a.c, .bool a.force]] W
            (fun e w' => e = .returned (.tuple #[.string (strOfNums (t.by_ g l0 l1 a)), .int .i64 (t.er g l0 l1 a)]) ∧ Duo (w.heap.size + 1) (w.alloc (.cells #[.int .i64 g.random, .int .i64 g.bands, .int .i64 g.tracks, .int .i64 g.sectors, .int .i64 g.overlap, .slice A0 l0.length c0, .slice A1 l1.length c1, .slice AA acts.length ca] 28)) w' X Y pw q0 q1 w2.heap.size rp r0 r1 w4.heap.size g l0 l1 t' (t.act g l0 l1 a) ∧ ∃ C : Bd, C.n = w4.heap.size ∧ KeptT RDT C W w')) := by
          unfold Hid; intro W t' hD
          exact hD.wantK a HTO.out.1 HTO.out.2.1 HTO.out.2.2.1 HTO.out.2.2.2 ⟨by omega, by omega⟩ hai.dk hai.at_ ((hai.rd.below (HBX.out W hD.st.box).1 (Nat.le_refl _)).more hmm) (by omega) hai.c
        obtain ⟨u0, u1, u2⟩ := hl3.cells
        have HST := Lib.hid (dies_step (g := g) (F0 := l0) (F1 := l1) (a := a) HO.out.1 ⟨hai.kd.1, hak⟩)
        have HLN := Lib.hid (TS.act_len (g := g) (F0 := l0) (F1 := l1) (a := a) HO.out.2)
        clear hca hai hax hak hkey hl3 hga hlo
        generalize t.by_ g l0 l1 a = ys at *
        by_cases hm : Int.tmod a.disk 2 = 0
        · have hE := HST.out.2 hm
          rw [hE] at HDO HWA
          have HDE := Lib.hid HST.out.1
          generalize t.act g l0 l1 a = t' at *
          clear hE HST
          go_wp2
          go_region_held3 (fun W => (W.cell? ⟨X, 0, none⟩ = some (.pointer (some ⟨pw, 0, none⟩)) ∧ W.cell? ⟨X, 1, none⟩ = some (.pointer (some ⟨q0, 0, none⟩)) ∧ W.cell? ⟨X, 2, none⟩ = some (.pointer (some ⟨q1, 0, none⟩))) ∧ (W.cell? ⟨ga, k * 6, none⟩ = some (.int .u8 a.disk) ∧ W.cell? ⟨ga, k * 6 + 1, none⟩ = some (.int .u8 a.kind) ∧ W.cell? ⟨ga, k * 6 + 2, none⟩ = some (.int .u64 a.key) ∧ W.cell? ⟨ga, k * 6 + 3, none⟩ = some (.int .i64 a.at_) ∧ W.cell? ⟨ga, k * 6 + 4, none⟩ = some (.slice a.A a.xs.length a.c) ∧ W.cell? ⟨ga, k * 6 + 5, none⟩ = some (.bool a.force)))
            (first | (refine ⟨⟨?_, ?_, ?_⟩, ?_, ?_, ?_, ?_, ?_, ?_⟩ <;> assumption) | (simp (maxDischargeDepth := 20) [World.cell?_alloc_some, *]; done))
            ((go_at_call 10
              refine HDO.out.mono ?_
              rintro e w5 ⟨rfl, hd5, B5, hB5, hk5⟩
              have hl5 := HL2.out.typed hk5 (by rw [hB5, hes]; exact hz2) (by unfold DAT; decide) (by unfold DAT; decide)
              have HD5 := Lib.hid hd5
              have HL5 := Lib.hid hl5
              obtain ⟨⟨v0, v1, v2⟩, y0, y1⟩ := hd5.cells
              have z0 := Kept.cell hk5 b0 (HGA.out _ _ _ HL2.out (by unfold DAT; decide))
              have z1 := Kept.cell hk5 b1 (HGA.out _ _ _ HL2.out (by unfold DAT; decide))
              have z2 := Kept.cell hk5 b2 (HGA.out _ _ _ HL2.out (by unfold DAT; decide))
              have z3 := Kept.cell hk5 b3 (HGA.out _ _ _ HL2.out (by unfold DAT; decide))
              have z4 := Kept.cell hk5 b4 (HGA.out _ _ _ HL2.out (by unfold DAT; decide))
              have z5 := Kept.cell hk5 b5 (HGA.out _ _ _ HL2.out (by unfold DAT; decide))
              clear hd5 hk5 hl5))
          go_wp2
          have HWN := Lib.hid (HWA.out w5.drew _ (HD5.out.below ((Below.refl _ _).drew)))
          go_region_held3 (fun W => (W.cell? ⟨Y, 0, none⟩ = some (.pointer (some ⟨r0, 0, none⟩)) ∧ W.cell? ⟨Y, 1, none⟩ = some (.pointer (some ⟨r1, 0, none⟩))) ∧ (W.cell? ⟨ga, k * 6, none⟩ = some (.int .u8 a.disk) ∧ W.cell? ⟨ga, k * 6 + 1, none⟩ = some (.int .u8 a.kind) ∧ W.cell? ⟨ga, k * 6 + 2, none⟩ = some (.int .u64 a.key) ∧ W.cell? ⟨ga, k * 6 + 3, none⟩ = some (.int .i64 a.at_) ∧ W.cell? ⟨ga, k * 6 + 4, none⟩ = some (.slice a.A a.xs.length a.c) ∧ W.cell? ⟨ga, k * 6 + 5, none⟩ = some (.bool a.force)))
            (first | (refine ⟨⟨?_, ?_⟩, ?_, ?_, ?_, ?_, ?_, ?_⟩ <;> assumption) | (simp (maxDischargeDepth := 20) [World.cell?_alloc_some, *]; done))
            ((go_at_call 11
              refine HWN.out.mono ?_
              rintro e w8 ⟨rfl, hd8, C8, hC8, hk8⟩
              have hl5 := HL5.out.below ((Below.refl _ _).drew)
              have hl8 := hl5.typed hk8 (by rw [hC8, hes]; exact hz4) (by unfold RDT; decide) (by unfold RDT; decide)
              have HD8' := Lib.hid hd8
              have HL8 := Lib.hid hl8
              obtain ⟨⟨vv0, vv1, vv2⟩, yy0, yy1⟩ := hd8.cells
              have zz0 := Kept.cell hk8 z0 (HGA.out _ _ _ hl5 (by unfold RDT; decide))
              have zz1 := Kept.cell hk8 z1 (HGA.out _ _ _ hl5 (by unfold RDT; decide))
              have zz2 := Kept.cell hk8 z2 (HGA.out _ _ _ hl5 (by unfold RDT; decide))
              have zz3 := Kept.cell hk8 z3 (HGA.out _ _ _ hl5 (by unfold RDT; decide))
              have zz4 := Kept.cell hk8 z4 (HGA.out _ _ _ hl5 (by unfold RDT; decide))
              have zz5 := Kept.cell hk8 z5 (HGA.out _ _ _ hl5 (by unfold RDT; decide))
              clear hd8 hk8 hl8 hl5))
          go_wp2
          go_roundw
          case rel => exact ⟨k + 1, t', by omega, by go_num, Lib.hid HL8.out.next, HD8', ⟨HDE.out, HLN.out⟩⟩
          case measure => simp [intOf]; omega
        · have hm0 : (Int.tmod a.disk 2 == 0) = false := by simpa using hm
          have HDE := Lib.hid HST.out.1
          generalize t.act g l0 l1 a = t' at *
          generalize t.er g l0 l1 a = E at *
          clear hm HST
          go_wp2
          go_region_held3 (fun W => (W.cell? ⟨X, 0, none⟩ = some (.pointer (some ⟨pw, 0, none⟩)) ∧ W.cell? ⟨X, 1, none⟩ = some (.pointer (some ⟨q0, 0, none⟩)) ∧ W.cell? ⟨X, 2, none⟩ = some (.pointer (some ⟨q1, 0, none⟩))) ∧ (W.cell? ⟨ga, k * 6, none⟩ = some (.int .u8 a.disk) ∧ W.cell? ⟨ga, k * 6 + 1, none⟩ = some (.int .u8 a.kind) ∧ W.cell? ⟨ga, k * 6 + 2, none⟩ = some (.int .u64 a.key) ∧ W.cell? ⟨ga, k * 6 + 3, none⟩ = some (.int .i64 a.at_) ∧ W.cell? ⟨ga, k * 6 + 4, none⟩ = some (.slice a.A a.xs.length a.c) ∧ W.cell? ⟨ga, k * 6 + 5, none⟩ = some (.bool a.force)))
            (first | (refine ⟨⟨?_, ?_, ?_⟩, ?_, ?_, ?_, ?_, ?_, ?_⟩ <;> assumption) | (simp (maxDischargeDepth := 20) [World.cell?_alloc_some, *]; done))
            ((go_at_call 10
              refine HDO.out.mono ?_
              rintro e w5 ⟨rfl, hd5, B5, hB5, hk5⟩
              have hl5 := HL2.out.typed hk5 (by rw [hB5, hes]; exact hz2) (by unfold DAT; decide) (by unfold DAT; decide)
              have HD5 := Lib.hid hd5
              have HL5 := Lib.hid hl5
              obtain ⟨⟨v0, v1, v2⟩, y0, y1⟩ := hd5.cells
              have z0 := Kept.cell hk5 b0 (HGA.out _ _ _ HL2.out (by unfold DAT; decide))
              have z1 := Kept.cell hk5 b1 (HGA.out _ _ _ HL2.out (by unfold DAT; decide))
              have z2 := Kept.cell hk5 b2 (HGA.out _ _ _ HL2.out (by unfold DAT; decide))
              have z3 := Kept.cell hk5 b3 (HGA.out _ _ _ HL2.out (by unfold DAT; decide))
              have z4 := Kept.cell hk5 b4 (HGA.out _ _ _ HL2.out (by unfold DAT; decide))
              have z5 := Kept.cell hk5 b5 (HGA.out _ _ _ HL2.out (by unfold DAT; decide))
              clear hd5 hk5 hl5))
          go_wp2
          have HWN := Lib.hid (HWA.out w5.drew _ (HD5.out.below ((Below.refl _ _).drew)))
          go_region_held3 (fun W => (W.cell? ⟨Y, 0, none⟩ = some (.pointer (some ⟨r0, 0, none⟩)) ∧ W.cell? ⟨Y, 1, none⟩ = some (.pointer (some ⟨r1, 0, none⟩))) ∧ (W.cell? ⟨ga, k * 6, none⟩ = some (.int .u8 a.disk) ∧ W.cell? ⟨ga, k * 6 + 1, none⟩ = some (.int .u8 a.kind) ∧ W.cell? ⟨ga, k * 6 + 2, none⟩ = some (.int .u64 a.key) ∧ W.cell? ⟨ga, k * 6 + 3, none⟩ = some (.int .i64 a.at_) ∧ W.cell? ⟨ga, k * 6 + 4, none⟩ = some (.slice a.A a.xs.length a.c) ∧ W.cell? ⟨ga, k * 6 + 5, none⟩ = some (.bool a.force)))
            (first | (refine ⟨⟨?_, ?_⟩, ?_, ?_, ?_, ?_, ?_, ?_⟩ <;> assumption) | (simp (maxDischargeDepth := 20) [World.cell?_alloc_some, *]; done))
            ((go_at_call 11
              refine HWN.out.mono ?_
              rintro e w8 ⟨rfl, hd8, C8, hC8, hk8⟩
              have hl5 := HL5.out.below ((Below.refl _ _).drew)
              have hl8 := hl5.typed hk8 (by rw [hC8, hes]; exact hz4) (by unfold RDT; decide) (by unfold RDT; decide)
              have HD8' := Lib.hid hd8
              have HL8 := Lib.hid hl8
              obtain ⟨⟨vv0, vv1, vv2⟩, yy0, yy1⟩ := hd8.cells
              have zz0 := Kept.cell hk8 z0 (HGA.out _ _ _ hl5 (by unfold RDT; decide))
              have zz1 := Kept.cell hk8 z1 (HGA.out _ _ _ hl5 (by unfold RDT; decide))
              have zz2 := Kept.cell hk8 z2 (HGA.out _ _ _ hl5 (by unfold RDT; decide))
              have zz3 := Kept.cell hk8 z3 (HGA.out _ _ _ hl5 (by unfold RDT; decide))
              have zz4 := Kept.cell hk8 z4 (HGA.out _ _ _ hl5 (by unfold RDT; decide))
              have zz5 := Kept.cell hk8 z5 (HGA.out _ _ _ hl5 (by unfold RDT; decide))
              clear hd8 hk8 hl8 hl5))
          go_wp2
          go_roundw
          case rel => exact ⟨k + 1, t', by omega, by go_num, Lib.hid HL8.out.next, HD8', ⟨HDE.out, HLN.out⟩⟩
          case measure => simp [intOf]; omega
      · obtain rfl : k = l.length := by omega
        obtain ⟨⟨v0, v1, v2⟩, y0, y1⟩ := HD.out.cells
        have hlo := HO.out
        have HDD := HD.out.dead0
        rw [hlo.1] at HDD
        have HDD := Lib.hid HDD
        have HAQ := Lib.hid (HD.out.acquire0 1 hlo.1)
        clear x0 x1 x2 x3 x4 x5 x6 x7 HL
        go_wp2_with fail
        refine HDD.out.mono ?_
        rintro e w9 ⟨rfl, rfl⟩
        go_wp2_with fail
        refine HAQ.out.mono ?_
        rintro e wa ⟨rfl, hda⟩
        have HRS := Lib.hid (hda.restart0 0 hlo.1 (by omega))
        clear v0 v1 v2 y0 y1
        obtain ⟨⟨v0, v1, v2⟩, y0, y1⟩ := hda.cells
        clear hda
        go_wp2_with fail
        refine HRS.out.mono ?_
        rintro e wb ⟨rfl, hdb⟩
        obtain ⟨B2, _, hd, _⟩ := hdb.st.swap0
        obtain ⟨C2, _, hr, _⟩ := hdb.ref.second
        have HS1 := Lib.hid (same14_any hd hr (by omega))
        have hb9 := (HBX.out wb hdb.st.box).1
        clear v0 v1 v2 y0 y1 hd hr
        obtain ⟨⟨v0, v1, v2⟩, y0, y1⟩ := hdb.cells
        clear hdb
        go_wp2_with fail
        refine HS1.out.mono ?_
        rintro e wc ⟨rfl, hbc⟩
        go_wp2
        go_ret
        exact ⟨rfl, hb9.trans (hbc.mono hb9.size)⟩

set_option maxRecDepth 100000 in
theorem diskDies_lifted (os : Os) (started : os.Started) (H : Type) (enc : TypeId × Value → H) :
    ReturnsInHanded {} Tryz.checked os 3 .any (Rows.diskDiesSpec.pre6 enc Tryz.prog Tryz.f3 Rows.diskDiesRow.domain false) (Rows.diskDiesSpec.post enc Tryz.prog Tryz.f3 false true false false) := by
  refine returnsInHanded_of_change (C := Tryz.checked) own started (by kernel_rfl) Tryz.func3
    (ChangeSpec.witness6 (enc := enc) (C := Tryz.checked) false ⟨#[], #[.agg #[.int .i64 0, .int .i64 0, .int .i64 0, .int .i64 0, .int .i64 0, .slice none 0 0, .slice none 0 0, .slice none 0 0]], []⟩ 8 (by kernel_rfl) (by kernel_rfl) (by kernel_rfl) (by kernel_rfl)) ?_
  intro W base args ds gs before hval0 hW hcnd _
  have hval : ∀ (j : Nat) t v, Tryz.f3.params[j]? = some t → args[j]? = some v → Value.okWide Tryz.prog W .any base t v := hval0
  have hW' := hW
  obtain ⟨p, q, hA0, hV, rfl, hfz, hnd⟩ := hW
  have hA : DataW.TrodAll enc Tryz.prog W 0 (fun _ => true) true Tryz.f3.params.toList args.toList ds p := hA0
  rw [Tryz.params3] at hA hval
  obtain ⟨v0, vs0, d0, ds0, p0, q0, hargs, rfl, rfl, h0, r0⟩ := trodAll_cons hA
  obtain ⟨rfl, rfl, rfl⟩ := trodAll_nil r0
  obtain rfl : args = #[v0] := by cases args; simp_all
  obtain ⟨rfl, rfl⟩ := trodVars_none hV
  have k0 := h0
  have lt0 : ∀ x ∈ p0, x.block < W.heap.size := by obtain ⟨m, hm⟩ := k0; exact DataW.trod_lt m _ _ _ hm
  obtain ⟨g, A0, A1, AA, l0, l1, acts, c0, c1, ca, rfl, hc⟩ := open_casev (hval 0 _ _ rfl rfl) h0
  clear hA0 hval0
  refine (diskDies_walk g A0 A1 AA l0 l1 acts c0 c1 ca W hc).mono fun e W' ⟨he, bel⟩ => ?_
  subst he
  exact ⟨_, rfl, _, _, _, [], _, [], hW', trodAll_mk1 (shut_bool Tryz.underlying4 _), (trodAll_cons_mk (Below.trod laidOut (by kernel_rfl) (of_decide_eq_true (by kernel_rfl)) k0 bel lt0) trodAll_mk0), rfl, bel.frame _, fun h => by cases h⟩

/-- The statement. -/
theorem diskDies_holds : Rows.DiskDiesSaid :=
  OpenClaim.holds_of_wide 3 Tryz.f3 rfl rfl rfl rfl rfl rfl rfl ⟨rfl, rfl, rfl, rfl, rfl⟩ rfl rfl rfl rfl rfl (by kernel_rfl) Tryz.func3 (by kernel_rfl)
    (of_decide_eq_true (by kernel_rfl)) (by unfold Func.isWrapper; first | (rw [if_pos (by decide +kernel)]; kernel_rfl) | (rw [if_neg (by decide +kernel)]; exact ⟨rfl, rfl⟩))
    (fun os started H enc _ => diskDies_lifted os started H enc)
#print axioms diskDies_holds
end Go.Proofs.YtckdhhadlemakaaGreat

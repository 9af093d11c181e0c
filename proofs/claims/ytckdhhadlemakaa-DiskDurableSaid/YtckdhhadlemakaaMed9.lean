/-
  WHAT IS SHOWN: what play of tegulalaw11 returns and makes of two media: the same. Conditions: the media lie in memory; the operations can be read.
-/
import Derived.Test.YtckdhhadlemakaaMed8
namespace Go.Proofs.Ytckdhhadlemakaa
set_option linter.unusedVariables false
open Go.RowKit

theorem ops_at {w : World} {B : Nat} {A : Option Addr} {l : List OpV} (h : Rd w B A (flatOps l)) {k : Nat} (hk : k < l.length) : ∃ g o, A = some ⟨g, o, none⟩ ∧ g < B ∧ w.cell? ⟨g, o + k * 3, none⟩ = some (.bool l[k].er) ∧ w.cell? ⟨g, o + k * 3 + 1, none⟩ = some (.int .i64 l[k].at_) ∧ w.cell? ⟨g, o + k * 3 + 2, none⟩ = some (.slice l[k].A l[k].xs.length l[k].c) := by
  have e : ∀ t, t < 3 → (flatOps l)[k * 3 + t]? = l[k].cells[t]? := fun t ht => by
    unfold flatOps; rw [flat_get _ 3 opcells_len l k t ht, List.getElem?_eq_getElem hk]; rfl
  obtain ⟨g, o, e0, hg, h0⟩ := h (k * 3 + 0) _ (e 0 (by omega))
  obtain ⟨g1, o1, e1, _, h1⟩ := h (k * 3 + 1) _ (e 1 (by omega))
  obtain ⟨g2, o2, e2, _, h2⟩ := h (k * 3 + 2) _ (e 2 (by omega))
  rw [e0] at e1 e2
  injection e1 with e1; injection e1 with e1 e1'; subst e1; subst e1'
  injection e2 with e2; injection e2 with e2 e2'; subst e2; subst e2'
  exact ⟨g, o, e0, hg, h0, h1, h2⟩
theorem OpOk.kept {w w' : World} {B : Nat} {o : OpV} {S : Nat → Prop} (h : OpOk w B o) (hk : Kept S w w') (hS : ∀ i, i < B → ¬ S i) : OpOk w' B o := ⟨h.at_, hk.rd h.rd hS, h.n⟩
/-- A medium and one of the reference lie apart. -/
theorem med_apart {w : World} {m bs n rs : Nat} {g g' : Geo} {L L' : List Sec} (h : Med w m bs g L) (k : RMed w n rs g' L') : m ≠ n ∧ m ≠ rs ∧ bs ≠ n ∧ bs ≠ rs := by
  obtain ⟨c, V, h1, h2, _, _⟩ := h
  obtain ⟨cur, hc⟩ := own_type h2
  obtain ⟨c', k1, k2⟩ := k
  obtain ⟨cur', kc⟩ := own_type k2
  refine ⟨fun e => ?_, fun e => ?_, fun e => ?_, fun e => ?_⟩
  · subst e; rw [h1] at k1; injection k1 with k1; injection k1 with _ k1; revert k1; decide
  · subst e; rw [h1] at kc; injection kc with kc; injection kc with _ kc; revert kc; decide
  · subst e; rw [hc] at k1; injection k1 with k1; injection k1 with _ k1; revert k1; decide
  · subst e; rw [hc] at kc; injection kc with kc; injection kc with _ kc; revert kc; decide

/-- What play leaves. -/
def PlayPost (w : World) (m bs n rs : Nat) (g : Geo) (L : List Sec) (e : Ending) (w' : World) : Prop :=
  e = .returned (.bool true) ∧ Med w' m bs g L ∧ RMed w' n rs g L ∧ Kept (fun k => k = bs ∨ k = rs) w w'

set_option maxRecDepth 100000 in
set_option maxHeartbeats 1000000 in
theorem play_any {m bs n rs : Nat} {g : Geo} {L : List Sec} {w : World} {B : Nat} (l : List OpV) (OA : Option Addr) (oc : Nat) (hm : Med w m bs g L) (hr : RMed w n rs g L) (hf : Fit g L) (hl : Rd w B OA (flatOps l)) (ho : ∀ o ∈ l, OpOk w B o) (hB : B ≤ w.heap.size) (hbs : B ≤ bs) (hrs : B ≤ rs) (hn : l.length ≤ 100000) :
    Calls Try.prog 17 #[.pointer (some ⟨m, 0, none⟩), .pointer (some ⟨n, 0, none⟩), .slice OA l.length oc] w (PlayPost w m bs n rs g (playL g L l)) := by
  have HOK := Lib.hid ho
  have HRD := Lib.hid hl
  have HF := Lib.hid hf
  clear ho hl hf
  go_enter Try.func17, Try.ntmps17
  go_wp2
  go_loopw [7] (fun v wr => ∃ k : Nat, k ≤ l.length ∧ v = .int .i64 k ∧ Med wr m bs g (playL g L (l.take k)) ∧ RMed wr n rs g (playL g L (l.take k)) ∧ Kept (fun k => k = bs ∨ k = rs) w wr) (fun v _ => l.length - (intOf v).toNat)
  case atStart => exact ⟨0, Nat.zero_le _, rfl, hm, hr, Kept.refl _ _⟩
  case round =>
    obtain ⟨k, hk, rfl, hmr, hrr, hkr⟩ := hrel
    by_cases hlt : k < l.length
    · have hS : ∀ i, i < B → ¬ (i = bs ∨ i = rs) := fun i hi h => by omega
      obtain ⟨go, oo, rfl, hgo, c0, c1, c2⟩ := ops_at (hkr.rd HRD.out hS) hlt
      have hok := (HOK.out _ (List.getElem_mem hlt)).kept hkr hS
      have HT := Lib.hid (playL_take g L l k hlt)
      have HF2 : Hid (Fit g (playL g L (l.take k))) := Lib.hid (HF.out.len (playL_len _ _ _))
      obtain ⟨a1, a2, a3, a4⟩ := med_apart hmr hrr
      have hBr : B ≤ wr.heap.size := Nat.le_trans hB hkr.size
      have hbm := hmr.lt
      have hnb := hmr.nobytes
      generalize playL g L (l.take k) = X at *
      generalize l[k] = o at *
      have hne1 : ¬ (go = bs) := by omega
      have hne2 : ¬ (go = rs) := by omega
      have D1 : Hid (∀ W, Below wr.heap.size wr W → Calls Try.prog 59 #[.pointer (some ⟨m, 0, none⟩), .agg #[.bool o.er, .int .i64 o.at_, .slice o.A o.xs.length o.c]] W (WritePost W m bs g (doE g X o) (doL g X o))) := by
        unfold Hid; intro W hW
        exact do_any o (hmr.below0 hW) HF2.out (hok.kept (belKept0 (S := fun _ => False) hW) (fun _ _ h => h)) (Nat.le_trans hBr hW.size)
      have D2 : Hid (∀ W, Kept (fun k => k = bs) wr W → Calls Try.prog 60 #[.pointer (some ⟨n, 0, none⟩), .agg #[.bool o.er, .int .i64 o.at_, .slice o.A o.xs.length o.c]] W (RWritePost W n rs g (doE g X o) (doL g X o))) := by
        unfold Hid; intro W hW
        exact rdo_any o (hrr.kept hW (fun e => a3 e.symm) (fun e => a4 e.symm)) HF2.out (hok.kept hW (fun i hi e => by omega)) (Nat.le_trans hBr hW.size)
      have HN2 : Hid (∀ W, Kept (fun k => k = bs) wr W → Free W 5 (fun k => k = rs)) := by
        unfold Hid; intro W hW; exact (hrr.kept hW (fun e => a3 e.symm) (fun e => a4 e.symm)).nobytes
      have k0 : (0 : Int) ≤ k := by omega
      have k1 : (k : Int) < l.length := by omega
      clear hok hm hr hrr hmr
      go_wp2
      go_region_held3 (fun W => W.cell? ⟨go, oo + k * 3, none⟩ = some (.bool o.er) ∧ W.cell? ⟨go, oo + k * 3 + 1, none⟩ = some (.int .i64 o.at_) ∧ W.cell? ⟨go, oo + k * 3 + 2, none⟩ = some (.slice o.A o.xs.length o.c))
        (first | (refine ⟨?_, ?_, ?_⟩ <;> assumption) | (simp [*]; done))
        ((first
          | (go_at_call 59
             refine (D1.out _ ((Below.refl wr.heap.size wr).drew)).mono ?_
             rintro e w2 ⟨rfl, hm2, hk2⟩
             have hw2 : Kept (fun k => k = bs) wr w2 := ((Kept.refl (fun k => k = bs) wr).drew).trans hk2 (fun _ _ h => h)
             have q0 := hw2.cell c0 hne1
             have q1 := hw2.cell c1 hne1
             have q2 := hw2.cell c2 hne1)
          | (go_at_call 60
             refine (D2.out _ hw2).mono ?_
             rintro e w3 ⟨rfl, hr3, hk3⟩
             have hm3 := hm2.kept hk3 a2 a4 (HN2.out _ hw2)
             have q0' := hk3.cell q0 hne2
             have q1' := hk3.cell q1 hne2
             have q2' := hk3.cell q2 hne2)))
      have hk4 : Kept (fun k => k = bs ∨ k = rs) w w3 := hkr.trans ((hw2.more (T := fun k => k = bs ∨ k = rs) (fun _ _ h => .inl h)).trans hk3 (fun _ _ h => .inr h)) (fun _ _ h => h)
      have HM3 := Lib.hid hm3
      have HR3 := Lib.hid hr3
      clear hm2 hm3 hr3 q0 q1 q2 q0' q1' q2' c0 c1 c2
      go_wp2
      go_roundw
      case rel => exact ⟨k + 1, by omega, by go_num, by rw [HT.out]; exact HM3.out, by rw [HT.out]; exact HR3.out, hk4⟩
      case measure => simp [intOf]; omega
    · have hk' : k = l.length := by omega
      subst hk'
      rw [List.take_of_length_le (Nat.le_refl _)] at hmr hrr
      have HM := Lib.hid hmr
      have HR := Lib.hid hrr
      clear hmr hrr hm hr
      go_wp2
      go_ret
      exact ⟨rfl, HM.out, HR.out, hkr⟩

set_option maxRecDepth 100000 in
set_option maxHeartbeats 1000000 in
theorem same_any {m bs n rs : Nat} {g : Geo} {L : List Sec} {w : World} (hm : Med w m bs g L) (hr : RMed w n rs g L) (hf : Fit g L) (hb : ShortB L) :
    Calls Try.prog 18 #[.pointer (some ⟨m, 0, none⟩), .pointer (some ⟨n, 0, none⟩)] w fun e w' => e = .returned (.bool true) ∧ Below w.heap.size w w' := by
  obtain ⟨c, _, _, _, _, _, p5, _, _⟩ := hm.cells
  obtain ⟨c', r0, r1, r2, r3, r4, r5, _, _⟩ := hr.cells
  have hlm := hm.lt.1
  have hln := hr.lt.1
  have HG : Hid (∀ W, Below w.heap.size w W → Calls Try.prog 61 #[.pointer (some ⟨m, 0, none⟩)] W fun e w' => e = .returned (.agg #[.int .i64 g.random, .int .i64 g.bands, .int .i64 g.tracks, .int .i64 g.sectors, .int .i64 g.overlap]) ∧ Below W.heap.size W w') := by
    unfold Hid; intro W hW; exact geometry_any (hm.below0 hW)
  have H1 : Hid (∀ W a, Below w.heap.size w W → Calls Try.prog 55 #[.pointer (some ⟨m, 0, none⟩), .int .i64 a] W (ReadPost W (readB L a) (readE L a))) := by
    unfold Hid; intro W a hW; exact read_any a (hm.below0 hW) hf hb
  have H2 : Hid (∀ W a, Below w.heap.size w W → Calls Try.prog 62 #[.pointer (some ⟨n, 0, none⟩), .int .i64 a] W (ReadPost W (norm (readB L a)) (readE L a))) := by
    unfold Hid; intro W a hW; exact rread_any a (hr.below0 hW) hf
  have H3 : Hid (∀ W a, Below w.heap.size w W → Calls Try.prog 56 #[.pointer (some ⟨m, 0, none⟩), .int .i64 a] W fun e w' => e = .returned (.int .i64 (stateN L a)) ∧ W = w') := by
    unfold Hid; intro W a hW; exact state_any a (hm.below0 hW) hf
  have H4 : Hid (∀ W a, Below w.heap.size w W → Calls Try.prog 63 #[.pointer (some ⟨n, 0, none⟩), .int .i64 a] W fun e w' => e = .returned (.int .i64 (stateN L a)) ∧ W = w') := by
    unfold Hid; intro W a hW; exact rstate_any a (hr.below0 hW) hf
  have hle := hf.le
  clear hm hr hf hb
  have s0 := Held.cell r0 hln; have s1 := Held.cell r1 hln; have s2 := Held.cell r2 hln; have s3 := Held.cell r3 hln; have s4 := Held.cell r4 hln
  go_enter Try.func18, Try.ntmps18
  go_wp2
  have hne : Nonempty (Held (Below w.heap.size w)) := ⟨⟨_, (Held.drew_below (Nat.le_refl _))⟩⟩
  refine wp_region_heldq (S := (Below w.heap.size w)) (by kernel_rfl) (by kernel_rfl) (Held.drew_below (Nat.le_refl _)) ?_
  repeat (go_big_quiet_step ((go_at_call 61; exact Calls.held_below (Nat.le_refl _) (HG.out _ (Held.h _)))))
  refine wpQuiet_nil ?_
  intro _ hw'
  obtain ⟨sq, hw''⟩ := hw'
  subst hw''
  clear hne
  obtain ⟨W0, hW0⟩ := sq
  simp only
  clear s0 s1 s2 s3 s4 r0 r1 r2 r3 r4 p5
  go_wp2
  go_loopw [5] (fun v wr => ∃ k : Nat, k ≤ L.length + 2 ∧ v = .int .i64 ((k : Int) - 1) ∧ Below w.heap.size w wr) (fun v _ => (L.length + 1 - intOf v).toNat)
  case atStart => exact ⟨0, by omega, rfl, hW0⟩
  case round =>
    obtain ⟨k, hk, rfl, hbr⟩ := hrel
    have p5 := (hbr.cell (p := ⟨n, 5, none⟩) hln).trans r5
    by_cases hlt : k ≤ L.length + 1
    · have q1 : (k : Int) - 1 ≤ L.length := by omega
      have HN := Lib.hid (norm_str (readB L ((k : Int) - 1)))
      have F1 := Lib.hid (H1.out wr ((k : Int) - 1) hbr)
      have F2 := Lib.hid (fun W hW => H2.out W ((k : Int) - 1) hW)
      have F3 := Lib.hid (fun W hW => H3.out W ((k : Int) - 1) hW)
      have F4 := Lib.hid (fun W hW => H4.out W ((k : Int) - 1) hW)
      generalize readB L ((k : Int) - 1) = xs at *
      generalize readE L ((k : Int) - 1) = E at *
      generalize stateN L ((k : Int) - 1) = T at *
      go_wp2_with fail
      refine F1.out.mono ?_
      rintro e w1 ⟨v1, rfl, hv1, hb1⟩
      have hbr1 := hbr.trans (hb1.mono hbr.size)
      go_wp2_with fail
      refine (F2.out _ hbr1).mono ?_
      rintro e w2 ⟨v2, rfl, hv2, hb2⟩
      have hbr2 := hbr1.trans (hb2.mono hbr1.size)
      obtain ⟨A1, c1, rfl, hr1, _⟩ := hv1.kept (belKept0 (S := fun _ => False) hb2) (Free.none _ _)
      obtain ⟨A2, c2, rfl, hr2, _⟩ := hv2
      have k1 := conv_bytes c1 hr1.rd
      have k2 := conv_bytes c2 hr2.rd
      rw [HN.out] at k2
      clear hv1 hr1 hr2 p5
      generalize strOfNums xs = SS at *
      go_wp2_with fail
      refine (F3.out _ hbr2).mono ?_
      rintro e w3 ⟨rfl, rfl⟩
      go_wp2_with fail
      refine (F4.out _ hbr2).mono ?_
      rintro e w3 ⟨rfl, rfl⟩
      clear k1 k2
      go_wp2
      go_roundw
      case rel => exact ⟨k + 1, by omega, by go_num, hbr2⟩
      case measure => simp [intOf]; omega
    · have q1 : (L.length : Int) < (k : Int) - 1 := by omega
      go_wp2
      go_ret
      exact ⟨rfl, hbr⟩
end Go.Proofs.Ytckdhhadlemakaa

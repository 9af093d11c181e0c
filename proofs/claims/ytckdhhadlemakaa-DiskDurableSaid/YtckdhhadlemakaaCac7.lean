/-
  WHAT IS SHOWN: what sameMedia and same of tegulalaw12 return: true where a cache and one of the reference agree. Conditions: the caches lie in memory.
-/
import Derived.Test.YtckdhhadlemakaaCac5
namespace Go.Proofs.Ytckdhhadlemakaa
set_option linter.unusedVariables false
open Go.RowKit

section
variable {w w' : World} {S : Nat → Prop} {B : Bd} {p : Nat} {g : Geo} {LM : List Sec} {ops : List OpV}
theorem CacheM.mono {B' : Bd} (h : CacheM w B p g LM ops) (hB : Bd.Sub w.heap.size B B') : CacheM w B' p g LM ops := by
  obtain ⟨m1, b1, m2, b2, A, c, F, h⟩ := h
  exact ⟨m1, b1, m2, b2, A, c, F, own_mono h.obj hB.1, (hB.2 _ h.lt h.low).2, fun k e => (hB.2 _ (h.typA k e).1.lt (h.typA k e).2).2, hB.2 _ h.med1.types.2.lt h.lb1, hB.2 _ h.med2.types.2.lt h.lb2, h.ne, h.med1, h.med2, own_mono h.own hB.1, h.fn⟩
theorem RCacheM.mono {B' : Bd} (h : RCacheM w B p g LM ops) (hB : Bd.Sub w.heap.size B B') : RCacheM w B' p g LM ops := by
  obtain ⟨l, m, b, A, c, e, h⟩ := h
  exact ⟨l, m, b, A, c, e, own_mono h.obj hB.1, (hB.2 _ h.lt h.low).2, hB.2 _ h.med.types.2.lt h.lb, h.med, h.rd, h.op, h.nil⟩
set_option maxRecDepth 100000 in
set_option maxHeartbeats 1000000 in
theorem sameMedia_any {m bs n rs : Nat} {L : List Sec} (hm : Med w m bs g L) (hr : RMed w n rs g L) (hf : Fit g L) (hb : ShortB L) :
    Calls Try.prog 77 #[.pointer (some ⟨m, 0, none⟩), .pointer (some ⟨n, 0, none⟩)] w fun e w' => e = .returned (.bool true) ∧ Below w.heap.size w w' := by
  obtain ⟨c', r0, r1, r2, r3, r4, r5, _, _⟩ := hr.cells
  have hln := hr.lt.1
  have H1 : Hid (∀ W a, Below w.heap.size w W → Calls Try.prog 55 #[.pointer (some ⟨m, 0, none⟩), .int .i64 a] W (ReadPost W (readB L a) (readE L a))) := by
    unfold Hid; intro W a hW; exact read_any a (hm.below0 hW) hf hb
  have H2 : Hid (∀ W a, Below w.heap.size w W → Calls Try.prog 62 #[.pointer (some ⟨n, 0, none⟩), .int .i64 a] W (ReadPost W (norm (readB L a)) (readE L a))) := by
    unfold Hid; intro W a hW; exact rread_any a (hr.below0 hW) hf
  have H3 : Hid (∀ W a, Below w.heap.size w W → Calls Try.prog 56 #[.pointer (some ⟨m, 0, none⟩), .int .i64 a] W fun e w' => e = .returned (.int .i64 (stateN L a)) ∧ W = w') := by
    unfold Hid; intro W a hW; exact state_any a (hm.below0 hW) hf
  have H4 : Hid (∀ W a, Below w.heap.size w W → Calls Try.prog 63 #[.pointer (some ⟨n, 0, none⟩), .int .i64 a] W fun e w' => e = .returned (.int .i64 (stateN L a)) ∧ W = w') := by
    unfold Hid; intro W a hW; exact rstate_any a (hr.below0 hW) hf
  have hle := hf.le
  clear hm hr hf hb r0 r1 r2 r3 r4
  go_enter Try.func77, Try.ntmps77
  go_wp2
  go_loopw [5] (fun v wr => ∃ k : Nat, k ≤ L.length + 2 ∧ v = .int .i64 ((k : Int) - 1) ∧ Below w.heap.size w wr) (fun v _ => (L.length + 1 - intOf v).toNat)
  case atStart => exact ⟨0, by omega, rfl, Below.refl _ _⟩
  case round =>
    obtain ⟨k, hk, rfl, hbr⟩ := hrel
    have p5 := (hbr.cell (p := ⟨n, 5, none⟩) hln).trans r5
    by_cases hlt : k ≤ L.length + 1
    · have q1 : (k : Int) - 1 ≤ L.length := by omega
      have HN := Lib.hid (norm_str (readB L ((k : Int) - 1)))
      have F1 := Lib.hid (H1.out wr ((k : Int) - 1) hbr)
      have F2 := Lib.hid (fun W hW => H2.out W ((k : Int) - 1) hW)
      have F3 := Lib.hid (fun W hW => H3.out W ((k : Int) - 1) hW)
      have F4 := Lib.hid (fun W hW => H4.out W ((k : Int) - 1) hW)
      generalize readB L ((k : Int) - 1) = xs at *
      generalize readE L ((k : Int) - 1) = E at *
      generalize stateN L ((k : Int) - 1) = T at *
      go_wp2_with fail
      refine F1.out.mono ?_
      rintro e w1x ⟨v1, rfl, hv1, hb1x⟩
      have hbr1 := hbr.trans (hb1x.mono hbr.size)
      go_wp2_with fail
      refine (F2.out _ hbr1).mono ?_
      rintro e w2x ⟨v2, rfl, hv2, hb2x⟩
      have hbr2 := hbr1.trans (hb2x.mono hbr1.size)
      obtain ⟨A1, c1, rfl, hr1, _⟩ := hv1.kept (belKept0 (S := fun _ => False) hb2x) (Free.none _ _)
      obtain ⟨A2, c2, rfl, hr2, _⟩ := hv2
      have k1 := conv_bytes c1 hr1.rd
      have k2 := conv_bytes c2 hr2.rd
      rw [HN.out] at k2
      clear hv1 hr1 hr2 p5
      generalize strOfNums xs = SS at *
      go_wp2_with fail
      refine (F3.out _ hbr2).mono ?_
      rintro e w3x ⟨rfl, rfl⟩
      go_wp2_with fail
      refine (F4.out _ hbr2).mono ?_
      rintro e w3x ⟨rfl, rfl⟩
      clear k1 k2
      go_wp2
      go_roundw
      case rel => exact ⟨k + 1, by omega, by go_num, hbr2⟩
      case measure => simp [intOf]; omega
    · have q1 : (L.length : Int) < (k : Int) - 1 := by omega
      go_wp2
      go_ret
      exact ⟨rfl, hbr⟩
set_option maxRecDepth 100000 in
set_option maxHeartbeats 1000000 in
theorem csame_any {B' : Bd} {d : Nat} (h : CacheM w B p g LM ops) (hd : RCacheM w B' d g LM ops) (hf : Fit g LM) (hb : ShortB LM) (hn : ops.length ≤ 100000) :
    Calls Try.prog 23 #[.pointer (some ⟨p, 0, none⟩), .pointer (some ⟨d, 0, none⟩)] w fun e w' => e = .returned (.bool true) ∧ Below w.heap.size w w' := by
  have HC := Lib.hid (rcontents_any hd hf hn)
  have hdl := hd.lt
  have hf2 : Fit g (playL g LM ops) := hf.len (playL_len _ _ _)
  have H1 : Hid (∀ W a, Below w.heap.size w W → Calls Try.prog 66 #[.pointer (some ⟨p, 0, none⟩), .int .i64 a] W (ReadPost W (readB (playL g LM ops) a) (readE (playL g LM ops) a))) := by
    unfold Hid; intro W a hW; exact cread_any a (h.below0 hW) hf hb
  have H3 : Hid (∀ W a, Below w.heap.size w W → Calls Try.prog 69 #[.pointer (some ⟨p, 0, none⟩), .int .i64 a] W fun e w' => e = .returned (.int .i64 (stateN (playL g LM ops) a)) ∧ W = w') := by
    unfold Hid; intro W a hW; exact cstate_any a (h.below0 hW) hf
  have HP : Hid (∀ W, Below w.heap.size w W → Calls Try.prog 67 #[.pointer (some ⟨p, 0, none⟩)] W fun e w' => e = .returned (.int .i64 ops.length) ∧ W = w') := by
    unfold Hid; intro W hW; exact cpending_any (h.below0 hW)
  have HD : Hid (∀ W, Below w.heap.size w W → Calls Try.prog 78 #[.pointer (some ⟨p, 0, none⟩)] W (ClonePost W g LM)) := by
    unfold Hid; intro W hW; exact cdurable_any (h.below0 hW) hf
  obtain ⟨l, rm, rb, rA, rc, hl, hd⟩ := hd
  obtain ⟨d0, d1⟩ := hd.cells
  have hll : l.length = ops.length := by rw [← hl, List.length_map]
  have HS : Hid (∀ W m b, Below w.heap.size w W → Med W m b g LM → Calls Try.prog 77 #[.pointer (some ⟨m, 0, none⟩), .pointer (some ⟨rm, 0, none⟩)] W fun e w' => e = .returned (.bool true) ∧ Below W.heap.size W w') := by
    unfold Hid; intro W m b hW hm; exact sameMedia_any hm (hd.med.below0 hW) hf hb
  rw [hll] at d1
  have hle := hf2.le
  have H2 : Hid (∀ w1 n rs, RMed w1 n rs g (playL g LM ops) → ∀ W a, Below w1.heap.size w1 W → Calls Try.prog 62 #[.pointer (some ⟨n, 0, none⟩), .int .i64 a] W (ReadPost W (norm (readB (playL g LM ops) a)) (readE (playL g LM ops) a))) := by
    unfold Hid; intro w1 n rs hr W a hW; exact rread_any a (hr.below0 hW) hf2
  have H4 : Hid (∀ w1 n rs, RMed w1 n rs g (playL g LM ops) → ∀ W a, Below w1.heap.size w1 W → Calls Try.prog 63 #[.pointer (some ⟨n, 0, none⟩), .int .i64 a] W fun e w' => e = .returned (.int .i64 (stateN (playL g LM ops) a)) ∧ W = w') := by
    unfold Hid; intro w1 n rs hr W a hW; exact rstate_any a (hr.below0 hW) hf2
  clear h hd hl hf hf2 hb
  generalize hX : playL g LM ops = L at *
  clear hX
  go_enter Try.func23, Try.ntmps23
  go_wp2_with fail
  refine HC.out.mono ?_
  rintro e w1 ⟨n, rs, rfl, hr, _, _, hb1⟩
  obtain ⟨c', r0, r1, r2, r3, r4, r5, _, _⟩ := hr.cells
  have hln := hr.lt.1
  have G2 := Lib.hid (H2.out w1 n rs hr)
  have G4 := Lib.hid (H4.out w1 n rs hr)
  clear hr r0 r1 r2 r3 r4
  go_wp2
  go_loopw [6] (fun v wr => ∃ k : Nat, k ≤ L.length + 2 ∧ v = .int .i64 ((k : Int) - 1) ∧ Below w1.heap.size w1 wr) (fun v _ => (L.length + 1 - intOf v).toNat)
  case atStart => exact ⟨0, by omega, rfl, Below.refl _ _⟩
  case round =>
    obtain ⟨k, hk, rfl, hbr⟩ := hrel
    have p5 := (hbr.cell (p := ⟨n, 5, none⟩) hln).trans r5
    have hbw := hb1.trans (hbr.mono hb1.size)
    by_cases hlt : k ≤ L.length + 1
    · have q1 : (k : Int) - 1 ≤ L.length := by omega
      have HN := Lib.hid (norm_str (readB L ((k : Int) - 1)))
      have F1 := Lib.hid (H1.out wr ((k : Int) - 1) hbw)
      have F2 := Lib.hid (fun W hW => G2.out W ((k : Int) - 1) hW)
      have F3 : Hid (∀ W, Below w1.heap.size w1 W → Calls Try.prog 69 #[.pointer (some ⟨p, 0, none⟩), .int .i64 ((k : Int) - 1)] W fun e w' => e = .returned (.int .i64 (stateN L ((k : Int) - 1))) ∧ W = w') := by
        unfold Hid; intro W hW; exact H3.out W ((k : Int) - 1) (hb1.trans (hW.mono hb1.size))
      have F4 := Lib.hid (fun W hW => G4.out W ((k : Int) - 1) hW)
      generalize readB L ((k : Int) - 1) = xs at *
      generalize readE L ((k : Int) - 1) = E at *
      generalize stateN L ((k : Int) - 1) = T at *
      clear hbw
      go_wp2_with fail
      refine F1.out.mono ?_
      rintro e w1x ⟨v1, rfl, hv1, hb1x⟩
      have hbr1 := hbr.trans (hb1x.mono hbr.size)
      go_wp2_with fail
      refine (F2.out _ hbr1).mono ?_
      rintro e w2x ⟨v2, rfl, hv2, hb2x⟩
      have hbr2 := hbr1.trans (hb2x.mono hbr1.size)
      obtain ⟨A1, c1, rfl, hr1, _⟩ := hv1.kept (belKept0 (S := fun _ => False) hb2x) (Free.none _ _)
      obtain ⟨A2, c2, rfl, hr2, _⟩ := hv2
      have k1 := conv_bytes c1 hr1.rd
      have k2 := conv_bytes c2 hr2.rd
      rw [HN.out] at k2
      clear hv1 hr1 hr2 p5
      generalize strOfNums xs = SS at *
      go_wp2_with fail
      refine (F3.out _ hbr2).mono ?_
      rintro e w3x ⟨rfl, rfl⟩
      go_wp2_with fail
      refine (F4.out _ hbr2).mono ?_
      rintro e w3x ⟨rfl, rfl⟩
      clear k1 k2
      go_wp2
      go_roundw
      case rel => exact ⟨k + 1, by omega, by go_num, hbr2⟩
      case measure => simp [intOf]; omega
    · have q1 : (L.length : Int) < (k : Int) - 1 := by omega
      have e0 := (hbw.cell (p := ⟨d, 0, none⟩) hdl).trans d0
      have e1 := (hbw.cell (p := ⟨d, 1, none⟩) hdl).trans d1
      have hwr := hbw.size
      clear d0 d1 r5
      go_wp2
      go_region_held3 (fun W => W.cell? ⟨d, 0, none⟩ = some (.pointer (some ⟨rm, 0, none⟩)) ∧ W.cell? ⟨d, 1, none⟩ = some (.slice rA ops.length rc))
        (first | (refine ⟨?_, ?_⟩ <;> assumption) | (simp [*]; done))
        ((first
          | (go_at_call 67
             refine (HP.out _ hbw.drew).mono ?_
             rintro e w4 ⟨rfl, rfl⟩)
          | (go_at_call 78
             refine (HD.out _ hbw.drew).mono ?_
             rintro e w5 ⟨m5, b5, rfl, hm5, hmm5, hbb5, hb5⟩
             have hw5 : Below w.heap.size w w5 := hbw.drew.trans (hb5.mono hwr)
             have f0 := (hb5.cell (p := ⟨d, 0, none⟩) (Nat.lt_of_lt_of_le hdl hwr)).trans e0
             have f1 := (hb5.cell (p := ⟨d, 1, none⟩) (Nat.lt_of_lt_of_le hdl hwr)).trans e1)
          | (go_at_call 77
             refine (HS.out _ m5 b5 hw5 hm5).mono ?_
             rintro e w6 ⟨rfl, hb6⟩
             have hw6 : Below w.heap.size w w6 := hw5.trans (hb6.mono hw5.size)
             have f0' := (hb6.cell (p := ⟨d, 0, none⟩) (Nat.lt_of_lt_of_le hdl hw5.size)).trans f0
             have f1' := (hb6.cell (p := ⟨d, 1, none⟩) (Nat.lt_of_lt_of_le hdl hw5.size)).trans f1)))
      clear f0 f1 f0' f1' e0 e1 hm5
      go_wp2
      go_ret
      exact ⟨rfl, hw6⟩
end
end Go.Proofs.Ytckdhhadlemakaa

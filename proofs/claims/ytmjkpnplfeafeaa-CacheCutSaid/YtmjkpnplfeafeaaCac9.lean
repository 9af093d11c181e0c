/-
  WHAT IS SHOWN: what play of tegulalaw12 returns and leaves: a cache and one of the reference that agree. Conditions: the steps can be read; the caches lie in memory.
-/
import Derived.Test.YtmjkpnplfeafeaaCac8
namespace Go.Proofs.Ytmjkpnplfeafeaa
set_option linter.unusedVariables false
open Go.RowKit

/-- The types of the blocks that steps change. -/
def PT : List TypeId := [87, 96, 99, 103, 76]
theorem ct_pt : ∀ t, t ∈ CT → t ∈ PT := by unfold CT PT; decide
theorem rt_pt : ∀ t, t ∈ RT → t ∈ PT := by unfold RT PT; decide
/-- A cache and one of the reference that agree. -/
structure Two (w : World) (B p d : Nat) (g : Geo) (LM : List Sec) (ops : List OpV) : Prop where
  c : CacheM w B p g LM ops
  r : RCacheM w B d g LM ops
  f : Fit g LM
  s : ShortB LM
  B : B ≤ w.heap.size
section
variable {w w' : World} {B p d : Nat} {g : Geo} {LM : List Sec} {ops : List OpV}
theorem Two.below0 (h : Two w B p d g LM ops) (hk : Below w.heap.size w w') : Two w' B p d g LM ops := ⟨h.c.below0 hk, h.r.below0 hk, h.f, h.s, Nat.le_trans h.B hk.size⟩
/-- What a play leaves. -/
def TwoPost (w : World) (B d : Nat) (g : Geo) (n : Nat) (e : Ending) (w' : World) : Prop :=
  ∃ p LM ops, e = .returned (.pointer (some ⟨p, 0, none⟩)) ∧ Two w' B p d g LM ops ∧ ops.length ≤ n ∧ KeptT PT B w w'
theorem opw {BL : Nat} {o : OpV} (h : OpOk w BL o) (hk : KeptT PT B w w') (hB : BL ≤ B) : OpOk w' BL o :=
  ⟨h.at_, Kept.rd hk h.rd (fun i hi hs => by have := hs.1; omega), h.n⟩
set_option maxRecDepth 100000 in
set_option maxHeartbeats 4000000 in
theorem play12_any {BL : Nat} (l : List StepV) (SA : Option Addr) (sc : Nat) (h : Two w B p d g LM ops) (hl : Rd w BL SA (flatSteps l)) (ho : ∀ s ∈ l, OpOk w BL s.o) (hBL : BL ≤ B) (hn : l.length ≤ 1000) (hon : ops.length ≤ 1000) :
    Calls Try.prog 44 #[.pointer (some ⟨p, 0, none⟩), .pointer (some ⟨d, 0, none⟩), .slice SA l.length sc] w (TwoPost w B d g (ops.length + l.length)) := by
  have HOK := Lib.hid ho
  have HRD := Lib.hid hl
  have H0 := Lib.hid h
  clear ho hl h
  go_enter Try.func44, Try.ntmps44
  go_wp2
  go_loopw [0, 7] (fun x v wr => ∃ (k p' : Nat) (LM' : List Sec) (ops' : List OpV), k ≤ l.length ∧ v = .int .i64 k ∧ x = .pointer (some ⟨p', 0, none⟩) ∧ Two wr B p' d g LM' ops' ∧ ops'.length ≤ ops.length + k ∧ KeptT PT B w wr) (fun _ v _ => l.length - (intOf v).toNat)
  case atStart => exact ⟨0, p, LM, ops, Nat.zero_le _, rfl, rfl, H0.out, by omega, KeptT.refl _ _ _⟩
  case round =>
    obtain ⟨k, p', LM', ops', hk, rfl, rfl, ht, hop, hkr⟩ := hrel
    have HT := Lib.hid ht
    clear ht
    by_cases hlt : k < l.length
    · obtain ⟨go, oo, rfl, hgo, c0, c1, c2, c3, c4⟩ := steps_at (Kept.rd hkr HRD.out (fun i hi hs => by have := hs.1; omega)) hlt
      have hok := opw (HOK.out _ (List.getElem_mem hlt)) hkr hBL
      generalize l[k] = s at *
      have k0 : (0 : Int) ≤ k := by omega
      have k1 : (k : Int) < l.length := by omega
      have hgB : ¬ (B ≤ go) := by omega
      by_cases s0 : s.kind = 0
      · rw [s0] at c0
        have D1 : Hid (∀ W, Below wr.heap.size wr W → Calls Try.prog 47 #[.pointer (some ⟨p', 0, none⟩), .agg #[.bool s.o.er, .int .i64 s.o.at_, .slice s.o.A s.o.xs.length s.o.c]] W (DoPost W B p' g LM' ops' s.o.bare)) := by
          unfold Hid; intro W hW
          exact claw_any s.o (HT.out.c.below0 hW) HT.out.f (hok.kept (belKept0 (S := fun _ => False) hW) (fun _ _ h => h)) (Nat.le_trans hBL (Nat.le_trans HT.out.B hW.size)) (Nat.le_trans HT.out.B hW.size) (by omega)
        have D2 : Hid (∀ W, KeptT CT B wr W → Calls Try.prog 72 #[.pointer (some ⟨d, 0, none⟩), .agg #[.bool s.o.er, .int .i64 s.o.at_, .slice s.o.A s.o.xs.length s.o.c]] W (RDoPost W B d g LM' ops' s.o.bare)) := by
          unfold Hid; intro W hW
          exact rcdo_any s.o (HT.out.r.keptC hW) HT.out.f (opw hok (hW.sub ct_pt) hBL) (Nat.le_trans hBL (Nat.le_trans HT.out.B hW.size)) (Nat.le_trans HT.out.B hW.size) (by omega)
        have HE : Hid (doE g (playL g LM' ops') s.o.bare = doE g (playL g LM' ops') s.o.bare) := rfl
        clear hok s0
        go_wp2
        go_region_held3 (fun W => W.cell? ⟨go, oo + k * 5 + 1, none⟩ = some (.bool s.o.er) ∧ W.cell? ⟨go, oo + k * 5 + 1 + 1, none⟩ = some (.int .i64 s.o.at_) ∧ W.cell? ⟨go, oo + k * 5 + 1 + 2, none⟩ = some (.slice s.o.A s.o.xs.length s.o.c))
          (first | (refine ⟨?_, ?_, ?_⟩ <;> assumption) | (simp [*]; done))
          ((first
            | (go_at_call 47
               refine (D1.out _ ((Below.refl wr.heap.size wr).drew)).mono ?_
               rintro e w2 ⟨rfl, hc2, hk2⟩
               have hw2 : KeptT CT B wr w2 := (KeptT.bel ((Below.refl wr.heap.size wr).drew)).trans hk2
               have q0 := Kept.cell hw2 c1 (fun h => hgB h.1)
               have q1 := Kept.cell hw2 c2 (fun h => hgB h.1)
               have q2 := Kept.cell hw2 c3 (fun h => hgB h.1))
            | (go_at_call 72
               refine (D2.out _ hw2).mono ?_
               rintro e w3 ⟨rfl, hd3, hk3⟩
               have q0' := Kept.cell hk3 q0 (fun h => hgB h.1)
               have q1' := Kept.cell hk3 q1 (fun h => hgB h.1)
               have q2' := Kept.cell hk3 q2 (fun h => hgB h.1))))
        have HTW : Hid (Two w3 B p' d g LM' (if doE g (playL g LM' ops') s.o.bare = 0 then ops' ++ [s.o.bare] else ops')) :=
          ⟨hc2.keptR hk3, hd3, HT.out.f, HT.out.s, Nat.le_trans HT.out.B (Nat.le_trans (KeptT.size hw2) (KeptT.size hk3))⟩
        have hLE : (if doE g (playL g LM' ops') s.o.bare = 0 then ops' ++ [s.o.bare] else ops').length ≤ ops.length + (k + 1) := by
          split
          · rw [List.length_append]; simp; omega
          · omega
        have hk4 := hkr.trans ((hw2.sub ct_pt).trans (hk3.sub rt_pt))
        generalize (if doE g (playL g LM' ops') s.o.bare = 0 then ops' ++ [s.o.bare] else ops') = O2 at *
        clear HE hc2 hd3 q0 q1 q2 q0' q1' q2' c1 c2 c3 c4 c0
        go_wp2
        go_roundw
        case rel => exact ⟨k + 1, p', LM', O2, by omega, by go_num, rfl, HTW.out, hLE, hk4⟩
        case measure => simp [intOf]; omega
      · have n0 : (s.kind == 0) = false := by simpa using s0
        by_cases s1 : s.kind = 1
        · rw [s1] at c0
          clear hok s0 s1 n0 c1 c2 c3 c4
          go_wp2_with fail
          refine (cflush_any HT.out.c HT.out.f HT.out.B (by omega)).mono ?_
          rintro e w2 ⟨rfl, hc2, hk2⟩
          have HC2 := Lib.hid hc2
          clear hc2
          go_wp2_with fail
          refine (rcflush_any (HT.out.r.keptC hk2) HT.out.f (Nat.le_trans HT.out.B (KeptT.size hk2)) (by omega)).mono ?_
          rintro e w3 ⟨rfl, hd3, hk3⟩
          have HTW : Hid (Two w3 B p' d g (playL g LM' (ops'.take ops'.length)) []) :=
            ⟨HC2.out.keptR hk3, hd3, HT.out.f.len (playL_len _ _ _), short_play _ HT.out.s, Nat.le_trans HT.out.B (Nat.le_trans (KeptT.size hk2) (KeptT.size hk3))⟩
          have hk4 := hkr.trans ((hk2.sub ct_pt).trans (hk3.sub rt_pt))
          clear hd3 c0
          go_wp2
          go_roundw
          case rel => exact ⟨k + 1, p', _, [], by omega, by go_num, rfl, HTW.out, Nat.zero_le _, hk4⟩
          case measure => simp [intOf]; omega
        · have n1 : (s.kind == 1) = false := by simpa using s1
          by_cases s2 : s.kind = 2
          · rw [s2] at c0
            clear hok s0 s1 s2 n0 n1 c1 c2 c3
            have D2 : Hid (∀ W, KeptT CT B wr W → W.cell? ⟨go, oo + k * 5 + 4, none⟩ = some (.int .i64 s.keep)) := by
              unfold Hid; intro W hW; exact Kept.cell hW c4 (fun h => hgB h.1)
            go_wp2_with fail
            refine (ccut_any s.keep HT.out.c HT.out.f HT.out.B (by omega)).mono ?_
            rintro e w2 ⟨rfl, hc2, hk2⟩
            have HC2 := Lib.hid hc2
            have c4' := D2.out w2 hk2
            clear hc2
            go_wp2_with fail
            refine (rccut_any s.keep (HT.out.r.keptC hk2) HT.out.f (Nat.le_trans HT.out.B (KeptT.size hk2)) (by omega)).mono ?_
            rintro e w3 ⟨rfl, hd3, hk3⟩
            have HTW : Hid (Two w3 B p' d g (playL g LM' (ops'.take (cutN s.keep ops'.length))) []) :=
              ⟨HC2.out.keptR hk3, hd3, HT.out.f.len (playL_len _ _ _), short_play _ HT.out.s, Nat.le_trans HT.out.B (Nat.le_trans (KeptT.size hk2) (KeptT.size hk3))⟩
            have hk4 := hkr.trans ((hk2.sub ct_pt).trans (hk3.sub rt_pt))
            clear hd3 c0 c4 c4'
            go_wp2
            go_roundw
            case rel => exact ⟨k + 1, p', _, [], by omega, by go_num, rfl, HTW.out, Nat.zero_le _, hk4⟩
            case measure => simp [intOf]; omega
          · have n2 : (s.kind == 2) = false := by simpa using s2
            clear hok s0 s1 s2 c1 c2 c3 c4
            go_wp2_with fail
            refine (cclone_any HT.out.c HT.out.f (by omega)).mono ?_
            rintro e w2 ⟨p2, rfl, hc2, hb2⟩
            have HTW : Hid (Two w2 B p2 d g LM' ops') :=
              ⟨hc2.mono HT.out.B, HT.out.r.below0 hb2, HT.out.f, HT.out.s, Nat.le_trans HT.out.B hb2.size⟩
            have hk4 := hkr.thenBelow hb2
            clear hc2 c0
            go_wp2
            go_roundw
            case rel => exact ⟨k + 1, p2, LM', ops', by omega, by go_num, rfl, HTW.out, by omega, hk4⟩
            case measure => simp [intOf]; omega
    · obtain rfl : k = l.length := by omega
      go_wp2
      go_ret
      exact ⟨p', LM', ops', rfl, HT.out, hop, hkr⟩
end
end Go.Proofs.Ytmjkpnplfeafeaa

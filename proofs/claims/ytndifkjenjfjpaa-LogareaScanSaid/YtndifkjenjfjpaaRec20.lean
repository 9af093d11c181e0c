/-
  WHAT IS SHOWN: what slices.Chunk and slices.Collect return for the bytes of a payload. Conditions: there is at least one byte.
-/
import Derived.RangeFuncBox
import Derived.RangeFuncLeaves
import Derived.Shelf.Abstract
import Derived.WalkKit
import Derived.OwnWalkIn
import Derived.TacticsInMore
import Derived.LoopNIn
import Derived.LoopIn
import Derived.Maps.AppendAt
import Derived.Sort.QuietIn
import Derived.Test.YtndifkjenjfjpaaRec18
namespace Go.Proofs.Ytndifkjenjfjpaa
set_option linter.unusedVariables false
open Go.RowKit Go.Shelf

attribute [local go_sem] Oper.semAt_some

/-- The number of chunks of 28 bytes. -/
def nCh (L : Nat) : Nat := (L + 27) / 28
/-- The length of a chunk. -/
def lCh (L k : Nat) : Nat := min 28 (L - 28 * k)
/-- A chunk as a slice. -/
def chV (b off L k : Nat) : Value := .slice (some ⟨b, off + 28 * k, none⟩) (lCh L k) (lCh L k)
set_option maxRecDepth 100000 in
set_option maxHeartbeats 1000000 in
theorem chunk_in (n : Nat) (A : Option Addr) (L c : Nat) (w : World) :
    CallsIn Fence.wide n Try.prog 49 #[.slice A L c, .int .i64 28] w fun e w' => e = .returned (.func (.func 77) #[] #[.pointer (some ⟨w.heap.size, 0, none⟩), .pointer (some ⟨w.heap.size + 1, 0, none⟩)]) ∧ w' = (w.alloc (.cells #[.slice A L c] 25)).alloc (.cells #[.int .i64 28] 3) := by
  refine callsIn_of_wp Try.func49 rfl trivial ?_ rfl
  simp only [Try.ntmps49, List.size_toArray, List.length_cons, List.length_nil, Nat.reduceAdd, Nat.reduceSub, Array.replicate_succ, Array.replicate_zero, List.push_toArray, List.append_toArray, List.nil_append, List.cons_append]
  gi_wp2
  go_ret
  exact ⟨rfl, rfl⟩
set_option maxRecDepth 100000 in
set_option maxHeartbeats 2000000 in
theorem chunk1_in (n : Nat) (hn : 1 ≤ n) (l Bs Bn n₀ b off L c : Nat) (hL : L ≤ 100000) (hc : L ≤ c) (hcm : c ≤ 9223372036854775807) (hBs : Bs < n₀) (hBn : Bn < n₀) (J Jx : List Nat → World → Prop) (hJd : ∀ s W k, J s W → J s (W.drewN k))
    (hY : ∀ pre x W, J pre W → pre.length < nCh L → YieldAt Fence.wide (n - 1) Try.prog l #[chV b off L x] W fun e W' =>
      (e = .returned (.bool true) ∧ J (pre ++ [x]) W' ∧ Below n₀ W W') ∨ (e = .returned (.bool false) ∧ Jx (pre ++ [x]) W'))
    (W : World) (hs : W.cell? ⟨Bs, 0, none⟩ = some (.slice (some ⟨b, off, none⟩) L c)) (hi : W.cell? ⟨Bn, 0, none⟩ = some (.int .i64 28)) (h0 : J [] W) :
    CallsIn Fence.wide n Try.prog 77 #[.func (.yield l) #[] #[], .pointer (some ⟨Bs, 0, none⟩), .pointer (some ⟨Bn, 0, none⟩)] W fun e W' => (∃ v, e = .returned v) ∧
      ((∃ ys, ys = List.range (nCh L) ∧ J ys W') ∨ (∃ pre, (∃ k, pre = List.range k) ∧ Jx pre W')) := by
  refine callsIn_of_wp Try.func77 rfl trivial ?_ rfl
  simp only [Try.ntmps77, List.size_toArray, List.length_cons, List.length_nil, Nat.reduceAdd, Nat.reduceSub, Array.replicate_succ, Array.replicate_zero, List.push_toArray, List.append_toArray, List.nil_append, List.cons_append]
  gi_wp2
  gi_loopw [4] (fun i wr => ∃ k : Nat, k ≤ nCh L ∧ i = .int .i64 ((28 * k : Nat) : Int) ∧ J (List.range k) wr ∧ Below n₀ W wr)
    (fun i _ => (28 * nCh L - (intOf i).toNat))
  case atStart => exact ⟨0, Nat.zero_le _, rfl, h0, Below.refl _ _⟩
  case round =>
    obtain ⟨k, hk, rfl, hJs, hnx⟩ := hrel
    have hs' := (hnx.cell (p := ⟨Bs, 0, none⟩) hBs).trans hs
    have hi' := (hnx.cell (p := ⟨Bn, 0, none⟩) hBn).trans hi
    have hm : nCh L = (L + 27) / 28 := rfl
    by_cases hlt : k < nCh L
    · have hkL : 28 * k < L := by omega
      have hY' := fun q => hY _ k (wr.drewN q) (hJd _ _ q hJs) (by rw [List.length_range]; exact hlt)
      have hv : chV b off L k = .slice (some ⟨b, off + 28 * k, none⟩) (min 28 (L - 28 * k)) (min 28 (L - 28 * k)) := rfl
      rw [hv] at hY'
      clear hv
      have HE := Lib.hid (show 28 * (k + 1) = 28 * k + 28 by omega)
      have HM : Hid (28 * nCh L - 28 * (k + 1) < 28 * nCh L - 28 * k) := by unfold Hid; omega
      have HN := Lib.hid hlt
      have HF : Hid (28 * k + 28 ≤ 28 * nCh L ∧ 28 * nCh L ≤ L + 27) := by unfold Hid; omega
      have HW1 : Hid (IntKind.i64.wrap (((28 * k : Nat) : Int) + 28) = ((28 * k + 28 : Nat) : Int)) := by unfold Hid; rw [IntKind.wrap_i64]; omega
      clear hlt hk hm
      generalize 28 * k = i at *
      by_cases h28 : i + 28 ≤ L
      · rw [Nat.min_eq_left (by omega)] at hY'
        have HY := Lib.hid hY'
        clear hY'
        gi_wp2
        gi_quiet (fail)
        obtain ⟨fn, tmps, assign, body, hy, hR⟩ := HY.out nq
        clear HY
        gi_wp2
        refine hR.mono ?_
        rintro e W3 (⟨rfl, hJ3, hk3⟩ | ⟨rfl, hJx3⟩)
        · have hs3 := (hk3.cell (p := ⟨Bs, 0, none⟩) hBs).trans hs'
          have hi3 := (hk3.cell (p := ⟨Bn, 0, none⟩) hBn).trans hi'
          have hnx3 := (below_drewN hnx nq).trans hk3
          gi_wp2
          go_roundw
          case rel => exact ⟨k + 1, HN.out, by rw [HE.out]; simp, by rw [List.range_succ]; exact hJ3, hnx3⟩
          case measure => simp [intOf]; have := HM.out; rw [HE.out] at this; omega
        · gi_wp2
          refine bodyPost_ret (results_none rfl _ _ _) rfl ?_
          exact ⟨⟨_, rfl⟩, .inr ⟨_, ⟨k + 1, (List.range_succ).symm⟩, hJx3⟩⟩
      · rw [Nat.min_eq_right (by omega)] at hY'
        have HY := Lib.hid hY'
        clear hY'
        gi_wp2
        gi_quiet (fail)
        obtain ⟨fn, tmps, assign, body, hy, hR⟩ := HY.out nq
        clear HY
        gi_wp2
        refine hR.mono ?_
        rintro e W3 (⟨rfl, hJ3, hk3⟩ | ⟨rfl, hJx3⟩)
        · have hs3 := (hk3.cell (p := ⟨Bs, 0, none⟩) hBs).trans hs'
          have hi3 := (hk3.cell (p := ⟨Bn, 0, none⟩) hBn).trans hi'
          have hnx3 := (below_drewN hnx nq).trans hk3
          gi_wp2
          go_roundw
          case rel => exact ⟨k + 1, HN.out, by rw [HE.out]; simp, by rw [List.range_succ]; exact hJ3, hnx3⟩
          case measure => simp [intOf]; have := HM.out; rw [HE.out] at this; omega
        · gi_wp2
          refine bodyPost_ret (results_none rfl _ _ _) rfl ?_
          exact ⟨⟨_, rfl⟩, .inr ⟨_, ⟨k + 1, (List.range_succ).symm⟩, hJx3⟩⟩
    · obtain rfl : k = nCh L := by omega
      gi_wp2
      go_end0
      exact ⟨⟨_, rfl⟩, .inl ⟨_, rfl, hJs⟩⟩
/-- A slice of bytes. -/
structure Sl where
  A : Option Addr
  xs : List Int
  c : Nat
def Sl.v (s : Sl) : Value := .slice s.A s.xs.length s.c
/-- The chunk as a slice of bytes. -/
def chSl (p : List Int) (b off k : Nat) : Sl := ⟨some ⟨b, off + 28 * k, none⟩, (p.drop (28 * k)).take 28, lCh p.length k⟩
theorem chSl_v (p : List Int) (b off k : Nat) : (chSl p b off k).v = chV b off p.length k := by
  unfold Sl.v chSl chV lCh
  simp
theorem info_sl : (Try.prog.info? 25).map (fun i => (i.zero, i.size, i.bytes)) = some (some (.slice none 0 0), 1, 24) := by kernel_rfl
theorem chunk_stops (n : Nat) (hn : 1 ≤ n) (Bs Bn n₀ b off L c : Nat) (hL : L ≤ 100000) (hc : L ≤ c) (hcm : c ≤ 9223372036854775807) (w : World) (hBs : Bs < n₀) (hBn : Bn < n₀) (hn₀ : n₀ ≤ w.heap.size)
    (hs : w.cell? ⟨Bs, 0, none⟩ = some (.slice (some ⟨b, off, none⟩) L c)) (hi : w.cell? ⟨Bn, 0, none⟩ = some (.int .i64 28)) :
    SeqStopsK Fence.wide n Try.prog 77 #[.pointer (some ⟨Bs, 0, none⟩), .pointer (some ⟨Bn, 0, none⟩)] (fun k : Nat => #[chV b off L k]) (Below n₀) (fun ys => ys = List.range (nCh L)) (fun pre => ∃ k, pre = List.range k) (nCh L) w := fun l J Jx W hW hJ _ hY h0 =>
  chunk1_in n hn l Bs Bn n₀ b off L c hL hc hcm hBs hBn J Jx (fun s X k h => hJ s X _ none h ⟨rfl, rfl, rfl, Nat.le_refl _, fun _ _ _ => rfl⟩ (fun r e => by cases e)) hY W ((hW.cell (p := ⟨Bs, 0, none⟩) (Nat.lt_of_lt_of_le hBs hn₀)).trans hs) ((hW.cell (p := ⟨Bn, 0, none⟩) (Nat.lt_of_lt_of_le hBn hn₀)).trans hi) h0
set_option maxRecDepth 100000 in
set_option maxHeartbeats 2000000 in
theorem appseq_in (n : Nat) (hn : 3 ≤ n) (Bs Bn b off L c : Nat) (hL : L ≤ 100000) (hc : L ≤ c) (hcm : c ≤ 9223372036854775807) (w : World) (hBs : Bs < w.heap.size) (hBn : Bn < w.heap.size)
    (hs : w.cell? ⟨Bs, 0, none⟩ = some (.slice (some ⟨b, off, none⟩) L c)) (hi : w.cell? ⟨Bn, 0, none⟩ = some (.int .i64 28)) :
    CallsIn Fence.wide n Try.prog 76 #[.slice none 0 0, .func (.func 77) #[] #[.pointer (some ⟨Bs, 0, none⟩), .pointer (some ⟨Bn, 0, none⟩)]] w fun e W' => ∃ v, e = .returned v ∧ W'.ownsRow w.heap.size 25 1 v (List.range (nCh L)).length ((List.range (nCh L)).map (chV b off L)) ∧ Below w.heap.size w W' := by
  obtain ⟨i0, hi0, hz0, hz1, hz2⟩ := info_parts info_sl
  have hm : nCh L = (L + 27) / 28 := rfl
  refine callsIn_of_wp_marks Try.func76 rfl trivial ?_ rfl
  simp only [Try.ntmps76, List.size_toArray, List.length_cons, List.length_nil, Nat.reduceAdd, Nat.reduceSub, Array.replicate_succ, Array.replicate_zero, List.push_toArray, List.append_toArray, List.nil_append, List.cons_append]
  gi_wp2
  have bO := Boxed.new w 30 (.slice none 0 0)
  have hB0 : Below w.heap.size w (w.alloc (.cells #[.slice none 0 0] 30)) := (Below.refl _ w).alloc (Nat.le_refl _) _
  refine wpIn_rangeFunc_ownG (w0 := w.alloc (.cells #[.slice none 0 0] 30)) rfl (by omega) (gf := 77) (lb := #[.pointer (some ⟨Bs, 0, none⟩), .pointer (some ⟨Bn, 0, none⟩)]) rfl trivial (enters_of Try.func77 (by kernel_rfl) rfl)
    (chunk_stops (n - 1) (by omega) Bs Bn w.heap.size b off L c hL hc hcm _ hBs hBn (by simp) ((hB0.cell (p := ⟨Bs, 0, none⟩) hBs).trans hs) ((hB0.cell (p := ⟨Bn, 0, none⟩) hBn).trans hi)) belowK_t (belowK_b (by simp)) (Below.refl _ _) (fun _ => rfl)
    (fun (pre : List Nat) W => (∃ v, Boxed W w.heap.size 30 v ∧ W.ownsRow w.heap.size 25 1 v pre.length (pre.map (chV b off L)) ∧ True) ∧ Below w.heap.size w W)
    (fun _ _ _ => False)
    (OwnFrom.and (Own.from (holdsRow_own w.heap.size w.heap.size 30 25 1 (fun pre : List Nat => pre.length) (fun pre : List Nat => pre.map (chV b off L)) (fun _ _ => True)) _) (ownFrom_below (Nat.le_refl _) (by simp)))
    (fun _ _ _ _ _ hs _ _ => hs)
    ⟨⟨_, bO, World.ownsRow_nil _ _ _ _, trivial⟩, hB0⟩
    (fun x => { tmps := #[.slice none 0 0, .func (.func 77) #[] #[.pointer (some ⟨Bs, 0, none⟩), .pointer (some ⟨Bn, 0, none⟩)], .pointer (some ⟨w.heap.size, 0, none⟩), undef, .slice none 0 0, chV b off L x, .func (.func 77) #[] #[.pointer (some ⟨Bs, 0, none⟩), .pointer (some ⟨Bn, 0, none⟩)], chV b off L x, undef, undef, undef, undef, undef], defers := [] }) ?assign ?body ?done ?stop
  case assign =>
    intro l x W K hK
    gi_wp2
    exact hK
  case body =>
    rintro l pre x W ⟨⟨v, hv, hrow, hnil⟩, hB⟩ hlt
    have hcv := hv.cell
    obtain ⟨ad, m1, c1, hu⟩ : ∃ ad m1 c1, chV b off L x = .slice (some ad) m1 c1 := ⟨_, _, _, rfl⟩
    have HU : Hid ((pre ++ [x]).map (chV b off L) = pre.map (chV b off L) ++ [.slice (some ad) m1 c1]) := by unfold Hid; rw [List.map_append, ← hu]; rfl
    rw [hu]
    clear hu
    gi_wp2_with (gi_at_builtin; refine wpListIn_append_own _ rfl _ _ 30 rfl w.heap.size 25 i0 (.slice none 0 0) 1 24 Try.underlying30 hi0 hz0 hz1 hz2 rfl (by decide) _ _ _ rfl (hrow.alloc _) ⟨W.heap.size, 0, none⟩ 1 1 [.slice (some ad) m1 c1] rfl rfl (cell_one_new _ _ _) (by simp [Value.oneCell']) (by unfold maxLen; omega) (by omega) (by have := hB.size; simp; omega) ?_; intro v' w1 hown' hgrow _; obtain ⟨g', cap', rfl⟩ := ownsRow_succ hown'; obtain ⟨hv1, hv2, hr2, hk2, hb2⟩ := hv.appended (by decide) hrow hB.size (Nat.le_refl _) hown' hgrow; have hc1 := hv1.cell; have hf1 := hv1.frozen)
    exact ⟨hk2.from _, hb2, ⟨⟨_, hv2, by rw [HU.out, List.length_append]; exact hr2, trivial⟩, hB.trans hb2⟩⟩
  case done =>
    rintro D ys W hD rfl ⟨⟨v, hv, hrow, hnil⟩, hB⟩ hK
    have hc := hv.cell
    gi_wp2
    refine ⟨by simp, .inl ⟨_, _, rfl, run_takeDeferred hK, ?_⟩⟩
    exact ⟨_, results_tmp rfl _ _ _, v, rfl, ownsRow_putObj hrow _ hK rfl, hB.trans (belowK_b (w := w) (Nat.le_refl _) W D _ _ (by simp at hD; omega) hK rfl rfl)⟩
  case stop =>
    rintro D c pre W _ _ h _
    exact h.elim
end Go.Proofs.Ytndifkjenjfjpaa

/-
  WHAT IS SHOWN: what Short, fair and awake return. Conditions: the operations can be read.
-/
import Derived.Test.YtmjkpnplfeafeaaMedOpen
namespace Go.Proofs.Ytmjkpnplfeafeaa
set_option linter.unusedVariables false
open Go.RowKit

def shortOps (l : List OpV) : Bool := decide (l.length ≤ 60) && l.all fun o => decide (o.xs.length ≤ 100)
theorem shortOps_iff (l : List OpV) : shortOps l = true ↔ l.length ≤ 60 ∧ ∀ o ∈ l, o.xs.length ≤ 100 := by unfold shortOps; simp
set_option maxHeartbeats 400000 in
theorem short_any (l : List OpV) (A : Option Addr) (c : Nat) (w : World) (hl : Rd w w.heap.size A (flatOps l)) (hn : l.length ≤ 9223372036854775807) (hx : ∀ o ∈ l, o.xs.length ≤ 9223372036854775807) :
    Calls Try.prog 21 #[.slice A l.length c] w fun e w' => e = .returned (.bool (shortOps l)) ∧ w = w' := by
  by_cases h60 : l.length ≤ 60
  · have HX := Lib.hid hx
    clear hx hn
    go_enter Try.func21, Try.ntmps21
    go_wp2
    go_loop [3] (fun v => ∃ k : Nat, k ≤ l.length ∧ v = .int .i64 k ∧ Hid (∀ o ∈ l.take k, o.xs.length ≤ 100)) (fun v => l.length - (intOf v).toNat)
    case atStart => exact ⟨0, Nat.zero_le _, rfl, by unfold Hid; simp⟩
    case round =>
      obtain ⟨k, hk, rfl, HA⟩ := hrel
      by_cases hlt : k < l.length
      · obtain ⟨go, oo, rfl, _, c0, c1, c2⟩ := ops_at hl hlt
        have hb := HX.out _ (List.getElem_mem hlt)
        have HT := Lib.hid (List.take_succ_eq_append_getElem hlt)
        by_cases h100 : l[k].xs.length ≤ 100
        · go_wp2
          go_round
          case rel =>
            refine ⟨k + 1, by omega, by go_num, ?_⟩
            unfold Hid
            intro o ho
            rw [HT.out, List.mem_append] at ho
            rcases ho with ho | ho
            · exact HA.out o ho
            · simp only [List.mem_singleton] at ho; subst ho; exact h100
          case measure => simp [intOf]; omega
        · have HF : Hid (shortOps l = false) := by
            unfold Hid
            cases hs : shortOps l
            · rfl
            · have := ((shortOps_iff l).1 hs).2 _ (List.getElem_mem hlt); omega
          go_wp2
          go_ret
          exact ⟨by rw [HF.out]; rfl, rfl⟩
      · have HF : Hid (shortOps l = true) := by
          unfold Hid
          have := HA.out
          rw [List.take_of_length_le (by omega)] at this
          exact (shortOps_iff l).2 ⟨h60, this⟩
        go_wp2
        go_ret
        exact ⟨by rw [HF.out]; rfl, rfl⟩
  · have HF : Hid (shortOps l = false) := by unfold Hid shortOps; rw [decide_eq_false h60]; rfl
    clear hx
    go_enter Try.func21, Try.ntmps21
    go_wp2
    go_ret
    exact ⟨by rw [HF.out]; rfl, rfl⟩

def fairB (g : Geo) : Bool := validG g && decide (szN g ≤ 200)
set_option maxHeartbeats 400000 in
theorem fair_any (g : Geo) (w : World) : Calls Try.prog 16 #[.agg #[.int .i64 g.random, .int .i64 g.bands, .int .i64 g.tracks, .int .i64 g.sectors, .int .i64 g.overlap]] w fun e w' => e = .returned (.bool (fairB g)) ∧ Below w.heap.size w w' := by
  cases hv : validG g
  · have HF : Hid (fairB g = false) := by unfold Hid fairB; rw [hv]; rfl
    go_enter Try.func16, Try.ntmps16
    go_wp2_with fail
    refine (rgvalid_any g _).mono ?_
    rintro e w1 ⟨rfl, hb1⟩
    rw [hv]
    clear hv
    go_wp2
    go_ret
    exact ⟨by rw [HF.out]; rfl, ((Below.refl _ _).alloc (Nat.le_refl _) _).trans (hb1.mono (by simp))⟩
  · have HF : Hid (fairB g = decide (szN g ≤ 200)) := by unfold Hid fairB; rw [hv]; rfl
    have HS := Lib.hid (fun W => rsz_any g W)
    generalize szN g = Z at *
    go_enter Try.func16, Try.ntmps16
    go_wp2_with fail
    refine (rgvalid_any g _).mono ?_
    rintro e w1 ⟨rfl, hb1⟩
    rw [hv]
    clear hv
    have PG := (Cells5.new w 23 _ _ _ _ _).below hb1 (by simp)
    have p0 := PG.c0; have p1 := PG.c1; have p2 := PG.c2; have p3 := PG.c3; have p4 := PG.c4
    have hbl1 : Below w.heap.size w w1 := ((Below.refl _ _).alloc (Nat.le_refl _) _).trans (hb1.mono (by simp))
    go_wp2_with fail
    refine (HS.out _).mono ?_
    rintro e w2 ⟨rfl, hb2⟩
    go_wp2
    go_ret
    exact ⟨by rw [HF.out]; rfl, hbl1.trans (hb2.mono hbl1.size)⟩

/-! ### awake -/
def gA : Geo := ⟨0, 1, 2, 2, 1⟩
def LA1 : List Sec := writeL gA (blankL gA) 2 [120]
def LA2 : List Sec := writeL gA LA1 0 [121]
theorem gA_v : validG gA = true := by decide +kernel
theorem eA1 : writeE (blankL gA) 2 [120] = 0 := by decide +kernel
theorem eA2 : writeE LA1 0 [121] = 0 := by decide +kernel
theorem eA3 : readE LA2 0 = 0 ∧ readB LA2 0 = [121] ∧ stateN LA2 0 = 1 ∧ stateN LA2 1 = 0 ∧ stateN LA2 2 = 2 := by decide +kernel
theorem rd_one (w : World) (x : Int) (t : TypeId) (fr : Nat × Nat) : Rd (w.alloc (.cells #[.int .u8 x] t fr)) (w.heap.size + 1) (some ⟨w.heap.size, 0, none⟩) ([x].map (Value.int .u8)) := by
  intro j u hu
  cases j with
  | zero =>
    simp at hu
    subst hu
    refine ⟨w.heap.size, 0, rfl, by omega, ?_⟩
    rw [cell_of_row _ _ _ _ _ _ (heap_alloc_new w _)]
    rfl
  | succ j => simp at hu
set_option maxRecDepth 100000 in
set_option maxHeartbeats 1000000 in
theorem awake11_any (w : World) : Calls Try.prog 15 #[] w fun e w' => e = .returned (.bool true) ∧ Below w.heap.size w w' := by
  have kc := fun (w : World) (C : Array Value) (n c : Nat) => Lib.run_convert_bytes_const (P := Try.prog) w 24 5 C n c Try.underlying24 Try.underlying5
  have HF := Lib.hid (blank_fit ((validG_iff gA).1 gA_v))
  have HF1 : Hid (Fit gA LA1) := Lib.hid (HF.out.len (writeL_len _ _ _ _))
  have HF2 : Hid (Fit gA LA2) := Lib.hid (HF1.out.len (writeL_len _ _ _ _))
  have HSB : Hid (ShortB LA2) := by
    unfold Hid
    have h0 : ShortB (blankL gA) := short_blank _
    have h1 : ShortB LA1 := short_do (g := gA) h0 ⟨false, 2, [120], none, 0⟩
    exact short_do (g := gA) h1 ⟨false, 0, [121], none, 0⟩
  go_enter Try.func15, Try.ntmps15
  go_wp2_with fail
  refine (new_yes gA gA_v _).mono ?_
  rintro e w1 ⟨m, bs, rfl, hm, hmb, hbb, hb1⟩
  have HM := Lib.hid hm
  clear hm
  go_wp2_with fail
  refine (write_any (L := blankL gA) 2 ⟨by omega, by omega⟩ (HM.out.below0 ((Below.refl _ _).alloc (Nat.le_refl _) _)) HF.out [120] _ _ ((rd_one w1 120 5 _).more (by simp)) (by simp)).mono ?_
  rintro e w2 ⟨rfl, hm2, hk2⟩
  rw [eA1]
  have hb2 : Below w.heap.size w w2 := (hb1.alloc hb1.size _).trans (hk2.below (B := w.heap.size) (fun i hi => by omega) (Nat.le_trans hb1.size (by simp)))
  have HM2 : Hid (Med w2 m bs gA LA1) := Lib.hid hm2
  clear hm2 hk2 HM
  go_wp2_with fail
  refine (write_any (L := LA1) 0 ⟨by omega, by omega⟩ (HM2.out.below0 ((Below.refl _ _).alloc (Nat.le_refl _) _)) HF1.out [121] _ _ ((rd_one w2 121 5 _).more (by simp)) (by simp)).mono ?_
  rintro e w3 ⟨rfl, hm3, hk3⟩
  rw [eA2]
  have hb3 : Below w.heap.size w w3 := (hb2.alloc hb2.size _).trans (hk3.below (B := w.heap.size) (fun i hi => by omega) (Nat.le_trans hb2.size (by simp)))
  have HM3 : Hid (Med w3 m bs gA LA2) := Lib.hid hm3
  clear hm3 hk3 HM2
  go_wp2_with fail
  have hread := read_any 0 HM3.out HF2.out HSB.out
  rw [eA3.1, eA3.2.1] at hread
  refine hread.mono ?_
  rintro e w4 ⟨v, rfl, hv, hb4⟩
  clear hread
  obtain ⟨A4, c4, rfl, hr4, _⟩ := hv
  have hconv : (convert 24 9 (.slice A4 1 c4)).run Try.prog w4 = .ok (.string ⟨#[121]⟩) w4 := conv_bytes c4 hr4.rd
  have HM4 := Lib.hid (HM3.out.below0 hb4)
  have hb34 := hb3.trans (hb4.mono hb3.size)
  clear hr4 kc
  have S0 := Lib.hid (state_any 0 HM4.out HF2.out)
  have S1 := Lib.hid (state_any 1 HM4.out HF2.out)
  have S2 := Lib.hid (state_any 2 HM4.out HF2.out)
  rw [eA3.2.2.1] at S0
  rw [eA3.2.2.2.1] at S1
  rw [eA3.2.2.2.2] at S2
  go_wp2_with fail
  refine S0.out.mono ?_
  rintro e w5 ⟨rfl, rfl⟩
  go_wp2_with fail
  refine S1.out.mono ?_
  rintro e w5 ⟨rfl, rfl⟩
  go_wp2_with fail
  refine S2.out.mono ?_
  rintro e w5 ⟨rfl, rfl⟩
  clear hconv
  go_wp2
  go_ret
  exact ⟨by first | rfl | simp, hb34⟩
end Go.Proofs.Ytmjkpnplfeafeaa

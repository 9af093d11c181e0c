/-
  WHAT IS SHOWN: steps among a law's parameters can be read; what awake of tegulalaw12 returns. No condition.
-/
import Derived.Test.YtmjkpnplfeafeaaCac9
namespace Go.Proofs.Ytmjkpnplfeafeaa
set_option linter.unusedVariables false
open Go.ChangeShapes Go.WideShapes Go.ChangeAt Go.RowKit Go.Deep

structure StepsIn (w : World) (v : Value) (A : Option Addr) (l : List StepV) (c : Nat) : Prop where
  val : v = .slice A l.length c
  rd : Rd w w.heap.size A (flatSteps l)
  ok : ∀ s ∈ l, OpIn w s.o
  big : l.length ≤ 9223372036854775807
theorem cellsStep : Try.prog.cellsOf 73 = 5 := by kernel_rfl
theorem flatSteps_len (l : List StepV) : (flatSteps l).length = l.length * 5 := flat_len _ 5 stepcells_len l
section
variable {H : Type} {enc : TypeId × Value → H} {w : World} {base : Nat} {spare : Nat → Bool} {held : Bool}
theorem open_step {fuel : Nat} {cs : List Value} {y : DataW H × List MemPlace} (hcs : cs.length = 5) (h : DataW.trod enc Try.prog w base spare held fuel 73 cs = some y) : ∃ s : StepV, cs = s.cells ∧ OpIn w s.o := by
  match cs, hcs with
  | [c0, c1, c2, c3, c4], _ =>
    obtain ⟨xs, k, _, _, _, hxl, hf⟩ := DataW.trod_struct Try.underlying73 h
    match xs, hxl with
    | [x0, x1, x2], _ =>
      have f0 : DataW.trod enc Try.prog w base spare held k 5 (([c0, c1, c2, c3, c4].drop 0).take (Try.prog.cellsOf 5)) = some x0 := hf 0 _ rfl
      have f1 : DataW.trod enc Try.prog w base spare held k 40 (([c0, c1, c2, c3, c4].drop 1).take (Try.prog.cellsOf 40)) = some x1 := hf 1 _ rfl
      have f2 : DataW.trod enc Try.prog w base spare held k 3 (([c0, c1, c2, c3, c4].drop 4).take (Try.prog.cellsOf 3)) = some x2 := hf 2 _ rfl
      rw [cellsU8] at f0
      rw [cellsOp] at f1
      rw [cellsInt] at f2
      obtain ⟨n0, e0, _, _⟩ := DataW.trod_int Try.underlying5 f0
      obtain ⟨n2, e2, _, _⟩ := DataW.trod_int Try.underlying3 f2
      obtain ⟨o, e1, ho⟩ := open_op (cs := [c1, c2, c3]) rfl f1
      simp at e0 e2
      unfold OpV.cells at e1
      injection e1 with a1 e1
      injection e1 with a2 e1
      injection e1 with a3 e1
      subst e0; subst e2; subst a1; subst a2; subst a3
      exact ⟨⟨n0, o, n2⟩, rfl, ho⟩
theorem open_steps {fuel : Nat} {v : Value} {y : DataW H × List MemPlace} (h : DataW.trod enc Try.prog w base spare held fuel 65 [v] = some y) : ∃ A l c, StepsIn w v A l c := by
  rcases open_slice Try.underlying65 h with ⟨hcs, _⟩ | ⟨a, len, cap, m, n, D, Pl, hcs, _, hl, hm, hmm, _, hel⟩
  · simp at hcs
    subst hcs
    exact ⟨none, [], 0, rfl, Rd.nil_ _ _ _, by simp, by simp⟩
  · simp at hcs
    subst hcs
    have hlm : len ≤ m := by rw [hmm]; split <;> omega
    obtain ⟨l, hll, hq⟩ := list_of (Q := fun i (o : StepV) => OpIn w o.o ∧ ∀ t u, o.cells[t]? = some u → w.cell? (a.add (i * 5 + t)) = some u) len (fun i hi => by
      obtain ⟨cs', hc, ht⟩ := hel i (by omega)
      rw [cellsStep] at hc
      obtain ⟨_, hcl, hat⟩ := World.cells?_some hc
      obtain ⟨o, rfl, ho⟩ := open_step hcl ht
      refine ⟨o, ho, fun t u hu => ?_⟩
      have ht3 : t < 5 := (List.getElem?_eq_some_iff.1 hu).1
      rw [← Go.Deep.add_add, hat t ht3]
      exact hu)
    refine ⟨some a, l, cap, by rw [hll], rd_of_add fun j u hu => ?_, fun b hb => ?_, by unfold maxLen at hm; omega⟩
    · have hj : j < l.length * 5 := by rw [← flatSteps_len]; exact (List.getElem?_eq_some_iff.1 hu).1
      have hj4 : j = j / 5 * 5 + j % 5 := by omega
      rw [hj4] at hu
      unfold flatSteps at hu
      rw [flat_get _ 5 stepcells_len l _ _ (by omega), List.getElem?_eq_getElem (show j / 5 < l.length by omega)] at hu
      have := (hq (j / 5) _ (List.getElem?_eq_getElem (by omega))).2 (j % 5) u hu
      rw [hj4]; exact this
    · obtain ⟨i, hi⟩ := List.mem_iff_getElem?.1 hb
      exact (hq i b hi).1
theorem open_stepsv {r : Reach} {b0 : Nat} {v : Value} {d : DataW H} {p : List MemPlace} (hv : Value.okWide Try.prog w r b0 65 v) (h : DataW.Trod enc Try.prog w base spare held 65 v d p) : ∃ A l c, v = .slice A l.length c ∧ StepsIn w (.slice A l.length c) A l c := by
  obtain ⟨a0, n0, c0, rfl⟩ := Go.WideShapes.okWide_slice Try.underlying65 hv
  obtain ⟨fuel, hf⟩ := h
  obtain ⟨A, l, c, hl⟩ := open_steps hf
  refine ⟨A, l, c, hl.val, ?_⟩
  rw [← hl.val]; exact hl
end

/-! ### awake -/
def gC : Geo := ⟨2, 1, 1, 1, 0⟩
def oC1 : OpV := ⟨false, 0, [97], none, 0⟩
def oC2 : OpV := ⟨false, 1, [98], none, 0⟩
theorem gC_v : validG gC = true := by decide +kernel
theorem eC1 : doE gC (playL gC (blankL gC) []) oC1 = 0 := by decide +kernel
theorem eC2 : doE gC (playL gC (blankL gC) ([] ++ [oC1])) oC2 = 0 := by decide +kernel
theorem eC3 : readE (playL gC (blankL gC) (([] ++ [oC1]) ++ [oC2])) 1 = 0 ∧ readB (playL gC (blankL gC) (([] ++ [oC1]) ++ [oC2])) 1 = [98] := by decide +kernel
def LCut : List Sec := playL gC (blankL gC) ((([] ++ [oC1]) ++ [oC2]).take (cutN 1 (([] ++ [oC1]) ++ [oC2]).length))
theorem eC4 : readE (playL gC LCut []) 0 = 0 ∧ readB (playL gC LCut []) 0 = [97] ∧ stateN (playL gC LCut []) 1 = 0 := by decide +kernel
set_option maxRecDepth 100000 in
set_option maxHeartbeats 1000000 in
theorem awake12_any (w : World) : Calls Try.prog 35 #[] w fun e w' => e = .returned (.bool true) ∧ Below w.heap.size w w' := by
  have kc := fun (w : World) (C : Array Value) (n c : Nat) => Lib.run_convert_bytes_const (P := Try.prog) w 24 5 C n c Try.underlying24 Try.underlying5
  have HF := Lib.hid (blank_fit ((validG_iff gC).1 gC_v))
  have HFC : Hid (Fit gC LCut) := Lib.hid (HF.out.len (playL_len _ _ _))
  have HSB : Hid (ShortB (blankL gC)) := Lib.hid (short_blank _)
  have HSC : Hid (ShortB LCut) := Lib.hid (short_play _ HSB.out)
  go_enter Try.func35, Try.ntmps35
  go_wp2_with fail
  refine (new_yes gC gC_v _).mono ?_
  rintro e w1 ⟨m, bs, rfl, hm, hmb, hbb, hb1⟩
  have HM := Lib.hid hm
  clear hm
  go_wp2_with fail
  refine (cnew_any HM.out HF.out).mono ?_
  rintro e w2 ⟨p, rfl, hp, hb2⟩
  have HP := Lib.hid (hp.mono hb1.size)
  have hbl2 := hb1.trans (hb2.mono hb1.size)
  clear hp HM
  go_wp2_with fail
  refine (cwrite_any (ops := []) 0 ⟨by omega, by omega⟩ [97] _ _ ((rd_one w2 97 5 _).more (by simp)) (by simp) (HP.out.below0 ((Below.refl _ _).alloc (Nat.le_refl _) _)) HF.out (Nat.le_trans hbl2.size (by simp)) (by simp)).mono ?_
  rintro e w3 ⟨rfl, hp3, hk3⟩
  rw [show doE gC (playL gC (blankL gC) []) ⟨false, 0, [97], none, 0⟩ = 0 from eC1] at *
  rw [if_pos rfl] at hp3
  have hbl3 := (hbl2.alloc hbl2.size _).trans (hk3.below (Nat.le_trans hbl2.size (by simp)))
  have HP3 := Lib.hid hp3
  clear hp3 hk3 HP
  go_wp2_with fail
  refine (cwrite_any (ops := [] ++ [oC1]) 1 ⟨by omega, by omega⟩ [98] _ _ ((rd_one w3 98 5 _).more (by simp)) (by simp) (HP3.out.below0 ((Below.refl _ _).alloc (Nat.le_refl _) _)) HF.out (Nat.le_trans hbl3.size (by simp)) (by simp)).mono ?_
  rintro e w4 ⟨rfl, hp4, hk4⟩
  rw [show doE gC (playL gC (blankL gC) ([] ++ [oC1])) ⟨false, 1, [98], none, 0⟩ = 0 from eC2] at *
  rw [if_pos rfl] at hp4
  have hbl4 := (hbl3.alloc hbl3.size _).trans (hk4.below (Nat.le_trans hbl3.size (by simp)))
  have HP4 : Hid (CacheM w4 w.heap.size p gC (blankL gC) (([] ++ [oC1]) ++ [oC2])) := Lib.hid hp4
  clear hp4 hk4 HP3 kc
  have R5 := cread_any 1 HP4.out HF.out HSB.out
  rw [eC3.1, eC3.2] at R5
  have R5' := Lib.hid R5
  clear R5
  go_wp2_with fail
  refine R5'.out.mono ?_
  rintro e w5 ⟨v5, rfl, hv5, hb5⟩
  have HV5 := Lib.hid hv5
  have hbl5 := hbl4.trans (hb5.mono hbl4.size)
  have HP5 := Lib.hid (HP4.out.below0 hb5)
  have HN5 := Lib.hid (cpending_any HP5.out)
  clear hv5 R5'
  go_wp2_with fail
  refine HN5.out.mono ?_
  rintro e w6 ⟨rfl, rfl⟩
  have HC := Lib.hid (ccut_any 1 HP5.out HF.out hbl5.size (by simp))
  go_wp2_with fail
  refine HC.out.mono ?_
  rintro e w6 ⟨rfl, hp6, hk6⟩
  have HP6 : Hid (CacheM w6 w.heap.size p gC LCut []) := Lib.hid hp6
  have hbl6 := hbl5.trans (hk6.below hbl5.size)
  have HV6 := Lib.hid (HV5.out.kept hk6 (KeptT.free (by unfold CT; decide)))
  clear hp6 hk6 HC
  have R7 := cread_any 0 HP6.out HFC.out HSC.out
  rw [eC4.1, eC4.2.1] at R7
  have R7' := Lib.hid R7
  clear R7
  go_wp2_with fail
  refine R7'.out.mono ?_
  rintro e w7 ⟨v7, rfl, hv7, hb7⟩
  obtain ⟨A5, c5, rfl, hr5, _⟩ := HV6.out.kept (belKept0 (S := fun _ => False) hb7) (Free.none _ _)
  obtain ⟨A7, c7, rfl, hr7, _⟩ := hv7
  have k5 : (convert 24 9 (.slice A5 1 c5)).run Try.prog w7 = .ok (.string ⟨#[98]⟩) w7 := conv_bytes c5 hr5.rd
  have k7 : (convert 24 9 (.slice A7 1 c7)).run Try.prog w7 = .ok (.string ⟨#[97]⟩) w7 := conv_bytes c7 hr7.rd
  have hbl7 := hbl6.trans (hb7.mono hbl6.size)
  have HP7 := Lib.hid (HP6.out.below0 hb7)
  have HS7 := cstate_any 1 HP7.out HFC.out
  rw [eC4.2.2] at HS7
  have HS7' := Lib.hid HS7
  have HN7 := Lib.hid (cpending_any HP7.out)
  clear hr5 hr7 HS7 HV5 HV6 R7'
  go_wp2_with fail
  refine HS7'.out.mono ?_
  rintro e w8 ⟨rfl, rfl⟩
  go_wp2_with fail
  refine HN7.out.mono ?_
  rintro e w8 ⟨rfl, rfl⟩
  clear k5 k7
  go_wp2
  go_ret
  exact ⟨by first | rfl | simp, hbl7⟩
theorem stepsok {w : World} {l : List StepV} (h : ∀ s ∈ l, OpIn w s.o) (hs : ∀ s ∈ l, s.o.xs.length ≤ 100) : ∀ w', Below w.heap.size w w' → ∀ s ∈ l, OpOk w' w.heap.size s.o := fun w' hk s ho =>
  ⟨(h s ho).at_, (h s ho).rd.below hk (Nat.le_refl _), by have := hs s ho; omega⟩
end Go.Proofs.Ytmjkpnplfeafeaa

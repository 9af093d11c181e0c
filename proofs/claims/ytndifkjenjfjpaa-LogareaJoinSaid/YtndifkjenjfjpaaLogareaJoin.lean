/-
  WHAT IS SHOWN: Join and Next of logarea return what tegularef28 says (LogareaJoin). Conditions: none.
-/
import Derived.Test.YtndifkjenjfjpaaLogO
import Derived.Test.YtndifkjenjfjpaaLkA
import Derived.Test.YtndifkjenjfjpaaRows
namespace Go.Proofs.Ytndifkjenjfjpaa
set_option linter.unusedVariables false
open Go.ChangeShapes Go.WideShapes Go.ChangeAt Go.RowKit

theorem few_yes' {l : List RS} (h : fewL (l.map RS.r) = true) : l.length ≤ 20 ∧ ∀ x ∈ l, Tiny x.r := by
  unfold fewL at h
  rw [Bool.and_eq_true] at h
  obtain ⟨h1, h2⟩ := h
  rw [List.all_eq_true] at h1
  refine ⟨by simpa using h2, fun x hx => short_tiny (h1 _ (List.mem_map.2 ⟨x, hx, rfl⟩))⟩
set_option maxRecDepth 100000 in
set_option maxHeartbeats 2000000 in
theorem join_any (ls : List LS) (ht : ∀ x ∈ ls, (∀ y ∈ x.l, Tiny y.r) ∧ x.l.length ≤ 1000) (A : Option Addr) (c : Nat) (w : World) (h : LgsR w w.heap.size A ls) (hl : ls.length ≤ 1000) :
    Calls Try.prog 42 #[.slice A ls.length c] w (JoinPost w (joinS ls)) := by
  have HH := Lib.hid h
  have HT := Lib.hid ht
  obtain ⟨i0, hi, hz0, hz1, hz2⟩ := info_parts info_rec
  clear h ht
  go_enter Try.func42, Try.ntmps42
  go_wp2
  go_loopw [3, 8] (fun o i wr => ∃ (k : Nat) (b : LS), k ≤ ls.length ∧ i = .int .i64 k ∧ o = b.v ∧ Hid (b = joinS (ls.take k)) ∧ Hid (RcsR wr wr.heap.size b.A b.l) ∧ Hid (b.l.length ≤ 1000) ∧ Hid (Below w.heap.size w wr)) (fun _ i _ => ls.length - (intOf i).toNat)
  case atStart => exact ⟨0, noLog, Nat.zero_le _, rfl, rfl, rfl, RcsR.nil _ _ _, Nat.zero_le _, Below.refl _ _⟩
  case round =>
    obtain ⟨k, b, hk, rfl, rfl, HB, HR, HBL, HBR⟩ := hrel
    by_cases hlt : k < ls.length
    · obtain ⟨g1, o1, rfl, hg1, j1, hr1⟩ := lgs_at (HH.out.up HBR.out) hlt
      obtain ⟨ht1, ht2⟩ := HT.out _ (List.getElem_mem hlt)
      have HNX : Hid (joinS (ls.take (k + 1)) = if better b ls[k] then ls[k] else b) := by unfold Hid; rw [joinS_take hlt, ← HB.out]
      generalize ls[k] = x at *
      have HV := Lib.hid (fun W (hW : Below wr.heap.size wr W) => logv_any x.l ht1 x.A x.c W (hr1.up hW) (by omega))
      have HX := Lib.hid hr1
      have hbl := HBL.out
      clear ht1 hr1
      unfold LS.v
      go_wp2_with fail
      refine (HV.out _ (Below.refl _ _)).mono ?_
      rintro e w2 ⟨rfl, hb2⟩
      have j2 := (hb2.cell (p := ⟨g1, o1 + k, none⟩) hg1).trans j1
      have HB2 := Lib.hid (HBR.out.trans (hb2.mono HBR.out.size))
      have HR2 := Lib.hid (HR.out.up hb2)
      have HX2 := Lib.hid (HX.out.up hb2)
      clear HV hb2 j1
      obtain hv | hv : logV (x.l.map RS.r) = false ∨ logV (x.l.map RS.r) = true := by cases logV (x.l.map RS.r); exact .inl rfl; exact .inr rfl
      · rw [better_no hv, if_neg (by decide)] at HNX
        rw [hv]
        clear hv
        go_wp2
        go_roundw
        case rel => exact ⟨k + 1, b, hlt, by go_num, rfl, HNX.out.symm, HR2, HBL, HB2⟩
        case measure => simp [intOf]; omega
      · by_cases hlt2 : b.l.length < x.l.length
        · rw [better_len hv, if_pos (by simpa using hlt2)] at HNX
          rw [hv]
          clear hv
          go_wp2
          go_roundw
          case rel => exact ⟨k + 1, x, hlt, by go_num, rfl, HNX.out.symm, HX2, ht2, HB2⟩
          case measure => simp [intOf]; omega
        · rw [better_len hv, if_neg (by simpa using hlt2)] at HNX
          rw [hv]
          clear hv
          go_wp2
          go_roundw
          case rel => exact ⟨k + 1, b, hlt, by go_num, rfl, HNX.out.symm, HR2, HBL, HB2⟩
          case measure => simp [intOf]; omega
    · obtain rfl : k = ls.length := by omega
      rw [List.take_length] at HB
      have hbl := HBL.out
      have hR := HR.out
      have HBJ := Lib.hid HB.out
      unfold LS.v
      cases hA : b.A with
      | none =>
        rw [hA] at hR
        have hx := hR.rd.at_none
        have hbe : b.l = [] := by
          cases hl : b.l with
          | nil => rfl
          | cons a l => rw [hl] at hx; simp [flatR, RS.cells] at hx
        have hb0 : b.l.length = 0 := by rw [hbe]; rfl
        rw [hb0]
        go_wp2
        go_ret
        refine ⟨none, 0, by rw [← HBJ.out, hb0]; rfl, ?_, HBR.out⟩
        rw [← HBJ.out, hbe]; exact RcsR.nil _ _ _
      | some a =>
        rw [hA] at hR
        have hcl : (flatR b.l).length = b.l.length * 5 := flatR_len _
        clear hA
        go_wp2_with (at_builtin; go_loud (refine wpList_append_own _ rfl _ _ 53 rfl w.heap.size 27 i0 _ 5 88 Try.underlying53 hi hz0 hz1 hz2 rfl (by decide) (.slice none 0 0) 0 [] rfl (World.ownsRow_nil _ _ _ _) a b.l.length b.c (flatR b.l) rfl hcl hR.rd.at_add (flatR_one b.l) ?c1 ?c2 ?c3 ?_))
        case c1 => unfold maxLen; omega
        case c2 => omega
        case c3 => exact HBR.out.size
        intro v' w9 hown hgrow hiff
        try simp only [Nat.zero_add, List.nil_append] at hown
        obtain ⟨DA', dc', hv⟩ := own_form hown
        subst hv
        have HB9 : Hid (Below wr.heap.size wr w9) := (Below.refl _ _).grown hgrow (Nat.le_refl _) (fun k hk => by simp [Value.ownBlock] at hk)
        have HR9 : Hid (RcsR w9 w9.heap.size DA' b.l) := ⟨Rd.of_own hown, fun x hx => ((hR.each x hx).below HB9.out (Nat.le_refl _)).more HB9.out.size⟩
        clear hown hgrow hiff
        go_wp2
        go_ret
        exact ⟨DA', dc', by rw [← HBJ.out]; rfl, by rw [← HBJ.out]; exact HR9.out, HBR.out.trans (HB9.out.mono HBR.out.size)⟩
set_option maxRecDepth 100000 in
set_option maxHeartbeats 2000000 in
theorem logareaJoin_walk (ls : List LS) (A : Option Addr) (c : Nat) (gen : Nat) (hg : gen < 2 ^ 64) (w : World) (h : LgsR w w.heap.size A ls) (hx : ∀ x ∈ ls, x.l.length ≤ 9223372036854775807) (hl : ls.length ≤ 9223372036854775807) :
    Calls Try.prog 13 #[.slice A ls.length c, .int .u64 gen] w fun e w' => e = .returned (.bool true) ∧ Below w.heap.size w w' := by
  have HH := Lib.hid h
  have HX := Lib.hid hx
  have HG := Lib.hid hg
  clear h hx hg
  go_enter Try.func13, Try.ntmps13
  go_wp2_with fail
  refine (awake28_any _).mono ?_
  rintro e w1 ⟨rfl, hb1⟩
  have HB1 := Lib.hid hb1
  clear hb1
  by_cases hl10 : 10 < ls.length
  · go_wp2
    go_ret
    exact ⟨rfl, HB1.out⟩
  · go_wp2
    go_loopw [15] (fun i wr => ∃ k : Nat, k ≤ ls.length ∧ i = .int .i64 k ∧ Hid (∀ i (hi : i < ls.length), i < k → fewL (ls[i].l.map RS.r) = true) ∧ Hid (Below w.heap.size w wr)) (fun i _ => ls.length - (intOf i).toNat)
    case atStart => exact ⟨0, Nat.zero_le _, rfl, fun i hi h => by omega, HB1.out⟩
    case round =>
      obtain ⟨k, hk, rfl, HF, HBR⟩ := hrel
      by_cases hlt : k < ls.length
      · obtain ⟨g1, o1, rfl, hg1, j1, hr1⟩ := lgs_at (HH.out.up HBR.out) hlt
        have hxl := HX.out _ (List.getElem_mem hlt)
        have HFN : Hid (fewL (ls[k].l.map RS.r) = true → ∀ i (hi : i < ls.length), i < k + 1 → fewL (ls[i].l.map RS.r) = true) := fun h i hi hik => by
          by_cases he : i = k
          · subst he; exact h
          · exact HF.out i hi (by omega)
        generalize ls[k] = x at *
        have HFE := Lib.hid (few_any x.l x.A x.c wr hr1 hxl)
        clear hr1 hxl
        go_wp2_with fail
        refine HFE.out.mono ?_
        rintro e w2 ⟨rfl, hb2⟩
        have HB2 := Lib.hid (HBR.out.trans (hb2.mono HBR.out.size))
        clear hb2 HFE j1
        obtain hs | hs : fewL (x.l.map RS.r) = false ∨ fewL (x.l.map RS.r) = true := by cases fewL (x.l.map RS.r); exact .inl rfl; exact .inr rfl
        · rw [hs]
          clear hs HFN
          go_wp2
          go_ret
          exact ⟨rfl, HB2.out⟩
        · rw [hs]
          have HF2 := Lib.hid (HFN.out hs)
          clear hs HFN
          go_wp2
          go_roundw
          case rel => exact ⟨k + 1, hlt, by go_num, HF2, HB2⟩
          case measure => simp [intOf]; omega
      · obtain rfl : k = ls.length := by omega
        have ht : ∀ x ∈ ls, (∀ y ∈ x.l, Tiny y.r) ∧ x.l.length ≤ 1000 := fun x hx => by
          obtain ⟨i, hi, rfl⟩ := List.mem_iff_getElem.1 hx
          have := few_yes' (HF.out i hi hi)
          exact ⟨this.2, by omega⟩
        have HJ := Lib.hid (fun W (hW : Below wr.heap.size wr W) => join_any ls ht A c W ((HH.out.up HBR.out).up hW) (by omega))
        have HJ2 := Lib.hid (fun W (hW : Below wr.heap.size wr W) => rjoin_any ls ht A c W ((HH.out.up HBR.out).up hW) (by omega))
        have hbt : (∀ y ∈ (joinS ls).l, Tiny y.r) ∧ (joinS ls).l.length ≤ 1000 := by
          rcases joinS_mem ls with h | h
          · rw [h]; exact ⟨fun y hy => by simp [noLog] at hy, Nat.zero_le _⟩
          · exact ht _ h
        have HBT := Lib.hid hbt
        generalize joinS ls = b at *
        clear ht hbt
        go_wp2_with fail
        refine (HJ.out _ (Below.refl _ _)).mono ?_
        rintro e w2 ⟨A2, c2, rfl, hr2, hb2⟩
        have HB2 := Lib.hid hb2
        have HR2 := Lib.hid hr2
        clear hr2 hb2 HJ
        go_wp2_with fail
        refine (HJ2.out _ HB2.out).mono ?_
        rintro e w3 ⟨A3, c3, rfl, hr3, hb3⟩
        have HB3 := Lib.hid (HBR.out.trans ((HB2.out.trans (hb3.mono HB2.out.size)).mono HBR.out.size))
        have HSA := Lib.hid (sameall_any b.l b.l rfl HBT.out.1 A2 A3 c2 c3 w3 (HR2.out.up hb3) hr3 (by have := HBT.out.2; omega))
        have HN1 := Lib.hid (fun W => next_any b.l.length (by have := HBT.out.2; omega) gen HG.out A2 c2 W)
        have HN2 := Lib.hid (fun W => rnext_any b.l.length (by have := HBT.out.2; omega) gen HG.out A3 c3 W)
        generalize nextN b.l.length gen = nn at *
        clear hr3 hb3 HJ2
        go_wp2_with fail
        refine HSA.out.mono ?_
        rintro e w4 ⟨rfl, hb4⟩
        have HB4 := Lib.hid (HB3.out.trans (hb4.mono HB3.out.size))
        clear hb4 HSA
        go_wp2_with fail
        refine (HN1.out _).mono ?_
        rintro e w5 ⟨rfl, rfl⟩
        go_wp2_with fail
        refine (HN2.out _).mono ?_
        rintro e w6 ⟨rfl, rfl⟩
        go_wp2
        go_ret
        exact ⟨rfl, HB4.out⟩

set_option maxRecDepth 100000 in
theorem logareaJoin_lifted (os : Os) (started : os.Started) (H : Type) (enc : TypeId × Value → H) :
    ReturnsInHanded {} Try.checked os 13 .any (Rows.logareaJoinSpec.pre6 enc Try.prog Try.f13 Rows.logareaJoinRow.domain false) (Rows.logareaJoinSpec.post enc Try.prog Try.f13 false true false false) := by
  refine returnsInHanded_of_change (C := Try.checked) own started (by kernel_rfl) Try.func13
    (ChangeSpec.witness6 (enc := enc) (C := Try.checked) false ⟨#[], #[.slice none 0 0, .int .u64 0], []⟩ 8 (by kernel_rfl) (by kernel_rfl) (by kernel_rfl) (by kernel_rfl)) ?_
  intro W base args ds gs before hval0 hW hcnd _
  have hval : ∀ (j : Nat) t v, Try.f13.params[j]? = some t → args[j]? = some v → Value.okWide Try.prog W .any base t v := hval0
  have hW' := hW
  obtain ⟨p, q, hA0, hV, rfl, hfz, hnd⟩ := hW
  have hA : DataW.TrodAll enc Try.prog W 0 (fun _ => true) true Try.f13.params.toList args.toList ds p := hA0
  rw [Try.params13] at hA hval
  obtain ⟨v0, vs0, d0, ds0, p0, q0, hargs, rfl, rfl, h0, r0⟩ := trodAll_cons hA
  obtain ⟨v1, vs1, d1, ds1, p1, q1, rfl, rfl, rfl, h1, r1⟩ := trodAll_cons r0
  obtain ⟨rfl, rfl, rfl⟩ := trodAll_nil r1
  obtain rfl : args = #[v0, v1] := by cases args; simp_all
  obtain ⟨rfl, rfl⟩ := trodVars_none hV
  have k0 := h0
  have lt0 : ∀ x ∈ p0, x.block < W.heap.size := by obtain ⟨m, hm⟩ := k0; exact DataW.trod_lt m _ _ _ hm
  have k1 := h1
  have lt1 : ∀ x ∈ p1, x.block < W.heap.size := by obtain ⟨m, hm⟩ := k1; exact DataW.trod_lt m _ _ _ hm
  obtain ⟨a0, n0, c0, rfl⟩ := Go.WideShapes.okWide_slice Try.underlying63 (hval 0 _ _ rfl rfl)
  obtain ⟨A, ls, c, hs⟩ : ∃ A ls c, LgsIn W (.slice a0 n0 c0) A ls c := by obtain ⟨fuel, hf⟩ := h0; exact open_logs hf
  have hsv := hs.val
  injection hsv with e1 e2 e3
  subst e1 e2 e3
  obtain ⟨g, rfl, _, _, wg⟩ := open_int Try.underlying22 (hval 1 _ _ rfl rfl) h1
  have hg := u64_of wg
  obtain ⟨gn, rfl⟩ := Int.eq_ofNat_of_zero_le hg.1
  clear hA0 hval0
  refine (logareaJoin_walk ls _ _ gn (by omega) W hs.rd (fun x hx => Nat.le_trans (hs.each x hx).len (hs.each x hx).cap) (Nat.le_trans hs.len hs.cap)).mono fun e W' ⟨he, bel⟩ => ?_
  subst he
  exact ⟨_, rfl, _, _, _, [], _, [], hW', trodAll_mk1 (shut_bool Try.underlying4 _), (trodAll_cons_mk (Below.trod laidOut (by kernel_rfl) (of_decide_eq_true (by kernel_rfl)) k0 bel lt0) (trodAll_cons_mk (Below.trod laidOut (by kernel_rfl) (of_decide_eq_true (by kernel_rfl)) k1 bel lt1) trodAll_mk0)), rfl, bel.frame _, fun h => by cases h⟩

/-- The statement. -/
theorem logareaJoin_holds : Rows.LogareaJoinSaid :=
  OpenClaim.holds_of_wide 13 Try.f13 rfl rfl rfl rfl rfl rfl rfl ⟨rfl, rfl, rfl, rfl, rfl⟩ rfl rfl rfl rfl rfl (by kernel_rfl) Try.func13 (by kernel_rfl)
    (of_decide_eq_true (by kernel_rfl)) (by unfold Func.isWrapper; first | (rw [if_pos (by decide +kernel)]; kernel_rfl) | (rw [if_neg (by decide +kernel)]; exact ⟨rfl, rfl⟩))
    (fun os started H enc _ => logareaJoin_lifted os started H enc)
#print axioms logareaJoin_holds
end Go.Proofs.Ytndifkjenjfjpaa

/-
  WHAT IS SHOWN: Fits of wal reports whether Append would accept a record (WalFits). Conditions: none.
-/
import Derived.Test.YtaggiceejcegdaaGreatNb37
import Derived.Test.YtaggiceejcegdaaGreatRows
namespace Go.Proofs.YtaggiceejcegdaaGreat
set_option linter.unusedVariables false
open Go.ChangeShapes Go.WideShapes Go.ChangeAt Go.RowKit

set_option maxRecDepth 100000 in
set_option maxHeartbeats 8000000 in
theorem walFits_walk (sz : Int) (l : List RS) (A0 : Option Addr) (c0 : Nat) (r : Rec) (A D N : Option Addr) (c d n : Nat) (w : World) (hl : RcsIn w (.slice A0 l.length c0) A0 l c0) (hr : RecIn w (.agg #[.int .u64 r.gen, .int .u64 r.seq, .slice A r.ws.length c, .slice D r.ms.length d, .slice N r.note.length n]) r A c D d N n) :
    Calls Tryz.prog 3 #[.int .i64 sz, .slice A0 l.length c0, .agg #[.int .u64 r.gen, .int .u64 r.seq, .slice A r.ws.length c, .slice D r.ms.length d, .slice N r.note.length n]] w fun e w' => e = .returned (.bool true) ∧ Below w.heap.size w w' := by
  have HB : Hid (∀ W, Below (w.heap.size + 1) (w.alloc (.cells #[.int .u64 r.gen, .int .u64 r.seq, .slice A r.ws.length c, .slice D r.ms.length d, .slice N r.note.length n] 28)) W → Below w.heap.size w W) := fun W hW => ((Below.refl w.heap.size w).alloc (Nat.le_refl _) _).trans (hW.mono (by omega))
  have HP0 : Hid (∀ W, Below (w.heap.size + 1) (w.alloc (.cells #[.int .u64 r.gen, .int .u64 r.seq, .slice A r.ws.length c, .slice D r.ms.length d, .slice N r.note.length n] 28)) W → Cells5 W w.heap.size (.int .u64 r.gen) (.int .u64 r.seq) (.slice A r.ws.length c) (.slice D r.ms.length d) (.slice N r.note.length n)) := fun W hW => (Cells5.new w 28 _ _ _ _ _).below hW (by simp)
  have HRR := Lib.hid hr.rd
  have HRO := Lib.hid hr.ok
  have HLR := Lib.hid hl.rd
  have HLE := Lib.hid hl.each
  have hz0 : (w.alloc (.cells #[.int .u64 r.gen, .int .u64 r.seq, .slice A r.ws.length c, .slice D r.ms.length d, .slice N r.note.length n] 28)).heap.size = w.heap.size + 1 := by simp
  clear hr hl
  go_enter Tryz.func3, Tryz.ntmps3
  go_wp2_with fail
  refine (awake49_any _).mono ?_
  rintro e w1 ⟨rfl, hb1⟩
  rw [hz0] at hb1
  have HB1 := Lib.hid hb1
  have PB := HP0.out _ hb1
  have p0 := PB.c0
  have p1 := PB.c1
  have p2 := PB.c2
  have p3 := PB.c3
  have p4 := PB.c4
  clear PB
  clear hb1
  by_cases h1 : sz < 0
  · have d1 : decide (sz < 0) = true := decide_eq_true h1
    clear h1
    go_wp2
    go_ret
    exact ⟨rfl, HB.out _ HB1.out⟩
  have d1 : decide (sz < 0) = false := decide_eq_false h1
  by_cases h2 : 18 < sz
  · have d2 : decide (18 < sz) = true := decide_eq_true h2
    clear h1 h2
    go_wp2
    go_ret
    exact ⟨rfl, HB.out _ HB1.out⟩
  have d2 : decide (18 < sz) = false := decide_eq_false h2
  by_cases h3 : (10 : Int) < (l.length : Int)
  · have d3 : decide ((10 : Int) < (l.length : Int)) = true := decide_eq_true h3
    clear h1 h2 h3
    go_wp2
    go_ret
    exact ⟨rfl, HB.out _ HB1.out⟩
  have d3 : decide ((10 : Int) < (l.length : Int)) = false := decide_eq_false h3
  have HSZ : Hid (0 ≤ sz ∧ sz ≤ 18) := ⟨by omega, by omega⟩
  have hl10 : l.length ≤ 10 := by omega
  clear h1 h2 h3
  go_wp2_with fail
  refine (brief_any r A D N c d n _).mono ?_
  rintro e w2 ⟨rfl, hb2⟩
  have HB2 := Lib.hid (HB1.out.trans (hb2.mono (by have := HB1.out.size; omega)))
  clear p0 p1 p2 p3 p4
  clear hb2 HB1
  obtain hs | hs : briefR r = false ∨ briefR r = true := by cases briefR r; exact .inl rfl; exact .inr rfl
  · rw [hs]
    clear hs
    go_wp2
    go_ret
    exact ⟨rfl, HB.out _ HB2.out⟩
  rw [hs]
  have HTR := Lib.hid (brief_tiny hs)
  have HT := Lib.hid (twins1 w2)
  have HB3 : Hid (Below (w.heap.size + 1) (w.alloc (.cells #[.int .u64 r.gen, .int .u64 r.seq, .slice A r.ws.length c, .slice D r.ms.length d, .slice N r.note.length n] 28)) (w2.alloc (.cells #[.slice none 0 0] 48))) := HB2.out.alloc (by have := HB2.out.size; omega) _
  have hz3 : (w2.alloc (.cells #[.slice none 0 0] 48)).heap.size = w2.heap.size + 1 := by simp
  clear hs
  go_wp2_with fail
  refine HT.out.mono ?_
  rintro e w4 ⟨pw, rp, PA, pc, RA, rc, qs, rqs, rfl, hP, _, hm, _, hb4⟩
  have hql : qs.length = 1 := hm.len
  obtain ⟨q, rfl⟩ := List.length_eq_one_iff.1 hql
  simp only [List.length_cons, List.length_nil, Nat.zero_add] at hP ⊢
  have HP4 := Lib.hid hP
  have HM4 := Lib.hid hm
  have HB4 := Lib.hid hb4
  clear hP hm hb4 HT hql
  have hzp : (w4.alloc (.cells #[.pointer (some ⟨pw, 0, none⟩), .pointer (some ⟨rp, 0, none⟩), .slice PA 1 pc, .slice RA 1 rc] 36)).heap.size = w4.heap.size + 1 := by simp
  go_wp2_with fail
  refine (wnew_any 1 0 sz [] none 0 _ (RcsR.nil _ _ _) (fun x hx => by simp at hx) (fun x hx => by simp at hx) (by decide)).mono ?_
  intro e w5 hpost
  unfold NewPostW at hpost
  rw [show ([] : List RS).map RS.r = [] from rfl, newB_nil (by decide) HSZ.out.1, if_pos rfl] at hpost
  obtain ⟨b, V, rfl, hlm, hb5⟩ := hpost
  rw [hzp] at hlm hb5
  have HW5 : Hid (∃ V S m NN, WS (w.alloc (.cells #[.int .u64 r.gen, .int .u64 r.seq, .slice A r.ws.length c, .slice D r.ms.length d, .slice N r.note.length n] 28)) w5 (w2.alloc (.cells #[.slice none 0 0] 48)).heap.size w4.heap.size b pw V (.pointer (some ⟨pw, 0, none⟩)) (.pointer (some ⟨rp, 0, none⟩)) (.slice RA 1 rc) PA pc [q] no0 S m ∧ S.Ok ∧ S.l.length ≤ 0 ∧ S.sec = sz ∧ m.Ok NN ∧ NN ≤ 162 * 0) :=
    ⟨V, S0L 1 0 sz, newMS [[]], 0, WS.start (by rw [hz0]; exact HB3.out) HP4.out HM4.out HB4.out hlm hb5, S0L_ok (by decide) (by decide) (by decide) HSZ.out.1 (by have := HSZ.out.2; omega), Nat.le_refl _, rfl, okM0, Nat.le_refl _⟩
  clear hlm hb5 HP4 HM4 HB4
  go_wp2
  go_loopw [56] (fun i wr => ∃ k : Nat, k ≤ l.length ∧ i = .int .i64 k ∧ Hid (∃ V S m NN, WS (w.alloc (.cells #[.int .u64 r.gen, .int .u64 r.seq, .slice A r.ws.length c, .slice D r.ms.length d, .slice N r.note.length n] 28)) wr (w2.alloc (.cells #[.slice none 0 0] 48)).heap.size w4.heap.size b pw V (.pointer (some ⟨pw, 0, none⟩)) (.pointer (some ⟨rp, 0, none⟩)) (.slice RA 1 rc) PA pc [q] no0 S m ∧ S.Ok ∧ S.l.length ≤ k ∧ S.sec = sz ∧ m.Ok NN ∧ NN ≤ 162 * k)) (fun i _ => l.length - (intOf i).toNat)
  case atStart => exact ⟨0, Nat.zero_le _, rfl, HW5⟩
  case round =>
    obtain ⟨k, hk, rfl, HW⟩ := hrel
    by_cases hlt : k < l.length
    · obtain ⟨V, S, m, NN, hW, hS, hSl, hsec, hmo, hN⟩ := HW.out
      have hbw := hW.bel
      rw [hz0] at hbw
      have hXW := HLR.out.up (HB.out _ hbw)
      obtain ⟨g7, o7, rA, hg7, j0, j1, j2, j3, j4⟩ := hXW.rd.rs hlt
      subst rA
      have hxr := hXW.each _ (List.getElem_mem hlt)
      have hxo := (HLE.out _ (List.getElem_mem hlt)).ok
      have PB := (Cells5.new wr 28 (.int .u64 l[k].r.gen) (.int .u64 l[k].r.seq) (.slice l[k].A l[k].r.ws.length l[k].c) (.slice l[k].D l[k].r.ms.length l[k].d) (.slice l[k].N l[k].r.note.length l[k].n))
      have p0 := PB.c0; have p1 := PB.c1; have p2 := PB.c2; have p3 := PB.c3; have p4 := PB.c4
      have hbx : Below wr.heap.size wr (wr.alloc (.cells #[.int .u64 l[k].r.gen, .int .u64 l[k].r.seq, .slice l[k].A l[k].r.ws.length l[k].c, .slice l[k].D l[k].r.ms.length l[k].d, .slice l[k].N l[k].r.note.length l[k].n] 28)) := (Below.refl _ _).alloc (Nat.le_refl _) _
      have HWX := Lib.hid (hW.below hbx)
      have HXR := Lib.hid (hxr.up hbx)
      have HXO := Lib.hid hxo
      have HS := Lib.hid hS
      have HMO := Lib.hid hmo
      have HNN := Lib.hid hN
      have HSL := Lib.hid hSl
      have HSE := Lib.hid hsec
      have HPB : Hid (∀ W', Below (wr.alloc (.cells #[.int .u64 l[k].r.gen, .int .u64 l[k].r.seq, .slice l[k].A l[k].r.ws.length l[k].c, .slice l[k].D l[k].r.ms.length l[k].d, .slice l[k].N l[k].r.note.length l[k].n] 28)).heap.size (wr.alloc (.cells #[.int .u64 l[k].r.gen, .int .u64 l[k].r.seq, .slice l[k].A l[k].r.ws.length l[k].c, .slice l[k].D l[k].r.ms.length l[k].d, .slice l[k].N l[k].r.note.length l[k].n] 28)) W' → Cells5 W' wr.heap.size (.int .u64 l[k].r.gen) (.int .u64 l[k].r.seq) (.slice l[k].A l[k].r.ws.length l[k].c) (.slice l[k].D l[k].r.ms.length l[k].d) (.slice l[k].N l[k].r.note.length l[k].n)) := fun W' hW' => PB.below hW' (by simp)
      generalize l[k] = x at *
      clear hXW hxr hxo PB hbx hW hbw hS hmo hN hSl hsec HW
      go_wp2_with fail
      refine (brief_any x.r x.A x.D x.N x.c x.d x.n _).mono ?_
      rintro e w6 ⟨rfl, hb6⟩
      obtain hs | hs : briefR x.r = false ∨ briefR x.r = true := by cases briefR x.r; exact .inl rfl; exact .inr rfl
      · rw [hs]
        have HD := Lib.hid (HWX.out.below hb6).bel
        clear hs
        go_wp2
        go_ret
        exact ⟨rfl, HB.out _ (by have := HD.out; rw [hz0] at this; exact this)⟩
      rw [hs]
      have HTX := Lib.hid (brief_tiny hs)
      have hW6 := HWX.out.below hb6
      have q2 := hW6.cell
      clear p0 p1 p2 p3 p4
      have PB := HPB.out w6 hb6
      have p0 := PB.c0; have p1 := PB.c1; have p2 := PB.c2; have p3 := PB.c3; have p4 := PB.c4
      have HA := Lib.hid (hW6.app HS.out HMO.out (by have := HNN.out; omega) (by simp) x.r HXO.out x.A x.D x.N x.c x.d x.n (HXR.out.up hb6) HTX.out)
      have HSO := Lib.hid (appS_ok HS.out HXO.out HTX.out (by have := HSL.out; omega))
      have HSN : Hid ((appS S x.r).l.length ≤ k + 1) := by have := appS_len S x.r; have := HSL.out; unfold Hid; omega
      have HSS : Hid ((appS S x.r).sec = sz) := (appS_sec S x.r).1.trans HSE.out
      have HMM := Lib.hid (appM_ok (g := gW) (key := 0) (no := no0) (r := x.r) HS.out (by rw [HSE.out]; exact HSZ.out.2) HMO.out)
      generalize appM gW 0 no0 S x.r m = X at *
      generalize appS S x.r = S' at *
      generalize appE S x.r = er at *
      clear hs PB hW6 HPB
      go_wp2_with fail
      refine HA.out.mono ?_
      rintro e w7 ⟨A7, c7, V7, rfl, _, hW7, _⟩
      have HD : Hid (∃ V S m NN, WS (w.alloc (.cells #[.int .u64 r.gen, .int .u64 r.seq, .slice A r.ws.length c, .slice D r.ms.length d, .slice N r.note.length n] 28)) w7 (w2.alloc (.cells #[.slice none 0 0] 48)).heap.size w4.heap.size b pw V (.pointer (some ⟨pw, 0, none⟩)) (.pointer (some ⟨rp, 0, none⟩)) (.slice RA 1 rc) PA pc [q] no0 S m ∧ S.Ok ∧ S.l.length ≤ k + 1 ∧ S.sec = sz ∧ m.Ok NN ∧ NN ≤ 162 * (k + 1)) :=
        ⟨V7, S', X.1, NN + 162, hW7, HSO.out, HSN.out, HSS.out, HMM.out, by have := HNN.out; omega⟩
      clear hW7 HA q2 p0 p1 p2 p3 p4
      go_wp2
      go_roundw
      case rel => exact ⟨k + 1, hlt, by go_num, HD⟩
      case measure => simp [intOf]; omega
    · obtain rfl : k = l.length := by omega
      obtain ⟨V, S, m, NN, hW, hS, hSl, hsec, hmo, hN⟩ := HW.out
      have hbw := hW.bel
      rw [hz0] at hbw
      have PB := HP0.out _ hbw
      have p0 := PB.c0
      have p1 := PB.c1
      have p2 := PB.c2
      have p3 := PB.c3
      have p4 := PB.c4
      clear PB
      have HBW := Lib.hid hbw
      have HW9 := Lib.hid hW
      have HS := Lib.hid hS
      have HMO := Lib.hid hmo
      have HNN := Lib.hid hN
      have HFA := fit_app hS r
      have HF := Lib.hid (wfits_any r HRO.out A D N c d n (HRR.out.up (HB.out _ hbw)) HTR.out hW.log (by omega) hS.g ⟨by have := hS.u0; have := hS.u1; omega, by have := hS.s1; omega⟩ ⟨by have := hS.u0; omega, by have := hS.u1; have := hS.s1; omega⟩)
      clear hbw hW hS hmo hN hSl hsec HW
      obtain ⟨e1, e2⟩ | ⟨e1, e2⟩ | ⟨e1, e2⟩ := HFA
      all_goals
        rw [e2] at HF
        clear e2
        go_wp2_with fail
        refine HF.out.mono ?_
        rintro e w8 ⟨rfl, hb8⟩
        have hW8 := HW9.out.below hb8
        have hbw8 := HBW.out.trans (hb8.mono (by have := HBW.out.size; rw [hz0] at this; exact this))
        have q2 := hW8.cell
        clear p0 p1 p2 p3 p4
        have PB := HP0.out _ hbw8
        have p0 := PB.c0
        have p1 := PB.c1
        have p2 := PB.c2
        have p3 := PB.c3
        have p4 := PB.c4
        clear PB
        have HA := Lib.hid (hW8.app HS.out HMO.out (by have := HNN.out; omega) (by simp) r HRO.out A D N c d n (HRR.out.up (HB.out _ hbw8)) HTR.out)
        rw [e1] at HA
        generalize appM gW 0 no0 S r m = X at *
        clear e1 hW8 hbw8 hb8 HF
        go_wp2_with fail
        refine HA.out.mono ?_
        rintro e w9 ⟨A9, c9, V9, rfl, _, hW9, _⟩
        have HD := Lib.hid hW9.bel
        clear hW9 HA q2
        go_wp2
        go_ret
        exact ⟨rfl, HB.out _ (by have := HD.out; rw [hz0] at this; exact this)⟩

set_option maxRecDepth 100000 in
theorem walFits_lifted (os : Os) (started : os.Started) (H : Type) (enc : TypeId × Value → H) :
    ReturnsInHanded {} Tryz.checked os 3 .any (Rows.walFitsSpec.pre6 enc Tryz.prog Tryz.f3 Rows.walFitsRow.domain false) (Rows.walFitsSpec.post enc Tryz.prog Tryz.f3 false true false false) := by
  refine returnsInHanded_of_change (C := Tryz.checked) own started (by kernel_rfl) Tryz.func3
    (ChangeSpec.witness6 (enc := enc) (C := Tryz.checked) false ⟨#[], #[.int .i64 0, .slice none 0 0, .agg #[.int .u64 0, .int .u64 0, .slice none 0 0, .slice none 0 0, .slice none 0 0]], []⟩ 8 (by kernel_rfl) (by kernel_rfl) (by kernel_rfl) (by kernel_rfl)) ?_
  intro W base args ds gs before hval0 hW hcnd _
  have hval : ∀ (j : Nat) t v, Tryz.f3.params[j]? = some t → args[j]? = some v → Value.okWide Tryz.prog W .any base t v := hval0
  have hW' := hW
  obtain ⟨p, q, hA0, hV, rfl, hfz, hnd⟩ := hW
  have hA : DataW.TrodAll enc Tryz.prog W 0 (fun _ => true) true Tryz.f3.params.toList args.toList ds p := hA0
  rw [Tryz.params3] at hA hval
  obtain ⟨v0, vs0, d0, ds0, p0, q0, hargs, rfl, rfl, h0, r0⟩ := trodAll_cons hA
  obtain ⟨v1, vs1, d1, ds1, p1, q1, rfl, rfl, rfl, h1, r1⟩ := trodAll_cons r0
  obtain ⟨v2, vs2, d2, ds2, p2, q2, rfl, rfl, rfl, h2, r2⟩ := trodAll_cons r1
  obtain ⟨rfl, rfl, rfl⟩ := trodAll_nil r2
  obtain rfl : args = #[v0, v1, v2] := by cases args; simp_all
  obtain ⟨rfl, rfl⟩ := trodVars_none hV
  have k0 := h0
  have lt0 : ∀ x ∈ p0, x.block < W.heap.size := by obtain ⟨m, hm⟩ := k0; exact DataW.trod_lt m _ _ _ hm
  have k1 := h1
  have lt1 : ∀ x ∈ p1, x.block < W.heap.size := by obtain ⟨m, hm⟩ := k1; exact DataW.trod_lt m _ _ _ hm
  have k2 := h2
  have lt2 : ∀ x ∈ p2, x.block < W.heap.size := by obtain ⟨m, hm⟩ := k2; exact DataW.trod_lt m _ _ _ hm
  obtain ⟨a, rfl, _, _, wa⟩ := open_int Tryz.underlying3 (hval 0 _ _ rfl rfl) h0
  obtain ⟨a0, n0, c0, rfl⟩ := Go.WideShapes.okWide_slice Tryz.underlying22 (hval 1 _ _ rfl rfl)
  obtain ⟨A0, l, c0', hl⟩ : ∃ A l c, RcsIn W (.slice a0 n0 c0) A l c := by obtain ⟨fuel, hf⟩ := h1; exact open_recs hf
  obtain ⟨r, A, c, D, d, N, n, hr⟩ := open_rec (hval 2 _ _ rfl rfl) h2
  have hrv := hr.val
  subst hrv
  have hlv := hl.val
  injection hlv with e1 e2 e3
  subst e1 e2 e3
  clear hA0 hval0
  refine (walFits_walk a l _ _ r A D N c d n W hl hr).mono fun e W' ⟨he, bel⟩ => ?_
  subst he
  exact ⟨_, rfl, _, _, _, [], _, [], hW', trodAll_mk1 (shut_bool Tryz.underlying4 _), (trodAll_cons_mk (Below.trod laidOut (by kernel_rfl) (of_decide_eq_true (by kernel_rfl)) k0 bel lt0) (trodAll_cons_mk (Below.trod laidOut (by kernel_rfl) (of_decide_eq_true (by kernel_rfl)) k1 bel lt1) (trodAll_cons_mk (Below.trod laidOut (by kernel_rfl) (of_decide_eq_true (by kernel_rfl)) k2 bel lt2) trodAll_mk0))), rfl, bel.frame _, fun h => by cases h⟩

/-- The statement. -/
theorem walFits_holds : Rows.WalFitsSaid :=
  OpenClaim.holds_of_wide 3 Tryz.f3 rfl rfl rfl rfl rfl rfl rfl ⟨rfl, rfl, rfl, rfl, rfl⟩ rfl rfl rfl rfl rfl (by kernel_rfl) Tryz.func3 (by kernel_rfl)
    (of_decide_eq_true (by kernel_rfl)) (by unfold Func.isWrapper; first | (rw [if_pos (by decide +kernel)]; kernel_rfl) | (rw [if_neg (by decide +kernel)]; exact ⟨rfl, rfl⟩))
    (fun os started H enc _ => walFits_lifted os started H enc)
#print axioms walFits_holds
end Go.Proofs.YtaggiceejcegdaaGreat

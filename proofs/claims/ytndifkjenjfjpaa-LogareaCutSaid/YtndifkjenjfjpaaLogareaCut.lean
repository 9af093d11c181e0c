/-
  WHAT IS SHOWN: if the sectors of a log are cut anywhere, or one of them is lost, the log consists of the records that are complete before (LogareaCut). Conditions: none.
-/
import Derived.Test.YtndifkjenjfjpaaLogO
import Derived.Test.YtndifkjenjfjpaaLkA
import Derived.Test.YtndifkjenjfjpaaRows
namespace Go.Proofs.Ytndifkjenjfjpaa
set_option linter.unusedVariables false
open Go.ChangeShapes Go.WideShapes Go.ChangeAt Go.RowKit

theorem u16_of {x : Int} (h : (Lit.int .u16 x).wf = true) : 0 ≤ x ∧ x ≤ 65535 := by
  simp [Lit.wf, IntKind.min, IntKind.max, IntKind.signed, IntKind.bits] at h
  exact ⟨by omega, by omega⟩
theorem cut_own {w : World} {base : Nat} {n : Nat} {v : Value} {xs : List Value} (h : w.ownsRow base 5 1 v n xs) {b2 g c m : Nat} {ys : List Value} (h2 : w.ownsRow b2 25 1 (.slice (some ⟨g, 0, none⟩) m c) m ys) (k : Nat) (u : Value) : (w.setCell ⟨g, k, none⟩ u).ownsRow base 5 1 v n xs :=
  own_kept h ((Kept.refl (fun i => i = g) w).setCell (p := ⟨g, k, none⟩) (fun _ => rfl) u) (fun i hi e => by
    have e' : i = g := e
    subst e'
    rcases own_apart h h2 (by decide) with h3 | h3
    · rw [h3] at hi; cases hi
    · exact h3 (by rw [hi]; rfl))
theorem cut_set {w : World} {base g c k : Nat} {ss : List Sl} (h : SlsO w base (some ⟨g, 0, none⟩) c ss) : SlsR (w.setCell ⟨g, k, none⟩ (.slice none 0 0)) (w.setCell ⟨g, k, none⟩ (.slice none 0 0)).heap.size (some ⟨g, 0, none⟩) (ss.set k ⟨none, [], 0⟩) := by
  refine ⟨?_, fun u hu => ?_⟩
  · have h1 := (World.ownsRow.stored h.own k (.slice none 0 0)).1
    rw [List.map_set]
    exact Rd.of_own h1
  · rcases List.mem_or_eq_of_mem_set hu with hu | rfl
    · exact Rd.of_own (cut_own (h.each u hu) h.own k (.slice none 0 0))
    · exact Rd.nil_ _ _ _
theorem RcsR.take {w : World} {B : Nat} {A : Option Addr} {l : List RS} (h : RcsR w B A l) (n : Nat) : RcsR w B A (l.take n) := by
  refine ⟨fun j u hu => h.rd j u ?_, fun x hx => h.each x (List.mem_of_mem_take hx)⟩
  have e : flatR l = flatR (l.take n) ++ flatR (l.drop n) := by
    unfold flatR
    rw [← List.flatMap_append, List.take_append_drop]
  rw [e, List.getElem?_append_left (List.getElem?_eq_some_iff.1 hu).1]
  exact hu
theorem few_yes4 {l : List RS} (h : fewL (l.map RS.r) = true) : l.length ≤ 20 ∧ ∀ x ∈ l, Tiny x.r := by
  unfold fewL at h
  rw [Bool.and_eq_true] at h
  obtain ⟨h1, h2⟩ := h
  rw [List.all_eq_true] at h1
  refine ⟨by simpa using h2, fun x hx => short_tiny (h1 _ (List.mem_map.2 ⟨x, hx, rfl⟩))⟩
set_option maxRecDepth 100000 in
set_option maxHeartbeats 4000000 in
theorem logareaCut_walk (l : List RS) (A : Option Addr) (c : Nat) (at_ : Nat) (hat : at_ ≤ 65535) (lose : Bool) (w : World) (h : RcsR w w.heap.size A l) (hok : ∀ x ∈ l, x.r.Ok) (hl : l.length ≤ 9223372036854775807) (hlc : l.length ≤ c) :
    Calls Try.prog 11 #[.slice A l.length c, .int .u16 at_, .bool lose] w fun e w' => e = .returned (.bool true) ∧ Below w.heap.size w w' := by
  have HH := Lib.hid h
  have HK := Lib.hid hok
  clear h hok
  go_enter Try.func11, Try.ntmps11
  go_wp2_with fail
  refine (awake28_any _).mono ?_
  rintro e w1 ⟨rfl, hb1⟩
  have HB1 := Lib.hid hb1
  have HL := Lib.hid (few_any l A c w1 (HH.out.up hb1) hl)
  clear hb1
  go_wp2_with fail
  refine HL.out.mono ?_
  rintro e w2 ⟨rfl, hb2⟩
  have HB2 := Lib.hid (HB1.out.trans (hb2.mono HB1.out.size))
  clear hb2 HL HB1
  obtain hs | hs : fewL (l.map RS.r) = false ∨ fewL (l.map RS.r) = true := by cases fewL (l.map RS.r); exact .inl rfl; exact .inr rfl
  · rw [hs]
    clear hs
    go_wp2
    go_ret
    exact ⟨rfl, HB2.out⟩
  obtain ⟨hl20, hti⟩ := few_yes4 hs
  rw [hs]
  have HTI := Lib.hid hti
  clear hs hti
  by_cases hl0 : l.length = 0
  · have hl0' : ((l.length : Int) == 0) = true := by simpa using hl0
    clear hl0
    go_wp2
    go_ret
    exact ⟨rfl, HB2.out⟩
  have hpos : 0 < l.length := by omega
  have hl0' : ((l.length : Int) == 0) = false := by simpa using hl0
  have HV := Lib.hid (rlogv_any l HTI.out A c w2 (HH.out.up HB2.out) (by omega))
  clear hl0
  go_wp2_with fail
  refine HV.out.mono ?_
  rintro e w3 ⟨rfl, hb3⟩
  have HB3 := Lib.hid (HB2.out.trans (hb3.mono HB2.out.size))
  clear hb3 HV HB2
  obtain hs | hs : logV (l.map RS.r) = false ∨ logV (l.map RS.r) = true := by cases logV (l.map RS.r); exact .inl rfl; exact .inr rfl
  · rw [hs]
    clear hs
    go_wp2
    go_ret
    exact ⟨rfl, HB3.out⟩
  rw [hs]
  have HLV := Lib.hid hs
  clear hs
  have hE : secE (l.map RS.r) = 0 := by unfold secE; rw [if_pos HLV.out]
  have hS : secLs (l.map RS.r) = secsL (l.map RS.r) := by unfold secLs; rw [if_pos HLV.out]
  have HSEC := Lib.hid (rsectors_any l HTI.out HK.out A c w3 (HH.out.up HB3.out) (by omega))
  go_wp2_with fail
  refine HSEC.out.mono ?_
  rintro e w7 ⟨A7, c7, ss, rfl, hss, ho7, hb7⟩
  rw [hE]
  rw [hS] at hss
  have HMO : Hid (∀ r ∈ l.map RS.r, r.Ok) := fun r hr => by obtain ⟨x, hx, rfl⟩ := List.mem_map.1 hr; exact HK.out x hx
  have hslen : ss.length ≤ 90000 := by
    have h1 := congrArg List.length hss
    rw [List.length_map] at h1
    have h2 := secsL_len (logV_mem HLV.out)
    rw [List.length_map] at h2
    omega
  have hspos : 0 < ss.length := by
    have h1 := congrArg List.length hss
    rw [List.length_map] at h1
    rw [h1]
    cases hl : l with
    | nil => rw [hl] at hpos; simp at hpos
    | cons x l => unfold secsL; rw [List.map_cons, List.flatMap_cons, List.length_append]; have := encR_pos' x.r; omega
  obtain ⟨g7, rfl, hg7, hg7z⟩ := own_at ho7.own hspos
  have HB7 := Lib.hid (HB3.out.trans (hb7.mono HB3.out.size))
  have HO7 := Lib.hid (ho7.mono HB3.out.size)
  have HSS := Lib.hid hss
  have HSLN : Hid ((secsL (l.map RS.r)).length = ss.length) := by unfold Hid; rw [← hss, List.length_map]
  have hne : ¬ (ss.length : Int) = 0 := by omega
  have hke : ((at_ : Nat) : Int).tmod (ss.length : Int) = ((at_ % ss.length : Nat) : Int) := (Int.ofNat_tmod at_ ss.length).symm
  have hkl : at_ % ss.length < ss.length := Nat.mod_lt _ hspos
  obtain ⟨k, hk⟩ : ∃ k, at_ % ss.length = k := ⟨_, rfl⟩
  rw [hk] at hke hkl
  have HB3z := Lib.hid HB3.out.size
  clear hk hss ho7 hb7 HSEC hE hS HB3
  have HCS : Hid (∀ i, i < l.length → (secsL ((l.map RS.r).take i)).length ≤ k → k < (secsL ((l.map RS.r).take (i + 1))).length → scanD (cutL (secsL (l.map RS.r)) k lose) ((l.map RS.r).headD zRec).gen = ((l.map RS.r).take i, (secsL ((l.map RS.r).take i)).length)) := fun i hi h1 h2 => cut_scan HLV.out HMO.out (by rw [List.length_map]; exact hi) h1 h2 lose
  have HSO : Hid (∀ s ∈ ss, SlOk s) := HO7.out.sok (by rw [HSS.out]; exact secs_ok HMO.out)
  go_wp2_with fail
  clear hke hne
  go_loopw [10, 11, 44] (fun a b v wr => ∃ i : Nat, i ≤ l.length ∧ a = .int .i64 i ∧ b = .int .i64 (secsL ((l.map RS.r).take i)).length ∧ v = .int .i64 i ∧ Hid ((secsL ((l.map RS.r).take i)).length ≤ k) ∧ Hid (Below w7.heap.size w7 wr)) (fun _ _ v _ => l.length - (intOf v).toNat)
  case atStart => exact ⟨0, Nat.zero_le _, rfl, rfl, rfl, Nat.zero_le _, Below.refl _ _⟩
  case round =>
    obtain ⟨i, hi, rfl, rfl, rfl, HUK, HBR⟩ := hrel
    have huk := HUK.out
    have HBRW := Lib.hid (HB7.out.trans (HBR.out.mono HB7.out.size))
    by_cases hlt : i < l.length
    · have hxl : i < (l.map RS.r).length := by simpa using hlt
      have hxe : (l.map RS.r)[i] = l[i].r := by simp
      have hrx := (HH.out.up HBRW.out).each _ (List.getElem_mem hlt)
      have htx := HTI.out _ (List.getElem_mem hlt)
      have hokx := HK.out _ (List.getElem_mem hlt)
      have hvx := (logV_at HLV.out hxl).1
      rw [hxe] at hvx
      have HTK : Hid ((secsL ((l.map RS.r).take (i + 1))).length = (secsL ((l.map RS.r).take i)).length + (encR l[i].r).length) := by unfold Hid; rw [secsL_take hxl, List.length_append, hxe]
      have HCI := Lib.hid (HCS.out i hlt)
      have hul : (secsL ((l.map RS.r).take i)).length ≤ 90000 := by omega
      obtain ⟨gz, oz, hez, hgz, _⟩ := HH.out.rd.rs hlt
      obtain ⟨g0, o0, rfl, hg0, a0, a1, a2, a3, a4⟩ := (HH.out.up HBRW.out).rd.rs hlt
      injection hez with hez; injection hez with hez hez2; subst hez; subst hez2
      have hgz3 := HB3z.out
      obtain ⟨g9, o9, he9, hg9, z0, _⟩ := (HH.out.up HBRW.out).rd.rs hpos
      injection he9 with he9; injection he9 with he9 he8; subst he9; subst he8
      rw [Nat.zero_mul, Nat.add_zero] at z0
      have HGN : Hid (((l.map RS.r).headD zRec).gen = l[0].r.gen) := by
        unfold Hid
        rw [hd_get (by rw [List.length_map]; exact hpos), List.getElem_map]
      generalize l[0].r.gen = G at *
      generalize l[i] = x at *
      have HEN := Lib.hid (rencode_any x.r hokx x.A x.D x.N x.c x.d x.n wr hrx (by have := htx.ws; omega) (by have := htx.ms; omega) (by have := htx.note; omega))
      have HEL : Hid (encL x.r = encR x.r) := by unfold Hid encL; rw [if_pos hvx]
      have HEM : Hid ((encR x.r).length ≤ 4096) := by unfold Hid; rw [encR_len]; exact nCh_le (payR_len (validR_vld hvx))
      clear hxl hxe hrx htx hokx hvx
      go_wp2_with fail
      refine HEN.out.mono ?_
      rintro e w8 ⟨A8, c8, tt, rfl, htt, ho8, hb8⟩
      rw [HEL.out] at htt
      have htl : tt.length = (encR x.r).length := by rw [← htt, List.length_map]
      have hmx := HEM.out
      have HB8 := Lib.hid (HBR.out.trans (hb8.mono HBR.out.size))
      have HB8W := Lib.hid (HB7.out.trans (HB8.out.mono HB7.out.size))
      have z1 := (hb8.cell (p := ⟨g0, o0, none⟩) hg0).trans z0
      rw [← htl] at HTK hmx
      clear htt ho8 htl HEN HEM HEL a0 a1 a2 a3 a4 z0
      generalize hus : (secsL ((l.map RS.r).take i)).length = us at *
      by_cases hbk : k < us + tt.length
      · have HCUT := Lib.hid (HCI.out huk (by rw [HTK.out]; exact hbk))
        rw [HGN.out] at HCUT
        have HO2 := Lib.hid (HO7.out.below HB8.out)
        have hbk' : (k : Int) < (us : Int) + (tt.length : Int) := by omega
        clear hbk HCI HTK hb8
        cases lose with
        | true =>
          have hkc := World.ownsRow.cellAt HO2.out.own k (by omega)
          rw [List.getElem?_map, List.getElem?_eq_getElem hkl] at hkc
          have hkc2 : w8.cell? ⟨g7, k, none⟩ = some (.slice ss[k].A ss[k].xs.length ss[k].c) := hkc
          have hkf := World.ownsRow.frozenAt HO2.out.own k
          clear hkc
          have hbW := HB8W.out.setCell (p := ⟨g7, k, none⟩) (Nat.le_trans HB3z.out hg7) (.slice none 0 0)
          have hgne : ¬ g7 = g0 := by omega
          have hb0W : (w8.setCell ⟨g7, k, none⟩ (.slice none 0 0)).cell? ⟨g0, o0, none⟩ = some (.int .u64 G) := (World.cell?_setCell_other w8 ⟨g7, k, none⟩ ⟨g0, o0, none⟩ (.slice none 0 0) (fun e => by have := congrArg Addr.block e; simp at this; omega)).trans z1
          have hRL := cut_set (k := k) HO2.out
          have hlm : (ss.set k ⟨none, [], 0⟩).map Sl.xs = cutL (secsL (l.map RS.r)) k true := by rw [List.map_set, HSS.out]; rfl
          have hll : (ss.set k ⟨none, [], 0⟩).length = ss.length := List.length_set
          have hso : ∀ s ∈ ss.set k ⟨none, [], 0⟩, SlOk s := fun s hs => by
            rcases List.mem_or_eq_of_mem_set hs with hs | rfl
            · exact HSO.out s hs
            · exact ⟨fun x hx => by simp at hx, by simp, by simp, by simp⟩
          have hcc := own_cap0 HO2.out.own
          have HSC := Lib.hid (scan_any (ss.set k ⟨none, [], 0⟩) hso G (some ⟨g7, 0, none⟩) c7 (by omega) (by have := hcc.2.1; unfold maxLen at this; omega) (by omega) (w8.setCell ⟨g7, k, none⟩ (.slice none 0 0)) hRL)
          rw [hlm, hll, HCUT.out] at HSC
          have HBW := Lib.hid hbW
          have bW := hb0W
          clear hcc
          go_wp2_with fail
          refine HSC.out.mono ?_
          rintro e w10 ⟨A10, c10, l10, rfl, hl10, ho10, hb10⟩
          have hl10' : l10.map RS.r = (l.map RS.r).take i := hl10
          have HB10 := Lib.hid (HBW.out.trans (hb10.mono HBW.out.size))
          have hti10 : ∀ x ∈ l10, Tiny x.r := fun x hx => by
            have h1 : x.r ∈ (l.map RS.r).take i := by rw [← hl10']; exact List.mem_map.2 ⟨x, hx, rfl⟩
            obtain ⟨y, hy, e⟩ := List.mem_map.1 (List.mem_of_mem_take h1)
            rw [← e]; exact HTI.out y hy
          have hln10 : l10.length ≤ 20 := by have := congrArg List.length hl10'; rw [List.length_map, List.length_take, List.length_map] at this; omega
          have hli : (l.take i).length = i := by rw [List.length_take]; omega
          have HSA := Lib.hid (sameall_any l10 (l.take i) (by rw [hl10', List.map_take]) hti10 A10 (some ⟨g0, o0, none⟩) c10 c w10 ho10.rd ((HH.out.up HB10.out).take i) (by omega))
          rw [hli] at HSA
          clear hti10 hln10 hl10 hl10' ho10 hb10 HSC hli
          go_wp2_with fail
          refine HSA.out.mono ?_
          rintro e w12 ⟨rfl, hb12⟩
          go_wp2
          go_ret
          exact ⟨rfl, HB10.out.trans (hb12.mono HB10.out.size)⟩
        | false =>
          have hbW := HB8W.out
          have hb0W := z1
          have hRL : SlsR w8 w8.heap.size (some ⟨g7, 0, none⟩) (ss.take k) := ⟨by rw [List.map_take]; exact HO2.out.rd.rd.take k, fun s hs => HO2.out.rd.each s (List.mem_of_mem_take hs)⟩
          have hlm : (ss.take k).map Sl.xs = cutL (secsL (l.map RS.r)) k false := by rw [List.map_take, HSS.out]; rfl
          have hso : ∀ s ∈ ss.take k, SlOk s := fun s hs => HSO.out s (List.mem_of_mem_take hs)
          have hll : (ss.take k).length = k := by rw [List.length_take]; omega
          have hkc6 : (k : Int) ≤ (c7 : Int) := by have := (own_cap0 HO7.out.own).1; omega
          have hcc := own_cap0 HO2.out.own
          have HSC := Lib.hid (scan_any (ss.take k) hso G (some ⟨g7, 0, none⟩) c7 (by omega) (by have := hcc.2.1; unfold maxLen at this; omega) (by omega) w8 hRL)
          rw [hlm, hll, HCUT.out] at HSC
          have HBW := Lib.hid hbW
          have bW := hb0W
          clear hcc
          go_wp2_with fail
          refine HSC.out.mono ?_
          rintro e w10 ⟨A10, c10, l10, rfl, hl10, ho10, hb10⟩
          have hl10' : l10.map RS.r = (l.map RS.r).take i := hl10
          have HB10 := Lib.hid (HBW.out.trans (hb10.mono HBW.out.size))
          have hti10 : ∀ x ∈ l10, Tiny x.r := fun x hx => by
            have h1 : x.r ∈ (l.map RS.r).take i := by rw [← hl10']; exact List.mem_map.2 ⟨x, hx, rfl⟩
            obtain ⟨y, hy, e⟩ := List.mem_map.1 (List.mem_of_mem_take h1)
            rw [← e]; exact HTI.out y hy
          have hln10 : l10.length ≤ 20 := by have := congrArg List.length hl10'; rw [List.length_map, List.length_take, List.length_map] at this; omega
          have hli : (l.take i).length = i := by rw [List.length_take]; omega
          have HSA := Lib.hid (sameall_any l10 (l.take i) (by rw [hl10', List.map_take]) hti10 A10 (some ⟨g0, o0, none⟩) c10 c w10 ho10.rd ((HH.out.up HB10.out).take i) (by omega))
          rw [hli] at HSA
          clear hti10 hln10 hl10 hl10' ho10 hb10 HSC hli
          go_wp2_with fail
          refine HSA.out.mono ?_
          rintro e w12 ⟨rfl, hb12⟩
          go_wp2
          go_ret
          exact ⟨rfl, HB10.out.trans (hb12.mono HB10.out.size)⟩
      · have HUK2 : Hid ((secsL ((l.map RS.r).take (i + 1))).length ≤ k) := by unfold Hid; rw [HTK.out]; omega
        have HUE : Hid ((us : Int) + (tt.length : Int) = ((secsL ((l.map RS.r).take (i + 1))).length : Int)) := by unfold Hid; rw [HTK.out]; omega
        have hbk' : ¬ (k : Int) < (us : Int) + (tt.length : Int) := by omega
        clear HCI HTK hb8 z1 hbk
        go_wp2
        go_roundw
        case rel => exact ⟨i + 1, hlt, by go_num, by rw [← HUE.out], by go_num, HUK2, HB8⟩
        case measure => simp [intOf]; omega
    · obtain rfl : i = l.length := by omega
      exfalso
      have h1 := HSLN.out
      rw [show l.length = (l.map RS.r).length by simp, List.take_length] at huk
      omega

set_option maxRecDepth 100000 in
theorem logareaCut_lifted (os : Os) (started : os.Started) (H : Type) (enc : TypeId × Value → H) :
    ReturnsInHanded {} Try.checked os 11 .any (Rows.logareaCutSpec.pre6 enc Try.prog Try.f11 Rows.logareaCutRow.domain false) (Rows.logareaCutSpec.post enc Try.prog Try.f11 false true false false) := by
  refine returnsInHanded_of_change (C := Try.checked) own started (by kernel_rfl) Try.func11
    (ChangeSpec.witness6 (enc := enc) (C := Try.checked) false ⟨#[], #[.slice none 0 0, .int .u16 0, .bool false], []⟩ 8 (by kernel_rfl) (by kernel_rfl) (by kernel_rfl) (by kernel_rfl)) ?_
  intro W base args ds gs before hval0 hW hcnd _
  have hval : ∀ (j : Nat) t v, Try.f11.params[j]? = some t → args[j]? = some v → Value.okWide Try.prog W .any base t v := hval0
  have hW' := hW
  obtain ⟨p, q, hA0, hV, rfl, hfz, hnd⟩ := hW
  have hA : DataW.TrodAll enc Try.prog W 0 (fun _ => true) true Try.f11.params.toList args.toList ds p := hA0
  rw [Try.params11] at hA hval
  obtain ⟨v0, vs0, d0, ds0, p0, q0, hargs, rfl, rfl, h0, r0⟩ := trodAll_cons hA
  obtain ⟨v1, vs1, d1, ds1, p1, q1, rfl, rfl, rfl, h1, r1⟩ := trodAll_cons r0
  obtain ⟨v2, vs2, d2, ds2, p2, q2, rfl, rfl, rfl, h2, r2⟩ := trodAll_cons r1
  obtain ⟨rfl, rfl, rfl⟩ := trodAll_nil r2
  obtain rfl : args = #[v0, v1, v2] := by cases args; simp_all
  obtain ⟨rfl, rfl⟩ := trodVars_none hV
  have k0 := h0
  have lt0 : ∀ x ∈ p0, x.block < W.heap.size := by obtain ⟨m, hm⟩ := k0; exact DataW.trod_lt m _ _ _ hm
  have k1 := h1
  have lt1 : ∀ x ∈ p1, x.block < W.heap.size := by obtain ⟨m, hm⟩ := k1; exact DataW.trod_lt m _ _ _ hm
  have k2 := h2
  have lt2 : ∀ x ∈ p2, x.block < W.heap.size := by obtain ⟨m, hm⟩ := k2; exact DataW.trod_lt m _ _ _ hm
  obtain ⟨a0, n0, c0, rfl⟩ := Go.WideShapes.okWide_slice Try.underlying53 (hval 0 _ _ rfl rfl)
  obtain ⟨A, l, c, hs⟩ : ∃ A l c, RcsIn W (.slice a0 n0 c0) A l c := by obtain ⟨fuel, hf⟩ := h0; exact open_recs hf
  have hsv := hs.val
  injection hsv with e1 e2 e3
  subst e1 e2 e3
  obtain ⟨a, rfl, _, _, wa⟩ := open_int Try.underlying58 (hval 1 _ _ rfl rfl) h1
  have ha := u16_of wa
  obtain ⟨an, rfl⟩ := Int.eq_ofNat_of_zero_le ha.1
  obtain ⟨b, rfl, _⟩ := open_bool Try.underlying4 (hval 2 _ _ rfl rfl) h2
  clear hA0 hval0
  refine (logareaCut_walk l _ _ an (by omega) b W hs.rd (fun x hx => (hs.each x hx).ok) (Nat.le_trans hs.len hs.cap) hs.len).mono fun e W' ⟨he, bel⟩ => ?_
  subst he
  exact ⟨_, rfl, _, _, _, [], _, [], hW', trodAll_mk1 (shut_bool Try.underlying4 _), (trodAll_cons_mk (Below.trod laidOut (by kernel_rfl) (of_decide_eq_true (by kernel_rfl)) k0 bel lt0) (trodAll_cons_mk (Below.trod laidOut (by kernel_rfl) (of_decide_eq_true (by kernel_rfl)) k1 bel lt1) (trodAll_cons_mk (Below.trod laidOut (by kernel_rfl) (of_decide_eq_true (by kernel_rfl)) k2 bel lt2) trodAll_mk0))), rfl, bel.frame _, fun h => by cases h⟩

/-- The statement. -/
theorem logareaCut_holds : Rows.LogareaCutSaid :=
  OpenClaim.holds_of_wide 11 Try.f11 rfl rfl rfl rfl rfl rfl rfl ⟨rfl, rfl, rfl, rfl, rfl⟩ rfl rfl rfl rfl rfl (by kernel_rfl) Try.func11 (by kernel_rfl)
    (of_decide_eq_true (by kernel_rfl)) (by unfold Func.isWrapper; first | (rw [if_pos (by decide +kernel)]; kernel_rfl) | (rw [if_neg (by decide +kernel)]; exact ⟨rfl, rfl⟩))
    (fun os started H enc _ => logareaCut_lifted os started H enc)
#print axioms logareaCut_holds
end Go.Proofs.Ytndifkjenjfjpaa

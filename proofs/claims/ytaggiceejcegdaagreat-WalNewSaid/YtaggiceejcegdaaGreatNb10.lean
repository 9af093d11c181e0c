/-
  WHAT IS SHOWN: what Valid of logarea returns. what Valid of tegularef28 returns. what Sectors of logarea returns. what Sectors of tegularef28 returns. plain facts on the memory of a record that is being read, once more. Conditions: as each theorem names them.
-/
import Derived.Deep.DeepCutAuto
import Derived.Test.YtaggiceejcegdaaGreatNb09
import Derived.Test.YtaggiceejcegdaaGreatNb06
import Derived.Test.YtaggiceejcegdaaGreatNb07
namespace Go.Proofs.YtaggiceejcegdaaGreat
set_option linter.unusedVariables false
open Go.RowKit

theorem hd_get {l : List Rec} (h : 0 < l.length) : l.headD zRec = l[0] := by cases l with | nil => simp at h | cons a l => rfl
set_option maxRecDepth 100000 in
set_option maxHeartbeats 4000000 in
theorem logv_any (l : List RS) (ht : ∀ x ∈ l, Tiny x.r) (A : Option Addr) (c : Nat) (w : World) (h : RcsR w w.heap.size A l) (hl : l.length ≤ 1000000) :
    Calls Tryz.prog 79 #[.slice A l.length c] w fun e w' => e = .returned (.bool (logV (l.map RS.r))) ∧ Below w.heap.size w w' := by
  have HH := Lib.hid h
  have HT := Lib.hid ht
  clear h ht
  go_enter Tryz.func79, Tryz.ntmps79
  go_wp2
  go_loopw [7] (fun i wr => ∃ k : Nat, k ≤ l.length ∧ i = .int .i64 k ∧ Hid ((List.range k).all (okAt (l.map RS.r)) = true) ∧ Hid (Below w.heap.size w wr)) (fun i _ => l.length - (intOf i).toNat)
  case atStart => exact ⟨0, Nat.zero_le _, rfl, rfl, Below.refl _ _⟩
  case round =>
    obtain ⟨k, hk, rfl, HAL, HBR⟩ := hrel
    by_cases hlt : k < l.length
    · have hxl : k < (l.map RS.r).length := by simpa using hlt
      have h0l : 0 < l.length := by omega
      have h0m : 0 < (l.map RS.r).length := by simpa using h0l
      have hok := okAt_get hxl
      rw [hd_get h0m] at hok
      simp only [List.getElem_map] at hok
      have hrx := (HH.out.up HBR.out).each _ (List.getElem_mem hlt)
      have htx := HT.out _ (List.getElem_mem hlt)
      obtain ⟨g1, o1, rfl, hg1, a0, a1, a2, a3, a4⟩ := (HH.out.up HBR.out).rd.rs hlt
      obtain ⟨g2, o2, he2, hg2, z0, _⟩ := (HH.out.up HBR.out).rd.rs h0l
      injection he2 with he2; injection he2 with he2 he3; subst he2; subst he3
      rw [Nat.zero_mul, Nat.add_zero] at z0
      generalize l[0].r.gen = G at *
      generalize l[k] = x at *
      have hno : okAt (l.map RS.r) k = false → logV (l.map RS.r) = false := logV_no hxl
      have hyes : okAt (l.map RS.r) k = true → (List.range (k + 1)).all (okAt (l.map RS.r)) = true := range_all HAL.out
      have HNO := Lib.hid hno
      have HYE := Lib.hid hyes
      have HOK := Lib.hid hok
      have hbx : Below wr.heap.size wr (wr.alloc (.cells #[.int .u64 x.r.gen, .int .u64 x.r.seq, .slice x.A x.r.ws.length x.c, .slice x.D x.r.ms.length x.d, .slice x.N x.r.note.length x.n] 28)) := (Below.refl _ _).alloc (Nat.le_refl _) _
      have HBW := Lib.hid (HBR.out.trans (hbx.mono HBR.out.size))
      have PB := (Cells5.new wr 28 (.int .u64 x.r.gen) (.int .u64 x.r.seq) (.slice x.A x.r.ws.length x.c) (.slice x.D x.r.ms.length x.d) (.slice x.N x.r.note.length x.n))
      have z1 := (hbx.cell (p := ⟨g1, o1, none⟩) hg1).trans z0
      have hzx : wr.heap.size < (wr.alloc (.cells #[.int .u64 x.r.gen, .int .u64 x.r.seq, .slice x.A x.r.ws.length x.c, .slice x.D x.r.ms.length x.d, .slice x.N x.r.note.length x.n] 28)).heap.size := by simp
      have HRV := Lib.hid (fun W (hW : Below (wr.alloc (.cells #[.int .u64 x.r.gen, .int .u64 x.r.seq, .slice x.A x.r.ws.length x.c, .slice x.D x.r.ms.length x.d, .slice x.N x.r.note.length x.n] 28)).heap.size (wr.alloc (.cells #[.int .u64 x.r.gen, .int .u64 x.r.seq, .slice x.A x.r.ws.length x.c, .slice x.D x.r.ms.length x.d, .slice x.N x.r.note.length x.n] 28)) W) => rvalid_any x.r x.A x.D x.N x.c x.d x.n W ((hrx.up hbx).up hW) (by have := htx.ws; omega) (by have := htx.ms; omega) (by have := htx.note; omega))
      have b0 := PB.c0; have b1 := PB.c1; have b2 := PB.c2; have b3 := PB.c3; have b4 := PB.c4
      clear hno hyes hok hrx htx hxl h0m hbx z0 PB
      go_wp2_with fail
      generalize (wr.alloc (.cells #[.int .u64 x.r.gen, .int .u64 x.r.seq, .slice x.A x.r.ws.length x.c, .slice x.D x.r.ms.length x.d, .slice x.N x.r.note.length x.n] 28)) = W1 at *
      have c0 := Held.cell b0 hzx; have c1 := Held.cell b1 hzx; have c2 := Held.cell b2 hzx; have c3 := Held.cell b3 hzx; have c4 := Held.cell b4 hzx
      have d0 := Held.cell z1 (Nat.lt_trans hg1 hzx)
      clear a0 a1 a2 a3 a4 b0 b1 b2 b3 b4 z1
      have eW0 : IntKind.u64.wrap (k : Int) = (k : Int) := by rw [IntKind.wrap_u64]; omega
      have eW1 : IntKind.u64.wrap ((k : Int) + 1) = (k : Int) + 1 := by rw [IntKind.wrap_u64]; omega
      obtain hv | hv : validR x.r = false ∨ validR x.r = true := by cases validR x.r; exact .inl rfl; exact .inr rfl
      · rw [hv] at HRV HOK
        clear hv
        have HD : Hid (logV (l.map RS.r) = false) := HNO.out (by rw [HOK.out]; rfl)
        have hne : Nonempty (Held (Below W1.heap.size W1)) := ⟨⟨_, (Held.drew_below (Nat.le_refl _))⟩⟩
        refine wp_region_heldq (S := (Below W1.heap.size W1)) (by kernel_rfl) (by kernel_rfl) (Held.drew_below (Nat.le_refl _)) ?_
        repeat (go_big_quiet_step ((go_at_call 83; exact Calls.held_below (Nat.le_refl _) (HRV.out _ (Held.h _)))))
        refine wpQuiet_nil ?_
        intro _ hw'
        obtain ⟨sq, hw''⟩ := hw'
        subst hw''
        clear hne
        go_wp2
        go_ret
        exact ⟨by rw [HD.out]; rfl, HBW.out.trans (sq.h.mono HBW.out.size)⟩
      · rw [hv] at HRV HOK
        clear hv
        by_cases hg : x.r.gen = G
        · have hge : ((x.r.gen : Int) != (G : Int)) = false := by simp; omega
          by_cases hs : x.r.seq = k + 1
          · have hse : ((x.r.seq : Int) != (k : Int) + 1) = false := by simp; omega
            have HT2 : Hid ((List.range (k + 1)).all (okAt (l.map RS.r)) = true) := HYE.out (by rw [HOK.out, decide_eq_true hg, decide_eq_true hs]; rfl)
            clear hg hs
            have hne : Nonempty (Held (Below W1.heap.size W1)) := ⟨⟨_, (Held.drew_below (Nat.le_refl _))⟩⟩
            refine wp_region_heldq (S := (Below W1.heap.size W1)) (by kernel_rfl) (by kernel_rfl) (Held.drew_below (Nat.le_refl _)) ?_
            repeat (go_big_quiet_step ((go_at_call 83; exact Calls.held_below (Nat.le_refl _) (HRV.out _ (Held.h _)))))
            refine wpQuiet_nil ?_
            intro _ hw'
            obtain ⟨sq, hw''⟩ := hw'
            subst hw''
            clear hne
            have HB2 := Lib.hid (HBW.out.trans (sq.h.mono HBW.out.size))
            clear c0 c1 c2 c3 c4 d0 eW0 eW1
            go_wp2
            go_roundw
            case rel => exact ⟨k + 1, hlt, by go_num, HT2, HB2⟩
            case measure => simp [intOf]; omega
          · have hse : ((x.r.seq : Int) != (k : Int) + 1) = true := by simp; omega
            have hf : okAt (l.map RS.r) k = false := by rw [HOK.out, decide_eq_false hs]; simp
            clear hg hs
            have HD : Hid (logV (l.map RS.r) = false) := HNO.out hf
            have hne : Nonempty (Held (Below W1.heap.size W1)) := ⟨⟨_, (Held.drew_below (Nat.le_refl _))⟩⟩
            refine wp_region_heldq (S := (Below W1.heap.size W1)) (by kernel_rfl) (by kernel_rfl) (Held.drew_below (Nat.le_refl _)) ?_
            repeat (go_big_quiet_step ((go_at_call 83; exact Calls.held_below (Nat.le_refl _) (HRV.out _ (Held.h _)))))
            refine wpQuiet_nil ?_
            intro _ hw'
            obtain ⟨sq, hw''⟩ := hw'
            subst hw''
            clear hne
            go_wp2
            go_ret
            exact ⟨by rw [HD.out]; rfl, HBW.out.trans (sq.h.mono HBW.out.size)⟩
        · have hge : ((x.r.gen : Int) != (G : Int)) = true := by simp; omega
          have hf : okAt (l.map RS.r) k = false := by rw [HOK.out, decide_eq_false hg]; simp
          clear hg
          have HD : Hid (logV (l.map RS.r) = false) := HNO.out hf
          have hne : Nonempty (Held (Below W1.heap.size W1)) := ⟨⟨_, (Held.drew_below (Nat.le_refl _))⟩⟩
          refine wp_region_heldq (S := (Below W1.heap.size W1)) (by kernel_rfl) (by kernel_rfl) (Held.drew_below (Nat.le_refl _)) ?_
          repeat (go_big_quiet_step ((go_at_call 83; exact Calls.held_below (Nat.le_refl _) (HRV.out _ (Held.h _)))))
          refine wpQuiet_nil ?_
          intro _ hw'
          obtain ⟨sq, hw''⟩ := hw'
          subst hw''
          clear hne
          go_wp2
          go_ret
          exact ⟨by rw [HD.out]; rfl, HBW.out.trans (sq.h.mono HBW.out.size)⟩
    · obtain rfl : k = l.length := by omega
      have HD : Hid (logV (l.map RS.r) = true) := by unfold Hid logV; rw [List.length_map]; exact HAL.out
      go_wp2
      go_ret
      exact ⟨by rw [HD.out]; rfl, HBR.out⟩
end Go.Proofs.YtaggiceejcegdaaGreat
namespace Go.Proofs.YtaggiceejcegdaaGreat
set_option linter.unusedVariables false
open Go.RowKit

end Go.Proofs.YtaggiceejcegdaaGreat
namespace Go.Proofs.YtaggiceejcegdaaGreat
set_option linter.unusedVariables false
open Go.RowKit

def secE (l : List Rec) : Int := if logV l then 0 else 1
def secLs (l : List Rec) : List (List Int) := if logV l then secsL l else []
/-- What Sectors leaves. -/
def SecPost (w : World) (l : List Rec) (e : Ending) (w' : World) : Prop := ∃ A c ss, e = .returned (.tuple #[.slice A ss.length c, .int .i64 (secE l)]) ∧ ss.map Sl.xs = secLs l ∧ SlsO w' w.heap.size A c ss ∧ Below w.heap.size w w'
theorem SlsO.app {w w' : World} {base b2 : Nat} {A A' A2 : Option Addr} {c c' c2 : Nat} {ss tt : List Sl} (h : SlsO w base A c ss) (k : SlsO w b2 A2 c2 tt) (hb : base ≤ b2)
    (hown : w'.ownsRow base 26 1 (.slice A' (ss.length + tt.length) c') (ss.length + tt.length) (ss.map Sl.v ++ tt.map Sl.v)) (hg : w.grownBy w' (Value.slice A ss.length c).ownBlock) : SlsO w' base A' c' (ss ++ tt) := by
  refine ⟨?_, fun t ht => ?_⟩
  · rw [List.length_append, List.map_append]; exact hown
  · have ht' : w.ownsRow base 5 1 t.v t.xs.length (t.xs.map (Value.int .u8)) := by
      rcases List.mem_append.1 ht with ht | ht
      · exact h.each t ht
      · exact own_mono (k.each t ht) hb
    exact ht'.kept hg (own_apart ht' h.own (by decide))
theorem sls_one (ss : List Sl) : ∀ u ∈ ss.map Sl.v, u.oneCell' = true := fun u hu => by
  obtain ⟨s, _, rfl⟩ := List.mem_map.1 hu
  rfl
theorem encR_pos' (r : Rec) : 0 < (encR r).length := by rw [encR_len]; have := payR_pos r; unfold nCh; omega
set_option maxRecDepth 100000 in
set_option maxHeartbeats 4000000 in
theorem sectors_any (l : List RS) (ht : ∀ x ∈ l, Tiny x.r) (hok : ∀ x ∈ l, x.r.Ok) (A : Option Addr) (c : Nat) (w : World) (h : RcsR w w.heap.size A l) (hl : l.length ≤ 1000) :
    Calls Tryz.prog 47 #[.slice A l.length c] w (SecPost w (l.map RS.r)) := by
  have HH := Lib.hid h
  have HT := Lib.hid ht
  have HK := Lib.hid hok
  have HV := Lib.hid (logv_any l ht A c w h (by omega))
  obtain ⟨i0, hi0, hz0, hz1, hz2⟩ := info_parts info_sl
  clear h ht hok
  obtain hs | hs : logV (l.map RS.r) = false ∨ logV (l.map RS.r) = true := by cases logV (l.map RS.r); exact .inl rfl; exact .inr rfl
  · have HE : Hid (secE (l.map RS.r) = 1 ∧ secLs (l.map RS.r) = []) := by unfold Hid secE secLs; rw [hs]; exact ⟨rfl, rfl⟩
    rw [hs] at HV
    clear hs
    go_enter Tryz.func47, Tryz.ntmps47
    go_wp2_with fail
    refine HV.out.mono ?_
    rintro e w1 ⟨rfl, hb1⟩
    go_wp2
    go_ret2
    exact ⟨none, 0, [], by rw [HE.out.1]; rfl, by rw [HE.out.2]; rfl, ⟨World.ownsRow_nil _ _ _ _, by simp⟩, hb1⟩
  · have HE : Hid (secE (l.map RS.r) = 0 ∧ secLs (l.map RS.r) = secsL (l.map RS.r)) := by unfold Hid secE secLs; rw [hs]; exact ⟨rfl, rfl⟩
    have HLV := Lib.hid hs
    rw [hs] at HV
    clear hs
    go_enter Tryz.func47, Tryz.ntmps47
    go_wp2_with fail
    refine HV.out.mono ?_
    rintro e w1 ⟨rfl, hb1⟩
    have HB1 := Lib.hid hb1
    clear hb1 HV
    go_wp2
    go_loopw [4, 14] (fun o i wr => ∃ (k : Nat) (ss : List Sl) (DA : Option Addr) (dc : Nat), k ≤ l.length ∧ i = .int .i64 k ∧ o = .slice DA ss.length dc ∧ Hid (ss.map Sl.xs = secsL ((l.map RS.r).take k)) ∧ Hid (SlsO wr w.heap.size DA dc ss) ∧ Hid (Below w.heap.size w wr)) (fun _ i _ => l.length - (intOf i).toNat)
    case atStart => exact ⟨0, [], none, 0, Nat.zero_le _, rfl, rfl, rfl, ⟨World.ownsRow_nil _ _ _ _, by simp⟩, HB1.out⟩
    case round =>
      obtain ⟨k, ss, DA, dc, hk, rfl, rfl, HSE, HSO, HBR⟩ := hrel
      by_cases hlt : k < l.length
      · have hxl : k < (l.map RS.r).length := by simpa using hlt
        have hxe : (l.map RS.r)[k] = l[k].r := by simp
        have htk := HT.out _ (List.getElem_mem hlt)
        have hokk := HK.out _ (List.getElem_mem hlt)
        have hvk := (logV_at HLV.out hxl).1
        have hrx := (HH.out.up HBR.out).each _ (List.getElem_mem hlt)
        have HSN : Hid (secsL ((l.map RS.r).take (k + 1)) = secsL ((l.map RS.r).take k) ++ encR l[k].r) := by unfold Hid; rw [secsL_take hxl, hxe]
        have hsl : ss.length ≤ k * 4096 := by
          have h1 := secsL_len (l := (l.map RS.r).take k) (fun r hr => logV_mem HLV.out r (List.mem_of_mem_take hr))
          rw [← HSE.out, List.length_map, List.length_take] at h1
          have h2 : min k (l.map RS.r).length ≤ k := by omega
          have h3 := Nat.mul_le_mul_right 4096 h2
          omega
        rw [hxe] at hvk
        obtain ⟨g1, o1, rfl, hg1, a0, a1, a2, a3, a4⟩ := (HH.out.up HBR.out).rd.rs hlt
        generalize l[k] = x at *
        have hbx : Below wr.heap.size wr (wr.alloc (.cells #[.int .u64 x.r.gen, .int .u64 x.r.seq, .slice x.A x.r.ws.length x.c, .slice x.D x.r.ms.length x.d, .slice x.N x.r.note.length x.n] 28)) := (Below.refl _ _).alloc (Nat.le_refl _) _
        have HEN := Lib.hid (encode_any x.r hokk x.A x.D x.N x.c x.d x.n (wr.alloc (.cells #[.int .u64 x.r.gen, .int .u64 x.r.seq, .slice x.A x.r.ws.length x.c, .slice x.D x.r.ms.length x.d, .slice x.N x.r.note.length x.n] 28)) (hrx.up hbx) (by have := htk.ws; omega) (by have := htk.ms; omega) (by have := htk.note; omega))
        have HEL : Hid (encL x.r = encR x.r) := by unfold Hid encL; rw [if_pos hvk]
        have HEM : Hid ((encR x.r).length ≤ 4096) := by unfold Hid; rw [encR_len]; exact nCh_le (payR_len (validR_vld hvk))
        have HBX := Lib.hid hbx
        clear hxl hxe htk hokk hvk hrx hbx
        go_wp2_with fail
        refine HEN.out.mono ?_
        rintro e w2 ⟨A2, c2, tt, rfl, htt, ho2, hb2⟩
        rw [HEL.out] at htt
        have htl : tt.length = (encR x.r).length := by rw [← htt, List.length_map]
        have hmx := HEM.out
        have hpos : 0 < tt.length := by rw [htl]; exact encR_pos' x.r
        obtain ⟨g2, rfl, hg2, hg2z⟩ := own_at ho2.own hpos
        have hb2x := HBX.out.trans (hb2.mono HBX.out.size)
        have HB2 := Lib.hid (HBR.out.trans (hb2x.mono HBR.out.size))
        have HO2 := Lib.hid (ho2.mono (HBR.out.trans (HBX.out.mono HBR.out.size)).size)
        have HSO2 := Lib.hid (HSO.out.below hb2x)
        have HTT := Lib.hid htt
        have hbz := HB2.out.size
        rw [← htl] at hmx
        have hkk : k * 4096 ≤ 1000 * 4096 := Nat.mul_le_mul_right _ (by omega)
        clear htt ho2 hb2 hb2x htl HEN a0 a1 a2 a3 a4 HEM
        go_wp2_with (at_builtin; go_loud (refine wpList_append_own _ rfl _ _ 49 rfl w.heap.size 26 i0 _ 1 24 Tryz.underlying49 hi0 hz0 hz1 hz2 rfl (by decide) (.slice DA ss.length dc) ss.length (ss.map Sl.v) rfl HSO2.out.own ⟨g2, 0, none⟩ tt.length c2 (tt.map Sl.v) rfl (by simp) (HO2.out.rd.rd.qat_add) (sls_one tt) ?c1 ?c2 ?c3 ?_))
        case c1 => unfold maxLen; omega
        case c2 => omega
        case c3 => first | omega | (simp; omega)
        intro v' w9 hown hgrow hiff
        obtain ⟨DA', dc', hv⟩ := own_form hown
        subst hv
        have HSO9 : Hid (SlsO w9 w.heap.size DA' dc' (ss ++ tt)) := SlsO.app HSO2.out HO2.out (Nat.le_refl _) hown hgrow
        have HB9 : Hid (Below w.heap.size w w9) := HB2.out.grown hgrow hbz (fun k hk => own_low HSO2.out.own hk)
        clear hown hgrow hiff hkk
        go_wp2
        go_roundw
        case rel => exact ⟨k + 1, ss ++ tt, DA', dc', hlt, by go_num, by rw [List.length_append], by unfold Hid; rw [List.map_append, HSE.out, HTT.out, HSN.out], HSO9, HB9⟩
        case measure => simp [intOf]; omega
      · obtain rfl : k = l.length := by omega
        go_wp2
        go_ret2
        exact ⟨DA, dc, ss, by rw [HE.out.1]; rfl, by rw [HE.out.2, HSE.out, show l.length = (l.map RS.r).length by simp, List.take_length], HSO.out, HBR.out⟩
end Go.Proofs.YtaggiceejcegdaaGreat
namespace Go.Proofs.YtaggiceejcegdaaGreat
set_option linter.unusedVariables false
open Go.RowKit

end Go.Proofs.YtaggiceejcegdaaGreat
namespace Go.Proofs.YtaggiceejcegdaaGreat
set_option linter.unusedVariables false
open Go.RowKit

theorem kept5 (w : World) (b : Nat) (v0 v1 v2 v3 v4 : Value) : Kept (fun k => k = b) w (((((w.setCell ⟨b, 0, none⟩ v0).setCell ⟨b, 1, none⟩ v1).setCell ⟨b, 2, none⟩ v2).setCell ⟨b, 3, none⟩ v3).setCell ⟨b, 4, none⟩ v4) := by
  repeat' apply Kept.setCell
  all_goals first | exact Kept.refl _ _ | exact fun _ => rfl
theorem below5 {w w3 : World} {B b : Nat} (h : Below B w w3) (hb : B ≤ b) (v0 v1 v2 v3 v4 : Value) : Below B w (((((w3.setCell ⟨b, 0, none⟩ v0).setCell ⟨b, 1, none⟩ v1).setCell ⟨b, 2, none⟩ v2).setCell ⟨b, 3, none⟩ v3).setCell ⟨b, 4, none⟩ v4) := ((((h.setCell (p := ⟨b, 0, none⟩) hb v0).setCell (p := ⟨b, 1, none⟩) hb v1).setCell (p := ⟨b, 2, none⟩) hb v2).setCell (p := ⟨b, 3, none⟩) hb v3).setCell (p := ⟨b, 4, none⟩) hb v4
theorem Kept.drewR {S : Nat → Prop} {w w' : World} (h : Kept S w w') : Kept S w w'.drew := ⟨h.os, h.tape, h.output, h.size, h.block⟩
theorem kept5d (w : World) (b : Nat) (v0 v1 v2 v3 v4 : Value) : Kept (fun k => k = b) w ((((((w.setCell ⟨b, 0, none⟩ v0).setCell ⟨b, 1, none⟩ v1).setCell ⟨b, 2, none⟩ v2).setCell ⟨b, 3, none⟩ v3).setCell ⟨b, 4, none⟩ v4)).drew := (kept5 w b v0 v1 v2 v3 v4).drewR
theorem below5d {w w3 : World} {B b : Nat} (h : Below B w w3) (hb : B ≤ b) (v0 v1 v2 v3 v4 : Value) : Below B w ((((((w3.setCell ⟨b, 0, none⟩ v0).setCell ⟨b, 1, none⟩ v1).setCell ⟨b, 2, none⟩ v2).setCell ⟨b, 3, none⟩ v3).setCell ⟨b, 4, none⟩ v4)).drew := (below5 h hb v0 v1 v2 v3 v4).drew
theorem ParM.final {w0 wr w' : World} {ty : TypeId} {q ko kr : Nat} {rd : Rdr} {r : Rec} {A D N : Option Addr} {c d n : Nat} {cur : Array Value} (h : ParM w0 wr ty q ko rd r A c D d N n) (hk : Kept (fun k => k = kr) wr w') (hr : wr.heap[kr]? = some (.cells cur 28 (0, 0))) : RecO w' r A c D d N n :=
  ⟨own_mono (own_kept h.ws hk (own_ne h.ws hr (by decide))) (Nat.zero_le _), own_mono (own_kept h.ms hk (own_ne h.ms hr (by decide))) (Nat.zero_le _), h.note.kept hk (free4 hr (by decide))⟩
theorem blk_len (r : Rdr) : r.blk.1.length = 8 := by
  unfold Rdr.blk
  by_cases h : (r.take 8).2.1 = 0
  · show (if _ then _ else _ : List Int).length = 8
    rw [if_pos h]
    unfold Rdr.take at h ⊢
    by_cases hc : r.bad = true ∨ r.rest.length < 8
    · rw [if_pos hc] at h; exact absurd h (by decide)
    · rw [if_neg hc]; show (List.take 8 _).length = 8; rw [List.length_take]; omega
  · show (if _ then _ else _ : List Int).length = 8
    rw [if_neg h]; rfl
theorem info_pw : (Tryz.prog.info? 151).map (fun i => (i.zero, i.size, i.bytes)) = some (some (.agg #[.int .i64 0, .int .i64 0, .int .u64 0, .int .u8 0, .int .u8 0, .int .u8 0, .int .u8 0, .int .u8 0, .int .u8 0, .int .u8 0, .int .u8 0]), 11, 32) := by kernel_rfl
theorem info_mv : (Tryz.prog.info? 156).map (fun i => (i.zero, i.size, i.bytes)) = some (some (.agg #[.int .i64 0, .int .i64 0, .int .i64 0, .int .i64 0]), 4, 32) := by kernel_rfl
end Go.Proofs.YtaggiceejcegdaaGreat

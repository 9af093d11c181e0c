/-
  WHAT IS SHOWN: what the writing methods of media return and make of the medium. Conditions: the medium lies in memory.
-/
import Derived.Test.YtckdhhadlemakaaGreatMed1
import Derived.Deep.RegionHeld3
import Derived.Deep.DeepCutAuto
namespace Go.Proofs.YtckdhhadlemakaaGreat
set_option linter.unusedVariables false
open Go.RowKit

/-- What an operation of a medium returns and leaves. -/
def WritePost (w : World) (m bs : Nat) (g : Geo) (er : Int) (L : List Sec) (e : Ending) (w' : World) : Prop :=
  e = .returned (.int .i64 er) ∧ Med w' m bs g L ∧ Kept (fun k => k = bs) w w'
theorem ints_at {w : World} {base : Nat} {A : Option Addr} {n c : Nat} {xs : List Int} (h : w.ownsRow base 3 1 (.slice A n c) n (xs.map (Value.int .i64))) (k : Nat) (hk : k < xs.length) :
    ∃ g, A = some ⟨g, 0, none⟩ ∧ base ≤ g ∧ w.cell? ⟨g, k, none⟩ = some (.int .i64 xs[k]) := by
  have hn : xs.length = n := by have := h.1; simpa using this
  obtain ⟨g, rfl, hg, _⟩ := own_at h (by omega)
  refine ⟨g, rfl, hg, ?_⟩
  rw [World.ownsRow.cellAt h k (by omega)]
  simp [hk]

theorem shadow_len (g : Geo) (a : Int) : (shadowL g a).length ≤ 3 := by
  by_cases he : (locN g a).e = 0
  · rw [shadow_in he, shTo_len]
    have := (loc_ok he).1.o1
    unfold shCnt; omega
  · rw [shadow_out he]; simp
theorem sec_at {m bs : Nat} {g : Geo} {L : List Sec} {w : World} (hm : Med w m bs g L) {i : Nat} (hi : i < L.length) : ∃ v, w.cell? ⟨bs, i * 2, none⟩ = some (.int .i64 L[i].st) ∧ w.cell? ⟨bs, i * 2 + 1, none⟩ = some v := by
  obtain ⟨c2, _, _, _, _, _, _, _, hs2⟩ := hm.cells
  obtain ⟨q0, v1, q1, _⟩ := hs2 i L[i] (List.getElem?_eq_getElem hi)
  exact ⟨v1, q0, q1⟩
set_option maxRecDepth 100000 in
set_option maxHeartbeats 1000000 in
theorem write_any {m bs : Nat} {g : Geo} {L : List Sec} {w : World} (a : Int) (ha : I64 a) (hm : Med w m bs g L) (hf : Fit g L) (xs : List Int) (A : Option Addr) (c : Nat) (hr : Rd w w.heap.size A (xs.map (Value.int .u8))) (hn : xs.length ≤ 100000) :
    Calls Tryz.prog 85 #[.pointer (some ⟨m, 0, none⟩), .int .i64 a, .slice A xs.length c] w (WritePost w m bs g (writeE L a xs) (writeL g L a xs)) := by
  have HH := Lib.hid (has_any a hm hf)
  cases hin : inL L a
  · have HE : Hid (writeE L a xs = 2) := by unfold Hid writeE; rw [hin]; rfl
    have HB : Hid (writeL g L a xs = L) := by unfold Hid writeL; rw [hin]; rfl
    rw [hin] at HH
    have HM := Lib.hid hm
    clear hin hm hf hr
    go_enter Tryz.func85, Tryz.ntmps85
    go_wp2_with fail
    refine HH.out.mono ?_
    rintro e w' ⟨rfl, rfl⟩
    go_wp2
    go_ret
    exact ⟨by rw [HE.out]; rfl, by rw [HB.out]; exact HM.out, Kept.refl _ _⟩
  · rw [hin] at HH
    by_cases hlen : xs.length ≤ 64
    · have HE : Hid (writeE L a xs = 0) := by unfold Hid writeE; rw [hin, if_pos rfl, if_pos hlen]
      have HB : Hid (writeL g L a xs = destroy (shadowL g a) (L.set a.toNat ⟨1, xs⟩)) := by unfold Hid writeL; rw [hin, decide_eq_true hlen]; rfl
      obtain ⟨h0, h1⟩ := (inL_iff L a).1 hin
      obtain ⟨i, hi, rfl, hg, hd⟩ := get_sec h0 h1
      obtain ⟨cc, p0, p1, p2, p3, p4, p5, hcc, hs⟩ := hm.cells
      obtain ⟨hlm, hlb, hmb⟩ := hm.lt
      have hle := hf.le
      have HC : Hid (∀ W, Below w.heap.size w W → Calls Tryz.prog 82 #[.slice A xs.length c] W (NewBytes W xs)) := by
        unfold Hid; intro W hW; exact cloneb_any xs A c W ((hr.below hW (Nat.le_refl _)).more hW.size) hn
      have HM2 : Hid (∀ W, Below w.heap.size w W → Med W m bs g L) := by unfold Hid; intro W hW; exact hm.below0 hW
      have HF := Lib.hid hf
      have HS := Lib.hid (fun W => gshadow_any g (i : Int) ha W)
      have q4 : (0 : Int) ≤ i := by omega
      have q5 : (i : Int) < L.length := by omega
      rw [Int.toNat_natCast] at HB
      clear hin hm hf hr hg hd hs p0 p1 p2 p3 p4 ha
      go_enter Tryz.func85, Tryz.ntmps85
      go_wp2_with fail
      refine HH.out.mono ?_
      rintro e w' ⟨rfl, rfl⟩
      go_wp2
      go_region_held3 (fun W => W.cell? ⟨m, 5, none⟩ = some (.slice (some ⟨bs, 0, none⟩) L.length cc)) (first | assumption | (simp [World.cell?_setCell_far, *]; done))
        ((go_at_call 82
          refine (HC.out _ ((Below.refl _ _).drew)).mono ?_
          rintro e w2 ⟨v, rfl, hv, hb2⟩
          have hbw2 : Below w.heap.size w w2 := ((Below.refl w.heap.size w).drew).trans hb2
          have hm2 := HM2.out w2 hbw2
          have p5' : w2.cell? ⟨m, 5, none⟩ = some (.slice (some ⟨bs, 0, none⟩) L.length cc) := (hbw2.cell (p := ⟨m, 5, none⟩) hlm).trans p5
          have hbm : ¬ (bs = m) := fun e => hmb e.symm
          have f0 := hm2.free
          have hs2 := sec_at hm2 hi
          obtain ⟨v1, q0, q1⟩ := hs2
          have hv2 := Lib.hid hv
          obtain ⟨A2, c2, rfl, _, _⟩ := hv))
      have hm3 : Med _ m bs g (L.set i ⟨1, xs⟩) := hm2.set hi ⟨1, xs⟩ (.slice A2 xs.length c2) hv2.out
      have hk3 := (belKept0 (S := fun k => k = bs) hbw2).trans (set2_kept w2 bs i (.int .i64 1) (.slice A2 xs.length c2)) (fun _ _ h => h)
      simp only at hm3
      generalize (w2.setCell ⟨bs, i * 2, none⟩ (.int .i64 1)).setCell ⟨bs, i * 2 + 1, none⟩ (.slice A2 xs.length c2) = w3 at *
      clear hv2 hb2 hbw2 q0 q1 f0 hm2 p5' p5 HH HC HM2
      obtain ⟨c3, p0, p1, p2, p3, p4, p5, hc3, _⟩ := hm3.cells
      have HF3 := Lib.hid (HF.out.len (L' := L.set i ⟨1, xs⟩) (by simp))
      have HSR : Hid (∀ s ∈ shadowL g (i : Int), 0 ≤ s ∧ s < (L.set i ⟨1, xs⟩).length) := by
        unfold Hid; intro s hs; exact shadow_range HF3.out hs
      have hss := shadow_len g (i : Int)
      have hL1 := HF3.out.le
      go_wp2_with fail
      refine (HS.out _).mono ?_
      rintro e w4 ⟨A4, c4, rfl, hown4, hb4⟩
      have HX : Hid (writeL g L (i : Int) xs = destroy (shadowL g (i : Int)) (L.set i ⟨1, xs⟩)) := HB
      clear HB
      generalize shadowL g (i : Int) = ss at *
      generalize L.set i ⟨1, xs⟩ = L1 at *
      have hm4 := hm3.below0 hb4
      have hk4 := hk3.thenBelow hb4
      have HI : Hid (∀ k (hk : k < ss.length), ∃ g', A4 = some ⟨g', 0, none⟩ ∧ w3.heap.size ≤ g' ∧ w4.cell? ⟨g', k, none⟩ = some (.int .i64 ss[k])) := by
        unfold Hid; intro k hk; exact ints_at hown4 k hk
      have hlb3 := hm3.lt.2.1
      clear p0 p1 p2 p3 p4 p5 hb4 hm3 HS hown4 hk3
      go_wp2
      go_loopw [8, 37] (fun x v wr => ∃ k : Nat, k ≤ ss.length ∧ v = .int .i64 k ∧ Med wr m bs g (destroy (ss.take k) L1) ∧ Kept (fun k => k = bs) w4 wr) (fun _ v _ => ss.length - (intOf v).toNat)
      case atStart => exact ⟨0, Nat.zero_le _, rfl, hm4, Kept.refl _ _⟩
      case round =>
        obtain ⟨k, hk, rfl, hmr, hkr⟩ := hrel
        by_cases hlt : k < ss.length
        · obtain ⟨g', rfl, hg', hcg⟩ := HI.out k hlt
          obtain ⟨s0, s1⟩ := HSR.out ss[k] (List.getElem_mem hlt)
          have hcr := hkr.cell hcg (by show ¬ (g' = bs); omega)
          have HT := Lib.hid (destroy_take ss k hlt L1)
          have hdl := destroy_len (ss.take k) L1
          obtain ⟨j, hj⟩ := Int.eq_ofNat_of_zero_le s0
          have hjl : j < (destroy (ss.take k) L1).length := by omega
          rw [hj] at hcr HT
          rw [Int.toNat_natCast] at HT
          have q6 : (0 : Int) ≤ j := by omega
          have q7 : (j : Int) < (destroy (ss.take k) L1).length := by omega
          have hk2 : (k : Int) < ss.length := by omega
          have hk0 : (0 : Int) ≤ k := by omega
          obtain ⟨cr, _, _, _, _, _, r5, hcc2, _⟩ := hmr.cells
          obtain ⟨v1, q0, q1⟩ := sec_at hmr hjl
          have f0 := hmr.free
          have hmS : Hid (Med ((wr.setCell ⟨bs, j * 2, none⟩ (.int .i64 2)).setCell ⟨bs, j * 2 + 1, none⟩ (.slice none 0 0)) m bs g ((destroy (ss.take k) L1).set j goneS)) :=
            hmr.set hjl goneS (.slice none 0 0) (Byt.nil _ _)
          have hkS := hkr.trans (set2_kept wr bs j (.int .i64 2) (.slice none 0 0)) (fun _ _ h => h)
          have HKS := Lib.hid hkS
          have hll := Lib.hid hdl
          clear hcg hj s0 s1 hmr hkr hm4 HI hkS hdl
          generalize destroy (ss.take k) L1 = D at *
          go_wp2
          go_roundw
          case rel => exact ⟨k + 1, by omega, by go_num, by rw [HT.out]; exact hmS.out, HKS.out⟩
          case measure => simp [intOf]; omega
        · have hk' : k = ss.length := by omega
          subst hk'
          have hmr' : Med wr m bs g (writeL g L (i : Int) xs) := by rw [HX.out]; rw [List.take_of_length_le (Nat.le_refl _)] at hmr; exact hmr
          have HM' := Lib.hid hmr'
          clear hmr hmr' hm4
          go_wp2
          go_ret
          exact ⟨by rw [HE.out]; rfl, HM'.out, hk4.trans hkr (fun _ _ h => h)⟩
    · have HE : Hid (writeE L a xs = 7) := by unfold Hid writeE; rw [hin, if_pos rfl, if_neg hlen]
      have HB : Hid (writeL g L a xs = L) := by unfold Hid writeL; rw [hin, decide_eq_false hlen]; rfl
      have HM := Lib.hid hm
      clear hin hm hf hr
      go_enter Tryz.func85, Tryz.ntmps85
      go_wp2_with fail
      refine HH.out.mono ?_
      rintro e w' ⟨rfl, rfl⟩
      go_wp2
      go_ret
      exact ⟨by rw [HE.out]; rfl, by rw [HB.out]; exact HM.out, Kept.refl _ _⟩
end Go.Proofs.YtckdhhadlemakaaGreat

/-
  WHAT IS SHOWN: what Write of tegularef11 returns and makes of the medium; what its Read returns. Conditions: the medium lies in memory.
-/
import Derived.Test.YtckdhhadlemakaaGreatMed3
import Derived.Lib.ConvBytes
namespace Go.Proofs.YtckdhhadlemakaaGreat
set_option linter.unusedVariables false
open Go.RowKit

theorem getD_cells {w : World} {B : Nat} {A : Option Addr} {xs : List Int} {b off : Nat} (h : Rd w B A (xs.map (Value.int .u8))) (hA : A = some ⟨b, off, none⟩) : ∀ i, i < xs.length → w.cell? ⟨b, off + i, none⟩ = some (.int .u8 (xs.getD i 0)) := by
  intro i hi
  obtain ⟨g, o, e, _, hc⟩ := h i (.int .u8 xs[i]) (by simp [hi])
  rw [hA] at e
  injection e with e; injection e with e1 e2; subst e1; subst e2
  rw [hc]; simp [List.getD, hi]
set_option maxRecDepth 100000 in
/-- string(b) of a slice that reads as bytes. -/
theorem conv_bytes {w : World} {B : Nat} {A : Option Addr} {xs : List Int} (c : Nat) (h : Rd w B A (xs.map (Value.int .u8))) : (convert 53 9 (.slice A xs.length c)).run Tryz.prog w = .ok (.string (strOfNums xs)) w := by
  cases A with
  | none =>
    have hx := h.at_none
    obtain rfl : xs = [] := by cases xs; rfl; simp at hx
    exact run_convert_bytes_nil w 53 5 Tryz.underlying53 Tryz.underlying5 _ _ 9 Tryz.underlying9
  | some a =>
    cases xs with
    | nil =>
      rw [run_convert_bytes_string w 53 9 5 _ _ c Tryz.underlying53 Tryz.underlying5 Tryz.underlying9]
      rfl
    | cons x xs =>
      obtain ⟨g, o, e, _, hc⟩ := h 0 (.int .u8 x) rfl
      injection e with e
      subst e
      have hcs := getD_cells h rfl
      have key := run_convert_bytes_arg (P := Tryz.prog) w 53 5 Tryz.underlying53 Tryz.underlying5 g o (x :: xs).length c (x :: xs) rfl hcs 9 Tryz.underlying9
      exact key

set_option maxRecDepth 100000 in
set_option maxHeartbeats 1000000 in
theorem rwrite_any {m bs : Nat} {g : Geo} {L : List Sec} {w : World} (a : Int) (ha : I64 a) (hm : RMed w m bs g L) (hf : Fit g L) (xs : List Int) (A : Option Addr) (c : Nat) (hr : Rd w w.heap.size A (xs.map (Value.int .u8))) (hn : xs.length ≤ 100000) :
    Calls Tryz.prog 94 #[.pointer (some ⟨m, 0, none⟩), .int .i64 a, .slice A xs.length c] w (RWritePost w m bs g (writeE L a xs) (writeL g L a xs)) := by
  have HH := Lib.hid (rhas_any a hm hf)
  cases hin : inL L a
  · have HE : Hid (writeE L a xs = 2) := by unfold Hid writeE; rw [hin]; rfl
    have HB : Hid (writeL g L a xs = L) := by unfold Hid writeL; rw [hin]; rfl
    rw [hin] at HH
    have HM := Lib.hid hm
    clear hin hm hf hr
    go_enter Tryz.func94, Tryz.ntmps94
    go_wp2_with fail
    refine HH.out.mono ?_
    rintro e w' ⟨rfl, rfl⟩
    go_wp2
    go_ret
    exact ⟨by rw [HE.out]; rfl, by rw [HB.out]; exact HM.out, Kept.refl _ _⟩
  · rw [hin] at HH
    by_cases hlen : xs.length ≤ 64
    · have HE : Hid (writeE L a xs = 0) := by unfold Hid writeE; rw [hin, if_pos rfl, if_pos hlen]
      have HB : Hid (writeL g L a xs = destroy (shadowL g a) (L.set a.toNat ⟨1, xs⟩)) := by unfold Hid writeL; rw [hin, decide_eq_true hlen]; rfl
      obtain ⟨h0, h1⟩ := (inL_iff L a).1 hin
      obtain ⟨i, hi, rfl, hg, hd⟩ := get_sec h0 h1
      obtain ⟨cc, p0, p1, p2, p3, p4, p5, hcc, _⟩ := hm.cells
      obtain ⟨v1, q0, q1⟩ := rsec_at hm hi
      have f0 := hm.free
      obtain ⟨hlm, hlb, hmb⟩ := hm.lt
      have hle := hf.le
      have hconv : ∀ n, (convert 53 9 (.slice A xs.length c)).run Tryz.prog (w.drewN n) = .ok (.string (strOfNums xs)) (w.drewN n) := fun n => conv_bytes c (hr.drewN n)
      have hconv1 : (convert 53 9 (.slice A xs.length c)).run Tryz.prog w.drew = .ok (.string (strOfNums xs)) w.drew := conv_bytes c (hr.drewN 1)
      have HM3 : Hid (RMed ((w.setCell ⟨bs, i * 2, none⟩ (.int .i64 1)).setCell ⟨bs, i * 2 + 1, none⟩ (.string (strOfNums xs))) m bs g (L.set i ⟨1, xs⟩)) := hm.set hi ⟨1, xs⟩
      have HF := Lib.hid hf
      have HS := Lib.hid (fun W => rshadow_any g (i : Int) ha W)
      have q4 : (0 : Int) ≤ i := by omega
      have q5 : (i : Int) < L.length := by omega
      rw [Int.toNat_natCast] at HB
      generalize hss : strOfNums xs = SS at *
      have HSS := Lib.hid hss
      clear hin hm hf hr hg hd ha hss
      go_enter Tryz.func94, Tryz.ntmps94
      go_wp2_with fail
      refine HH.out.mono ?_
      rintro e w' ⟨rfl, rfl⟩
      go_wp2
      go_region
      all_goals
        have hm3 := HM3.out
        have hk3 := set2_kept w bs i (.int .i64 1) (.string SS)
        clear hconv hconv1 HM3 q0 q1 f0 p0 p1 p2 p3 p4 p5 HH
        generalize (w.setCell ⟨bs, i * 2, none⟩ (.int .i64 1)).setCell ⟨bs, i * 2 + 1, none⟩ (.string SS) = w3 at *
        obtain ⟨c3, p0, p1, p2, p3, p4, p5, hc3, _⟩ := hm3.cells
        have HF3 := Lib.hid (HF.out.len (L' := L.set i ⟨1, xs⟩) (by simp))
        have HSR : Hid (∀ s ∈ shadowL g (i : Int), 0 ≤ s ∧ s < (L.set i ⟨1, xs⟩).length) := by
          unfold Hid; intro s hs; exact shadow_range HF3.out hs
        have hss := shadow_len g (i : Int)
        have hL1 := HF3.out.le
        go_wp2_with fail
        refine (HS.out _).mono ?_
        rintro e w4 ⟨A4, c4, rfl, hown4, hb4⟩
        have HX : Hid (writeL g L (i : Int) xs = destroy (shadowL g (i : Int)) (L.set i ⟨1, xs⟩)) := HB
        clear HB
        generalize shadowL g (i : Int) = ss at *
        generalize L.set i ⟨1, xs⟩ = L1 at *
        have hb4' : Below w3.heap.size w3 w4 := ((Below.refl w3.heap.size w3).drew).trans hb4
        have hm4 := hm3.below0 hb4'
        have hk4 := hk3.thenBelow hb4'
        have HI : Hid (∀ k (hk : k < ss.length), ∃ g', A4 = some ⟨g', 0, none⟩ ∧ w3.heap.size ≤ g' ∧ w4.cell? ⟨g', k, none⟩ = some (.int .i64 ss[k])) := by
          unfold Hid; intro k hk; exact ints_at hown4 k hk
        have hlb3 := hm3.lt.2.1
        clear p0 p1 p2 p3 p4 p5 hb4 hb4' hm3 HS hown4 hk3
        go_wp2
        go_loopw [8] (fun v wr => ∃ k : Nat, k ≤ ss.length ∧ v = .int .i64 k ∧ RMed wr m bs g (destroy (ss.take k) L1) ∧ Kept (fun k => k = bs) w4 wr) (fun v _ => ss.length - (intOf v).toNat)
        case atStart => exact ⟨0, Nat.zero_le _, rfl, hm4, Kept.refl _ _⟩
        case round =>
          obtain ⟨k, hk, rfl, hmr, hkr⟩ := hrel
          by_cases hlt : k < ss.length
          · obtain ⟨g', rfl, hg', hcg⟩ := HI.out k hlt
            obtain ⟨s0, s1⟩ := HSR.out ss[k] (List.getElem_mem hlt)
            have hcr := hkr.cell hcg (by show ¬ (g' = bs); omega)
            have HT := Lib.hid (destroy_take ss k hlt L1)
            have hdl := destroy_len (ss.take k) L1
            obtain ⟨j, hj⟩ := Int.eq_ofNat_of_zero_le s0
            have hjl : j < (destroy (ss.take k) L1).length := by omega
            rw [hj] at hcr HT
            rw [Int.toNat_natCast] at HT
            have q6 : (0 : Int) ≤ j := by omega
            have q7 : (j : Int) < (destroy (ss.take k) L1).length := by omega
            have hk2 : (k : Int) < ss.length := by omega
            have hk0 : (0 : Int) ≤ k := by omega
            obtain ⟨cr, _, _, _, _, _, r5, hcc2, _⟩ := hmr.cells
            obtain ⟨v1, q0, q1⟩ := rsec_at hmr hjl
            have f0 := hmr.free
            have hmS : Hid (RMed ((wr.setCell ⟨bs, j * 2, none⟩ (.int .i64 2)).setCell ⟨bs, j * 2 + 1, none⟩ (.string (strOfNums []))) m bs g ((destroy (ss.take k) L1).set j goneS)) :=
              hmr.set hjl goneS
            have HKS := Lib.hid (hkr.trans (set2_kept wr bs j (.int .i64 2) (.string (strOfNums []))) (fun _ _ h => h))
            have hll := Lib.hid hdl
            clear hcg hj s0 s1 hmr hkr hm4 HI hdl
            generalize destroy (ss.take k) L1 = D at *
            go_wp2
            go_region
            all_goals
              go_wp2
              go_roundw
              case rel => exact ⟨k + 1, by omega, by go_num, by rw [HT.out]; exact hmS.out, HKS.out.drew⟩
              case measure => simp [intOf]; omega
          · have hk' : k = ss.length := by omega
            subst hk'
            have hmr' : RMed wr m bs g (writeL g L (i : Int) xs) := by rw [HX.out]; rw [List.take_of_length_le (Nat.le_refl _)] at hmr; exact hmr
            have HM' := Lib.hid hmr'
            clear hmr hmr' hm4
            go_wp2
            go_ret
            exact ⟨by rw [HE.out]; rfl, HM'.out, hk4.trans hkr (fun _ _ h => h)⟩
    · have HE : Hid (writeE L a xs = 7) := by unfold Hid writeE; rw [hin, if_pos rfl, if_neg hlen]
      have HB : Hid (writeL g L a xs = L) := by unfold Hid writeL; rw [hin, decide_eq_false hlen]; rfl
      have HM := Lib.hid hm
      clear hin hm hf hr
      go_enter Tryz.func94, Tryz.ntmps94
      go_wp2_with fail
      refine HH.out.mono ?_
      rintro e w' ⟨rfl, rfl⟩
      go_wp2
      go_ret
      exact ⟨by rw [HE.out]; rfl, by rw [HB.out]; exact HM.out, Kept.refl _ _⟩
end Go.Proofs.YtckdhhadlemakaaGreat

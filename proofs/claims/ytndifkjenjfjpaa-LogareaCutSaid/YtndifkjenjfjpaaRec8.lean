/-
  WHAT IS SHOWN: what Bytes and Left of the reader of tegularef09, Count and Block of the reader of codec return. Conditions: as each theorem names them.
-/
import Derived.Test.YtndifkjenjfjpaaRec7
namespace Go.Proofs.Ytndifkjenjfjpaa
set_option linter.unusedVariables false
open Go.RowKit

theorem uint_len {ty : TypeId} {w : World} {q : Nat} {r : Rdr} (h : RdrM ty w q r) : r.uint.2.2.rest.length ≤ r.rest.length := by
  obtain ⟨_, _, _, _, hu, _⟩ := h
  unfold Rdr.uint
  split
  · rename_i n l h
    obtain ⟨_, p, hp⟩ := uintD_lt hu h
    rw [hp]; simp
  · exact Nat.zero_le _
theorem left_any {w : World} {q : Nat} {r : Rdr} (h : RdrM 110 w q r) : Calls Try.prog 89 #[.pointer (some ⟨q, 0, none⟩)] w (fun e w' => e = .returned (.int .i64 r.rest.length) ∧ w' = w) := by
  obtain ⟨A, c, hq, hr, hu, hok, hc, hcm, hnn⟩ := h
  obtain ⟨c0, c1, f0, f1⟩ := heap_cells hq
  clear hq hr hu
  go_enter Try.func89, Try.ntmps89
  go_wp2
  go_ret
  exact ⟨rfl, rfl⟩
set_option maxRecDepth 100000 in
set_option maxHeartbeats 1000000 in
theorem rbytes_any {w : World} {q : Nat} {r : Rdr} (hlen : r.rest.length ≤ 1000000) (h : RdrM 110 w q r) : Calls Try.prog 65 #[.pointer (some ⟨q, 0, none⟩)] w (TakePost 110 w q r.bytes) := by
  obtain ⟨i0, hi, hz0, hz1, hz2⟩ := info_parts info_u8
  have hc := ruint_any hlen h
  unfold UintPost at hc
  obtain ⟨hn64, he⟩ := uint_fst h
  have hbad := uint_bad h
  have hl2 := uint_len h
  have HB : Hid (r.bytes = if r.uint.2.1 = 0 then r.uint.2.2.take r.uint.1 else ([], r.uint.2.1, r.uint.2.2)) := rfl
  clear h
  unfold Hid at HB
  generalize r.uint.2.2 = r2 at *
  generalize r.uint.1 = n at *
  generalize r.uint.2.1 = er at *
  have HC := Lib.hid hc
  clear hc
  rcases he with rfl | ⟨rfl, rfl⟩
  · have hbf := hbad rfl
    rw [if_pos rfl] at HB
    by_cases hn : r2.rest.length < n
    · have HBB : Hid (r.bytes = ([], 5, Rdr.fail)) := by unfold Hid; rw [HB]; unfold Rdr.take; rw [if_pos (.inr hn)]
      clear HB
      go_enter Try.func65, Try.ntmps65
      go_wp2_with fail
      refine HC.out.mono ?_
      rintro e w1 ⟨rfl, hp⟩
      obtain ⟨A, c, hq, hr, hu, hok, hcc, hcm, hnn⟩ := hp.1
      obtain ⟨c0, c1, f0, f1⟩ := heap_cells hq
      clear hq hr hu hok hnn
      have HP := Lib.hid hp
      clear hp
      go_wp2_with fail
      refine (rfail_any HP.out.1).mono ?_
      rintro e w2 ⟨rfl, hp2⟩
      have HP2 := Lib.hid (HP.out.trans hp2)
      clear hp2
      go_wp2
      go_ret2
      unfold TakePost
      rw [HBB.out]
      exact ⟨none, 0, rfl, RdT.nil _ _ _, (by intro x hx; cases hx), fun _ => rfl, Nat.le_refl _, HP2.out⟩
    · have HBB : Hid (r.bytes = (r2.rest.take n, 0, ⟨r2.rest.drop n, r2.bad⟩)) := by unfold Hid; rw [HB]; unfold Rdr.take; rw [if_neg (by rintro (h | h); rw [hbf] at h; cases h; exact hn h)]
      clear HB
      have hle : n ≤ r2.rest.length := by omega
      go_enter Try.func65, Try.ntmps65
      go_wp2_with fail
      refine HC.out.mono ?_
      rintro e w1 ⟨rfl, hp⟩
      obtain ⟨A, c, hq, hr, hu, hok, hcc, hcm, hnn⟩ := hp.1
      obtain ⟨c0, c1, f0, f1⟩ := heap_cells hq
      have HK := Lib.hid hp.2
      have hql := lt_of_block hq
      have HQ := Lib.hid hq
      have HR := Lib.hid hr
      have HU := Lib.hid hu
      have HNN := Lib.hid hnn
      have HW : Hid (∀ W, Below w1.heap.size w1 W → ∀ D d, (c = n ∧ D = A ∧ d = 0) ∨ (c ≠ n ∧ D = A.map (fun x => x.add n) ∧ d = c - n) → RdrPost 110 W q ⟨r2.rest.drop n, r2.bad⟩ (W.setCell ⟨q, 0, none⟩ (.slice D (r2.rest.length - n) d))) :=
        fun W hb D d hD => RdrM.went (by decide) (belObj hb hq hql) (hr.below0 hb) hu hok hcc hcm hnn n hle D d hD
      have HLT : Hid ((r2.rest.take n).length = n) := by unfold Hid; simp; omega
      cases A with
      | none =>
        have hx := hr.rd.at_none
        have hl0 : r2.rest = [] := by
          cases h : r2.rest with
          | nil => rfl
          | cons a b => rw [h] at hx; simp at hx
        have hl0' : r2.rest.length = 0 := by rw [hl0]; rfl
        obtain rfl : n = 0 := by omega
        obtain rfl : c = 0 := hnn rfl
        have HB1 : Hid (Below w1.heap.size w1 (w1.alloc (.cells #[] 5))) := (Below.refl _ _).alloc (Nat.le_refl _) _
        have hww := HW.out w1 (Below.refl _ _) none 0 (.inl ⟨rfl, rfl, rfl⟩)
        rw [show r2.rest.length - 0 = 0 by omega] at hww
        have HWW : Hid (RdrPost 110 w q ⟨r2.rest.drop 0, r2.bad⟩ ((w1.setCell ⟨q, 0, none⟩ (.slice none 0 0)).alloc (.cells #[] 5))) :=
          ⟨hww.1.below ((Below.refl _ _).alloc (Nat.le_refl _) _), (HK.out.trans hww.2 (fun _ _ h => h)).alloc _⟩
        have HE : Hid (r2.rest.take 0 = []) := rfl
        clear hq hr hu hok hnn hp hl0 hx HW hww
        go_wp2
        go_ret2
        unfold TakePost
        rw [HBB.out]
        exact ⟨some ⟨w1.heap.size, 0, none⟩, 0, rfl, RdT.nil _ _ _, (by intro x hx; cases hx), (fun h => by cases h), Nat.le_refl _, HWW.out⟩
      | some a =>
        have HAT := Lib.hid (((take_mem hr n).rd.alloc (Nat.le_refl _) (.cells #[] 5)).at_add)
        have hro := World.ownsRow_lit (base := w1.heap.size) (e := 5) (size := 1) w1 #[] 0 (Nat.le_refl _) (by decide) rfl
        clear hq hr hu hok hnn hp
        rw [← List.map_take] at HAT
        go_wp2_with (at_builtin; refine wpList_append_own _ rfl _ _ 25 rfl w1.heap.size 5 i0 _ 1 1 Try.underlying25 hi hz0 hz1 hz2 rfl (by decide) _ 0 [] rfl hro a n c ((r2.rest.take n).map (Value.int .u8)) rfl (by simp; omega) HAT.out (bytes_one _) ?c1 ?c2 ?c3 ?_)
        case c1 => unfold maxLen; omega
        case c2 => omega
        case c3 => simp
        intro v' w' hown hgrow hiff
        try simp only [Nat.zero_add, List.nil_append] at hown
        obtain ⟨A', c', hv⟩ := own_form hown
        subst hv
        have HBL : Hid (Below w1.heap.size w1 w') := ((Below.refl _ _).alloc (Nat.le_refl _) _).grown hgrow (by simp) (fun k hk => by simp [Value.ownBlock] at hk; omega)
        have g0 := (HBL.out.cell (p := ⟨q, 0, none⟩) hql).trans c0
        have g1 := (bcell HBL.out).2 q 0 hql
        rw [f0] at g1
        have HCAP := Lib.hid (own_cap0 hown)
        have HOT : Hid (RdT w' 5 A' ((r2.rest.take n).map (Value.int .u8))) := by unfold Hid; simp only [List.map_take] at hown ⊢; exact RdT.of_own hown
        have HFR : Hid (Free w' 5 (fun k => k = q)) := Free.one (belObj HBL.out HQ.out hql) (by decide)
        clear hro hown hgrow hiff c0 c1 f0 f1
        by_cases hcn : c = n
        · have HWW := Lib.hid (HW.out w' HBL.out (some a) 0 (.inl ⟨hcn, rfl, rfl⟩))
          clear HW
          have hcn' : (c : Int) = n := by omega
          go_wp2
          go_ret2
          unfold TakePost
          rw [HBB.out]
          refine ⟨A', c', ?_, HOT.out.kept HWW.out.2 HFR.out, HU.out.take n, HCAP.out.2.2, ?_, HWW.out.1, (HK.out.trans (belKept0 (S := fun _ => False) HBL.out) (fun _ _ h => h.elim)).trans HWW.out.2 (fun _ _ h => h)⟩
          · show _ = Ending.returned (.tuple #[.slice A' (r2.rest.take n).length c', .int .i64 0]); rw [HLT.out]; rfl
          · have h := HCAP.out.1; rw [HLT.out]; exact h
        · have HWW := Lib.hid (HW.out w' HBL.out (some (a.add n)) (c - n) (.inr ⟨hcn, rfl, rfl⟩))
          clear HW
          go_wp2
          go_ret2
          unfold TakePost
          rw [HBB.out]
          refine ⟨A', c', ?_, HOT.out.kept HWW.out.2 HFR.out, HU.out.take n, HCAP.out.2.2, ?_, HWW.out.1, (HK.out.trans (belKept0 (S := fun _ => False) HBL.out) (fun _ _ h => h.elim)).trans HWW.out.2 (fun _ _ h => h)⟩
          · show _ = Ending.returned (.tuple #[.slice A' (r2.rest.take n).length c', .int .i64 0]); rw [HLT.out]; rfl
          · have h := HCAP.out.1; rw [HLT.out]; exact h
  · rw [if_neg (by decide)] at HB
    have HBB := Lib.hid HB
    clear HB
    go_enter Try.func65, Try.ntmps65
    go_wp2_with fail
    refine HC.out.mono ?_
    rintro e w1 ⟨rfl, hp⟩
    have HP := Lib.hid hp
    clear hp
    go_wp2
    go_ret2
    unfold TakePost
    rw [HBB.out]
    exact ⟨none, 0, rfl, RdT.nil _ _ _, (by intro x hx; cases hx), fun _ => rfl, Nat.le_refl _, HP.out⟩
end Go.Proofs.Ytndifkjenjfjpaa

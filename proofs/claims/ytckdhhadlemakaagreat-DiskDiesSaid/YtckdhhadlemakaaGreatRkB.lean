/-
  WHAT IS SHOWN: what only of tegulalaw14 returns: the acts that are operations, with the key 0. what fair of tegulalaw14 returns. what do of tegulalaw14 returns and leaves: each act on a disk. what want of tegulalaw14 returns and leaves: each act on a disk of the reference. Conditions: as each theorem names them.
-/
import Derived.Test.YtckdhhadlemakaaGreatDisk16
import Derived.Deep.AppendLies
import Derived.Test.YtckdhhadlemakaaGreatDisk12
import Derived.Test.YtckdhhadlemakaaGreatRkA
namespace Go.Proofs.YtckdhhadlemakaaGreat
set_option linter.unusedVariables false
open Go.RowKit

/-- An act. -/
structure ActV where
  disk : Int
  kind : Int
  key : Int
  at_ : Int
  A : Option Addr
  xs : List Int
  c : Nat
  force : Bool
def ActV.cells (a : ActV) : List Value := [.int .u8 a.disk, .int .u8 a.kind, .int .u64 a.key, .int .i64 a.at_, .slice a.A a.xs.length a.c, .bool a.force]
theorem actcells_len (a : ActV) : a.cells.length = 6 := rfl
def flatA (l : List ActV) : List Value := l.flatMap ActV.cells
def onlyA (l : List ActV) : List ActV := (l.filter fun a => decide (a.kind ≤ 3)).map fun a => { a with key := 0 }
theorem flatA_snoc (l : List ActV) (a : ActV) : flatA (l ++ [a]) = flatA l ++ a.cells := by unfold flatA; rw [List.flatMap_append]; simp
theorem onlyA_take (l : List ActV) (k : Nat) (h : k < l.length) : onlyA (l.take (k + 1)) = if l[k].kind ≤ 3 then onlyA (l.take k) ++ [{ l[k] with key := 0 }] else onlyA (l.take k) := by
  unfold onlyA
  rw [List.take_succ_eq_append_getElem h, List.filter_append, List.map_append]
  by_cases hk : l[k].kind ≤ 3
  · rw [if_pos hk]; simp [hk]
  · rw [if_neg hk]; simp [hk]
theorem onlyA_len (l : List ActV) : (onlyA l).length ≤ l.length := by unfold onlyA; rw [List.length_map]; exact List.length_filter_le _ _
theorem acts_at {w : World} {B : Nat} {A : Option Addr} {l : List ActV} (h : Rd w B A (flatA l)) {k : Nat} (hk : k < l.length) : ∃ g o, A = some ⟨g, o, none⟩ ∧ g < B ∧ ∀ t u, l[k].cells[t]? = some u → w.cell? ⟨g, o + k * 6 + t, none⟩ = some u := by
  have e : ∀ t, t < 6 → (flatA l)[k * 6 + t]? = l[k].cells[t]? := fun t ht => by
    unfold flatA; rw [flat_get _ 6 actcells_len l k t ht, List.getElem?_eq_getElem hk]; rfl
  obtain ⟨g, o, e0, hg, _⟩ := h (k * 6 + 0) _ (e 0 (by omega))
  refine ⟨g, o, e0, hg, fun t u hu => ?_⟩
  have ht : t < 6 := (List.getElem?_eq_some_iff.1 hu).1
  obtain ⟨g1, o1, e1, _, h1⟩ := h (k * 6 + t) u ((e t ht).trans hu)
  rw [e0] at e1
  injection e1 with e1; injection e1 with e1 e1'; subst e1; subst e1'
  rw [Nat.add_assoc]; exact h1
theorem info_act : (Tryz.prog.info? 55).map (fun i => (i.zero, i.size, i.bytes)) = some (some (.agg #[.int .u8 0, .int .u8 0, .int .u64 0, .int .i64 0, .slice none 0 0, .bool false]), 6, 56) := by kernel_rfl
set_option maxRecDepth 100000 in
set_option maxHeartbeats 2000000 in
theorem only_any (l : List ActV) (A : Option Addr) (c : Nat) (w : World) (hr : Rd w w.heap.size A (flatA l)) (hn : l.length ≤ 1000) :
    Calls Tryz.prog 9 #[.slice A l.length c] w fun e w' => ∃ A' c', e = .returned (.slice A' (onlyA l).length c') ∧ w'.ownsRow w.heap.size 55 6 (.slice A' (onlyA l).length c') (onlyA l).length (flatA (onlyA l)) ∧ Below w.heap.size w w' := by
  obtain ⟨i0, hi0, hy0, hy1, hy2⟩ := info_parts info_act
  have HR := Lib.hid hr
  clear hr
  go_enter Tryz.func9, Tryz.ntmps9
  go_wp2
  go_loopw [3, 4] (fun s3 s4 wr => ∃ (k : Nat) (DA : Option Addr) (dc : Nat), k ≤ l.length ∧ s4 = .int .i64 k ∧ s3 = .slice DA (onlyA (l.take k)).length dc ∧ wr.ownsRow w.heap.size 55 6 (.slice DA (onlyA (l.take k)).length dc) (onlyA (l.take k)).length (flatA (onlyA (l.take k))) ∧ Below w.heap.size w wr) (fun _ v _ => l.length - (intOf v).toNat)
  case atStart => exact ⟨0, none, 0, Nat.zero_le _, rfl, rfl, ⟨rfl, .inl ⟨rfl, rfl⟩⟩, Below.refl _ _⟩
  case round =>
    obtain ⟨k, DA, dc, hk, rfl, rfl, hor, hbr⟩ := hrel
    have HOR := Lib.hid hor
    clear hor
    by_cases hlt : k < l.length
    · obtain ⟨go, oo, rfl, hgo, hc⟩ := acts_at (HR.out.below hbr (Nat.le_refl _)) hlt
      have c0 := hc 0 _ rfl
      have c1 := hc 1 _ rfl
      have c2 := hc 2 _ rfl
      have c3 := hc 3 _ rfl
      have c4 := hc 4 _ rfl
      have c5 := hc 5 _ rfl
      simp only [Nat.add_zero] at c0
      have HT := Lib.hid (onlyA_take l k hlt)
      have hol := Nat.le_trans (onlyA_len (l.take k)) (by rw [List.length_take]; omega : (l.take k).length ≤ k)
      have k0 : (0 : Int) ≤ k := by omega
      have k1 : (k : Int) < l.length := by omega
      clear hc
      generalize onlyA (l.take k) = dl at *
      generalize l[k] = a at *
      by_cases hkd : a.kind ≤ 3
      · have HT1 : Hid (onlyA (l.take (k + 1)) = dl ++ [{ a with key := 0 }]) := by unfold Hid; rw [HT.out, if_pos hkd]
        clear HT
        have hb1 : Below w.heap.size w ((wr.alloc (.cells #[.int .u8 a.disk, .int .u8 a.kind, .int .u64 0, .int .i64 a.at_, .slice a.A a.xs.length a.c, .bool a.force] 55)).alloc (.cells #[.int .u8 a.disk, .int .u8 a.kind, .int .u64 0, .int .i64 a.at_, .slice a.A a.xs.length a.c, .bool a.force] 55)) := (hbr.alloc hbr.size _).alloc (Nat.le_trans hbr.size (by simp)) _
        have HO2 := Lib.hid ((HOR.out.alloc (.cells #[.int .u8 a.disk, .int .u8 a.kind, .int .u64 0, .int .i64 a.at_, .slice a.A a.xs.length a.c, .bool a.force] 55)).alloc (.cells #[.int .u8 a.disk, .int .u8 a.kind, .int .u64 0, .int .i64 a.at_, .slice a.A a.xs.length a.c, .bool a.force] 55))
        have HB2 : Hid (((wr.alloc (.cells #[.int .u8 a.disk, .int .u8 a.kind, .int .u64 0, .int .i64 a.at_, .slice a.A a.xs.length a.c, .bool a.force] 55)).alloc (.cells #[.int .u8 a.disk, .int .u8 a.kind, .int .u64 0, .int .i64 a.at_, .slice a.A a.xs.length a.c, .bool a.force] 55)).heap[wr.heap.size + 1]? = some (.cells #[.int .u8 a.disk, .int .u8 a.kind, .int .u64 0, .int .i64 a.at_, .slice a.A a.xs.length a.c, .bool a.force] 55 (0, 0))) := by
          unfold Hid; have := heap_alloc_new (wr.alloc (.cells #[.int .u8 a.disk, .int .u8 a.kind, .int .u64 0, .int .i64 a.at_, .slice a.A a.xs.length a.c, .bool a.force] 55)) (.cells #[.int .u8 a.disk, .int .u8 a.kind, .int .u64 0, .int .i64 a.at_, .slice a.A a.xs.length a.c, .bool a.force] 55); rw [World.size_alloc] at this; exact this
        have hbz := hbr.size
        go_wp2_with (at_builtin; refine wpList_append_lies _ rfl _ _ 26 rfl w.heap.size 55 i0 _ 6 56 Tryz.underlying26 hi0 hy0 hy1 hy2 rfl (by decide) _ dl.length (flatA dl) rfl HO2.out ⟨wr.heap.size + 1, 0, none⟩ 1 1 [.int .u8 a.disk, .int .u8 a.kind, .int .u64 0, .int .i64 a.at_, .slice a.A a.xs.length a.c, .bool a.force] rfl rfl (World.news_of_block HB2.out) (by intro u hu; simp at hu; rcases hu with rfl | rfl | rfl | rfl | rfl | rfl <;> rfl) (by decide) (by unfold maxLen; omega) (by omega) (by simp; omega) _ rfl ?_)
        intro q cap w3 hown hgrow hloc hlt3
        have hb3 : Below w.heap.size w w3 := hb1.grown hgrow (by simp; omega) (fun k' hk' => by
          rcases HOR.out.2 with ⟨h2, _⟩ | ⟨g', cap', cur', h2, h3, _⟩
          · rw [h2] at hk'; cases hk'
          · rw [h2] at hk'; injection hk' with hk'; subst hk'; exact h3)
        have HO3 : Hid (w3.ownsRow w.heap.size 55 6 (.slice (some ⟨q, 0, none⟩) (dl ++ [({ a with key := 0 } : ActV)]).length cap) (dl ++ [({ a with key := 0 } : ActV)]).length (flatA (dl ++ [({ a with key := 0 } : ActV)]))) := by
          unfold Hid; rw [List.length_append, flatA_snoc]; exact hown
        have hll : (dl ++ [({ a with key := 0 } : ActV)]).length = dl.length + 1 := by simp
        clear hown hgrow hloc HO2 HB2 hb1
        go_wp2
        go_roundw
        case rel => exact ⟨k + 1, some ⟨q, 0, none⟩, cap, by omega, by go_num, by rw [HT1.out, hll], by rw [HT1.out]; exact HO3.out, hb3⟩
        case measure => simp [intOf]; omega
      · have HT1 : Hid (onlyA (l.take (k + 1)) = dl) := by unfold Hid; rw [HT.out, if_neg hkd]
        clear HT
        go_wp2
        go_roundw
        case rel => exact ⟨k + 1, DA, dc, by omega, by go_num, by rw [HT1.out], by rw [HT1.out]; exact HOR.out, hbr⟩
        case measure => simp [intOf]; omega
    · obtain rfl : k = l.length := by omega
      rw [List.take_of_length_le (Nat.le_refl _)] at *
      go_wp2
      go_ret
      exact ⟨DA, dc, rfl, HOR.out, hbr⟩
end Go.Proofs.YtckdhhadlemakaaGreat
namespace Go.Proofs.YtckdhhadlemakaaGreat
set_option linter.unusedVariables false
open Go.RowKit

def shortA (l : List ActV) : Bool := l.all fun a => decide (a.xs.length ≤ 100)
theorem shortA_iff (l : List ActV) : shortA l = true ↔ ∀ a ∈ l, a.xs.length ≤ 100 := by unfold shortA; simp
def fair14B (g : Geo) (l0 l1 : List Flt) (acts : List ActV) : Bool := (validG g && (decide (szN g ≤ 120) && (decide (acts.length ≤ 60) && (decide (l0.length ≤ 20) && decide (l1.length ≤ 20))))) && (shortA acts && (validF l0 && validF l1))
set_option maxRecDepth 100000 in
set_option maxHeartbeats 4000000 in
theorem fair14_any (g : Geo) (l0 l1 : List Flt) (acts : List ActV) (A0 A1 AA : Option Addr) (c0 c1 ca : Nat) (w : World) (h0 : Rd w w.heap.size A0 (flatF l0)) (h1 : Rd w w.heap.size A1 (flatF l1)) (ha : Rd w w.heap.size AA (flatA acts))
    (n0 : l0.length ≤ 9223372036854775807) (n1 : l1.length ≤ 9223372036854775807) (na : acts.length ≤ 9223372036854775807) (nx : ∀ a ∈ acts, a.xs.length ≤ 9223372036854775807) :
    Calls Tryz.prog 5 #[.agg #[.int .i64 g.random, .int .i64 g.bands, .int .i64 g.tracks, .int .i64 g.sectors, .int .i64 g.overlap, .slice A0 l0.length c0, .slice A1 l1.length c1, .slice AA acts.length ca]] w fun e w' => e = .returned (.bool (fair14B g l0 l1 acts)) ∧ Below w.heap.size w w' := by
  have hb0 : Below w.heap.size w (w.alloc (.cells #[.int .i64 g.random, .int .i64 g.bands, .int .i64 g.tracks, .int .i64 g.sectors, .int .i64 g.overlap, .slice A0 l0.length c0, .slice A1 l1.length c1, .slice AA acts.length ca] 28)) := (Below.refl _ _).alloc (Nat.le_refl _) _
  have o0 := heap_alloc_new w (.cells #[.int .i64 g.random, .int .i64 g.bands, .int .i64 g.tracks, .int .i64 g.sectors, .int .i64 g.overlap, .slice A0 l0.length c0, .slice A1 l1.length c1, .slice AA acts.length ca] 28)
  have HBX : Hid (∀ W, Below (w.heap.size + 1) (w.alloc (.cells #[.int .i64 g.random, .int .i64 g.bands, .int .i64 g.tracks, .int .i64 g.sectors, .int .i64 g.overlap, .slice A0 l0.length c0, .slice A1 l1.length c1, .slice AA acts.length ca] 28)) W →
      Below w.heap.size w W ∧ W.cell? ⟨w.heap.size, 0, none⟩ = some (.int .i64 g.random) ∧ W.cell? ⟨w.heap.size, 1, none⟩ = some (.int .i64 g.bands) ∧ W.cell? ⟨w.heap.size, 2, none⟩ = some (.int .i64 g.tracks) ∧ W.cell? ⟨w.heap.size, 3, none⟩ = some (.int .i64 g.sectors) ∧ W.cell? ⟨w.heap.size, 4, none⟩ = some (.int .i64 g.overlap) ∧
      W.cell? ⟨w.heap.size, 5, none⟩ = some (.slice A0 l0.length c0) ∧ W.cell? ⟨w.heap.size, 6, none⟩ = some (.slice A1 l1.length c1) ∧ W.cell? ⟨w.heap.size, 7, none⟩ = some (.slice AA acts.length ca) ∧ w.heap.size + 1 ≤ W.heap.size) := by
    unfold Hid; intro W hW
    have q := belObj hW o0 (by omega)
    exact ⟨hb0.trans (hW.mono (by omega)), by rw [cell_of_row _ _ _ _ _ _ q]; rfl, by rw [cell_of_row _ _ _ _ _ _ q]; rfl, by rw [cell_of_row _ _ _ _ _ _ q]; rfl, by rw [cell_of_row _ _ _ _ _ _ q]; rfl, by rw [cell_of_row _ _ _ _ _ _ q]; rfl, by rw [cell_of_row _ _ _ _ _ _ q]; rfl, by rw [cell_of_row _ _ _ _ _ _ q]; rfl, by rw [cell_of_row _ _ _ _ _ _ q]; rfl, by have := hW.size; simpa using this⟩
  have HGV := Lib.hid (fun W => rgvalid_any g W)
  have HSZ := Lib.hid (fun W => rsz_any g W)
  have HV0 : Hid (∀ W, Below w.heap.size w W → Calls Tryz.prog 24 #[.slice A0 l0.length c0] W fun e w' => e = .returned (.bool (validF l0)) ∧ Below W.heap.size W w') := by
    unfold Hid; intro W hW; exact rfvalid_any l0 A0 c0 W ((h0.below hW (Nat.le_refl _)).more hW.size) n0
  have HV1 : Hid (∀ W, Below w.heap.size w W → Calls Tryz.prog 24 #[.slice A1 l1.length c1] W fun e w' => e = .returned (.bool (validF l1)) ∧ Below W.heap.size W w') := by
    unfold Hid; intro W hW; exact rfvalid_any l1 A1 c1 W ((h1.below hW (Nat.le_refl _)).more hW.size) n1
  have HRA := Lib.hid ha
  have HNX := Lib.hid nx
  clear h0 h1 ha nx o0
  obtain ⟨_, x0, x1, x2, x3, x4, x5, x6, x7, _⟩ := HBX.out _ (Below.refl _ _)
  cases hv : validG g
  · have HF : Hid (fair14B g l0 l1 acts = false) := by unfold Hid fair14B; rw [hv]; rfl
    rw [hv] at HGV
    clear hv
    skip
    go_enter Tryz.func5, Tryz.ntmps5
    go_wp2_with fail
    refine (HGV.out _).mono ?_
    rintro e w1 ⟨rfl, hb1⟩
    have hbc1 := hb1
    rw [World.size_alloc] at hbc1
    clear x0 x1 x2 x3 x4 x5 x6 x7
    obtain ⟨hbw1, x0, x1, x2, x3, x4, x5, x6, x7, hz1⟩ := HBX.out w1 hbc1
    go_wp2
    go_ret
    exact ⟨by rw [HF.out]; rfl, hbw1⟩
  rw [hv] at HGV
  by_cases hz : szN g ≤ 120
  · by_cases h60 : acts.length ≤ 60
    · by_cases h20 : l0.length ≤ 20
      · by_cases h21 : l1.length ≤ 20
        · have HF : Hid (fair14B g l0 l1 acts = (shortA acts && (validF l0 && validF l1))) := by unfold Hid fair14B; rw [hv, decide_eq_true hz, decide_eq_true h60, decide_eq_true h20, decide_eq_true h21]; rfl
          generalize szN g = Z at *
          clear hv
          skip
          go_enter Tryz.func5, Tryz.ntmps5
          go_wp2_with fail
          refine (HGV.out _).mono ?_
          rintro e w1 ⟨rfl, hb1⟩
          have hbc1 := hb1
          rw [World.size_alloc] at hbc1
          clear x0 x1 x2 x3 x4 x5 x6 x7
          obtain ⟨hbw1, x0, x1, x2, x3, x4, x5, x6, x7, hz1⟩ := HBX.out w1 hbc1
          go_wp2_with fail
          refine (HSZ.out _).mono ?_
          rintro e w2 ⟨rfl, hb2⟩
          have hbc2 := hbc1.trans (hb2.mono hz1)
          clear x0 x1 x2 x3 x4 x5 x6 x7
          obtain ⟨hbw2, x0, x1, x2, x3, x4, x5, x6, x7, hz2⟩ := HBX.out w2 hbc2
          have z1 : ¬ (120 < Z) := by omega
          have z2 : (acts.length : Int) ≤ 60 := by omega
          have z3 : (l0.length : Int) ≤ 20 := by omega
          have z4 : (l1.length : Int) ≤ 20 := by omega
          clear hz h60 h20 h21
          go_wp2
          go_loop [3] (fun v => ∃ k : Nat, k ≤ acts.length ∧ v = .int .i64 k ∧ Hid (∀ i (hi : i < acts.length), i < k → acts[i].xs.length ≤ 100)) (fun v => acts.length - (intOf v).toNat)
          case atStart => exact ⟨0, Nat.zero_le _, rfl, Lib.hid (fun i _ h => by omega)⟩
          case round =>
            obtain ⟨k, hk, rfl, hsh⟩ := hrel
            by_cases hlt : k < acts.length
            · obtain ⟨ga, oa, hAA, hga, hc⟩ := acts_at (HRA.out.below hbw2 (Nat.le_refl _)) hlt
              have c4 := hc 4 _ rfl
              have HN4 := Lib.hid (HNX.out acts[k] (List.getElem_mem hlt))
              have k0 : (0 : Int) ≤ k := by omega
              have k1 : (k : Int) < acts.length := by omega
              subst hAA
              clear hc
              by_cases hx : acts[k].xs.length ≤ 100
              · have hx1 : ¬ ((100 : Int) < (acts[k].xs.length : Int)) := by omega
                have HS1 : Hid (∀ i (hi : i < acts.length), i < k + 1 → acts[i].xs.length ≤ 100) := by
                  unfold Hid; intro i hi h
                  by_cases e : i = k
                  · subst e; exact hx
                  · exact hsh.out i hi (by omega)
                clear hx hsh
                generalize acts[k] = a at *
                go_wp2
                go_round
                case rel => exact ⟨k + 1, by omega, by go_num, HS1⟩
                case measure => simp [intOf]; omega
              · have hx1 : (100 : Int) < (acts[k].xs.length : Int) := by omega
                have HF2 : Hid (fair14B g l0 l1 acts = false) := by
                  unfold Hid; rw [HF.out]
                  have : shortA acts = false := by
                    cases h : shortA acts
                    · rfl
                    · exact absurd ((shortA_iff acts).1 h _ (List.getElem_mem hlt)) hx
                  rw [this]; rfl
                clear hx hsh
                generalize acts[k] = a at *
                go_wp2
                go_ret
                exact ⟨by rw [HF2.out]; rfl, hbw2⟩
            · obtain rfl : k = acts.length := by omega
              have HF2 : Hid (fair14B g l0 l1 acts = (validF l0 && validF l1)) := by
                unfold Hid; rw [HF.out]
                have : shortA acts = true := (shortA_iff acts).2 (fun a ha => by
                  obtain ⟨i, hi, rfl⟩ := List.getElem_of_mem ha
                  exact hsh.out i hi hi)
                rw [this]; rfl
              clear hsh
              cases hv0 : validF l0
              · rw [hv0] at HV0
                have HF3 : Hid (fair14B g l0 l1 acts = false) := by unfold Hid; rw [HF2.out, hv0]; rfl
                clear hv0
                go_wp2_with fail
                refine (HV0.out _ hbw2).mono ?_
                rintro e w3 ⟨rfl, hb3⟩
                have hbw3 := hbw2.trans (hb3.mono hbw2.size)
                clear x0 x1 x2 x3 x4 x5 x6 x7
                obtain ⟨_, x0, x1, x2, x3, x4, x5, x6, x7, hz3⟩ := HBX.out w3 (hbc2.trans (hb3.mono hz2))
                go_wp2
                go_ret
                exact ⟨by rw [HF3.out]; rfl, hbw3⟩
              · rw [hv0] at HV0
                have HF3 : Hid (fair14B g l0 l1 acts = validF l1) := by unfold Hid; rw [HF2.out, hv0]; rfl
                clear hv0
                go_wp2_with fail
                refine (HV0.out _ hbw2).mono ?_
                rintro e w3 ⟨rfl, hb3⟩
                have hbw3 := hbw2.trans (hb3.mono hbw2.size)
                clear x0 x1 x2 x3 x4 x5 x6 x7
                obtain ⟨_, x0, x1, x2, x3, x4, x5, x6, x7, hz3⟩ := HBX.out w3 (hbc2.trans (hb3.mono hz2))
                go_wp2_with fail
                refine (HV1.out _ hbw3).mono ?_
                rintro e w4 ⟨rfl, hb4⟩
                go_wp2
                go_ret
                exact ⟨by rw [HF3.out]; rfl, hbw3.trans (hb4.mono hbw3.size)⟩
        · have HF : Hid (fair14B g l0 l1 acts = false) := by unfold Hid fair14B; rw [decide_eq_false h21]; simp
          generalize szN g = Z at *
          clear hv
          skip
          go_enter Tryz.func5, Tryz.ntmps5
          go_wp2_with fail
          refine (HGV.out _).mono ?_
          rintro e w1 ⟨rfl, hb1⟩
          have hbc1 := hb1
          rw [World.size_alloc] at hbc1
          clear x0 x1 x2 x3 x4 x5 x6 x7
          obtain ⟨hbw1, x0, x1, x2, x3, x4, x5, x6, x7, hz1⟩ := HBX.out w1 hbc1
          go_wp2_with fail
          refine (HSZ.out _).mono ?_
          rintro e w2 ⟨rfl, hb2⟩
          have hbc2 := hbc1.trans (hb2.mono hz1)
          clear x0 x1 x2 x3 x4 x5 x6 x7
          obtain ⟨hbw2, x0, x1, x2, x3, x4, x5, x6, x7, hz2⟩ := HBX.out w2 hbc2
          have z1 : ¬ (120 < Z) := by omega
          have z2 : (acts.length : Int) ≤ 60 := by omega
          have z3 : (l0.length : Int) ≤ 20 := by omega
          have z4 : (20 : Int) < l1.length := by omega
          clear hz h60 h20 h21
          go_wp2
          go_ret
          exact ⟨by rw [HF.out]; rfl, hbw2⟩
      · have HF : Hid (fair14B g l0 l1 acts = false) := by unfold Hid fair14B; rw [decide_eq_false h20]; simp
        generalize szN g = Z at *
        clear hv
        skip
        go_enter Tryz.func5, Tryz.ntmps5
        go_wp2_with fail
        refine (HGV.out _).mono ?_
        rintro e w1 ⟨rfl, hb1⟩
        have hbc1 := hb1
        rw [World.size_alloc] at hbc1
        clear x0 x1 x2 x3 x4 x5 x6 x7
        obtain ⟨hbw1, x0, x1, x2, x3, x4, x5, x6, x7, hz1⟩ := HBX.out w1 hbc1
        go_wp2_with fail
        refine (HSZ.out _).mono ?_
        rintro e w2 ⟨rfl, hb2⟩
        have hbc2 := hbc1.trans (hb2.mono hz1)
        clear x0 x1 x2 x3 x4 x5 x6 x7
        obtain ⟨hbw2, x0, x1, x2, x3, x4, x5, x6, x7, hz2⟩ := HBX.out w2 hbc2
        have z1 : ¬ (120 < Z) := by omega
        have z2 : (acts.length : Int) ≤ 60 := by omega
        have z3 : (20 : Int) < l0.length := by omega
        clear hz h60 h20
        go_wp2
        go_ret
        exact ⟨by rw [HF.out]; rfl, hbw2⟩
    · have HF : Hid (fair14B g l0 l1 acts = false) := by unfold Hid fair14B; rw [decide_eq_false h60]; simp
      generalize szN g = Z at *
      clear hv
      skip
      go_enter Tryz.func5, Tryz.ntmps5
      go_wp2_with fail
      refine (HGV.out _).mono ?_
      rintro e w1 ⟨rfl, hb1⟩
      have hbc1 := hb1
      rw [World.size_alloc] at hbc1
      clear x0 x1 x2 x3 x4 x5 x6 x7
      obtain ⟨hbw1, x0, x1, x2, x3, x4, x5, x6, x7, hz1⟩ := HBX.out w1 hbc1
      go_wp2_with fail
      refine (HSZ.out _).mono ?_
      rintro e w2 ⟨rfl, hb2⟩
      have hbc2 := hbc1.trans (hb2.mono hz1)
      clear x0 x1 x2 x3 x4 x5 x6 x7
      obtain ⟨hbw2, x0, x1, x2, x3, x4, x5, x6, x7, hz2⟩ := HBX.out w2 hbc2
      have z1 : ¬ (120 < Z) := by omega
      have z2 : (60 : Int) < acts.length := by omega
      clear hz h60
      go_wp2
      go_ret
      exact ⟨by rw [HF.out]; rfl, hbw2⟩
  · have HF : Hid (fair14B g l0 l1 acts = false) := by unfold Hid fair14B; rw [decide_eq_false hz]; simp
    generalize szN g = Z at *
    clear hv
    skip
    go_enter Tryz.func5, Tryz.ntmps5
    go_wp2_with fail
    refine (HGV.out _).mono ?_
    rintro e w1 ⟨rfl, hb1⟩
    have hbc1 := hb1
    rw [World.size_alloc] at hbc1
    clear x0 x1 x2 x3 x4 x5 x6 x7
    obtain ⟨hbw1, x0, x1, x2, x3, x4, x5, x6, x7, hz1⟩ := HBX.out w1 hbc1
    go_wp2_with fail
    refine (HSZ.out _).mono ?_
    rintro e w2 ⟨rfl, hb2⟩
    have hbc2 := hbc1.trans (hb2.mono hz1)
    clear x0 x1 x2 x3 x4 x5 x6 x7
    obtain ⟨hbw2, x0, x1, x2, x3, x4, x5, x6, x7, hz2⟩ := HBX.out w2 hbc2
    have z1 : (120 < Z) := by omega
    clear hz
    go_wp2
    go_ret
    exact ⟨by rw [HF.out]; rfl, hbw2⟩
end Go.Proofs.YtckdhhadlemakaaGreat
namespace Go.Proofs.YtckdhhadlemakaaGreat
set_option linter.unusedVariables false
open Go.RowKit

/-- A disk's state with its power supply's. -/
structure DC where
  s : DS
  P : Pow
  L : List Sec
  O : List OpV
def doC (g : Geo) (F : List Flt) (d : DC) (a : ActV) : DC :=
  if a.kind = 0 then ⟨dRdS F d.s d.P d.L (playL g d.L d.O) a.key a.at_, (begD F d.s d.P a.key).P, d.L, d.O⟩
  else if a.kind = 1 then ⟨dWrS F d.s d.P d.L a.key a.at_ a.xs, (begD F d.s d.P a.key).P, dWrLM g F d.s d.P d.L d.O a.key a.at_ a.xs a.force, dWrO g F d.s d.P d.L d.O a.key a.at_ a.xs a.force⟩
  else if a.kind = 2 then ⟨dErS g F d.s d.P d.L d.O a.key a.at_, (begD F d.s d.P a.key).P, d.L, dErO g F d.s d.P d.L d.O a.key a.at_⟩
  else if a.kind = 3 then ⟨dFlS F d.s d.P a.key, (begD F d.s d.P a.key).P, dFlLM g F d.s d.P d.L d.O a.key, dFlO F d.s d.P d.O a.key⟩
  else if a.kind = 4 then ⟨acqS d.s d.P a.key, d.P, d.L, d.O⟩
  else if a.kind = 5 then ⟨{ d.s with dead := true }, d.P, d.L, d.O⟩
  else if a.kind = 6 then ⟨rstS d.s d.P, d.P, rstLM g d.s d.P d.L d.O a.at_, rstO d.s d.P d.O⟩
  else if a.kind = 7 then ⟨d.s, armP d.P a.at_, d.L, d.O⟩
  else if a.kind = 8 then ⟨d.s, { d.P with off := false }, d.L, d.O⟩
  else d
def doEr (g : Geo) (F : List Flt) (d : DC) (a : ActV) : Int :=
  if a.kind = 0 then dRdE F d.s d.P d.L (playL g d.L d.O) a.key a.at_
  else if a.kind = 1 then dWrE F d.s d.P d.L a.key a.at_ a.xs
  else if a.kind = 2 then dErE g F d.s d.P d.L d.O a.key a.at_
  else if a.kind = 3 then (begD F d.s d.P a.key).er
  else if a.kind = 4 then stE d.s d.P
  else if a.kind = 6 then rstE d.s d.P
  else 0
def doBy (g : Geo) (F : List Flt) (d : DC) (a : ActV) : List Int := if a.kind = 0 then dRdB F d.s d.P d.L (playL g d.L d.O) a.key a.at_ else []
def DoDPost (w : World) (B : Bd) (q pw : Nat) (g : Geo) (F : List Flt) (d : DC) (a : ActV) (e : Ending) (w' : World) : Prop :=
  e = .returned (.tuple #[.string (strOfNums (doBy g F d a)), .int .i64 (doEr g F d a)]) ∧ DPm w' B q pw g F (doC g F d a).s (doC g F d a).P (doC g F d a).L (doC g F d a).O ∧ KeptT DAT B w w'
theorem atF_mem : ∀ (l : List Flt) (op : Int), atF l op = noF ∨ atF l op ∈ l
  | [], _ => .inl rfl
  | f :: l, op => by
    unfold atF
    split
    · exact .inr (by simp)
    · rcases atF_mem l op with h | h
      · exact .inl h
      · exact .inr (by simp [h])
theorem begD_to {F : List Flt} (s : DS) (P : Pow) (key : Int) (hF : ∀ f ∈ F, I64 f.to_) : I64 (begD F s P key).f.to_ := by
  have h0 : I64 noF.to_ := noI64
  unfold begD
  repeat' split
  all_goals first | exact h0 | skip
  rcases atF_mem F s.ops with h | h
  · simp only [h]; exact h0
  · exact hF _ h
theorem DPm.power {w w' : World} {B : Bd} {q pw : Nat} {g : Geo} {F : List Flt} {s : DS} {P P' : Pow} {LM : List Sec} {O : List OpV} (h : DPm w B q pw g F s P LM O) (hp : PowM w' B pw P') (hk : KeptT [83] B w w') : DPm w' B q pw g F s P' LM O := by
  obtain ⟨⟨p, FA, fc, hd⟩, _, hf, hs, hB⟩ := h
  exact ⟨⟨p, FA, fc, hd.keptP hk⟩, hp, hf, hs, Nat.le_trans hB hk.size⟩
set_option maxRecDepth 100000 in
set_option maxHeartbeats 4000000 in
theorem ddo_any {w : World} {B : Bd} {q pw q0 q1 : Nat} {g : Geo} {F : List Flt} {d : DC} (a : ActV) (h : DPm w B q pw g F d.s d.P d.L d.O) (hF : ∀ f ∈ F, I64 f.to_) (hn : F.length ≤ 9223372036854775807) (hon : d.O.length ≤ 99000)
    (hq : (Int.tmod a.disk 2 = 0 ∧ q = q0) ∨ (Int.tmod a.disk 2 = 1 ∧ q = q1)) (ha : I64 a.at_) (hr : Rd w B.n a.A (a.xs.map (Value.int .u8))) (hx : a.xs.length ≤ 100000) (hc : a.xs.length ≤ a.c) :
    Calls Tryz.prog 10 #[.agg #[.pointer (some ⟨pw, 0, none⟩), .pointer (some ⟨q0, 0, none⟩), .pointer (some ⟨q1, 0, none⟩)], .agg #[.int .u8 a.disk, .int .u8 a.kind, .int .u64 a.key, .int .i64 a.at_, .slice a.A a.xs.length a.c, .bool a.force]] w (DoDPost w B q pw g F d a) := by
  obtain ⟨dk, kd, key, at_, A, xs, c, force⟩ := a
  obtain ⟨s, P, L, O⟩ := d
  simp only at *
  have hcq : ∀ o : Obj, ((w.alloc (.cells #[.pointer (some ⟨pw, 0, none⟩), .pointer (some ⟨q0, 0, none⟩), .pointer (some ⟨q1, 0, none⟩)] 35)).alloc o).cell? ⟨w.heap.size, 1 + (dk.tmod 2).toNat, none⟩ = some (.pointer (some ⟨q, 0, none⟩)) := by
    intro o
    rcases hq with ⟨hm, rfl⟩ | ⟨hm, rfl⟩ <;> rw [hm] <;> simp
  have hm0 : 0 ≤ dk.tmod 2 := by rcases hq with ⟨hm, _⟩ | ⟨hm, _⟩ <;> omega
  have hm1 : dk.tmod 2 < 2 := by rcases hq with ⟨hm, _⟩ | ⟨hm, _⟩ <;> omega
  have hb0 : Below w.heap.size w ((w.alloc (.cells #[.pointer (some ⟨pw, 0, none⟩), .pointer (some ⟨q0, 0, none⟩), .pointer (some ⟨q1, 0, none⟩)] 35)).alloc (.cells #[.int .u8 dk, .int .u8 kd, .int .u64 key, .int .i64 at_, .slice A xs.length c, .bool force] 55)) := ((Below.refl _ _).alloc (Nat.le_refl _) _).alloc (by simp) _
  have h0 := h.below0 hb0
  have hbn : B.n ≤ w.heap.size := Nat.le_trans B.le h.B
  have hr0 := hr.below hb0 hbn
  have hk0 : KeptT DAT B w _ := KeptT.bel hb0
  have hw0 : ∀ W, KeptT DPT B ((w.alloc (.cells #[.pointer (some ⟨pw, 0, none⟩), .pointer (some ⟨q0, 0, none⟩), .pointer (some ⟨q1, 0, none⟩)] 35)).alloc (.cells #[.int .u8 dk, .int .u8 kd, .int .u64 key, .int .i64 at_, .slice A xs.length c, .bool force] 55)) W → Rd W W.heap.size A (xs.map (Value.int .u8)) := fun W hW =>
    (Kept.rd hW hr0 (fun i hi hS => absurd hS.1.1 (by omega))).more (Nat.le_trans hbn (Nat.le_trans hb0.size hW.size))
  by_cases k0 : kd = 0
  · subst k0
    have HS : Hid (doC g F ⟨s, P, L, O⟩ ⟨dk, 0, key, at_, A, xs, c, force⟩ = ⟨dRdS F s P L (playL g L O) key at_, (begD F s P key).P, L, O⟩ ∧ doEr g F ⟨s, P, L, O⟩ ⟨dk, 0, key, at_, A, xs, c, force⟩ = dRdE F s P L (playL g L O) key at_ ∧ doBy g F ⟨s, P, L, O⟩ ⟨dk, 0, key, at_, A, xs, c, force⟩ = dRdB F s P L (playL g L O) key at_) := ⟨rfl, rfl, rfl⟩
    have HC := Lib.hid (dread_any key at_ h0 hn)
    have HK := Lib.hid hk0
    clear h hr hq hb0 h0 hr0 hk0 hw0
    go_enter Tryz.func10, Tryz.ntmps10
    go_wp2_with fail
    refine HC.out.mono ?_
    rintro e w1 ⟨v, rfl, hv, hd, hk⟩
    have HD := Lib.hid (And.intro hd (HK.out.trans hk))
    clear hd hk HC HK
    generalize dRdB F s P L (playL g L O) key at_ = ys at *
    obtain ⟨A1, c1, rfl, hr1, _⟩ := hv
    have k8 := conv_bytes c1 hr1.rd
    clear hr1
    go_wp2
    go_ret2
    unfold DoDPost
    rw [HS.out.1, HS.out.2.1, HS.out.2.2]
    exact ⟨rfl, HD.out⟩
  by_cases k1 : kd = 1
  · subst k1
    have HS : Hid (doC g F ⟨s, P, L, O⟩ ⟨dk, 1, key, at_, A, xs, c, force⟩ = ⟨dWrS F s P L key at_ xs, (begD F s P key).P, dWrLM g F s P L O key at_ xs force, dWrO g F s P L O key at_ xs force⟩ ∧ doEr g F ⟨s, P, L, O⟩ ⟨dk, 1, key, at_, A, xs, c, force⟩ = dWrE F s P L key at_ xs ∧ doBy g F ⟨s, P, L, O⟩ ⟨dk, 1, key, at_, A, xs, c, force⟩ = []) := ⟨rfl, rfl, rfl⟩
    have HC := Lib.hid (dwrite_any key at_ xs force A c h0 hn hon ha (begD_to s P key hF) hw0 hx hc)
    have HK := Lib.hid hk0
    clear h hr hq hb0 h0 hr0 hk0 hw0
    go_enter Tryz.func10, Tryz.ntmps10
    go_wp2_with fail
    refine HC.out.mono ?_
    rintro e w1 ⟨rfl, hd, hk⟩
    have HD := Lib.hid (And.intro hd (HK.out.trans hk))
    clear hd hk HC HK
    go_wp2
    go_ret2
    unfold DoDPost
    rw [HS.out.1, HS.out.2.1, HS.out.2.2]
    exact ⟨rfl, HD.out⟩
  by_cases k2 : kd = 2
  · subst k2
    have HS : Hid (doC g F ⟨s, P, L, O⟩ ⟨dk, 2, key, at_, A, xs, c, force⟩ = ⟨dErS g F s P L O key at_, (begD F s P key).P, L, dErO g F s P L O key at_⟩ ∧ doEr g F ⟨s, P, L, O⟩ ⟨dk, 2, key, at_, A, xs, c, force⟩ = dErE g F s P L O key at_ ∧ doBy g F ⟨s, P, L, O⟩ ⟨dk, 2, key, at_, A, xs, c, force⟩ = []) := ⟨rfl, rfl, rfl⟩
    have HC := Lib.hid (derase_any key at_ ha h0 hn hon)
    have HK := Lib.hid hk0
    clear h hr hq hb0 h0 hr0 hk0 hw0
    go_enter Tryz.func10, Tryz.ntmps10
    go_wp2_with fail
    refine HC.out.mono ?_
    rintro e w1 ⟨rfl, hd, hk⟩
    have HD := Lib.hid (And.intro hd (HK.out.trans hk))
    clear hd hk HC HK
    go_wp2
    go_ret2
    unfold DoDPost
    rw [HS.out.1, HS.out.2.1, HS.out.2.2]
    exact ⟨rfl, HD.out⟩
  by_cases k3 : kd = 3
  · subst k3
    have HS : Hid (doC g F ⟨s, P, L, O⟩ ⟨dk, 3, key, at_, A, xs, c, force⟩ = ⟨dFlS F s P key, (begD F s P key).P, dFlLM g F s P L O key, dFlO F s P O key⟩ ∧ doEr g F ⟨s, P, L, O⟩ ⟨dk, 3, key, at_, A, xs, c, force⟩ = (begD F s P key).er ∧ doBy g F ⟨s, P, L, O⟩ ⟨dk, 3, key, at_, A, xs, c, force⟩ = []) := ⟨rfl, rfl, rfl⟩
    have HC := Lib.hid (dflush_any key h0 hn hon)
    have HK := Lib.hid hk0
    clear h hr hq hb0 h0 hr0 hk0 hw0
    go_enter Tryz.func10, Tryz.ntmps10
    go_wp2_with fail
    refine HC.out.mono ?_
    rintro e w1 ⟨rfl, hd, hk⟩
    have HD := Lib.hid (And.intro hd (HK.out.trans hk))
    clear hd hk HC HK
    go_wp2
    go_ret2
    unfold DoDPost
    rw [HS.out.1, HS.out.2.1, HS.out.2.2]
    exact ⟨rfl, HD.out⟩
  by_cases k4 : kd = 4
  · subst k4
    have HS : Hid (doC g F ⟨s, P, L, O⟩ ⟨dk, 4, key, at_, A, xs, c, force⟩ = ⟨acqS s P key, P, L, O⟩ ∧ doEr g F ⟨s, P, L, O⟩ ⟨dk, 4, key, at_, A, xs, c, force⟩ = stE s P ∧ doBy g F ⟨s, P, L, O⟩ ⟨dk, 4, key, at_, A, xs, c, force⟩ = []) := ⟨rfl, rfl, rfl⟩
    have HC := Lib.hid (dacquire_any key h0)
    have HK := Lib.hid hk0
    clear h hr hq hb0 h0 hr0 hk0 hw0
    go_enter Tryz.func10, Tryz.ntmps10
    go_wp2_with fail
    refine HC.out.mono ?_
    rintro e w1 ⟨rfl, hd, hk⟩
    have HD := Lib.hid (And.intro hd (HK.out.trans hk))
    clear hd hk HC HK
    go_wp2
    go_ret2
    unfold DoDPost
    rw [HS.out.1, HS.out.2.1, HS.out.2.2]
    exact ⟨rfl, HD.out⟩
  by_cases k5 : kd = 5
  · subst k5
    have HS : Hid (doC g F ⟨s, P, L, O⟩ ⟨dk, 5, key, at_, A, xs, c, force⟩ = ⟨{ s with dead := true }, P, L, O⟩ ∧ doEr g F ⟨s, P, L, O⟩ ⟨dk, 5, key, at_, A, xs, c, force⟩ = 0 ∧ doBy g F ⟨s, P, L, O⟩ ⟨dk, 5, key, at_, A, xs, c, force⟩ = []) := ⟨rfl, rfl, rfl⟩
    have HC := Lib.hid (dkill_any h0)
    have HK := Lib.hid hk0
    clear h hr hq hb0 h0 hr0 hk0 hw0
    go_enter Tryz.func10, Tryz.ntmps10
    go_wp2_with fail
    refine HC.out.mono ?_
    rintro e w1 ⟨rfl, hd, hk⟩
    have HD := Lib.hid (And.intro hd (HK.out.trans hk))
    clear hd hk HC HK
    go_wp2
    go_ret2
    unfold DoDPost
    rw [HS.out.1, HS.out.2.1, HS.out.2.2]
    exact ⟨rfl, HD.out⟩
  by_cases k6 : kd = 6
  · subst k6
    have HS : Hid (doC g F ⟨s, P, L, O⟩ ⟨dk, 6, key, at_, A, xs, c, force⟩ = ⟨rstS s P, P, rstLM g s P L O at_, rstO s P O⟩ ∧ doEr g F ⟨s, P, L, O⟩ ⟨dk, 6, key, at_, A, xs, c, force⟩ = rstE s P ∧ doBy g F ⟨s, P, L, O⟩ ⟨dk, 6, key, at_, A, xs, c, force⟩ = []) := ⟨rfl, rfl, rfl⟩
    have HC := Lib.hid (drestart_any at_ h0 (by omega))
    have HK := Lib.hid hk0
    clear h hr hq hb0 h0 hr0 hk0 hw0
    go_enter Tryz.func10, Tryz.ntmps10
    go_wp2_with fail
    refine HC.out.mono ?_
    rintro e w1 ⟨rfl, hd, hk⟩
    have HD := Lib.hid (And.intro hd (HK.out.trans hk))
    clear hd hk HC HK
    go_wp2
    go_ret2
    unfold DoDPost
    rw [HS.out.1, HS.out.2.1, HS.out.2.2]
    exact ⟨rfl, HD.out⟩
  by_cases k7 : kd = 7
  · subst k7
    have HS : Hid (doC g F ⟨s, P, L, O⟩ ⟨dk, 7, key, at_, A, xs, c, force⟩ = ⟨s, armP P at_, L, O⟩ ∧ doEr g F ⟨s, P, L, O⟩ ⟨dk, 7, key, at_, A, xs, c, force⟩ = 0 ∧ doBy g F ⟨s, P, L, O⟩ ⟨dk, 7, key, at_, A, xs, c, force⟩ = []) := ⟨rfl, rfl, rfl⟩
    have HC := Lib.hid ((arm_any at_ h0.p).mono (fun e w' (hh : _ ∧ _ ∧ _) => (⟨hh.1, DPm.power h0 hh.2.1 hh.2.2, hh.2.2.sub (by unfold DAT; decide)⟩ : e = .returned (.tuple #[]) ∧ DPm w' B q pw g F s (armP P at_) L O ∧ KeptT DAT B _ w')))
    have HK := Lib.hid hk0
    clear h hr hq hb0 h0 hr0 hk0 hw0
    go_enter Tryz.func10, Tryz.ntmps10
    go_wp2_with fail
    refine HC.out.mono ?_
    rintro e w1 ⟨rfl, hd, hk⟩
    have HD := Lib.hid (And.intro hd (HK.out.trans hk))
    clear hd hk HC HK
    go_wp2
    go_ret2
    unfold DoDPost
    rw [HS.out.1, HS.out.2.1, HS.out.2.2]
    exact ⟨rfl, HD.out⟩
  by_cases k8 : kd = 8
  · subst k8
    have HS : Hid (doC g F ⟨s, P, L, O⟩ ⟨dk, 8, key, at_, A, xs, c, force⟩ = ⟨s, { P with off := false }, L, O⟩ ∧ doEr g F ⟨s, P, L, O⟩ ⟨dk, 8, key, at_, A, xs, c, force⟩ = 0 ∧ doBy g F ⟨s, P, L, O⟩ ⟨dk, 8, key, at_, A, xs, c, force⟩ = []) := ⟨rfl, rfl, rfl⟩
    have HC := Lib.hid ((don_any h0.p).mono (fun e w' (hh : _ ∧ _ ∧ _) => (⟨hh.1, DPm.power h0 hh.2.1 hh.2.2, hh.2.2.sub (by unfold DAT; decide)⟩ : e = .returned (.tuple #[]) ∧ DPm w' B q pw g F s { P with off := false } L O ∧ KeptT DAT B _ w')))
    have HK := Lib.hid hk0
    clear h hr hq hb0 h0 hr0 hk0 hw0
    go_enter Tryz.func10, Tryz.ntmps10
    go_wp2_with fail
    refine HC.out.mono ?_
    rintro e w1 ⟨rfl, hd, hk⟩
    have HD := Lib.hid (And.intro hd (HK.out.trans hk))
    clear hd hk HC HK
    go_wp2
    go_ret2
    unfold DoDPost
    rw [HS.out.1, HS.out.2.1, HS.out.2.2]
    exact ⟨rfl, HD.out⟩
  have HS : Hid (doC g F ⟨s, P, L, O⟩ ⟨dk, kd, key, at_, A, xs, c, force⟩ = ⟨s, P, L, O⟩ ∧ doEr g F ⟨s, P, L, O⟩ ⟨dk, kd, key, at_, A, xs, c, force⟩ = 0 ∧ doBy g F ⟨s, P, L, O⟩ ⟨dk, kd, key, at_, A, xs, c, force⟩ = []) := by
    unfold Hid doC doEr doBy
    simp only [if_neg k0, if_neg k1, if_neg k2, if_neg k3, if_neg k4, if_neg k5, if_neg k6, if_neg k7, if_neg k8]
    exact ⟨trivial, trivial, trivial⟩
  have HD := Lib.hid (And.intro h0 hk0)
  have e0 : (kd == 0) = false := by simpa using k0
  have e1 : (kd == 1) = false := by simpa using k1
  have e2 : (kd == 2) = false := by simpa using k2
  have e3 : (kd == 3) = false := by simpa using k3
  have e4 : (kd == 4) = false := by simpa using k4
  have e5 : (kd == 5) = false := by simpa using k5
  have e6 : (kd == 6) = false := by simpa using k6
  have e7 : (kd == 7) = false := by simpa using k7
  have e8 : (kd == 8) = false := by simpa using k8
  clear h hr hq hb0 h0 hr0 hk0 hw0 k0 k1 k2 k3 k4 k5 k6 k7 k8
  go_enter Tryz.func10, Tryz.ntmps10
  go_wp2
  go_ret2
  unfold DoDPost
  rw [HS.out.1, HS.out.2.1, HS.out.2.2]
  exact ⟨rfl, HD.out⟩
end Go.Proofs.YtckdhhadlemakaaGreat
namespace Go.Proofs.YtckdhhadlemakaaGreat
set_option linter.unusedVariables false
open Go.RowKit

def RWantPost (w : World) (B : Bd) (q pw : Nat) (g : Geo) (F : List Flt) (d : DC) (a : ActV) (e : Ending) (w' : World) : Prop :=
  e = .returned (.tuple #[.string (strOfNums (doBy g F d a)), .int .i64 (doEr g F d a)]) ∧ RDPm w' B q pw g F (doC g F d a).s (doC g F d a).P (doC g F d a).L (doC g F d a).O ∧ KeptT RDT B w w'
set_option maxRecDepth 100000 in
set_option maxHeartbeats 4000000 in
theorem rwant_any {w : World} {B : Bd} {q pw q0 q1 : Nat} {g : Geo} {F : List Flt} {d : DC} (pp : Option Addr) (a : ActV) (h : RDPm w B q pw g F d.s d.P d.L d.O) (hF : ∀ f ∈ F, I64 f.to_) (hn : F.length ≤ 9223372036854775807) (hon : d.O.length ≤ 99000)
    (hP : 7 ≤ a.kind → pp = some ⟨pw, 0, none⟩) (hq : (Int.tmod a.disk 2 = 0 ∧ q = q0) ∨ (Int.tmod a.disk 2 = 1 ∧ q = q1)) (ha : I64 a.at_) (hr : Rd w B.n a.A (a.xs.map (Value.int .u8))) (hx : a.xs.length ≤ 100000) (hc : a.xs.length ≤ a.c) :
    Calls Tryz.prog 11 #[.pointer pp, .agg #[.pointer (some ⟨q0, 0, none⟩), .pointer (some ⟨q1, 0, none⟩)], .agg #[.int .u8 a.disk, .int .u8 a.kind, .int .u64 a.key, .int .i64 a.at_, .slice a.A a.xs.length a.c, .bool a.force]] w (RWantPost w B q pw g F d a) := by
  obtain ⟨dk, kd, key, at_, A, xs, c, force⟩ := a
  obtain ⟨s, P, L, O⟩ := d
  simp only at *
  have hcq : ∀ o : Obj, ((w.alloc (.cells #[.pointer (some ⟨q0, 0, none⟩), .pointer (some ⟨q1, 0, none⟩)] 40)).alloc o).cell? ⟨w.heap.size, (dk.tmod 2).toNat, none⟩ = some (.pointer (some ⟨q, 0, none⟩)) := by
    intro o
    rcases hq with ⟨hm, rfl⟩ | ⟨hm, rfl⟩ <;> rw [hm] <;> simp
  have hm0 : 0 ≤ dk.tmod 2 := by rcases hq with ⟨hm, _⟩ | ⟨hm, _⟩ <;> omega
  have hm1 : dk.tmod 2 < 2 := by rcases hq with ⟨hm, _⟩ | ⟨hm, _⟩ <;> omega
  have hb0 : Below w.heap.size w ((w.alloc (.cells #[.pointer (some ⟨q0, 0, none⟩), .pointer (some ⟨q1, 0, none⟩)] 40)).alloc (.cells #[.int .u8 dk, .int .u8 kd, .int .u64 key, .int .i64 at_, .slice A xs.length c, .bool force] 55)) := ((Below.refl _ _).alloc (Nat.le_refl _) _).alloc (by simp) _
  have h0 := h.below0 hb0
  have hbn : B.n ≤ w.heap.size := Nat.le_trans B.le h.B
  have hr0 := hr.below hb0 hbn
  have hk0 : KeptT RDT B w _ := KeptT.bel hb0
  have hw0 : ∀ W, KeptT RDT B ((w.alloc (.cells #[.pointer (some ⟨q0, 0, none⟩), .pointer (some ⟨q1, 0, none⟩)] 40)).alloc (.cells #[.int .u8 dk, .int .u8 kd, .int .u64 key, .int .i64 at_, .slice A xs.length c, .bool force] 55)) W → Rd W W.heap.size A (xs.map (Value.int .u8)) := fun W hW =>
    (Kept.rd hW hr0 (fun i hi hS => absurd hS.1.1 (by omega))).more (Nat.le_trans hbn (Nat.le_trans hb0.size hW.size))
  by_cases k0 : kd = 0
  · subst k0
    have HS : Hid (doC g F ⟨s, P, L, O⟩ ⟨dk, 0, key, at_, A, xs, c, force⟩ = ⟨dRdS F s P L (playL g L O) key at_, (begD F s P key).P, L, O⟩ ∧ doEr g F ⟨s, P, L, O⟩ ⟨dk, 0, key, at_, A, xs, c, force⟩ = dRdE F s P L (playL g L O) key at_ ∧ doBy g F ⟨s, P, L, O⟩ ⟨dk, 0, key, at_, A, xs, c, force⟩ = dRdB F s P L (playL g L O) key at_) := ⟨rfl, rfl, rfl⟩
    have HC := Lib.hid (rdread_any key at_ h0 hn hon)
    have HK := Lib.hid hk0
    clear h hr hq hb0 h0 hr0 hk0 hw0
    go_enter Tryz.func11, Tryz.ntmps11
    go_wp2_with fail
    refine HC.out.mono ?_
    rintro e w1 ⟨v, zs, rfl, hv, hzs, hd, hk⟩
    have HD := Lib.hid (And.intro hd (HK.out.trans hk))
    clear hd hk HC HK
    generalize dRdB F s P L (playL g L O) key at_ = ys at *
    obtain ⟨A1, c1, rfl, hr1, _⟩ := hv
    have k8 := conv_bytes c1 hr1.rd
    rw [hzs] at k8
    clear hr1 hzs
    go_wp2
    go_ret2
    unfold RWantPost
    rw [HS.out.1, HS.out.2.1, HS.out.2.2]
    exact ⟨rfl, HD.out⟩
  by_cases k1 : kd = 1
  · subst k1
    have HS : Hid (doC g F ⟨s, P, L, O⟩ ⟨dk, 1, key, at_, A, xs, c, force⟩ = ⟨dWrS F s P L key at_ xs, (begD F s P key).P, dWrLM g F s P L O key at_ xs force, dWrO g F s P L O key at_ xs force⟩ ∧ doEr g F ⟨s, P, L, O⟩ ⟨dk, 1, key, at_, A, xs, c, force⟩ = dWrE F s P L key at_ xs ∧ doBy g F ⟨s, P, L, O⟩ ⟨dk, 1, key, at_, A, xs, c, force⟩ = []) := ⟨rfl, rfl, rfl⟩
    have HC := Lib.hid (rdwrite_any key at_ xs force A c h0 hn hon ha (begD_to s P key hF) hw0 hx hc)
    have HK := Lib.hid hk0
    clear h hr hq hb0 h0 hr0 hk0 hw0
    go_enter Tryz.func11, Tryz.ntmps11
    go_wp2_with fail
    refine HC.out.mono ?_
    rintro e w1 ⟨rfl, hd, hk⟩
    have HD := Lib.hid (And.intro hd (HK.out.trans hk))
    clear hd hk HC HK
    go_wp2
    go_ret2
    unfold RWantPost
    rw [HS.out.1, HS.out.2.1, HS.out.2.2]
    exact ⟨rfl, HD.out⟩
  by_cases k2 : kd = 2
  · subst k2
    have HS : Hid (doC g F ⟨s, P, L, O⟩ ⟨dk, 2, key, at_, A, xs, c, force⟩ = ⟨dErS g F s P L O key at_, (begD F s P key).P, L, dErO g F s P L O key at_⟩ ∧ doEr g F ⟨s, P, L, O⟩ ⟨dk, 2, key, at_, A, xs, c, force⟩ = dErE g F s P L O key at_ ∧ doBy g F ⟨s, P, L, O⟩ ⟨dk, 2, key, at_, A, xs, c, force⟩ = []) := ⟨rfl, rfl, rfl⟩
    have HC := Lib.hid (rderase_any key at_ ha h0 hn hon)
    have HK := Lib.hid hk0
    clear h hr hq hb0 h0 hr0 hk0 hw0
    go_enter Tryz.func11, Tryz.ntmps11
    go_wp2_with fail
    refine HC.out.mono ?_
    rintro e w1 ⟨rfl, hd, hk⟩
    have HD := Lib.hid (And.intro hd (HK.out.trans hk))
    clear hd hk HC HK
    go_wp2
    go_ret2
    unfold RWantPost
    rw [HS.out.1, HS.out.2.1, HS.out.2.2]
    exact ⟨rfl, HD.out⟩
  by_cases k3 : kd = 3
  · subst k3
    have HS : Hid (doC g F ⟨s, P, L, O⟩ ⟨dk, 3, key, at_, A, xs, c, force⟩ = ⟨dFlS F s P key, (begD F s P key).P, dFlLM g F s P L O key, dFlO F s P O key⟩ ∧ doEr g F ⟨s, P, L, O⟩ ⟨dk, 3, key, at_, A, xs, c, force⟩ = (begD F s P key).er ∧ doBy g F ⟨s, P, L, O⟩ ⟨dk, 3, key, at_, A, xs, c, force⟩ = []) := ⟨rfl, rfl, rfl⟩
    have HC := Lib.hid (rdflush_any key h0 hn hon)
    have HK := Lib.hid hk0
    clear h hr hq hb0 h0 hr0 hk0 hw0
    go_enter Tryz.func11, Tryz.ntmps11
    go_wp2_with fail
    refine HC.out.mono ?_
    rintro e w1 ⟨rfl, hd, hk⟩
    have HD := Lib.hid (And.intro hd (HK.out.trans hk))
    clear hd hk HC HK
    go_wp2
    go_ret2
    unfold RWantPost
    rw [HS.out.1, HS.out.2.1, HS.out.2.2]
    exact ⟨rfl, HD.out⟩
  by_cases k4 : kd = 4
  · subst k4
    have HS : Hid (doC g F ⟨s, P, L, O⟩ ⟨dk, 4, key, at_, A, xs, c, force⟩ = ⟨acqS s P key, P, L, O⟩ ∧ doEr g F ⟨s, P, L, O⟩ ⟨dk, 4, key, at_, A, xs, c, force⟩ = stE s P ∧ doBy g F ⟨s, P, L, O⟩ ⟨dk, 4, key, at_, A, xs, c, force⟩ = []) := ⟨rfl, rfl, rfl⟩
    have HC := Lib.hid (rdacquire_any key h0)
    have HK := Lib.hid hk0
    clear h hr hq hb0 h0 hr0 hk0 hw0
    go_enter Tryz.func11, Tryz.ntmps11
    go_wp2_with fail
    refine HC.out.mono ?_
    rintro e w1 ⟨rfl, hd, hk⟩
    have HD := Lib.hid (And.intro hd (HK.out.trans hk))
    clear hd hk HC HK
    go_wp2
    go_ret2
    unfold RWantPost
    rw [HS.out.1, HS.out.2.1, HS.out.2.2]
    exact ⟨rfl, HD.out⟩
  by_cases k5 : kd = 5
  · subst k5
    have HS : Hid (doC g F ⟨s, P, L, O⟩ ⟨dk, 5, key, at_, A, xs, c, force⟩ = ⟨{ s with dead := true }, P, L, O⟩ ∧ doEr g F ⟨s, P, L, O⟩ ⟨dk, 5, key, at_, A, xs, c, force⟩ = 0 ∧ doBy g F ⟨s, P, L, O⟩ ⟨dk, 5, key, at_, A, xs, c, force⟩ = []) := ⟨rfl, rfl, rfl⟩
    have h9 := h0.store 9 (.bool true) { s with dead := true } (fun _ _ _ => rfl)
    obtain ⟨_, _, _, ⟨_, _, c9, _⟩, _⟩ := h0.cells
    have f9 := h0.free 9
    have HD := Lib.hid (And.intro h9.1 (hk0.trans h9.2))
    clear h9
    clear h hr hq hb0 h0 hr0 hk0 hw0
    go_enter Tryz.func11, Tryz.ntmps11
    go_wp2
    go_ret2
    unfold RWantPost
    rw [HS.out.1, HS.out.2.1, HS.out.2.2]
    exact ⟨rfl, HD.out⟩
  by_cases k6 : kd = 6
  · subst k6
    have HS : Hid (doC g F ⟨s, P, L, O⟩ ⟨dk, 6, key, at_, A, xs, c, force⟩ = ⟨rstS s P, P, rstLM g s P L O at_, rstO s P O⟩ ∧ doEr g F ⟨s, P, L, O⟩ ⟨dk, 6, key, at_, A, xs, c, force⟩ = rstE s P ∧ doBy g F ⟨s, P, L, O⟩ ⟨dk, 6, key, at_, A, xs, c, force⟩ = []) := ⟨rfl, rfl, rfl⟩
    have HC := Lib.hid (rdrestart_any at_ h0 (by omega))
    have HK := Lib.hid hk0
    clear h hr hq hb0 h0 hr0 hk0 hw0
    go_enter Tryz.func11, Tryz.ntmps11
    go_wp2_with fail
    refine HC.out.mono ?_
    rintro e w1 ⟨rfl, hd, hk⟩
    have HD := Lib.hid (And.intro hd (HK.out.trans hk))
    clear hd hk HC HK
    go_wp2
    go_ret2
    unfold RWantPost
    rw [HS.out.1, HS.out.2.1, HS.out.2.2]
    exact ⟨rfl, HD.out⟩
  by_cases k7 : kd = 7
  · subst k7
    have HS : Hid (doC g F ⟨s, P, L, O⟩ ⟨dk, 7, key, at_, A, xs, c, force⟩ = ⟨s, armP P at_, L, O⟩ ∧ doEr g F ⟨s, P, L, O⟩ ⟨dk, 7, key, at_, A, xs, c, force⟩ = 0 ∧ doBy g F ⟨s, P, L, O⟩ ⟨dk, 7, key, at_, A, xs, c, force⟩ = []) := ⟨rfl, rfl, rfl⟩
    obtain rfl : pp = some ⟨pw, 0, none⟩ := hP (by decide)
    have h00 := h0
    obtain ⟨_, ⟨R, hrr, hpw⟩, _⟩ := h00
    have HC := Lib.hid ((rarm_any at_ hpw).mono (fun e w' (hh : _ ∧ _ ∧ _) => (⟨hh.1, RDPm.power h0 hh.2.1 (hrr.arm at_) hh.2.2, hh.2.2.sub rp_rdt⟩ : e = .returned (.tuple #[]) ∧ RDPm w' B q pw g F s (armP P at_) L O ∧ KeptT RDT B _ w')))
    have HK := Lib.hid hk0
    clear h hr hq hb0 h0 hr0 hk0 hw0
    go_enter Tryz.func11, Tryz.ntmps11
    go_wp2_with fail
    refine HC.out.mono ?_
    rintro e w1 ⟨rfl, hd, hk⟩
    have HD := Lib.hid (And.intro hd (HK.out.trans hk))
    clear hd hk HC HK
    go_wp2
    go_ret2
    unfold RWantPost
    rw [HS.out.1, HS.out.2.1, HS.out.2.2]
    exact ⟨rfl, HD.out⟩
  by_cases k8 : kd = 8
  · subst k8
    have HS : Hid (doC g F ⟨s, P, L, O⟩ ⟨dk, 8, key, at_, A, xs, c, force⟩ = ⟨s, { P with off := false }, L, O⟩ ∧ doEr g F ⟨s, P, L, O⟩ ⟨dk, 8, key, at_, A, xs, c, force⟩ = 0 ∧ doBy g F ⟨s, P, L, O⟩ ⟨dk, 8, key, at_, A, xs, c, force⟩ = []) := ⟨rfl, rfl, rfl⟩
    obtain rfl : pp = some ⟨pw, 0, none⟩ := hP (by decide)
    have h00 := h0
    obtain ⟨_, ⟨R, hrr, hpw⟩, _⟩ := h00
    have HC := Lib.hid ((ron_any hpw).mono (fun e w' (hh : _ ∧ _ ∧ _) => (⟨hh.1, RDPm.power h0 hh.2.1 hrr.on hh.2.2, hh.2.2.sub rp_rdt⟩ : e = .returned (.tuple #[]) ∧ RDPm w' B q pw g F s { P with off := false } L O ∧ KeptT RDT B _ w')))
    have HK := Lib.hid hk0
    clear h hr hq hb0 h0 hr0 hk0 hw0
    go_enter Tryz.func11, Tryz.ntmps11
    go_wp2_with fail
    refine HC.out.mono ?_
    rintro e w1 ⟨rfl, hd, hk⟩
    have HD := Lib.hid (And.intro hd (HK.out.trans hk))
    clear hd hk HC HK
    go_wp2
    go_ret2
    unfold RWantPost
    rw [HS.out.1, HS.out.2.1, HS.out.2.2]
    exact ⟨rfl, HD.out⟩
  have HS : Hid (doC g F ⟨s, P, L, O⟩ ⟨dk, kd, key, at_, A, xs, c, force⟩ = ⟨s, P, L, O⟩ ∧ doEr g F ⟨s, P, L, O⟩ ⟨dk, kd, key, at_, A, xs, c, force⟩ = 0 ∧ doBy g F ⟨s, P, L, O⟩ ⟨dk, kd, key, at_, A, xs, c, force⟩ = []) := by
    unfold Hid doC doEr doBy
    simp only [if_neg k0, if_neg k1, if_neg k2, if_neg k3, if_neg k4, if_neg k5, if_neg k6, if_neg k7, if_neg k8]
    exact ⟨trivial, trivial, trivial⟩
  have HD := Lib.hid (And.intro h0 hk0)
  have e0 : (kd == 0) = false := by simpa using k0
  have e1 : (kd == 1) = false := by simpa using k1
  have e2 : (kd == 2) = false := by simpa using k2
  have e3 : (kd == 3) = false := by simpa using k3
  have e4 : (kd == 4) = false := by simpa using k4
  have e5 : (kd == 5) = false := by simpa using k5
  have e6 : (kd == 6) = false := by simpa using k6
  have e7 : (kd == 7) = false := by simpa using k7
  have e8 : (kd == 8) = false := by simpa using k8
  clear h hr hq hb0 h0 hr0 hk0 hw0 k0 k1 k2 k3 k4 k5 k6 k7 k8
  go_enter Tryz.func11, Tryz.ntmps11
  go_wp2
  go_ret2
  unfold RWantPost
  rw [HS.out.1, HS.out.2.1, HS.out.2.2]
  exact ⟨rfl, HD.out⟩
end Go.Proofs.YtckdhhadlemakaaGreat

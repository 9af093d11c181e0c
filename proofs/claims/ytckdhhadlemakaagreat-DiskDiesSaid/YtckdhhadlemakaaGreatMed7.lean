/-
  WHAT IS SHOWN: what Clone of media and of tegularef11 return: a new medium with the same sectors. Conditions: the medium lies in memory.
-/
import Derived.Test.YtckdhhadlemakaaGreatMed6
import Derived.Deep.AppendLies
namespace Go.Proofs.YtckdhhadlemakaaGreat
set_option linter.unusedVariables false
open Go.RowKit

theorem rd_own {w : World} {base : Nat} {e : TypeId} {size n c g : Nat} {xs : List Value} (h : w.ownsRow base e size (.slice (some ⟨g, 0, none⟩) n c) n xs) : Rd w w.heap.size (some ⟨g, 0, none⟩) xs := Rd.of_own h
/-- What cloning returns. -/
def ClonePost (w : World) (g : Geo) (L : List Sec) (e : Ending) (w' : World) : Prop :=
  ∃ m bs, e = .returned (.pointer (some ⟨m, 0, none⟩)) ∧ Med w' m bs g L ∧ w.heap.size ≤ m ∧ w.heap.size ≤ bs ∧ Below w.heap.size w w'
def RClonePost (w : World) (g : Geo) (L : List Sec) (e : Ending) (w' : World) : Prop :=
  ∃ m bs, e = .returned (.pointer (some ⟨m, 0, none⟩)) ∧ RMed w' m bs g L ∧ w.heap.size ≤ m ∧ w.heap.size ≤ bs ∧ Below w.heap.size w w'
set_option maxRecDepth 100000 in
set_option maxHeartbeats 400000 in
theorem clones_any (xs : List Value) (n : Nat) (g c : Nat) (w : World) (hr : Rd w w.heap.size (some ⟨g, 0, none⟩) xs) (hl : xs.length = n * 2) (h1 : ∀ u ∈ xs, u.oneCell' = true) (hn : n ≤ 100000) (hp : 0 < n) :
    Calls Tryz.prog 92 #[.slice (some ⟨g, 0, none⟩) n c] w fun e w' => ∃ g' c', e = .returned (.slice (some ⟨g', 0, none⟩) n c') ∧ w'.ownsRow w.heap.size 133 2 (.slice (some ⟨g', 0, none⟩) n c') n xs ∧ Below w.heap.size w w' := by
  obtain ⟨i0, hi, hz0, hz1, hz2⟩ := info_parts info_sec
  have hnil := fun (w : World) a n c => Lib.run_eql_slice_nil (P := Tryz.prog) w 124 133 a n c 0 0 Tryz.underlying124
  have hro := World.ownsRow_lit (base := w.heap.size) (e := 133) (size := 2) w #[] 0 (Nat.le_refl _) (by decide) rfl
  have hla := hr.alloc (Nat.le_refl _) (.cells #[] 133)
  go_enter Tryz.func92, Tryz.ntmps92
  go_wp2_with (at_builtin; refine wpList_append_own _ rfl _ _ 124 rfl w.heap.size 133 i0 _ 2 32 Tryz.underlying124 hi hz0 hz1 hz2 rfl (by decide) _ 0 [] rfl hro ⟨g, 0, none⟩ n c xs rfl hl hla.at_add h1 ?c1 ?c2 ?c3 ?_)
  case c1 => unfold maxLen; omega
  case c2 => omega
  intro v' w' hown hgrow hiff
  try simp only [Nat.zero_add, List.nil_append] at hown
  obtain ⟨A', c', hv⟩ := own_form hown
  subst hv
  obtain ⟨g', rfl, _, _⟩ := own_at hown hp
  go_wp2
  go_ret
  exact ⟨g', c', rfl, hown, ((Below.refl _ _).alloc (Nat.le_refl _) _).grown hgrow (by simp) (fun k hk => by simp [Value.ownBlock] at hk; omega)⟩

theorem med_copy {w w2 : World} {m bs g' c' : Nat} {g : Geo} {L : List Sec} {base : Nat} (V : List (Int × Value)) (hV : V.length = L.length) (hs : ∀ (i : Nat) (s : Sec), L[i]? = some s → ∃ v, V[i]? = some (s.st, v) ∧ Byt 5 w v s.by_) (hb : Below w.heap.size w w2)
    (ho : w2.ownsRow base 133 2 (.slice (some ⟨g', 0, none⟩) L.length c') L.length (V.flatMap secV)) : Med (w2.alloc (.cells (medObj g g' L.length c') 126)) w2.heap.size g' g L := by
  refine ⟨c', V, heap_alloc_new _ _, own_mono (ho.alloc _) (Nat.zero_le _), hV, fun i s h => ?_⟩
  obtain ⟨v, hv, hB⟩ := hs i s h
  exact ⟨v, hv, (hB.kept (belKept0 (S := fun _ => False) hb) (Free.none _ _)).kept (belKept0 (S := fun _ => False) ((Below.refl _ _).alloc (Nat.le_refl _) _)) (Free.none _ _)⟩
theorem secs_one {w : World} {L : List Sec} {V : List (Int × Value)} (hV : V.length = L.length) (hs : ∀ (i : Nat) (s : Sec), L[i]? = some s → ∃ v, V[i]? = some (s.st, v) ∧ Byt 5 w v s.by_) : ∀ u ∈ V.flatMap secV, u.oneCell' = true := by
  intro u hu
  obtain ⟨p, hp, hu⟩ := List.mem_flatMap.1 hu
  obtain ⟨i, hi⟩ := List.mem_iff_getElem?.1 hp
  have hlt := (List.getElem?_eq_some_iff.1 hi).1
  obtain ⟨v, hv, A, c, hB, _⟩ := hs i L[i] (List.getElem?_eq_getElem (by omega))
  rw [hi] at hv
  injection hv with hv
  subst hv; subst hB
  simp [secV] at hu
  rcases hu with rfl | rfl <;> rfl

set_option maxRecDepth 100000 in
set_option maxHeartbeats 1000000 in
theorem clone_any {m bs : Nat} {g : Geo} {L : List Sec} {w : World} (hm : Med w m bs g L) (hf : Fit g L) : Calls Tryz.prog 71 #[.pointer (some ⟨m, 0, none⟩)] w (ClonePost w g L) := by
  obtain ⟨cc, p0, p1, p2, p3, p4, p5, hcc, _⟩ := hm.cells
  obtain ⟨hlm, hlb, hmb⟩ := hm.lt
  have hle := hf.le
  obtain ⟨c, V, h1, h2, h3, h4⟩ := hm
  have hcc2 : c = cc := by
    have e := (cell_of_row w m 5 _ _ _ h1).symm.trans p5
    injection e with e; injection e
  subst hcc2
  have HC : Hid (∀ W, Below w.heap.size w W → Calls Tryz.prog 92 #[.slice (some ⟨bs, 0, none⟩) L.length c] W fun e w' => ∃ g' c', e = .returned (.slice (some ⟨g', 0, none⟩) L.length c') ∧ w'.ownsRow W.heap.size 133 2 (.slice (some ⟨g', 0, none⟩) L.length c') L.length (V.flatMap secV) ∧ Below W.heap.size W w') := by
    unfold Hid; intro W hW
    exact clones_any (V.flatMap secV) L.length bs c W (((rd_own h2).below hW (Nat.le_refl _)).more hW.size) (by rw [flat_len secV 2 secV_len, h3]) (secs_one h3 h4) (by omega) (by omega)
  have HK : Hid (∀ w2 g' c', Below w.heap.size w w2 → w2.ownsRow w.heap.size 133 2 (.slice (some ⟨g', 0, none⟩) L.length c') L.length (V.flatMap secV) → Med (w2.alloc (.cells (medObj g g' L.length c') 126)) w2.heap.size g' g L) := by
    unfold Hid; intro w2 g' c' hb ho; exact med_copy (m := m) (bs := bs) V h3 h4 hb ho
  clear h1 h2 h3 h4 hf
  go_enter Tryz.func71, Tryz.ntmps71
  go_wp2
  go_region_held3 (fun W => W.cell? ⟨m, 0, none⟩ = some (.int .i64 g.random) ∧ W.cell? ⟨m, 1, none⟩ = some (.int .i64 g.bands) ∧ W.cell? ⟨m, 2, none⟩ = some (.int .i64 g.tracks) ∧ W.cell? ⟨m, 3, none⟩ = some (.int .i64 g.sectors) ∧ W.cell? ⟨m, 4, none⟩ = some (.int .i64 g.overlap) ∧ W.cell? ⟨m, 5, none⟩ = some (.slice (some ⟨bs, 0, none⟩) L.length c))
    (first | (refine ⟨?_, ?_, ?_, ?_, ?_, ?_⟩ <;> assumption) | (simp (maxDischargeDepth := 20) [World.cell?_alloc_some, *]; done))
    ((go_at_call 92
      refine (HC.out _ ((Below.refl w.heap.size w).drew)).mono ?_
      rintro e w2 ⟨g2, c2, rfl, hown2, hb2⟩
      have hw2 : Below w.heap.size w w2 := ((Below.refl w.heap.size w).drew).trans hb2
      have hm2 := HK.out w2 g2 c2 hw2 hown2
      have q0 := (hw2.cell (p := ⟨m, 0, none⟩) hlm).trans p0
      have q1 := (hw2.cell (p := ⟨m, 1, none⟩) hlm).trans p1
      have q2 := (hw2.cell (p := ⟨m, 2, none⟩) hlm).trans p2
      have q3 := (hw2.cell (p := ⟨m, 3, none⟩) hlm).trans p3
      have q4 := (hw2.cell (p := ⟨m, 4, none⟩) hlm).trans p4
      have q5 := (hw2.cell (p := ⟨m, 5, none⟩) hlm).trans p5))
  have hg2 : w.heap.size ≤ g2 := (hown2.lt g2 rfl).1
  have HM2 := Lib.hid hm2
  have hbs := hw2.size
  clear q0 q1 q2 q3 q4 q5 p0 p1 p2 p3 p4 p5 hm2 hown2
  go_wp2
  go_ret
  exact ⟨w2.heap.size, g2, rfl, HM2.out, hbs, hg2, hw2.alloc hbs _⟩

set_option maxRecDepth 100000 in
set_option maxHeartbeats 1000000 in
theorem rclone_any {m bs : Nat} {g : Geo} {L : List Sec} {w : World} (hm : RMed w m bs g L) (hf : Fit g L) : Calls Tryz.prog 73 #[.pointer (some ⟨m, 0, none⟩)] w (RClonePost w g L) := by
  obtain ⟨i0, hi, hz0, hz1, hz2⟩ := info_parts info_rsec
  obtain ⟨cc, p0, p1, p2, p3, p4, p5, hcc, _⟩ := hm.cells
  obtain ⟨hlm, hlb, hmb⟩ := hm.lt
  have hle := hf.le
  obtain ⟨c, h1, h2⟩ := hm
  have hcc2 : c = cc := by
    have e := (cell_of_row w m 5 _ _ _ h1).symm.trans p5
    injection e with e; injection e
  subst hcc2
  have hrd := rd_own h2
  have hone : ∀ u ∈ L.flatMap recV, u.oneCell' = true := by
    intro u hu
    obtain ⟨s, _, hu⟩ := List.mem_flatMap.1 hu
    simp [recV] at hu
    rcases hu with rfl | rfl <;> rfl
  have hflen : (L.flatMap recV).length = L.length * 2 := flat_len recV 2 recV_len L
  have hlp : 0 < L.length := by omega
  have hro := World.ownsRow_lit (base := w.heap.size) (e := 123) (size := 2) w.drew #[] 0 (Nat.le_refl _) (by decide) rfl
  have hla := Rd.alloc (w := w.drew) (hrd.drewN 1) (Nat.le_refl _) (.cells #[] 123)
  have HL := Lib.hid hla
  clear h1 h2 hf hrd hla
  go_enter Tryz.func73, Tryz.ntmps73
  go_wp2
  go_region_held3 (fun W => W.cell? ⟨m, 0, none⟩ = some (.int .i64 g.random) ∧ W.cell? ⟨m, 1, none⟩ = some (.int .i64 g.bands) ∧ W.cell? ⟨m, 2, none⟩ = some (.int .i64 g.tracks) ∧ W.cell? ⟨m, 3, none⟩ = some (.int .i64 g.sectors) ∧ W.cell? ⟨m, 4, none⟩ = some (.int .i64 g.overlap) ∧ W.cell? ⟨m, 5, none⟩ = some (.slice (some ⟨bs, 0, none⟩) L.length c))
    (first | (refine ⟨?_, ?_, ?_, ?_, ?_, ?_⟩ <;> assumption) | (simp (maxDischargeDepth := 20) [World.cell?_alloc_some, *]; done))
    ((refine step_append_lies _ rfl _ _ 92 rfl w.heap.size 123 i0 _ 2 24 Tryz.underlying92 hi hz0 hz1 hz2 rfl (by decide) _ 0 [] rfl hro ⟨bs, 0, none⟩ L.length c (L.flatMap recV) rfl hflen (HL.out.at_add) hone hlp (by unfold maxLen; omega) (by omega) (by simp) _ rfl ?_
      intro g2 c2 w2 hown2 hgr2 hloc2 hlt2
      have hw2 : Below w.heap.size w w2 := (((Below.refl w.heap.size w).drew).alloc (Nat.le_refl _) _).grown hgr2 (by simp) (fun k hk => (hro.lt k hk).1)
      have q0 := (hw2.cell (p := ⟨m, 0, none⟩) hlm).trans p0
      have q1 := (hw2.cell (p := ⟨m, 1, none⟩) hlm).trans p1
      have q2 := (hw2.cell (p := ⟨m, 2, none⟩) hlm).trans p2
      have q3 := (hw2.cell (p := ⟨m, 3, none⟩) hlm).trans p3
      have q4 := (hw2.cell (p := ⟨m, 4, none⟩) hlm).trans p4
      have q5 := (hw2.cell (p := ⟨m, 5, none⟩) hlm).trans p5))
  have hg2 : w.heap.size ≤ g2 := (hown2.lt g2 rfl).1
  have HM2 : Hid (RMed (w2.alloc (.cells (medObj g g2 L.length c2) 94)) w2.heap.size g2 g L) := by
    unfold Hid
    have h := hown2
    try simp only [Nat.zero_add, List.nil_append] at h
    exact ⟨c2, heap_alloc_new _ _, own_mono (World.ownsRow.alloc h _) (Nat.zero_le _)⟩
  have hbs := hw2.size
  clear q0 q1 q2 q3 q4 q5 p0 p1 p2 p3 p4 p5 hown2
  go_wp2
  go_ret
  exact ⟨w2.heap.size, g2, rfl, HM2.out, hbs, hg2, hw2.alloc hbs _⟩
end Go.Proofs.YtckdhhadlemakaaGreat

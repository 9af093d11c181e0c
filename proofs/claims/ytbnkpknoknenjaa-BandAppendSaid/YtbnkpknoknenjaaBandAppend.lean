/-
  WHAT IS SHOWN: tegulalaw16.BandAppend returns true for any list of bands, any size, band and time, and changes nothing. No condition.
-/
import Derived.Test.YtbnkpknoknenjaaBand6
import Derived.Test.YtbnkpknoknenjaaOpen
namespace Go.Proofs.Ytbnkpknoknenjaa
set_option linter.unusedVariables false
open Go.ChangeShapes Go.WideShapes Go.ChangeAt Go.RowKit

def incBI (b : BI) : BI := ⟨wrap64 (b.used + 1), b.live, b.age, b.wear⟩
def incL (k : Nat) (l : List BI) : List BI := (l.take k).map incBI ++ l.drop k
theorem incL_len (k : Nat) (l : List BI) : (incL k l).length = l.length := by simp [incL]; omega
theorem incL_get (k : Nat) (l : List BI) (h : k < l.length) : (incL k l)[k]? = some l[k] := by
  unfold incL
  rw [List.getElem?_append_right (by simp; omega)]
  simp [Nat.min_eq_left (Nat.le_of_lt h)]
theorem incL_set (k : Nat) (l : List BI) (h : k < l.length) : incL (k + 1) l = (incL k l).set k (incBI l[k]) := by
  unfold incL
  rw [List.take_succ_eq_append_getElem h, List.map_append, List.append_assoc, List.set_append_right _ _ (by simp; omega)]
  congr 1
  rw [List.drop_eq_getElem_cons h]
  rw [List.length_map, List.length_take, Nat.min_eq_left (Nat.le_of_lt h), Nat.sub_self]; rfl
theorem flat_inc (l : List BI) (k : Nat) (h : k < l.length) : flat (incL (k + 1) l) = (flat (incL k l)).set (k * 4) (.int .i64 (wrap64 (l[k].used + 1))) := by
  rw [incL_set k l h, ← Nat.add_zero (k * 4)]
  exact flat_set _ k l[k] _ 0 _ (incL_get k l h) (by omega) rfl
theorem appL_small (l : List BI) (x y z : Int) (h : l.length ≤ 100) : (appL l x y z).length ≤ 100 := by
  unfold appL; split
  · simpa using h
  · simp

set_option maxHeartbeats 1000000 in
theorem bandAppend_walk (A : Option Addr) (n c : Nat) (l : List BI) (x y z : Int) (w : World) (hb : Bands w A n c l) :
    Calls Try.prog 4 #[.agg #[.slice A n c, .int .i64 x, .int .i64 y, .int .u64 z]] w fun e w' => e = .returned (.bool true) ∧ Below w.heap.size w w' := by
  obtain ⟨rfl, hl, hok, _, hbig⟩ := hb
  have hbl0 : Below w.heap.size w (w.alloc (.cells #[.slice A l.length c, .int .i64 x, .int .i64 y, .int .u64 z] 29)) := (Below.refl _ _).alloc (Nat.le_refl _) _
  by_cases hn : l.length ≤ 100
  · go_enter Try.func4, Try.ntmps4
    go_wp2_with fail
    refine (awake_any _).mono ?_
    rintro e w1 ⟨rfl, hb1⟩
    have hbl1 := hbl0.trans (hb1.mono hbl0.size)
    have PB := (Cells4.new w 29 (.slice A l.length c) (.int .i64 x) (.int .i64 y) (.int .u64 z)).below hb1 (by simp)
    have hz1 : w.heap.size < w1.heap.size := by have := hb1.size; simp at this; omega
    clear hb1 hbl0
    have p0 := PB.c0
    have p1 := PB.c1
    have p2 := PB.c2
    have p3 := PB.c3
    go_wp2_with fail
    refine (copied_any l A c _ ((hl.below hbl1 (Nat.le_refl _)).more hbl1.size) (by omega)).mono ?_
    rintro e w2 ⟨A2, c2, rfl, hown2, hb2⟩
    have hbl2 := hbl1.trans (hb2.mono hbl1.size)
    have HO2 := (Rd.of_own hown2)
    clear hown2
    have hz2 := hb2.size
    clear p0 p1 p2 p3
    have PB2 := PB.below hb2 hz1
    have p0 := PB2.c0
    have p1 := PB2.c1
    have p2 := PB2.c2
    have p3 := PB2.c3
    go_wp2_with fail
    refine (append_any l x y z hok A2 c2 _ HO2 (by omega)).mono ?_
    rintro e w3 ⟨A3, c3, rfl, hown3, hb3⟩
    have hbl3 := hbl2.trans (hb3.mono hbl2.size)
    have hz3 := hb3.size
    clear p0 p1 p2 p3
    have PB3 := PB2.below hb3 (by omega)
    have p0 := PB3.c0
    have p1 := PB3.c1
    have p2 := PB3.c2
    have p3 := PB3.c3
    go_wp2_with fail
    refine (rappend_any l x y z hok A c _ ((hl.below hbl3 (Nat.le_refl _)).more hbl3.size) (by omega)).mono ?_
    rintro e w4 ⟨A4, c4, rfl, hown4, hb4⟩
    have hbl4 := hbl3.trans (hb4.mono hbl3.size)
    have hz4 := hb4.size
    clear p0 p1 p2 p3
    have PB4 := PB3.below hb4 (by omega)
    have HL := Lib.hid (appL_small l x y z hn)
    generalize appL l x y z = L at *
    generalize appE l x y = E at *
    have hLn : L.length ≤ 100 := HL.out
    have HO4 := HO2.below (hb3.trans (hb4.mono hz3)) (Nat.le_refl _)
    have HB3 : Below w2.heap.size w2 w4 := hb3.trans (hb4.mono hz3)
    have hown3' := hown3
    have hown34 : World.ownsRow w4 w2.heap.size 35 4 (.slice A3 L.length c3) L.length (flat L) := by
      refine ⟨hown3.1, ?_⟩
      rcases hown3.2 with h | ⟨g, cap, cur, h1, h2, h3, h4⟩
      · exact .inl h
      · exact .inr ⟨g, cap, cur, h1, h2, (hb4.block g (lt_of_block h3)).trans h3, h4⟩
    have hA3 : ∀ g, A3 = some ⟨g, 0, none⟩ → g < w3.heap.size := by
      intro g hg
      rcases hown3.2 with ⟨h, _⟩ | ⟨g', cap, cur, h1, h2, h3, h4⟩
      · subst hg; cases h
      · subst hg; injection h1 with h1; injection h1 with h1; injection h1 with h1; subst h1; exact lt_of_block h3
    clear hown3 hown3' hb2 hb3 hb4
    clear PB PB2 PB3
    go_wp2
    go_loopw [8] (fun i wr => ∃ k : Nat, k ≤ L.length ∧ i = .int .i64 k ∧ World.ownsRow wr w2.heap.size 35 4 (.slice A3 L.length c3) L.length (flat (incL k L)) ∧ World.ownsRow wr w3.heap.size 35 4 (.slice A4 L.length c4) L.length (flat (incL k L)) ∧ Below w2.heap.size w4 wr) (fun i _ => L.length - (intOf i).toNat)
    case atStart => exact ⟨0, Nat.zero_le _, rfl, hown34, hown4, Below.refl _ _⟩
    case round =>
      obtain ⟨k, hk, rfl, ho3, ho4, hbr⟩ := hrel
      by_cases hlt : k < L.length
      · obtain ⟨g3, e3, hg3, hs3⟩ := own_at ho3 (by omega)
        obtain ⟨g4, e4, hg4, hs4⟩ := own_at ho4 (by omega)
        have hg34 : g3 < w3.heap.size := hA3 g3 e3
        subst e3; subst e4
        obtain ⟨g', o, e, _, a0, _, _, _⟩ := (Rd.of_own ho3).band (incL_get k L hlt)
        simp only [Option.some.injEq, Addr.mk.injEq, and_true] at e
        obtain ⟨rfl, rfl⟩ := e
        obtain ⟨g', o, e, _, b0, _, _, _⟩ := (Rd.of_own ho4).band (incL_get k L hlt)
        simp only [Option.some.injEq, Addr.mk.injEq, and_true] at e
        obtain ⟨rfl, rfl⟩ := e
        simp only [Nat.zero_add] at a0 b0
        have hne : g3 ≠ g4 := by omega
        have b0' : ∀ u, (wr.setCell ⟨g3, k * 4, none⟩ u).cell? ⟨g4, k * 4, none⟩ = some (.int .i64 L[k].used) := fun u => by
          rw [World.cell?_setCell_other _ _ _ _ (by simp)]; exact b0
        have f3 := fun j => ho3.frozenAt j
        have f4 := fun j => ho4.frozenAt j
        have HI := Lib.hid (flat_inc L k hlt)
        have s3 := Lib.hid (World.ownsRow.stored ho3 (k * 4) (.int .i64 (wrap64 (L[k].used + 1)))).1
        have s4 := Lib.hid (World.ownsRow.stored (ownsRow_setCell_other ho4 (a := ⟨g3, k * 4, none⟩) (by simp [Value.ownBlock]; omega) (.int .i64 (wrap64 (L[k].used + 1)))) (k * 4) (.int .i64 (wrap64 (L[k].used + 1)))).1
        have s5 := Lib.hid (ownsRow_setCell_other s3.out (a := ⟨g4, k * 4, none⟩) (by simp [Value.ownBlock]; omega) (.int .i64 (wrap64 (L[k].used + 1))))
        clear HL hA3 ho3 ho4
        go_wp2
        go_roundw
        case rel => exact ⟨k + 1, by omega, by go_num, by rw [HI.out]; exact s5.out, by rw [HI.out]; exact s4.out, (hbr.setCell (p := ⟨g3, k * 4, none⟩) hg3 _).setCell (p := ⟨g4, k * 4, none⟩) (by simp; omega) _⟩
        case measure => simp [intOf]; omega
      · have hk' : k = L.length := by omega
        have r3 := Rd.of_own ho3
        have r4 := Rd.of_own ho4
        have hil := incL_len k L
        have PB5 := PB4.below hbr (by omega)
        have hblr : Below w.heap.size w wr := hbl4.trans (hbr.mono (by have := hbl1.size; omega))
        have HO5 := (HO4.below hbr (Nat.le_refl _)).more (B' := wr.heap.size) (by have := hbr.size; omega)
        have hrl := (hl.below hblr (Nat.le_refl _)).more hblr.size
        have hs1 := fun W h1 h2 => same_true (incL k L) A3 A4 c3 c4 W h1 h2 (by rw [incL_len]; omega)
        rw [hil] at hs1
        have HS1 := Lib.hid hs1
        clear hs1 hil ho3 ho4 hown34 hown4 HL hA3
        subst hk'
        go_wp2_with fail
        refine (HS1.out wr r3 r4).mono ?_
        rintro e w5 ⟨rfl, hb5⟩
        have hb5s := hb5.size
        have PB6 := PB5.below hb5 (by have := hblr.size; have := PB5.c0; have h := block_lt_of_cell this; exact h)
        have p0 := PB6.c0
        have p1 := PB6.c1
        have p2 := PB6.c2
        have p3 := PB6.c3
        go_wp2_with fail
        refine (same_true l A2 A c2 c w5 ((HO5.below hb5 (Nat.le_refl _)).more hb5s) ((hrl.below hb5 (Nat.le_refl _)).more hb5s) (by omega)).mono ?_
        rintro e w6 ⟨rfl, hb6⟩
        go_wp2
        go_ret
        exact ⟨by simp, hblr.trans ((hb5.trans (hb6.mono hb5s)).mono hblr.size)⟩
  · go_enter Try.func4, Try.ntmps4
    go_wp2_with fail
    refine (awake_any _).mono ?_
    rintro e w1 ⟨rfl, hb1⟩
    have hbl1 := hbl0.trans (hb1.mono hbl0.size)
    have PB := (Cells4.new w 29 (.slice A l.length c) (.int .i64 x) (.int .i64 y) (.int .u64 z)).below hb1 (by simp)
    have p0 := PB.c0
    have p1 := PB.c1
    have p2 := PB.c2
    have p3 := PB.c3
    go_wp2_with fail
    refine (awake_any _).mono ?_
    rintro e w2 ⟨rfl, hb2⟩
    go_wp2
    go_ret
    exact ⟨rfl, hbl1.trans (hb2.mono hbl1.size)⟩

set_option maxRecDepth 100000 in
theorem bandAppend_lifted (os : Os) (started : os.Started) (H : Type) (enc : TypeId × Value → H) :
    ReturnsInHanded {} Try.checked os 4 .any (Rows.bandAppendSpec.pre6 enc Try.prog Try.f4 Rows.bandAppendRow.domain false) (Rows.bandAppendSpec.post enc Try.prog Try.f4 false true false false) := by
  refine returnsInHanded_of_change (C := Try.checked) own started (by kernel_rfl) Try.func4
    (ChangeSpec.witness6 (enc := enc) (C := Try.checked) false ⟨#[], #[.agg #[.slice none 0 0, .int .i64 0, .int .i64 0, .int .u64 0]], []⟩ 8 (by kernel_rfl) (by kernel_rfl) (by kernel_rfl) (by kernel_rfl)) ?_
  intro W base args ds gs before hval0 hW hcnd _
  have hval : ∀ (j : Nat) t v, Try.f4.params[j]? = some t → args[j]? = some v → Value.okWide Try.prog W .any base t v := hval0
  have hW' := hW
  obtain ⟨p, q, hA0, hV, rfl, hfz, hnd⟩ := hW
  have hA : DataW.TrodAll enc Try.prog W 0 (fun _ => true) true Try.f4.params.toList args.toList ds p := hA0
  rw [Try.params4] at hA hval
  obtain ⟨v0, vs0, d0, ds0, p0, q0, hargs, rfl, rfl, h0, r0⟩ := trodAll_cons hA
  obtain ⟨rfl, rfl, rfl⟩ := trodAll_nil r0
  obtain rfl : args = #[v0] := by cases args; simp_all
  obtain ⟨rfl, rfl⟩ := trodVars_none hV
  have k0 := h0
  have lt0 : ∀ x ∈ p0, x.block < W.heap.size := by obtain ⟨m, hm⟩ := k0; exact DataW.trod_lt m _ _ _ hm
  obtain ⟨A, n, c, l, x, y, z, rfl, hb, hx, hy, hz⟩ := open_count (hval 0 _ _ rfl rfl) h0
  clear hA0 hval0
  refine (bandAppend_walk A n c l x y z W hb).mono fun e W' ⟨he, bel⟩ => ?_
  subst he
  exact ⟨_, rfl, _, _, _, [], _, [], hW', trodAll_mk1 (shut_bool Try.underlying4 _), (trodAll_cons_mk (Below.trod laidOut (by kernel_rfl) (of_decide_eq_true (by kernel_rfl)) k0 bel lt0) trodAll_mk0), rfl, bel.frame _, fun h => by cases h⟩

/-- The statement. -/
theorem bandAppend_holds : Rows.BandAppendSaid :=
  OpenClaim.holds_of_wide 4 Try.f4 rfl rfl rfl rfl rfl rfl rfl ⟨rfl, rfl, rfl, rfl, rfl⟩ rfl rfl rfl rfl rfl (by kernel_rfl) Try.func4 (by kernel_rfl)
    (of_decide_eq_true (by kernel_rfl)) (by unfold Func.isWrapper; first | (rw [if_pos (by decide +kernel)]; kernel_rfl) | (rw [if_neg (by decide +kernel)]; exact ⟨rfl, rfl⟩))
    (fun os started H enc _ => bandAppend_lifted os started H enc)
#print axioms bandAppend_holds
end Go.Proofs.Ytbnkpknoknenjaa

/-
  WHAT IS SHOWN: awake of tegulalaw27 returns true. Conditions: none.
-/
import Derived.Test.YtndifkjenjfjpaaRecC
import Derived.Test.YtndifkjenjfjpaaRec22
import Derived.Test.YtndifkjenjfjpaaRec30
namespace Go.Proofs.Ytndifkjenjfjpaa
set_option linter.unusedVariables false
open Go.RowKit

theorem xA_u8 : U8s xA := fun x hx => by
  unfold xA at hx
  simp only [List.mem_cons, List.not_mem_nil, or_false] at hx
  omega
theorem be8_u8' (s : Int) : U8s (be8 s) := fun x hx => by
  unfold be8 at hx
  simp only [List.mem_cons, List.not_mem_nil, or_false] at hx
  have hw : ∀ y : Int, 0 ≤ IntKind.u8.wrap y ∧ IntKind.u8.wrap y ≤ 255 := fun y => by rw [IntKind.wrap_u8]; omega
  rcases hx with rfl | rfl | rfl | rfl | rfl | rfl | rfl | rfl <;> exact hw _
theorem strA : (strOfNums xA).toList = [82, 1, 2, 0, 1, 5, 1, 2, 0, 0, 0] := by
  rw [ByteArray.toList_eq]
  decide
set_option maxRecDepth 100000 in
set_option maxHeartbeats 1000000 in
theorem awake_any (w : World) : Calls Try.prog 16 #[] w fun e w' => e = .returned (.bool true) ∧ Below w.heap.size w w' := by
  have HC : Hid (∀ W : World, Calls Try.prog 18 #[.agg #[.int .u64 1, .int .u64 2, .slice none 0 0, .slice none 0 0, .slice none 0 0]] W (EncPost W rA)) := fun W => encode_any rA rA_ok none none none 0 0 0 W ⟨Rd.nil_ _ _ _, Rd.nil_ _ _ _, Rd.nil_ _ _ _⟩ (by decide) (by decide) (by decide)
  go_enter Try.func16, Try.ntmps16
  go_wp2_with fail
  refine (HC.out _).mono ?_
  rintro e w1 ⟨A, c, ss, rfl, hss, ho, hb1⟩
  rw [encLA] at hss
  obtain ⟨s, rfl⟩ : ∃ s, ss = [s] := by
    have h1 : ss.length = 1 := by have := congrArg List.length hss; simpa using this
    exact List.length_eq_one_iff.1 h1
  have hsx : s.xs = xA ++ be8 (sumC xA) := by simpa using hss
  rw [encEA]
  have HB1 := Lib.hid hb1
  have HO := Lib.hid ho
  have HX := Lib.hid hsx
  have hls : s.xs.length = 19 := by rw [hsx]; rfl
  obtain ⟨g1, o1, rfl, hg1, j1, hr1⟩ := sl_at ho.rd (show 0 < [s].length by simp)
  simp only [List.getElem_cons_zero, Nat.add_zero] at j1 hr1
  rw [hls] at j1
  obtain ⟨hc19, hcm, _⟩ := own_cap0 (ho.each s (by simp))
  rw [hls] at hc19
  have hv1 : (convert 25 9 (.slice s.A 11 s.c)).run Try.prog w1 = .ok (.string (strOfNums xA)) w1 := by
    have h1 : Rd w1 w1.heap.size s.A (xA.map (Value.int .u8)) := by
      have := hr1.take 11
      rw [← List.map_take, hsx] at this
      exact this
    exact conv_bytes s.c h1
  clear hss hsx ho hb1 hr1
  have hso : SlOk s := ⟨HX.out ▸ u8_append xA_u8 (be8_u8' _), by rw [hls]; decide, by rw [hls]; exact hc19, by unfold maxLen at hcm; omega⟩
  have HD1 := Lib.hid (decode_any [s] (fun x hx => by simp at hx; subst hx; exact hso) (some ⟨g1, o1, none⟩) c (own_cap0 HO.out.own).1 (by have := (own_cap0 HO.out.own).2.1; unfold maxLen at this; omega) (by simp) w1 HO.out.rd)
  rw [show [s].map Sl.xs = [xA ++ be8 (sumC xA)] by simp [HX.out]] at HD1
  have HD2 : Hid (∀ W : World, Calls Try.prog 27 #[.slice none 0 0] W (DecPost W [])) := fun W => decode_any [] (fun x hx => by simp at hx) none 0 (by simp) (by omega) (by simp) W ⟨Rd.nil_ _ _ _, fun x hx => by simp at hx⟩
  obtain ⟨g2, o2, hA⟩ : ∃ g o, s.A = some ⟨g, o, none⟩ := by
    obtain ⟨g, o, e, _⟩ := HO.out.rd.each s (by simp) 0 (.int .u8 82) (by rw [HX.out]; rfl)
    exact ⟨g, o, e⟩
  rw [hA] at j1 hv1
  have hst := strA
  go_wp2_with fail
  refine HD1.out.mono ?_
  rintro e w2 ⟨A3, c3, D3, d3, N3, n3, rfl, hr2, hb2⟩
  rw [decA]
  have HB2 := Lib.hid (HB1.out.trans (hb2.mono HB1.out.size))
  have PB2 := Cells5.new w2 27 (.int .u64 (rA.gen : Nat)) (.int .u64 (rA.seq : Nat)) (.slice A3 rA.ws.length c3) (.slice D3 rA.ms.length d3) (.slice N3 rA.note.length n3)
  clear hr2 hb2 HD1
  go_wp2_with fail
  refine (HD2.out _).mono ?_
  rintro e w3 ⟨A4, c4, D4, d4, N4, n4, rfl, hr3, hb3⟩
  rw [decN]
  have HB3 : Hid (Below w.heap.size w w3) := (HB2.out.alloc HB2.out.size _).trans (hb3.mono (HB2.out.alloc HB2.out.size _).size)
  have PB3 := PB2.below hb3 (by simp)
  have PB4 := PB3.below ((Below.refl w3.heap.size w3).alloc (Nat.le_refl _) (.cells #[.int .u64 ((Dec.bad 5).r.gen : Nat), .int .u64 ((Dec.bad 5).r.seq : Nat), .slice A4 (Dec.bad 5).r.ws.length c4, .slice D4 (Dec.bad 5).r.ms.length d4, .slice N4 (Dec.bad 5).r.note.length n4] 27)) (by have := hb3.size; simp at this; omega)
  have p0 := PB4.c0
  have p1 := PB4.c1
  clear hr3 hb3 HD2 PB2 PB3 PB4
  go_wp2
  go_ret
  exact ⟨rfl, HB3.out.alloc HB3.out.size _⟩
end Go.Proofs.Ytndifkjenjfjpaa

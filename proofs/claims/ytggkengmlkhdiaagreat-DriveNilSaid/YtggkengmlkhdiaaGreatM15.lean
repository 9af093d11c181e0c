/-
  WHAT IS SHOWN: what retry of drive returns and leaves: the operation is called as long as it is busy; what the operations of the closures do. what sector of drive returns and leaves. Conditions: as each theorem names them.
-/
import Derived.Test.YtggkengmlkhdiaaGreatM13
import Derived.Test.YtggkengmlkhdiaaGreatM14
namespace Go.Proofs.YtggkengmlkhdiaaGreat
set_option linter.unusedVariables false
open Go.RowKit

set_option maxRecDepth 100000 in
set_option maxHeartbeats 4000000 in
theorem rterase_any {w : World} (bd bk bi : Nat) (J : Nat → World → Prop) (er : Nat → Int) (h0 : J 0 w) (HC : ∀ n W, n ≤ 8 → J n W → Calls Tryz.prog 61 #[.pointer (some ⟨bd, 0, none⟩), .pointer (some ⟨bk, 0, none⟩), .pointer (some ⟨bi, 0, none⟩)] W fun e w' => e = .returned (.int .i64 (er n)) ∧ J (n + 1) w') :
    Calls Tryz.prog 47 #[.func (.func 61) #[] #[.pointer (some ⟨bd, 0, none⟩), .pointer (some ⟨bk, 0, none⟩), .pointer (some ⟨bi, 0, none⟩)]] w fun e w' => ∃ k, e = .returned (.int .i64 (er k)) ∧ J (k + 1) w' ∧ (∀ j, j < k → er j = 16) ∧ (k = 8 ∨ (k ≤ 8 ∧ ¬ er k = 16)) := by
  have HC' := Lib.hid HC
  clear HC
  go_enter Tryz.func47, Tryz.ntmps47
  go_wp2_with fail
  refine (HC'.out 0 w (by omega) h0).mono ?_
  rintro e w1 ⟨rfl, h1⟩
  go_wp2
  go_loopw [3, 4] (fun e n wr => ∃ k : Nat, k ≤ 8 ∧ e = .int .i64 (er k) ∧ n = .int .i64 (k : Int) ∧ J (k + 1) wr ∧ Hid (∀ j, j < k → er j = 16)) (fun _ n _ => 10 - (intOf n).toNat)
  case atStart => exact ⟨0, by omega, rfl, rfl, h1, by unfold Hid; intro j hj; omega⟩
  case round =>
    obtain ⟨k, hk, rfl, rfl, hJ, HJ⟩ := hrel
    generalize hE : er k = E at *
    by_cases h8 : k < 8
    · by_cases h16 : E = 16
      · subst h16
        have d1 : decide ((k : Int) < 8) = true := decide_eq_true (by omega)
        have hw : IntKind.i64.wrap ((k : Int) + 1) = ((k + 1 : Nat) : Int) := by rw [IntKind.wrap_i64]; omega
        have HJ2 : Hid (∀ j, j < k + 1 → er j = 16) := by
          unfold Hid; intro j hj
          by_cases e : j = k
          · subst e; exact hE
          · exact HJ.out j (by omega)
        go_wp2_with fail
        refine (HC'.out (k + 1) wr (by omega) hJ).mono ?_
        rintro e w2 ⟨rfl, h2⟩
        go_wp2
        go_roundw
        case rel => exact ⟨k + 1, by omega, rfl, by go_num, h2, HJ2⟩
        case measure => simp [intOf]; omega
      · have d1 : decide ((k : Int) < 8) = true := decide_eq_true (by omega)
        have d2 : (E == 16) = false := by simpa using h16
        go_wp2
        go_ret
        exact ⟨k, by rw [hE]; rfl, hJ, HJ.out, .inr ⟨hk, by rw [hE]; exact h16⟩⟩
    · have d1 : decide ((k : Int) < 8) = false := decide_eq_false (by omega)
      go_wp2
      go_ret
      exact ⟨k, by rw [hE]; rfl, hJ, HJ.out, .inl (by omega)⟩
set_option maxRecDepth 100000 in
set_option maxHeartbeats 4000000 in
theorem rtflush_any {w : World} (bd bk : Nat) (J : Nat → World → Prop) (er : Nat → Int) (h0 : J 0 w) (HC : ∀ n W, n ≤ 8 → J n W → Calls Tryz.prog 63 #[.pointer (some ⟨bd, 0, none⟩), .pointer (some ⟨bk, 0, none⟩)] W fun e w' => e = .returned (.int .i64 (er n)) ∧ J (n + 1) w') :
    Calls Tryz.prog 47 #[.func (.func 63) #[] #[.pointer (some ⟨bd, 0, none⟩), .pointer (some ⟨bk, 0, none⟩)]] w fun e w' => ∃ k, e = .returned (.int .i64 (er k)) ∧ J (k + 1) w' ∧ (∀ j, j < k → er j = 16) ∧ (k = 8 ∨ (k ≤ 8 ∧ ¬ er k = 16)) := by
  have HC' := Lib.hid HC
  clear HC
  go_enter Tryz.func47, Tryz.ntmps47
  go_wp2_with fail
  refine (HC'.out 0 w (by omega) h0).mono ?_
  rintro e w1 ⟨rfl, h1⟩
  go_wp2
  go_loopw [3, 4] (fun e n wr => ∃ k : Nat, k ≤ 8 ∧ e = .int .i64 (er k) ∧ n = .int .i64 (k : Int) ∧ J (k + 1) wr ∧ Hid (∀ j, j < k → er j = 16)) (fun _ n _ => 10 - (intOf n).toNat)
  case atStart => exact ⟨0, by omega, rfl, rfl, h1, by unfold Hid; intro j hj; omega⟩
  case round =>
    obtain ⟨k, hk, rfl, rfl, hJ, HJ⟩ := hrel
    generalize hE : er k = E at *
    by_cases h8 : k < 8
    · by_cases h16 : E = 16
      · subst h16
        have d1 : decide ((k : Int) < 8) = true := decide_eq_true (by omega)
        have hw : IntKind.i64.wrap ((k : Int) + 1) = ((k + 1 : Nat) : Int) := by rw [IntKind.wrap_i64]; omega
        have HJ2 : Hid (∀ j, j < k + 1 → er j = 16) := by
          unfold Hid; intro j hj
          by_cases e : j = k
          · subst e; exact hE
          · exact HJ.out j (by omega)
        go_wp2_with fail
        refine (HC'.out (k + 1) wr (by omega) hJ).mono ?_
        rintro e w2 ⟨rfl, h2⟩
        go_wp2
        go_roundw
        case rel => exact ⟨k + 1, by omega, rfl, by go_num, h2, HJ2⟩
        case measure => simp [intOf]; omega
      · have d1 : decide ((k : Int) < 8) = true := decide_eq_true (by omega)
        have d2 : (E == 16) = false := by simpa using h16
        go_wp2
        go_ret
        exact ⟨k, by rw [hE]; rfl, hJ, HJ.out, .inr ⟨hk, by rw [hE]; exact h16⟩⟩
    · have d1 : decide ((k : Int) < 8) = false := decide_eq_false (by omega)
      go_wp2
      go_ret
      exact ⟨k, by rw [hE]; rfl, hJ, HJ.out, .inl (by omega)⟩
set_option maxRecDepth 100000 in
set_option maxHeartbeats 4000000 in
theorem rtread_any {w : World} (bd ba bb : Nat) (J : Nat → World → Prop) (er : Nat → Int) (h0 : J 0 w) (HC : ∀ n W, n ≤ 8 → J n W → Calls Tryz.prog 92 #[.pointer (some ⟨bd, 0, none⟩), .pointer (some ⟨ba, 0, none⟩), .pointer (some ⟨bb, 0, none⟩)] W fun e w' => e = .returned (.int .i64 (er n)) ∧ J (n + 1) w') :
    Calls Tryz.prog 47 #[.func (.func 92) #[] #[.pointer (some ⟨bd, 0, none⟩), .pointer (some ⟨ba, 0, none⟩), .pointer (some ⟨bb, 0, none⟩)]] w fun e w' => ∃ k, e = .returned (.int .i64 (er k)) ∧ J (k + 1) w' ∧ (∀ j, j < k → er j = 16) ∧ (k = 8 ∨ (k ≤ 8 ∧ ¬ er k = 16)) := by
  have HC' := Lib.hid HC
  clear HC
  go_enter Tryz.func47, Tryz.ntmps47
  go_wp2_with fail
  refine (HC'.out 0 w (by omega) h0).mono ?_
  rintro e w1 ⟨rfl, h1⟩
  go_wp2
  go_loopw [3, 4] (fun e n wr => ∃ k : Nat, k ≤ 8 ∧ e = .int .i64 (er k) ∧ n = .int .i64 (k : Int) ∧ J (k + 1) wr ∧ Hid (∀ j, j < k → er j = 16)) (fun _ n _ => 10 - (intOf n).toNat)
  case atStart => exact ⟨0, by omega, rfl, rfl, h1, by unfold Hid; intro j hj; omega⟩
  case round =>
    obtain ⟨k, hk, rfl, rfl, hJ, HJ⟩ := hrel
    generalize hE : er k = E at *
    by_cases h8 : k < 8
    · by_cases h16 : E = 16
      · subst h16
        have d1 : decide ((k : Int) < 8) = true := decide_eq_true (by omega)
        have hw : IntKind.i64.wrap ((k : Int) + 1) = ((k + 1 : Nat) : Int) := by rw [IntKind.wrap_i64]; omega
        have HJ2 : Hid (∀ j, j < k + 1 → er j = 16) := by
          unfold Hid; intro j hj
          by_cases e : j = k
          · subst e; exact hE
          · exact HJ.out j (by omega)
        go_wp2_with fail
        refine (HC'.out (k + 1) wr (by omega) hJ).mono ?_
        rintro e w2 ⟨rfl, h2⟩
        go_wp2
        go_roundw
        case rel => exact ⟨k + 1, by omega, rfl, by go_num, h2, HJ2⟩
        case measure => simp [intOf]; omega
      · have d1 : decide ((k : Int) < 8) = true := decide_eq_true (by omega)
        have d2 : (E == 16) = false := by simpa using h16
        go_wp2
        go_ret
        exact ⟨k, by rw [hE]; rfl, hJ, HJ.out, .inr ⟨hk, by rw [hE]; exact h16⟩⟩
    · have d1 : decide ((k : Int) < 8) = false := decide_eq_false (by omega)
      go_wp2
      go_ret
      exact ⟨k, by rw [hE]; rfl, hJ, HJ.out, .inl (by omega)⟩
set_option maxRecDepth 100000 in
set_option maxHeartbeats 4000000 in
theorem rtwrite_any {w : World} (bd ba bb : Nat) (J : Nat → World → Prop) (er : Nat → Int) (h0 : J 0 w) (HC : ∀ n W, n ≤ 8 → J n W → Calls Tryz.prog 111 #[.pointer (some ⟨bd, 0, none⟩), .pointer (some ⟨ba, 0, none⟩), .pointer (some ⟨bb, 0, none⟩)] W fun e w' => e = .returned (.int .i64 (er n)) ∧ J (n + 1) w') :
    Calls Tryz.prog 47 #[.func (.func 111) #[] #[.pointer (some ⟨bd, 0, none⟩), .pointer (some ⟨ba, 0, none⟩), .pointer (some ⟨bb, 0, none⟩)]] w fun e w' => ∃ k, e = .returned (.int .i64 (er k)) ∧ J (k + 1) w' ∧ (∀ j, j < k → er j = 16) ∧ (k = 8 ∨ (k ≤ 8 ∧ ¬ er k = 16)) := by
  have HC' := Lib.hid HC
  clear HC
  go_enter Tryz.func47, Tryz.ntmps47
  go_wp2_with fail
  refine (HC'.out 0 w (by omega) h0).mono ?_
  rintro e w1 ⟨rfl, h1⟩
  go_wp2
  go_loopw [3, 4] (fun e n wr => ∃ k : Nat, k ≤ 8 ∧ e = .int .i64 (er k) ∧ n = .int .i64 (k : Int) ∧ J (k + 1) wr ∧ Hid (∀ j, j < k → er j = 16)) (fun _ n _ => 10 - (intOf n).toNat)
  case atStart => exact ⟨0, by omega, rfl, rfl, h1, by unfold Hid; intro j hj; omega⟩
  case round =>
    obtain ⟨k, hk, rfl, rfl, hJ, HJ⟩ := hrel
    generalize hE : er k = E at *
    by_cases h8 : k < 8
    · by_cases h16 : E = 16
      · subst h16
        have d1 : decide ((k : Int) < 8) = true := decide_eq_true (by omega)
        have hw : IntKind.i64.wrap ((k : Int) + 1) = ((k + 1 : Nat) : Int) := by rw [IntKind.wrap_i64]; omega
        have HJ2 : Hid (∀ j, j < k + 1 → er j = 16) := by
          unfold Hid; intro j hj
          by_cases e : j = k
          · subst e; exact hE
          · exact HJ.out j (by omega)
        go_wp2_with fail
        refine (HC'.out (k + 1) wr (by omega) hJ).mono ?_
        rintro e w2 ⟨rfl, h2⟩
        go_wp2
        go_roundw
        case rel => exact ⟨k + 1, by omega, rfl, by go_num, h2, HJ2⟩
        case measure => simp [intOf]; omega
      · have d1 : decide ((k : Int) < 8) = true := decide_eq_true (by omega)
        have d2 : (E == 16) = false := by simpa using h16
        go_wp2
        go_ret
        exact ⟨k, by rw [hE]; rfl, hJ, HJ.out, .inr ⟨hk, by rw [hE]; exact h16⟩⟩
    · have d1 : decide ((k : Int) < 8) = false := decide_eq_false (by omega)
      go_wp2
      go_ret
      exact ⟨k, by rw [hE]; rfl, hJ, HJ.out, .inl (by omega)⟩
section
variable {w w' : World} {B : Bd} {q pw p : Nat} {g : Geo} {F : List Flt} {d : DC}
theorem dcell_one {k : Nat} {v : Value} {t : TypeId} {fr : Nat × Nat} (h : w.heap[k]? = some (.cells #[v] t fr)) : w.cell? ⟨k, 0, none⟩ = some v := by rw [cell_of_row _ _ _ _ _ _ h]; rfl
/-- The disk and the key of a drive. -/
structure DKey (w : World) (p q : Nat) (key : Int) : Prop where
  ex : ∃ base v0 v1 v2 v3, w.ownsRow base 87 6 (.slice (some ⟨p, 0, none⟩) 1 1) 1 [.pointer (some ⟨q, 0, none⟩), .int .u64 key, v0, v1, v2, v3]
theorem Drv.dkey {key : Int} {S : ST} {ea ec : Nat} {BA : Option Addr} {bc : Nat} (h : Drv w B p q pw g F key S ea ec BA bc) : DKey w p q key := ⟨_, _, _, _, _, h.obj⟩
theorem DKey.kept {key : Int} {ts : List TypeId} {C : Bd} (h : DKey w p q key) (hk : KeptT ts C w w') (ht : 87 ∉ ts) : DKey w' p q key := by
  obtain ⟨base, v0, v1, v2, v3, h⟩ := h
  exact ⟨base, v0, v1, v2, v3, own_ty h hk ht⟩
theorem DKey.cells {key : Int} (h : DKey w p q key) : w.cell? ⟨p, 0, none⟩ = some (.pointer (some ⟨q, 0, none⟩)) ∧ w.cell? ⟨p, 1, none⟩ = some (.int .u64 key) := by
  obtain ⟨base, v0, v1, v2, v3, h⟩ := h
  exact ⟨(World.ownsRow.cellAt h 0 (by decide)).trans rfl, (World.ownsRow.cellAt h 1 (by decide)).trans rfl⟩
theorem DKey.below0 {key : Int} (h : DKey w p q key) (hb : Below w.heap.size w w') : DKey w' p q key := h.kept (ts := []) (C := Bd.of 0) (KeptT.bel hb) (by simp)
set_option maxRecDepth 100000 in
set_option maxHeartbeats 4000000 in
theorem awrcl_any {key a : Int} {xs : List Int} {A : Option Addr} {c bd ba bb : Nat} {fd fa fb : Nat × Nat} (h : DM w B q pw g F d) (hF : ∀ f ∈ F, I64 f.to_) (hn : F.length ≤ 9223372036854775807) (hon : d.O.length ≤ 99000) (hai : I64 a)
    (hr : ∀ W, KeptT DAT B w W → Rd W W.heap.size A (xs.map (Value.int .u8))) (hx : xs.length ≤ 100000) (hc : xs.length ≤ c)
    (hd : w.heap[bd]? = some (.cells #[.pointer (some ⟨p, 0, none⟩)] 22 fd)) (ha : w.heap[ba]? = some (.cells #[.int .i64 a] 3 fa)) (hb : w.heap[bb]? = some (.cells #[.slice A xs.length c] 65 fb)) (hk : DKey w p q key) :
    Calls Tryz.prog 111 #[.pointer (some ⟨bd, 0, none⟩), .pointer (some ⟨ba, 0, none⟩), .pointer (some ⟨bb, 0, none⟩)] w fun e w' => e = .returned (.int .i64 (wOne g F key a xs d).2.er) ∧ DM w' B q pw g F (wOne g F key a xs d).1 ∧ KeptT DAT B w w' := by
  have HCA := Lib.hid (dwrite_any key a xs false A c (DPm.below0 h (w' := w.drew) ((Below.refl _ _).drew)) hn hon hai (begD_to d.s d.P key hF) (fun W hW => hr W (KeptT.trans (show KeptT DAT B w w.drew from Kept.drew (KeptT.refl _ _ w)) (hW.sub dpt_dat))) hx hc)
  obtain ⟨C, hC⟩ : ∃ C : List Value → World → Prop, C = fun h W => match h with
    | [] => W = w.drew
    | [v] => v = .int .i64 (wOne g F key a xs d).2.er ∧ DM W B q pw g F (wOne g F key a xs d).1 ∧ KeptT DAT B w W
    | _ => False := ⟨_, rfl⟩
  have hall : ∀ t : HeldC C, KeptT DAT B w t.w := fun t => by
    obtain ⟨s, W, h⟩ := t
    simp only
    subst hC
    match s, h with
    | [], h => have h' : W = w.drew := h; rw [h']; exact (KeptT.refl _ _ w).drew
    | [v], h => exact h.2.2
  have HC0 : Hid (C [] w.drew) := by subst hC; exact rfl
  have HK1 : Hid (∀ W, C [] W → Calls Tryz.prog 112 #[.pointer (some ⟨q, 0, none⟩), .int .u64 key, .int .i64 a, .slice A xs.length c, .bool false] W fun e w' => ∃ x, e = .returned x ∧ C ([] ++ [x]) w') := by
    subst hC
    intro W hW
    have hW' : W = w.drew := hW
    subst hW'
    exact HCA.out.mono fun e w' h => ⟨_, h.1, rfl, h.2.1, KeptT.trans (show KeptT DAT B w w.drew from Kept.drew (KeptT.refl _ _ w)) h.2.2⟩
  have HV1 : Hid (∀ v W, C [v] W → v = .int .i64 (wOne g F key a xs d).2.er) := by subst hC; exact fun _ _ h => h.1
  have HF : Hid (∀ v W, C [v] W → DM W B q pw g F (wOne g F key a xs d).1 ∧ KeptT DAT B w W) := by subst hC; exact fun _ _ h => h.2
  have hne : Nonempty (HeldC C) := ⟨⟨[], _, HC0.out⟩⟩
  have f0 : ∀ t : HeldC C, t.w.cell? ⟨bd, 0, none⟩ = some (.pointer (some ⟨p, 0, none⟩)) := fun t => Kept.cell (hall t) (dcell_one hd) (KeptT.no (IsT.of hd) (by unfold DAT; decide))
  have f1 : ∀ t : HeldC C, t.w.cell? ⟨p, 0, none⟩ = some (.pointer (some ⟨q, 0, none⟩)) := fun t => (hk.kept (hall t) (by unfold DAT; decide)).cells.1
  have f2 : ∀ t : HeldC C, t.w.cell? ⟨p, 1, none⟩ = some (.int .u64 key) := fun t => (hk.kept (hall t) (by unfold DAT; decide)).cells.2
  have f3 : ∀ t : HeldC C, t.w.cell? ⟨ba, 0, none⟩ = some (.int .i64 a) := fun t => Kept.cell (hall t) (dcell_one ha) (KeptT.no (IsT.of ha) (by unfold DAT; decide))
  have f4 : ∀ t : HeldC C, t.w.cell? ⟨bb, 0, none⟩ = some (.slice A xs.length c) := fun t => Kept.cell (hall t) (dcell_one hb) (KeptT.no (IsT.of hb) (by unfold DAT; decide))
  clear h hd hk hb ha hai hr hF
  generalize (wOne g F key a xs d).2.er = E at *
  go_enter Tryz.func111, Tryz.ntmps111
  clear hC hall HCA
  go_wp2_with fail
  refine wp_region_chain C [10] [10] (by kernel_rfl) (by kernel_rfl) (by kernel_rfl) (by kernel_rfl) HC0.out ?_
  repeat (refine wpCh_n (by rfl) (by rfl) ?_; go_big_quiet_step (fail); refine wpQuiet_nil ?_)
  refine wpCh_l (f := 112) (args := #[.pointer (some ⟨q, 0, none⟩), .int .u64 key, .int .i64 a, .slice A xs.length c, .bool false]) (by rfl) (by rfl) (fun W => by simp [go_sem]) (fun W hW => HK1.out W hW) (fun v W hW => ?_)
  obtain rfl := HV1.out v W hW
  go_big_quiet_step (fail)
  refine wpQuiet_nil ?_
  repeat (refine wpCh_n (by rfl) (by rfl) ?_; go_big_quiet_step (fail); refine wpQuiet_nil ?_)
  refine wpCh_nil ?_
  intro wc hcw
  have HD := Lib.hid (HF.out _ wc hcw)
  clear hcw HK1 HV1 HF HC0
  go_wp2
  go_ret
  exact ⟨rfl, HD.out⟩
set_option maxRecDepth 100000 in
set_option maxHeartbeats 4000000 in
theorem nercl_any {key k : Int} {bd bk bi : Nat} {fd fk fi : Nat × Nat} (ha : I64 k) (h : DM w B q pw g F d) (hn : F.length ≤ 9223372036854775807) (hon : d.O.length ≤ 99000)
    (hd : w.heap[bd]? = some (.cells #[.pointer (some ⟨q, 0, none⟩)] 54 fd)) (hk : w.heap[bk]? = some (.cells #[.int .u64 key] 23 fk)) (hi : w.heap[bi]? = some (.cells #[.int .i64 k] 3 fi)) :
    Calls Tryz.prog 61 #[.pointer (some ⟨bd, 0, none⟩), .pointer (some ⟨bk, 0, none⟩), .pointer (some ⟨bi, 0, none⟩)] w fun e w' => e = .returned (.int .i64 (eOne g F key k d).2.er) ∧ DM w' B q pw g F (eOne g F key k d).1 ∧ KeptT DAT B w w' := by
  have c0 := dcell_one hd
  have c1 := dcell_one hk
  have c2 := dcell_one hi
  have HC := Lib.hid (derase_any key k ha h hn hon)
  clear hd hk hi h ha
  go_enter Tryz.func61, Tryz.ntmps61
  go_wp2_with fail
  refine HC.out.mono ?_
  rintro e w1 ⟨rfl, hd1, hk1⟩
  have HD := Lib.hid (And.intro hd1 hk1)
  clear hd1 hk1 HC
  go_wp2
  go_ret
  exact ⟨rfl, HD.out⟩
set_option maxRecDepth 100000 in
set_option maxHeartbeats 4000000 in
theorem nflcl_any {key : Int} {bd bk : Nat} {fd fk : Nat × Nat} (h : DM w B q pw g F d) (hn : F.length ≤ 9223372036854775807) (hon : d.O.length ≤ 99000)
    (hd : w.heap[bd]? = some (.cells #[.pointer (some ⟨q, 0, none⟩)] 54 fd)) (hk : w.heap[bk]? = some (.cells #[.int .u64 key] 23 fk)) :
    Calls Tryz.prog 63 #[.pointer (some ⟨bd, 0, none⟩), .pointer (some ⟨bk, 0, none⟩)] w fun e w' => e = .returned (.int .i64 (fOne g F key d).2.er) ∧ DM w' B q pw g F (fOne g F key d).1 ∧ KeptT DAT B w w' := by
  have c0 := dcell_one hd
  have c1 := dcell_one hk
  have HC := Lib.hid (dflush_any key h hn hon)
  clear hd hk h
  go_enter Tryz.func63, Tryz.ntmps63
  go_wp2_with fail
  refine HC.out.mono ?_
  rintro e w1 ⟨rfl, hd1, hk1⟩
  have HD := Lib.hid (And.intro hd1 hk1)
  clear hd1 hk1 HC
  go_wp2
  go_ret
  exact ⟨rfl, HD.out⟩
/-- The operations, called as long as the disk is busy. -/
theorem tryner_any {key k : Int} {bd bk bi : Nat} {fd fk fi : Nat × Nat} (ha : I64 k) (h : DM w B q pw g F d) (hn : F.length ≤ 9223372036854775807) (hon : d.O.length + 9 ≤ 99000)
    (hd : w.heap[bd]? = some (.cells #[.pointer (some ⟨q, 0, none⟩)] 54 fd)) (hk : w.heap[bk]? = some (.cells #[.int .u64 key] 23 fk)) (hi : w.heap[bi]? = some (.cells #[.int .i64 k] 3 fi)) :
    Calls Tryz.prog 47 #[.func (.func 61) #[] #[.pointer (some ⟨bd, 0, none⟩), .pointer (some ⟨bk, 0, none⟩), .pointer (some ⟨bi, 0, none⟩)]] w fun e w' => e = .returned (.int .i64 (tryD (eOne g F key k) d).2.er) ∧ DM w' B q pw g F (tryD (eOne g F key k) d).1 ∧ KeptT DAT B w w' := by
  refine (rterase_any bd bk bi (fun n W => DM W B q pw g F (callN (eOne g F key k) d n) ∧ KeptT DAT B w W) (fun n => (ansN (eOne g F key k) d n).er) ⟨h, KeptT.refl _ _ w⟩ ?_).mono ?_
  · intro n W hn8 ⟨hW, hkW⟩
    have hl := callN_len (eOne_len g F key k) d n
    refine (nercl_any ha hW hn (by omega) (Kept.obj hkW hd (KeptT.no (IsT.of hd) (by unfold DAT; decide))) (Kept.obj hkW hk (KeptT.no (IsT.of hk) (by unfold DAT; decide))) (Kept.obj hkW hi (KeptT.no (IsT.of hi) (by unfold DAT; decide)))).mono ?_
    rintro e w' ⟨rfl, hd', hk'⟩
    exact ⟨rfl, hd', hkW.trans hk'⟩
  · rintro e w' ⟨k, rfl, ⟨hd', hk'⟩, hb, hlast⟩
    rw [try_stop hb hlast]
    exact ⟨rfl, hd', hk'⟩
theorem trynfl_any {key : Int} {bd bk : Nat} {fd fk : Nat × Nat} (h : DM w B q pw g F d) (hn : F.length ≤ 9223372036854775807) (hon : d.O.length + 9 ≤ 99000)
    (hd : w.heap[bd]? = some (.cells #[.pointer (some ⟨q, 0, none⟩)] 54 fd)) (hk : w.heap[bk]? = some (.cells #[.int .u64 key] 23 fk)) :
    Calls Tryz.prog 47 #[.func (.func 63) #[] #[.pointer (some ⟨bd, 0, none⟩), .pointer (some ⟨bk, 0, none⟩)]] w fun e w' => e = .returned (.int .i64 (tryD (fOne g F key) d).2.er) ∧ DM w' B q pw g F (tryD (fOne g F key) d).1 ∧ KeptT DAT B w w' := by
  refine (rtflush_any bd bk (fun n W => DM W B q pw g F (callN (fOne g F key) d n) ∧ KeptT DAT B w W) (fun n => (ansN (fOne g F key) d n).er) ⟨h, KeptT.refl _ _ w⟩ ?_).mono ?_
  · intro n W hn8 ⟨hW, hkW⟩
    have hl := callN_len (fOne_len g F key) d n
    refine (nflcl_any hW hn (by omega) (Kept.obj hkW hd (KeptT.no (IsT.of hd) (by unfold DAT; decide))) (Kept.obj hkW hk (KeptT.no (IsT.of hk) (by unfold DAT; decide)))).mono ?_
    rintro e w' ⟨rfl, hd', hk'⟩
    exact ⟨rfl, hd', hkW.trans hk'⟩
  · rintro e w' ⟨k, rfl, ⟨hd', hk'⟩, hb, hlast⟩
    rw [try_stop hb hlast]
    exact ⟨rfl, hd', hk'⟩
theorem trywr20_any {key a : Int} {xs : List Int} {A : Option Addr} {c bd ba bb : Nat} {fd fa fb : Nat × Nat} (h : DM w B q pw g F d) (hF : ∀ f ∈ F, I64 f.to_) (hn : F.length ≤ 9223372036854775807) (hon : d.O.length + 9 ≤ 99000) (hai : I64 a)
    (hr : ∀ W, KeptT DAT B w W → Rd W W.heap.size A (xs.map (Value.int .u8))) (hx : xs.length ≤ 100000) (hc : xs.length ≤ c)
    (hd : w.heap[bd]? = some (.cells #[.pointer (some ⟨p, 0, none⟩)] 22 fd)) (ha : w.heap[ba]? = some (.cells #[.int .i64 a] 3 fa)) (hb : w.heap[bb]? = some (.cells #[.slice A xs.length c] 65 fb)) (hk : DKey w p q key) :
    Calls Tryz.prog 47 #[.func (.func 111) #[] #[.pointer (some ⟨bd, 0, none⟩), .pointer (some ⟨ba, 0, none⟩), .pointer (some ⟨bb, 0, none⟩)]] w fun e w' => e = .returned (.int .i64 (tryD (wOne g F key a xs) d).2.er) ∧ DM w' B q pw g F (tryD (wOne g F key a xs) d).1 ∧ KeptT DAT B w w' := by
  refine (rtwrite_any bd ba bb (fun n W => DM W B q pw g F (callN (wOne g F key a xs) d n) ∧ KeptT DAT B w W) (fun n => (ansN (wOne g F key a xs) d n).er) ⟨h, KeptT.refl _ _ w⟩ ?_).mono ?_
  · intro n W hn8 ⟨hW, hkW⟩
    have hl := callN_len (wOne_len g F key a xs) d n
    refine (awrcl_any hW hF hn (by omega) hai (fun W' hW' => hr W' (hkW.trans hW')) hx hc (Kept.obj hkW hd (KeptT.no (IsT.of hd) (by unfold DAT; decide))) (Kept.obj hkW ha (KeptT.no (IsT.of ha) (by unfold DAT; decide)))
      (Kept.obj hkW hb (KeptT.no (IsT.of hb) (by unfold DAT; decide))) (hk.kept hkW (by unfold DAT; decide))).mono ?_
    rintro e w' ⟨rfl, hd', hk'⟩
    exact ⟨rfl, hd', hkW.trans hk'⟩
  · rintro e w' ⟨k, rfl, ⟨hd', hk'⟩, hb, hlast⟩
    rw [try_stop hb hlast]
    exact ⟨rfl, hd', hk'⟩
end
end Go.Proofs.YtggkengmlkhdiaaGreat
namespace Go.Proofs.YtggkengmlkhdiaaGreat
set_option linter.unusedVariables false
open Go.RowKit

/-- Only box bb, and blocks of disks and power supplies, have changed. -/
def KBd (bb : Nat) (w w' : World) : Prop := Kept (fun k => k = bb ∨ HasT DPT w k) w w'
theorem KBd.refl (bb : Nat) (w : World) : KBd bb w w := Kept.refl _ w
theorem KBd.trans {bb : Nat} {w w' w'' : World} (h : KBd bb w w') (k : KBd bb w' w'') : KBd bb w w'' :=
  Kept.trans h k (fun i hi hs => by
    by_cases hh : i = bb ∨ HasT DPT w i
    · exact hh
    · have e := h.block i hi hh
      rcases hs with h1 | ⟨t, ht, cur, fr, h2⟩
      · exact .inl h1
      · exact .inr ⟨t, ht, cur, fr, e.symm.trans h2⟩)
theorem KBd.of {bb : Nat} {B : Bd} {w w' : World} (h : KeptT DPT B w w') : KBd bb w w' := Kept.more h (fun _ _ h => .inr h.2)
theorem KBd.set {bb : Nat} {w : World} (u : Value) : KBd bb w (w.setCell ⟨bb, 0, none⟩ u) := Kept.more ((Kept.refl (fun k => k = bb) w).setCell (p := ⟨bb, 0, none⟩) (fun _ => rfl) u) (fun _ _ h => .inl h)
def RDT20 : List TypeId := [109, 132, 65]
theorem dpt_rdt20 : ∀ t, t ∈ DPT → t ∈ RDT20 := by unfold DPT RDT20; decide
theorem KBd.rbt {bb : Nat} {w w' : World} {v : Value} {fr : Nat × Nat} (h : KBd bb w w') (hb : w.heap[bb]? = some (.cells #[v] 65 fr)) : KeptT RDT20 (Bd.of 0) w w' :=
  KeptT.of h (fun k _ e => ⟨⟨Nat.zero_le _, fun h => h⟩, by
    rcases e with e | ⟨t, ht, h2⟩
    · subst e; exact HasT.mem (IsT.of hb) (by simp [RDT20])
    · exact ⟨t, dpt_rdt20 t ht, h2⟩⟩)
theorem set_one {w : World} {k : Nat} {v u : Value} {t : TypeId} (h : w.heap[k]? = some (.cells #[v] t (0, 0))) : (w.setCell ⟨k, 0, none⟩ u).heap[k]? = some (.cells #[u] t (0, 0)) := by
  simp [World.setCell, Array.getElem?_modify, h]
theorem free_one {w : World} {k : Nat} {v : Value} {t : TypeId} (h : w.heap[k]? = some (.cells #[v] t (0, 0))) : w.frozen? ⟨k, 0, none⟩ = false := by simp [World.frozen?, h]
section
variable {w w' w0 : World} {B : Bd} {q pw p pd : Nat} {g : Geo} {F : List Flt} {s : DS} {P : Pow} {L : List Sec} {O : List OpV} {FA : Option Addr} {fc : Nat}
/-- A store into a box that is newer. -/
theorem Mid.box20 {bb n : Nat} {v u : Value} {fr : Nat × Nat} (h : Mid w0 w B q pw g n fc p FA s P) (hb : w0.heap.size ≤ bb) (ho : w.heap[bb]? = some (.cells #[v] 65 fr)) : Mid w0 (w.setCell ⟨bb, 0, none⟩ u) B q pw g n fc p FA s P := by
  have hk : Kept (fun k => k = bb) w (w.setCell ⟨bb, 0, none⟩ u) := (Kept.refl (fun k => k = bb) w).setCell (p := ⟨bb, 0, none⟩) (fun _ => rfl) _
  have hkT : KeptT [65] (Bd.of 0) w (w.setCell ⟨bb, 0, none⟩ u) := KeptT.of hk (fun k _ e => by have e' : k = bb := e; subst e'; exact ⟨⟨Nat.zero_le _, fun h => h⟩, HasT.mem (IsT.of ho) (by simp)⟩)
  exact ⟨own_ty h.o hkT (by decide), h.p.keptT hkT (by decide), Kept.trans h.k hk (fun i hi e => by have e' : i = bb := e; omega), h.x⟩
theorem callN_r20 {key a : Int} {d : DC} (n : Nat) : (⟨(callN (rOne g F key a) d n).s, (callN (rOne g F key a) d n).P, d.L, d.O⟩ : DC) = callN (rOne g F key a) d n := by
  have h := callN_r (g := g) (F := F) (key := key) (a := a) (d := d) n
  rw [← h.1, ← h.2]
set_option maxRecDepth 100000 in
set_option maxHeartbeats 8000000 in
theorem srdcl_any {key a : Int} {bd ba bb : Nat} {fd fa : Nat × Nat} {v0 : Value} (hm : Mid w0 w B q pw g F.length fc p FA s P) (hc : CacheM w0 B p g L O) (hfl : RdT w0 49 FA (flatF F)) (hf : Fit g L) (hsb : ShortB L) (hB : B.top ≤ w0.heap.size) (hn : F.length ≤ 9223372036854775807)
    (hd : w.heap[bd]? = some (.cells #[.pointer (some ⟨pd, 0, none⟩)] 22 fd)) (ha : w.heap[ba]? = some (.cells #[.int .i64 a] 3 fa)) (hb : w.heap[bb]? = some (.cells #[v0] 65 (0, 0))) (h0 : w0.heap.size ≤ bb) (hk : DKey w pd q key) :
    Calls Tryz.prog 92 #[.pointer (some ⟨bd, 0, none⟩), .pointer (some ⟨ba, 0, none⟩), .pointer (some ⟨bb, 0, none⟩)] w fun e w' => e = .returned (.int .i64 (rOne g F key a ⟨s, P, L, O⟩).2.er) ∧
      Mid w0 w' B q pw g F.length fc p FA (rOne g F key a ⟨s, P, L, O⟩).1.s (rOne g F key a ⟨s, P, L, O⟩).1.P ∧ (∃ v, w'.heap[bb]? = some (.cells #[v] 65 (0, 0)) ∧ Bys 5 w' v (rOne g F key a ⟨s, P, L, O⟩).2.by_) ∧ KBd bb w w' := by
  have hmd : Mid w0 w.drew B q pw g F.length fc p FA s P := ⟨hm.o, hm.p.below0 ((Below.refl _ _).drew), hm.k.drew, hm.x⟩
  have HCA := Lib.hid (dreadM_any key a (w := w.drew) (Dsk.of hmd.o hmd.x hc hfl hmd.k) hmd.p hf hsb (Nat.le_trans hB hmd.k.size) hn)
  obtain ⟨C, hC⟩ : ∃ C : List Value → World → Prop, C = fun h W => match h with
    | [] => W = w.drew
    | [u] => ∃ v, u = .tuple #[v, .int .i64 (dRdE F s P L (playL g L O) key a)] ∧ Bys 5 W v (dRdB F s P L (playL g L O) key a) ∧ Mid w.drew W B q pw g F.length fc p FA (dRdS F s P L (playL g L O) key a) (begD F s P key).P
    | [_, _] => ∃ v W1, Bys 5 W1 v (dRdB F s P L (playL g L O) key a) ∧ Mid w.drew W1 B q pw g F.length fc p FA (dRdS F s P L (playL g L O) key a) (begD F s P key).P ∧ W = W1.setCell ⟨bb, 0, none⟩ v
    | _ => False := ⟨_, rfl⟩
  have hbd : w.drew.heap[bb]? = some (.cells #[v0] 65 (0, 0)) := hb
  have hK : ∀ W1 s' P', Mid w.drew W1 B q pw g F.length fc p FA s' P' → W1.heap[bb]? = some (.cells #[v0] 65 (0, 0)) := fun W1 s' P' h => Kept.obj h.k hbd (KeptT.no (IsT.of hbd) (by unfold DPT; decide))
  have hall : ∀ t : HeldC C, KBd bb w t.w := fun t => by
    obtain ⟨s, W, h⟩ := t
    simp only
    subst hC
    match s, h with
    | [], h => have h' : W = w.drew := h; rw [h']; exact (KBd.refl bb w).drew
    | [u], h => obtain ⟨v, _, _, hm'⟩ := h; exact KBd.trans (w' := w.drew) ((KBd.refl bb w).drew) (KBd.of hm'.k)
    | [_, _], h => obtain ⟨v, W1, _, hm', rfl⟩ := h; exact KBd.trans (w' := w.drew) ((KBd.refl bb w).drew) ((KBd.of hm'.k).trans (KBd.set v))
  have HC0 : Hid (C [] w.drew) := by subst hC; exact rfl
  have HK1 : Hid (∀ W, C [] W → Calls Tryz.prog 93 #[.pointer (some ⟨q, 0, none⟩), .int .u64 key, .int .i64 a] W fun e w' => ∃ x, e = .returned x ∧ C ([] ++ [x]) w') := by
    subst hC
    intro W hW
    have hW' : W = w.drew := hW
    subst hW'
    exact HCA.out.mono fun e w' ⟨v, h1, h2, h3⟩ => ⟨_, h1, v, rfl, h2, h3⟩
  have HV1 : Hid (∀ u W, C [u] W → ∃ A k c, u = .tuple #[.slice A k c, .int .i64 (dRdE F s P L (playL g L O) key a)] ∧ W.cell? ⟨bb, 0, none⟩ = some v0 ∧ W.frozen? ⟨bb, 0, none⟩ = false) := by
    subst hC
    intro u W h
    obtain ⟨v, rfl, ⟨A, c, rfl, _⟩, hm'⟩ := h
    have hb' := hK _ _ _ hm'
    exact ⟨A, _, c, rfl, dcell_one hb', free_one hb'⟩
  have HV2 : Hid (∀ v e W, C [.tuple #[v, e]] W → C ([.tuple #[v, e]] ++ [undef]) (W.setCell ⟨bb, 0, none⟩ v)) := by
    subst hC
    intro v e W h
    obtain ⟨v', h1, h2, h3⟩ := h
    injection h1 with h1
    have h1' : v = v' := by have := congrArg (fun a => a[0]?) h1; simpa using this
    subst h1'
    exact ⟨v, W, h2, h3, rfl⟩
  have HF : Hid (∀ u x W, C [u, x] W → Mid w0 W B q pw g F.length fc p FA (dRdS F s P L (playL g L O) key a) (begD F s P key).P ∧ (∃ v, W.heap[bb]? = some (.cells #[v] 65 (0, 0)) ∧ Bys 5 W v (dRdB F s P L (playL g L O) key a)) ∧ KBd bb w W) := by
    subst hC
    intro u x W h
    have hkb := hall ⟨[u, x], W, h⟩
    obtain ⟨v, W1, h1, h2, rfl⟩ := h
    have hb' := hK _ _ _ h2
    have hk1 : Kept (fun k => k = bb) W1 (W1.setCell ⟨bb, 0, none⟩ v) := (Kept.refl (fun k => k = bb) W1).setCell (p := ⟨bb, 0, none⟩) (fun _ => rfl) _
    exact ⟨Mid.box20 (⟨h2.o, h2.p, hmd.k.trans h2.k, h2.x⟩ : Mid w0 W1 B q pw g F.length fc p FA _ _) h0 hb', ⟨v, set_one hb', h1.kept hk1 (Free.one hb' (by decide))⟩, hkb⟩
  have hne : Nonempty (HeldC C) := ⟨⟨[], _, HC0.out⟩⟩
  have hrb : ∀ t : HeldC C, KeptT RDT20 (Bd.of 0) w t.w := fun t => (hall t).rbt hb
  have f0 : ∀ t : HeldC C, t.w.cell? ⟨bd, 0, none⟩ = some (.pointer (some ⟨pd, 0, none⟩)) := fun t => Kept.cell (hrb t) (dcell_one hd) (KeptT.no (IsT.of hd) (by unfold RDT20; decide))
  have f1 : ∀ t : HeldC C, t.w.cell? ⟨pd, 0, none⟩ = some (.pointer (some ⟨q, 0, none⟩)) := fun t => (hk.kept (hrb t) (by unfold RDT20; decide)).cells.1
  have f2 : ∀ t : HeldC C, t.w.cell? ⟨pd, 1, none⟩ = some (.int .u64 key) := fun t => (hk.kept (hrb t) (by unfold RDT20; decide)).cells.2
  have f3 : ∀ t : HeldC C, t.w.cell? ⟨ba, 0, none⟩ = some (.int .i64 a) := fun t => Kept.cell (hrb t) (dcell_one ha) (KeptT.no (IsT.of ha) (by unfold RDT20; decide))
  clear hC hall hrb hd hk ha hb hm hmd hc hfl hf hsb hB HCA hbd hK
  have HR : Hid ((rOne g F key a ⟨s, P, L, O⟩).2.er = dRdE F s P L (playL g L O) key a) := rfl
  unfold rOne
  simp only
  generalize dRdE F s P L (playL g L O) key a = E at *
  go_enter Tryz.func92, Tryz.ntmps92
  go_wp2_with fail
  refine wp_region_chain C [9, 13] [13, 11, 10, 9] (by kernel_rfl) (by kernel_rfl) (by kernel_rfl) (by kernel_rfl) HC0.out ?_
  repeat (refine wpCh_n (by rfl) (by rfl) ?_; go_big_quiet_step (fail); refine wpQuiet_nil ?_)
  refine wpCh_l (f := 93) (args := #[.pointer (some ⟨q, 0, none⟩), .int .u64 key, .int .i64 a]) (by rfl) (by rfl) (fun W => by simp [go_sem]) (fun W hW => HK1.out W hW) (fun v W hW => ?_)
  obtain ⟨A, k, c, rfl, _, _⟩ := HV1.out v W hW
  go_big_quiet_step (fail)
  refine wpQuiet_nil ?_
  repeat (refine wpCh_n (by rfl) (by rfl) ?_; go_big_quiet_step (fail); refine wpQuiet_nil ?_)
  refine wpCh_s (by rfl) (by rfl) rfl (fun W hW => ⟨W.setCell ⟨bb, 0, none⟩ (.slice A k c), ?_, HV2.out _ _ W hW⟩) (fun v W hW => ?_)
  · obtain ⟨_, _, _, _, c8, f8⟩ := HV1.out _ W hW
    simp [go_sem, *]
  repeat (refine wpCh_n (by rfl) (by rfl) ?_; go_big_quiet_step (fail); refine wpQuiet_nil ?_)
  refine wpCh_nil ?_
  intro wc hcw
  have HD := Lib.hid (HF.out _ _ wc hcw)
  clear hcw HK1 HV1 HV2 HF HC0
  go_wp2
  go_ret
  exact ⟨rfl, HD.out⟩
/-- Reading one sector, as long as the disk is busy. -/
theorem tryrd20_any {key a : Int} {d : DC} {bd ba bb : Nat} {fd fa : Nat × Nat} {v0 : Value} (hm : Mid w0 w B q pw g F.length fc p FA d.s d.P) (hc : CacheM w0 B p g d.L d.O) (hfl : RdT w0 49 FA (flatF F)) (hf : Fit g d.L) (hsb : ShortB d.L) (hB : B.top ≤ w0.heap.size) (hn : F.length ≤ 9223372036854775807)
    (hd : w.heap[bd]? = some (.cells #[.pointer (some ⟨pd, 0, none⟩)] 22 fd)) (ha : w.heap[ba]? = some (.cells #[.int .i64 a] 3 fa)) (hb : w.heap[bb]? = some (.cells #[v0] 65 (0, 0))) (h0 : w0.heap.size ≤ bb) (hk : DKey w pd q key) :
    Calls Tryz.prog 47 #[.func (.func 92) #[] #[.pointer (some ⟨bd, 0, none⟩), .pointer (some ⟨ba, 0, none⟩), .pointer (some ⟨bb, 0, none⟩)]] w fun e w' => e = .returned (.int .i64 (tryD (rOne g F key a) d).2.er) ∧
      Mid w0 w' B q pw g F.length fc p FA (tryD (rOne g F key a) d).1.s (tryD (rOne g F key a) d).1.P ∧ (∃ v, w'.heap[bb]? = some (.cells #[v] 65 (0, 0)) ∧ Bys 5 w' v (tryD (rOne g F key a) d).2.by_) ∧ KBd bb w w' := by
  refine (rtread_any bd ba bb (fun n W => Mid w0 W B q pw g F.length fc p FA (callN (rOne g F key a) d n).s (callN (rOne g F key a) d n).P ∧ (∃ v, W.heap[bb]? = some (.cells #[v] 65 (0, 0)) ∧ (0 < n → Bys 5 W v (ansN (rOne g F key a) d (n - 1)).by_)) ∧ KBd bb w W)
    (fun n => (ansN (rOne g F key a) d n).er) ⟨hm, ⟨v0, hb, fun h => absurd h (by omega)⟩, KBd.refl _ w⟩ ?_).mono ?_
  · rintro n W hn8 ⟨hW, ⟨v, hv, _⟩, hkB⟩
    have hkW := hkB.rbt hb
    refine (srdcl_any hW hc hfl hf hsb hB hn (Kept.obj hkW hd (KeptT.no (IsT.of hd) (by unfold RDT20; decide)))
      (Kept.obj hkW ha (KeptT.no (IsT.of ha) (by unfold RDT20; decide))) hv h0 (hk.kept hkW (by unfold RDT20; decide))).mono ?_
    rintro e w' ⟨rfl, hm', ⟨u, hu, hby⟩, hk'⟩
    rw [callN_r20] at hm' hby ⊢
    exact ⟨rfl, hm', ⟨u, hu, fun _ => hby⟩, hkB.trans hk'⟩
  · rintro e w' ⟨k, rfl, ⟨hm', ⟨u, hu, hby⟩, hk'⟩, hbz, hlast⟩
    rw [try_stop hbz hlast]
    exact ⟨rfl, hm', ⟨u, hu, hby (by omega)⟩, hk'⟩
end
end Go.Proofs.YtggkengmlkhdiaaGreat

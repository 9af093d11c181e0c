/-
  WHAT IS SHOWN: what only of tegulalaw14 returns: the acts that are operations, with the key 0. Conditions: the acts can be read.
-/
import Derived.Test.YtckdhhadlemakaaDisk16
import Derived.Deep.AppendLies
namespace Go.Proofs.Ytckdhhadlemakaa
set_option linter.unusedVariables false
open Go.RowKit

/-- An act. -/
structure ActV where
  disk : Int
  kind : Int
  key : Int
  at_ : Int
  A : Option Addr
  xs : List Int
  c : Nat
  force : Bool
def ActV.cells (a : ActV) : List Value := [.int .u8 a.disk, .int .u8 a.kind, .int .u64 a.key, .int .i64 a.at_, .slice a.A a.xs.length a.c, .bool a.force]
theorem actcells_len (a : ActV) : a.cells.length = 6 := rfl
def flatA (l : List ActV) : List Value := l.flatMap ActV.cells
def onlyA (l : List ActV) : List ActV := (l.filter fun a => decide (a.kind ≤ 3)).map fun a => { a with key := 0 }
theorem flatA_snoc (l : List ActV) (a : ActV) : flatA (l ++ [a]) = flatA l ++ a.cells := by unfold flatA; rw [List.flatMap_append]; simp
theorem onlyA_take (l : List ActV) (k : Nat) (h : k < l.length) : onlyA (l.take (k + 1)) = if l[k].kind ≤ 3 then onlyA (l.take k) ++ [{ l[k] with key := 0 }] else onlyA (l.take k) := by
  unfold onlyA
  rw [List.take_succ_eq_append_getElem h, List.filter_append, List.map_append]
  by_cases hk : l[k].kind ≤ 3
  · rw [if_pos hk]; simp [hk]
  · rw [if_neg hk]; simp [hk]
theorem onlyA_len (l : List ActV) : (onlyA l).length ≤ l.length := by unfold onlyA; rw [List.length_map]; exact List.length_filter_le _ _
theorem acts_at {w : World} {B : Nat} {A : Option Addr} {l : List ActV} (h : Rd w B A (flatA l)) {k : Nat} (hk : k < l.length) : ∃ g o, A = some ⟨g, o, none⟩ ∧ g < B ∧ ∀ t u, l[k].cells[t]? = some u → w.cell? ⟨g, o + k * 6 + t, none⟩ = some u := by
  have e : ∀ t, t < 6 → (flatA l)[k * 6 + t]? = l[k].cells[t]? := fun t ht => by
    unfold flatA; rw [flat_get _ 6 actcells_len l k t ht, List.getElem?_eq_getElem hk]; rfl
  obtain ⟨g, o, e0, hg, _⟩ := h (k * 6 + 0) _ (e 0 (by omega))
  refine ⟨g, o, e0, hg, fun t u hu => ?_⟩
  have ht : t < 6 := (List.getElem?_eq_some_iff.1 hu).1
  obtain ⟨g1, o1, e1, _, h1⟩ := h (k * 6 + t) u ((e t ht).trans hu)
  rw [e0] at e1
  injection e1 with e1; injection e1 with e1 e1'; subst e1; subst e1'
  rw [Nat.add_assoc]; exact h1
theorem info_act : (Try.prog.info? 78).map (fun i => (i.zero, i.size, i.bytes)) = some (some (.agg #[.int .u8 0, .int .u8 0, .int .u64 0, .int .i64 0, .slice none 0 0, .bool false]), 6, 56) := by kernel_rfl
set_option maxRecDepth 100000 in
set_option maxHeartbeats 2000000 in
theorem only_any (l : List ActV) (A : Option Addr) (c : Nat) (w : World) (hr : Rd w w.heap.size A (flatA l)) (hn : l.length ≤ 1000) :
    Calls Try.prog 42 #[.slice A l.length c] w fun e w' => ∃ A' c', e = .returned (.slice A' (onlyA l).length c') ∧ w'.ownsRow w.heap.size 78 6 (.slice A' (onlyA l).length c') (onlyA l).length (flatA (onlyA l)) ∧ Below w.heap.size w w' := by
  obtain ⟨i0, hi0, hy0, hy1, hy2⟩ := info_parts info_act
  have HR := Lib.hid hr
  clear hr
  go_enter Try.func42, Try.ntmps42
  go_wp2
  go_loopw [3, 4] (fun s3 s4 wr => ∃ (k : Nat) (DA : Option Addr) (dc : Nat), k ≤ l.length ∧ s4 = .int .i64 k ∧ s3 = .slice DA (onlyA (l.take k)).length dc ∧ wr.ownsRow w.heap.size 78 6 (.slice DA (onlyA (l.take k)).length dc) (onlyA (l.take k)).length (flatA (onlyA (l.take k))) ∧ Below w.heap.size w wr) (fun _ v _ => l.length - (intOf v).toNat)
  case atStart => exact ⟨0, none, 0, Nat.zero_le _, rfl, rfl, ⟨rfl, .inl ⟨rfl, rfl⟩⟩, Below.refl _ _⟩
  case round =>
    obtain ⟨k, DA, dc, hk, rfl, rfl, hor, hbr⟩ := hrel
    have HOR := Lib.hid hor
    clear hor
    by_cases hlt : k < l.length
    · obtain ⟨go, oo, rfl, hgo, hc⟩ := acts_at (HR.out.below hbr (Nat.le_refl _)) hlt
      have c0 := hc 0 _ rfl
      have c1 := hc 1 _ rfl
      have c2 := hc 2 _ rfl
      have c3 := hc 3 _ rfl
      have c4 := hc 4 _ rfl
      have c5 := hc 5 _ rfl
      simp only [Nat.add_zero] at c0
      have HT := Lib.hid (onlyA_take l k hlt)
      have hol := Nat.le_trans (onlyA_len (l.take k)) (by rw [List.length_take]; omega : (l.take k).length ≤ k)
      have k0 : (0 : Int) ≤ k := by omega
      have k1 : (k : Int) < l.length := by omega
      clear hc
      generalize onlyA (l.take k) = dl at *
      generalize l[k] = a at *
      by_cases hkd : a.kind ≤ 3
      · have HT1 : Hid (onlyA (l.take (k + 1)) = dl ++ [{ a with key := 0 }]) := by unfold Hid; rw [HT.out, if_pos hkd]
        clear HT
        have hb1 : Below w.heap.size w ((wr.alloc (.cells #[.int .u8 a.disk, .int .u8 a.kind, .int .u64 0, .int .i64 a.at_, .slice a.A a.xs.length a.c, .bool a.force] 78)).alloc (.cells #[.int .u8 a.disk, .int .u8 a.kind, .int .u64 0, .int .i64 a.at_, .slice a.A a.xs.length a.c, .bool a.force] 78)) := (hbr.alloc hbr.size _).alloc (Nat.le_trans hbr.size (by simp)) _
        have HO2 := Lib.hid ((HOR.out.alloc (.cells #[.int .u8 a.disk, .int .u8 a.kind, .int .u64 0, .int .i64 a.at_, .slice a.A a.xs.length a.c, .bool a.force] 78)).alloc (.cells #[.int .u8 a.disk, .int .u8 a.kind, .int .u64 0, .int .i64 a.at_, .slice a.A a.xs.length a.c, .bool a.force] 78))
        have HB2 : Hid (((wr.alloc (.cells #[.int .u8 a.disk, .int .u8 a.kind, .int .u64 0, .int .i64 a.at_, .slice a.A a.xs.length a.c, .bool a.force] 78)).alloc (.cells #[.int .u8 a.disk, .int .u8 a.kind, .int .u64 0, .int .i64 a.at_, .slice a.A a.xs.length a.c, .bool a.force] 78)).heap[wr.heap.size + 1]? = some (.cells #[.int .u8 a.disk, .int .u8 a.kind, .int .u64 0, .int .i64 a.at_, .slice a.A a.xs.length a.c, .bool a.force] 78 (0, 0))) := by
          unfold Hid; have := heap_alloc_new (wr.alloc (.cells #[.int .u8 a.disk, .int .u8 a.kind, .int .u64 0, .int .i64 a.at_, .slice a.A a.xs.length a.c, .bool a.force] 78)) (.cells #[.int .u8 a.disk, .int .u8 a.kind, .int .u64 0, .int .i64 a.at_, .slice a.A a.xs.length a.c, .bool a.force] 78); rw [World.size_alloc] at this; exact this
        have hbz := hbr.size
        go_wp2_with (at_builtin; refine wpList_append_lies _ rfl _ _ 62 rfl w.heap.size 78 i0 _ 6 56 Try.underlying62 hi0 hy0 hy1 hy2 rfl (by decide) _ dl.length (flatA dl) rfl HO2.out ⟨wr.heap.size + 1, 0, none⟩ 1 1 [.int .u8 a.disk, .int .u8 a.kind, .int .u64 0, .int .i64 a.at_, .slice a.A a.xs.length a.c, .bool a.force] rfl rfl (World.news_of_block HB2.out) (by intro u hu; simp at hu; rcases hu with rfl | rfl | rfl | rfl | rfl | rfl <;> rfl) (by decide) (by unfold maxLen; omega) (by omega) (by simp; omega) _ rfl ?_)
        intro q cap w3 hown hgrow hloc hlt3
        have hb3 : Below w.heap.size w w3 := hb1.grown hgrow (by simp; omega) (fun k' hk' => by
          rcases HOR.out.2 with ⟨h2, _⟩ | ⟨g', cap', cur', h2, h3, _⟩
          · rw [h2] at hk'; cases hk'
          · rw [h2] at hk'; injection hk' with hk'; subst hk'; exact h3)
        have HO3 : Hid (w3.ownsRow w.heap.size 78 6 (.slice (some ⟨q, 0, none⟩) (dl ++ [({ a with key := 0 } : ActV)]).length cap) (dl ++ [({ a with key := 0 } : ActV)]).length (flatA (dl ++ [({ a with key := 0 } : ActV)]))) := by
          unfold Hid; rw [List.length_append, flatA_snoc]; exact hown
        have hll : (dl ++ [({ a with key := 0 } : ActV)]).length = dl.length + 1 := by simp
        clear hown hgrow hloc HO2 HB2 hb1
        go_wp2
        go_roundw
        case rel => exact ⟨k + 1, some ⟨q, 0, none⟩, cap, by omega, by go_num, by rw [HT1.out, hll], by rw [HT1.out]; exact HO3.out, hb3⟩
        case measure => simp [intOf]; omega
      · have HT1 : Hid (onlyA (l.take (k + 1)) = dl) := by unfold Hid; rw [HT.out, if_neg hkd]
        clear HT
        go_wp2
        go_roundw
        case rel => exact ⟨k + 1, DA, dc, by omega, by go_num, by rw [HT1.out], by rw [HT1.out]; exact HOR.out, hbr⟩
        case measure => simp [intOf]; omega
    · obtain rfl : k = l.length := by omega
      rw [List.take_of_length_le (Nat.le_refl _)] at *
      go_wp2
      go_ret
      exact ⟨DA, dc, rfl, HOR.out, hbr⟩
end Go.Proofs.Ytckdhhadlemakaa
